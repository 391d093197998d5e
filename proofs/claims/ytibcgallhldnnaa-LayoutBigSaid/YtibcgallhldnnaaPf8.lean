/- Written by a program of this seat (wip/tools/stage.py) out of the translation: what each function of this text returns, where its plain form returns. Lean checks it. -/
import Derived.Test.YtibcgallhldnnaaP0
import Derived.Test.YtibcgallhldnnaaPf10
import Derived.Test.YtibcgallhldnnaaPf20
import Derived.Test.YtibcgallhldnnaaH4
import Derived.Test.YtibcgallhldnnaaM2
namespace Go.Proofs.Ytibcgallhldnnaa.P
open Go.RowKit Go.Proofs.YtibcgallhldnnaaW.PrintWords Go.Proofs.YtibcgallhldnnaaW.PrintLast Go.Proofs.YtibcgallhldnnaaW.PrintMore
attribute [local go_sem] max2_int min2_int max_two min_two max_three min_three max_four min_four   -- for this text's walks alone
set_option linter.unusedVariables false
set_option linter.unusedSimpArgs false

/-! ### gambrellaw10_LayoutBig: function 8 -/
def gambrellaw10_LayoutBig.f (k : Nat) (a0_0 : Int) (a0_1 : Int) (a0_2 : Int) (a1 : Int) (a2_0 : Int) (a2_1 : Int) (a2_2 : Int) : Option (Bool) := (gambrellaw10_awake.f).bind fun t303 => ((gambrelref09_Some.f a0_0 a0_1 a0_2).bind fun bt304 => ((layout_Size.f k bt304.1 bt304.2.1 bt304.2.2 (wrap64 (4097 + (wrap64 (a1))))).bind fun bt308 => ((layout_Size.f k bt304.1 bt304.2.1 bt304.2.2 (wrap64 ((-1) - (wrap64 (a1))))).bind fun bt310 => (if 4097 ≤ 281474976710656 then ((layout_Split.f bt304.1 bt304.2.1 bt304.2.2 (List.replicate 4097 0)).bind fun bt315 => (if 4096 ≤ 281474976710656 then ((layout_Split.f bt304.1 bt304.2.1 bt304.2.2 (List.replicate 4096 0)).bind fun bt322 => ((layout_Size.f k a2_0 a2_1 a2_2 5).bind fun bt326 => ((layout_Join.f bt304.1 bt304.2.1 bt304.2.2 ([] : List (List Int)) 0).bind fun bt328 => (if t303 = true then (if bt308.2 = 11 then (if bt310.2 = 1 then (if bt315.2 = 11 then (if bt322.2 = 0 then (if (bt322.1.length : Int) = bt304.2.1 then ((gambrelref09_May.f a2_0 a2_1 a2_2).bind fun t332 => (if ((bt326.2 == 1) == (!t332)) = true then (some (bt328.2 == 1)) else (none))) else (none)) else (none)) else (none)) else (none)) else (none)) else (none))))) else (none))) else (none)))))
theorem gambrellaw10_LayoutBig.mono : ∀ a0 a1 a2 a3 a4 a5 a6 k, LeO (gambrellaw10_LayoutBig.f k a0 a1 a2 a3 a4 a5 a6) (gambrellaw10_LayoutBig.f (k + 1) a0 a1 a2 a3 a4 a5 a6) := by
  intro a0 a1 a2 a3 a4 a5 a6 k
  unfold gambrellaw10_LayoutBig.f
  repeat' first
      | (with_reducible exact layout_Size.mono _ _ _ _ _)
      | (with_reducible exact LeO.refl _)
      | (with_reducible exact LeO.none _)
      | (with_reducible refine LeO.ite ?_ ?_)
      | (with_reducible refine LeO.bind ?_ (fun _ => ?_))
      | exact layout_Size.mono _ _ _ _ _
      | exact LeO.none _
      | refine LeO.ite ?_ ?_
      | refine LeO.bind ?_ (fun _ => ?_)
def gambrellaw10_LayoutBig.T5 : Bool × List (List Nat × List Nat) := (true, [([], []), ([], []), ([0, 1], [0, 1]), ([2], [2]), ([3], [3]), ([3], [3]), ([4, 2, 0, 1, 2, 3, 4], [4]), ([5, 6, 0, 1, 2, 3, 4, 5, 6], [5])])
def gambrellaw10_LayoutBig.B5 : List Nat := [0, 0, 3, 7, 15, 15, 31, 127]
theorem gambrellaw10_LayoutBig.tab5 : rtab .any (opsOf Try.f8 5) = gambrellaw10_LayoutBig.T5 := by kernel_rfl
theorem gambrellaw10_LayoutBig.bits5 : waitsOk gambrellaw10_LayoutBig.T5.2 gambrellaw10_LayoutBig.B5 = true := by kernel_rfl
def gambrellaw10_LayoutBig.T6 : Bool × List (List Nat × List Nat) := (true, [([], []), ([], []), ([0, 1], [0, 1]), ([2], [2]), ([3], [3]), ([3], [3]), ([4, 2, 0, 1, 2, 3, 4], [4]), ([5, 6, 0, 1, 2, 3, 4, 5, 6], [5])])
def gambrellaw10_LayoutBig.B6 : List Nat := [0, 0, 3, 7, 15, 15, 31, 127]
theorem gambrellaw10_LayoutBig.tab6 : rtab .any (opsOf Try.f8 6) = gambrellaw10_LayoutBig.T6 := by kernel_rfl
theorem gambrellaw10_LayoutBig.bits6 : waitsOk gambrellaw10_LayoutBig.T6.2 gambrellaw10_LayoutBig.B6 = true := by kernel_rfl
set_option maxHeartbeats 8000000 in
set_option maxRecDepth 100000 in
theorem gambrellaw10_LayoutBig.calls (k : Nat) (a0_0 : Int) (a0_1 : Int) (a0_2 : Int) (a1 : Int) (a2_0 : Int) (a2_1 : Int) (a2_2 : Int) (r : Bool) (w : World) (h : gambrellaw10_LayoutBig.f k a0_0 a0_1 a0_2 a1 a2_0 a2_1 a2_2 = some r) :
    Calls Try.prog 8 #[.agg #[.int .u8 a0_0, .int .u8 a0_1, .int .u8 a0_2], .int .u16 a1, .agg #[.int .i64 a2_0, .int .i64 a2_1, .int .i64 a2_2]] w fun e w' => e = .returned (.bool r) ∧ Below w.heap.size w w' := by
  have hu44 := Try.underlying44
  have hu23 := Try.underlying23
  have HB := Aside0.mk (Below.refl w.heap.size w)
  have H : ((gambrellaw10_awake.f).bind fun t303 => ((gambrelref09_Some.f a0_0 a0_1 a0_2).bind fun bt304 => ((layout_Size.f k bt304.1 bt304.2.1 bt304.2.2 (wrap64 (4097 + (wrap64 (a1))))).bind fun bt308 => ((layout_Size.f k bt304.1 bt304.2.1 bt304.2.2 (wrap64 ((-1) - (wrap64 (a1))))).bind fun bt310 => (if 4097 ≤ 281474976710656 then ((layout_Split.f bt304.1 bt304.2.1 bt304.2.2 (List.replicate 4097 0)).bind fun bt315 => (if 4096 ≤ 281474976710656 then ((layout_Split.f bt304.1 bt304.2.1 bt304.2.2 (List.replicate 4096 0)).bind fun bt322 => ((layout_Size.f k a2_0 a2_1 a2_2 5).bind fun bt326 => ((layout_Join.f bt304.1 bt304.2.1 bt304.2.2 ([] : List (List Int)) 0).bind fun bt328 => (if t303 = true then (if bt308.2 = 11 then (if bt310.2 = 1 then (if bt315.2 = 11 then (if bt322.2 = 0 then (if (bt322.1.length : Int) = bt304.2.1 then ((gambrelref09_May.f a2_0 a2_1 a2_2).bind fun t332 => (if ((bt326.2 == 1) == (!t332)) = true then (some (bt328.2 == 1)) else (none))) else (none)) else (none)) else (none)) else (none)) else (none)) else (none))))) else (none))) else (none)))))) = some r := h
  clear h
  replace H := Option.bind_eq_some_iff.mp H
  obtain ⟨t303, A40, H⟩ := H
  replace H : ((gambrelref09_Some.f a0_0 a0_1 a0_2).bind fun bt304 => ((layout_Size.f k bt304.1 bt304.2.1 bt304.2.2 (wrap64 (4097 + (wrap64 (a1))))).bind fun bt308 => ((layout_Size.f k bt304.1 bt304.2.1 bt304.2.2 (wrap64 ((-1) - (wrap64 (a1))))).bind fun bt310 => (if 4097 ≤ 281474976710656 then ((layout_Split.f bt304.1 bt304.2.1 bt304.2.2 (List.replicate 4097 0)).bind fun bt315 => (if 4096 ≤ 281474976710656 then ((layout_Split.f bt304.1 bt304.2.1 bt304.2.2 (List.replicate 4096 0)).bind fun bt322 => ((layout_Size.f k a2_0 a2_1 a2_2 5).bind fun bt326 => ((layout_Join.f bt304.1 bt304.2.1 bt304.2.2 ([] : List (List Int)) 0).bind fun bt328 => (if t303 = true then (if bt308.2 = 11 then (if bt310.2 = 1 then (if bt315.2 = 11 then (if bt322.2 = 0 then (if (bt322.1.length : Int) = bt304.2.1 then ((gambrelref09_May.f a2_0 a2_1 a2_2).bind fun t332 => (if ((bt326.2 == 1) == (!t332)) = true then (some (bt328.2 == 1)) else (none))) else (none)) else (none)) else (none)) else (none)) else (none)) else (none))))) else (none))) else (none))))) = some r := H
  have A4 := Aside0.mk A40
  clear A40
  replace H := Option.bind_eq_some_iff.mp H
  obtain ⟨⟨t304, t305, t306⟩, A50, H⟩ := H
  replace H : ((layout_Size.f k t304 t305 t306 (wrap64 (4097 + (wrap64 (a1))))).bind fun bt308 => ((layout_Size.f k t304 t305 t306 (wrap64 ((-1) - (wrap64 (a1))))).bind fun bt310 => (if 4097 ≤ 281474976710656 then ((layout_Split.f t304 t305 t306 (List.replicate 4097 0)).bind fun bt315 => (if 4096 ≤ 281474976710656 then ((layout_Split.f t304 t305 t306 (List.replicate 4096 0)).bind fun bt322 => ((layout_Size.f k a2_0 a2_1 a2_2 5).bind fun bt326 => ((layout_Join.f t304 t305 t306 ([] : List (List Int)) 0).bind fun bt328 => (if t303 = true then (if bt308.2 = 11 then (if bt310.2 = 1 then (if bt315.2 = 11 then (if bt322.2 = 0 then (if (bt322.1.length : Int) = t305 then ((gambrelref09_May.f a2_0 a2_1 a2_2).bind fun t332 => (if ((bt326.2 == 1) == (!t332)) = true then (some (bt328.2 == 1)) else (none))) else (none)) else (none)) else (none)) else (none)) else (none)) else (none))))) else (none))) else (none)))) = some r := H
  have A5 := Aside0.mk A50
  clear A50
  replace H := Option.bind_eq_some_iff.mp H
  obtain ⟨⟨t308, t309⟩, A60, H⟩ := H
  replace H : ((layout_Size.f k t304 t305 t306 (wrap64 ((-1) - (wrap64 (a1))))).bind fun bt310 => (if 4097 ≤ 281474976710656 then ((layout_Split.f t304 t305 t306 (List.replicate 4097 0)).bind fun bt315 => (if 4096 ≤ 281474976710656 then ((layout_Split.f t304 t305 t306 (List.replicate 4096 0)).bind fun bt322 => ((layout_Size.f k a2_0 a2_1 a2_2 5).bind fun bt326 => ((layout_Join.f t304 t305 t306 ([] : List (List Int)) 0).bind fun bt328 => (if t303 = true then (if t309 = 11 then (if bt310.2 = 1 then (if bt315.2 = 11 then (if bt322.2 = 0 then (if (bt322.1.length : Int) = t305 then ((gambrelref09_May.f a2_0 a2_1 a2_2).bind fun t332 => (if ((bt326.2 == 1) == (!t332)) = true then (some (bt328.2 == 1)) else (none))) else (none)) else (none)) else (none)) else (none)) else (none)) else (none))))) else (none))) else (none))) = some r := H
  have A6 := Aside0.mk A60
  clear A60
  replace H := Option.bind_eq_some_iff.mp H
  obtain ⟨⟨t310, t311⟩, A70, H⟩ := H
  replace H : (if 4097 ≤ 281474976710656 then ((layout_Split.f t304 t305 t306 (List.replicate 4097 0)).bind fun bt315 => (if 4096 ≤ 281474976710656 then ((layout_Split.f t304 t305 t306 (List.replicate 4096 0)).bind fun bt322 => ((layout_Size.f k a2_0 a2_1 a2_2 5).bind fun bt326 => ((layout_Join.f t304 t305 t306 ([] : List (List Int)) 0).bind fun bt328 => (if t303 = true then (if t309 = 11 then (if t311 = 1 then (if bt315.2 = 11 then (if bt322.2 = 0 then (if (bt322.1.length : Int) = t305 then ((gambrelref09_May.f a2_0 a2_1 a2_2).bind fun t332 => (if ((bt326.2 == 1) == (!t332)) = true then (some (bt328.2 == 1)) else (none))) else (none)) else (none)) else (none)) else (none)) else (none)) else (none))))) else (none))) else (none)) = some r := H
  have A7 := Aside0.mk A70
  clear A70
  by_cases c8 : 4097 ≤ 281474976710656
  · rw [if_pos c8] at H
    have c8b0 := eq_true c8
    have c8b1 : decide (4097 ≤ 281474976710656) = true := decide_eq_true c8
    clear c8
    obtain ⟨y312, hy312⟩ : ∃ y_ : List Int, y_ = (List.replicate 4097 0) := ⟨_, rfl⟩
    replace H : ((layout_Split.f t304 t305 t306 y312).bind fun bt315 => (if 4096 ≤ 281474976710656 then ((layout_Split.f t304 t305 t306 (List.replicate 4096 0)).bind fun bt322 => ((layout_Size.f k a2_0 a2_1 a2_2 5).bind fun bt326 => ((layout_Join.f t304 t305 t306 ([] : List (List Int)) 0).bind fun bt328 => (if t303 = true then (if t309 = 11 then (if t311 = 1 then (if bt315.2 = 11 then (if bt322.2 = 0 then (if (bt322.1.length : Int) = t305 then ((gambrelref09_May.f a2_0 a2_1 a2_2).bind fun t332 => (if ((bt326.2 == 1) == (!t332)) = true then (some (bt328.2 == 1)) else (none))) else (none)) else (none)) else (none)) else (none)) else (none)) else (none))))) else (none))) = some r := by first | (rw [hy312]; with_reducible exact H) | (have H2_ := (Option.bind_some _ _).symm.trans H; rw [hy312]; with_reducible exact H2_) | (have H2_ := (Option.bind_some _ _).symm.trans H; with_reducible exact H2_) | with_reducible exact H | (rw [hy312]; exact H) | exact H
    have Ny312 := Aside0.mk hy312
    clear hy312
    replace H := Option.bind_eq_some_iff.mp H
    obtain ⟨⟨t315, t318⟩, A90, H⟩ := H
    replace H : (if 4096 ≤ 281474976710656 then ((layout_Split.f t304 t305 t306 (List.replicate 4096 0)).bind fun bt322 => ((layout_Size.f k a2_0 a2_1 a2_2 5).bind fun bt326 => ((layout_Join.f t304 t305 t306 ([] : List (List Int)) 0).bind fun bt328 => (if t303 = true then (if t309 = 11 then (if t311 = 1 then (if t318 = 11 then (if bt322.2 = 0 then (if (bt322.1.length : Int) = t305 then ((gambrelref09_May.f a2_0 a2_1 a2_2).bind fun t332 => (if ((bt326.2 == 1) == (!t332)) = true then (some (bt328.2 == 1)) else (none))) else (none)) else (none)) else (none)) else (none)) else (none)) else (none))))) else (none)) = some r := H
    have A9 := Aside0.mk A90
    clear A90
    by_cases c10 : 4096 ≤ 281474976710656
    · rw [if_pos c10] at H
      have c10b0 := eq_true c10
      have c10b1 : decide (4096 ≤ 281474976710656) = true := decide_eq_true c10
      clear c10
      obtain ⟨y319, hy319⟩ : ∃ y_ : List Int, y_ = (List.replicate 4096 0) := ⟨_, rfl⟩
      replace H : ((layout_Split.f t304 t305 t306 y319).bind fun bt322 => ((layout_Size.f k a2_0 a2_1 a2_2 5).bind fun bt326 => ((layout_Join.f t304 t305 t306 ([] : List (List Int)) 0).bind fun bt328 => (if t303 = true then (if t309 = 11 then (if t311 = 1 then (if t318 = 11 then (if bt322.2 = 0 then (if (bt322.1.length : Int) = t305 then ((gambrelref09_May.f a2_0 a2_1 a2_2).bind fun t332 => (if ((bt326.2 == 1) == (!t332)) = true then (some (bt328.2 == 1)) else (none))) else (none)) else (none)) else (none)) else (none)) else (none)) else (none))))) = some r := by first | (rw [hy319]; with_reducible exact H) | (have H2_ := (Option.bind_some _ _).symm.trans H; rw [hy319]; with_reducible exact H2_) | (have H2_ := (Option.bind_some _ _).symm.trans H; with_reducible exact H2_) | with_reducible exact H | (rw [hy319]; exact H) | exact H
      have Ny319 := Aside0.mk hy319
      clear hy319
      replace H := Option.bind_eq_some_iff.mp H
      obtain ⟨⟨t322, t325⟩, A110, H⟩ := H
      replace H : ((layout_Size.f k a2_0 a2_1 a2_2 5).bind fun bt326 => ((layout_Join.f t304 t305 t306 ([] : List (List Int)) 0).bind fun bt328 => (if t303 = true then (if t309 = 11 then (if t311 = 1 then (if t318 = 11 then (if t325 = 0 then (if (t322.length : Int) = t305 then ((gambrelref09_May.f a2_0 a2_1 a2_2).bind fun t332 => (if ((bt326.2 == 1) == (!t332)) = true then (some (bt328.2 == 1)) else (none))) else (none)) else (none)) else (none)) else (none)) else (none)) else (none)))) = some r := H
      have A11 := Aside0.mk A110
      clear A110
      replace H := Option.bind_eq_some_iff.mp H
      obtain ⟨⟨t326, t327⟩, A120, H⟩ := H
      replace H : ((layout_Join.f t304 t305 t306 ([] : List (List Int)) 0).bind fun bt328 => (if t303 = true then (if t309 = 11 then (if t311 = 1 then (if t318 = 11 then (if t325 = 0 then (if (t322.length : Int) = t305 then ((gambrelref09_May.f a2_0 a2_1 a2_2).bind fun t332 => (if ((t327 == 1) == (!t332)) = true then (some (bt328.2 == 1)) else (none))) else (none)) else (none)) else (none)) else (none)) else (none)) else (none))) = some r := H
      have A12 := Aside0.mk A120
      clear A120
      replace H := Option.bind_eq_some_iff.mp H
      obtain ⟨⟨t328, t331⟩, A130, H⟩ := H
      replace H : (if t303 = true then (if t309 = 11 then (if t311 = 1 then (if t318 = 11 then (if t325 = 0 then (if (t322.length : Int) = t305 then ((gambrelref09_May.f a2_0 a2_1 a2_2).bind fun t332 => (if ((t327 == 1) == (!t332)) = true then (some (t331 == 1)) else (none))) else (none)) else (none)) else (none)) else (none)) else (none)) else (none)) = some r := H
      have A13 := Aside0.mk A130
      clear A130
      by_cases c14 : t303 = true
      · subst c14
        have H1 : (if t309 = 11 then (if t311 = 1 then (if t318 = 11 then (if t325 = 0 then (if (t322.length : Int) = t305 then ((gambrelref09_May.f a2_0 a2_1 a2_2).bind fun t332 => (if ((t327 == 1) == (!t332)) = true then (some (t331 == 1)) else (none))) else (none)) else (none)) else (none)) else (none)) else (none)) = some r := by rw [if_pos rfl] at H; exact H
        clear H
        have H := H1
        clear H1
        by_cases c15 : t309 = 11
        · rw [if_pos c15] at H
          have c15b0 : (t309 == 11) = true := beq_iff_eq.mpr c15
          have c15b1 : (t309 != 11) = false := bne_eq_false_iff_eq.mpr c15
          clear c15
          by_cases c16 : t311 = 1
          · rw [if_pos c16] at H
            have c16b0 : (t311 == 1) = true := beq_iff_eq.mpr c16
            have c16b1 : (t311 != 1) = false := bne_eq_false_iff_eq.mpr c16
            clear c16
            by_cases c17 : t318 = 11
            · rw [if_pos c17] at H
              have c17b0 : (t318 == 11) = true := beq_iff_eq.mpr c17
              have c17b1 : (t318 != 11) = false := bne_eq_false_iff_eq.mpr c17
              clear c17
              by_cases c18 : t325 = 0
              · rw [if_pos c18] at H
                have c18b0 : (t325 == 0) = true := beq_iff_eq.mpr c18
                have c18b1 : (t325 != 0) = false := bne_eq_false_iff_eq.mpr c18
                clear c18
                by_cases c19 : (t322.length : Int) = t305
                · rw [if_pos c19] at H
                  have c19b0 : ((t322.length : Int) == t305) = true := beq_iff_eq.mpr c19
                  have c19b1 : ((t322.length : Int) != t305) = false := bne_eq_false_iff_eq.mpr c19
                  clear c19
                  replace H := Option.bind_eq_some_iff.mp H
                  obtain ⟨t332, A200, H⟩ := H
                  replace H : (if ((t327 == 1) == (!t332)) = true then (some (t331 == 1)) else (none)) = some r := H
                  have A20 := Aside0.mk A200
                  clear A200
                  by_cases c21 : ((t327 == 1) == (!t332)) = true
                  · rw [if_pos c21] at H
                    have c21b0 : ((t327 == 1) == (!t332)) = true := c21
                    (try (have c21b1 : decide ((t327 == 1) = (!t332)) = true := by simpa using c21))
                    (try (have c21b2 : ((t327 == 1) == (!t332)) = true := by simpa using c21))
                    clear c21
                    obtain rfl := Option.some.inj H
                    go_enter Try.func8, Try.ntmps8
                    try go_wp2_with (first | ((with_reducible refine gate_dst (N := 3) rfl ?_); (try (refine gate_guard (by rfl) ?_; dsimp only)); refine box_event ?hg (N := 3) ?hd (cs := #[.int .u8 a0_0, .int .u8 a0_1, .int .u8 a0_2]) (t := 44) ?hr ?_; (case hd => rfl); (case hg => rfl); (case hr => first | (go_simp; done) | (go_simp; rfl)); intro gb301 hg w22 hbox hb; have n0_ := Aside0.mk (below_step (by repeat (first | (with_reducible first | exact HB.out | apply below_alloc | apply pw_below_drewN | apply below_drew1) | exact HB.out)) hb); have n1_ := Aside0.mk (hbox); have n2_ := Aside0.mk ((by rw [hg]; exact (below_size (by repeat (first | (with_reducible first | exact HB.out | apply below_alloc | apply pw_below_drewN | apply below_drew1) | exact HB.out))) : w.heap.size ≤ gb301)); have n3_ := Aside0.mk ((by rw [hg]; exact (below_size (by repeat (first | (with_reducible first | exact HB.out | apply below_alloc | apply pw_below_drewN | apply below_drew1) | exact HB.out))) : w.heap.size ≤ gb301)); clear HB; have HB := n0_; have BK301 := n1_; have GW301 := n2_; have GE301 := n3_; clear n0_ n1_ n2_ n3_; clear hb hbox hg) | ((with_reducible refine gate_dst (N := 5) rfl ?_); (try (refine gate_guard (by rfl) ?_; dsimp only)); refine box_event ?hg (N := 5) ?hd (cs := #[.int .i64 a2_0, .int .i64 a2_1, .int .i64 a2_2]) (t := 23) ?hr ?_; (case hd => rfl); (case hg => rfl); (case hr => first | (go_simp; done) | (go_simp; rfl)); intro gb302 hg w23 hbox hb; have n0_ := Aside0.mk (blk_below (g := gb301) (o := .cells #[.int .u8 a0_0, .int .u8 a0_1, .int .u8 a0_2] 44 (0, 0)) (by (with_reducible repeat (first | refine blk_drewN ?_ _ | refine blk_drew ?_ | refine blk_alloc ?_ _)); exact BK301.out) hb); have n1_ := Aside0.mk (below_step (by repeat (first | (with_reducible first | exact HB.out | apply below_alloc | apply pw_below_drewN | apply below_drew1 | refine below_set ?_ GE301.out) | exact HB.out)) hb); have n2_ := Aside0.mk (hbox); have n3_ := Aside0.mk ((by rw [hg]; exact (below_size (by repeat (first | (with_reducible first | exact HB.out | apply below_alloc | apply pw_below_drewN | apply below_drew1 | refine below_set ?_ GE301.out) | exact HB.out))) : w.heap.size ≤ gb302)); have n4_ := Aside0.mk ((by rw [hg]; exact (below_size (by repeat (first | (with_reducible first | exact HB.out | apply below_alloc | apply pw_below_drewN | apply below_drew1 | refine below_set ?_ GE301.out) | exact HB.out))) : w.heap.size ≤ gb302)); have n5_ := Aside0.mk ((by rw [hg]; exact Nat.ne_of_lt (blk_lt (g := gb301) (o := .cells #[.int .u8 a0_0, .int .u8 a0_1, .int .u8 a0_2] 44 (0, 0)) (by (with_reducible repeat (first | refine blk_drewN ?_ _ | refine blk_drew ?_ | refine blk_alloc ?_ _)); exact BK301.out)) : gb301 ≠ gb302)); have n6_ := Aside0.mk ((by rw [hg]; exact Nat.ne_of_gt (blk_lt (g := gb301) (o := .cells #[.int .u8 a0_0, .int .u8 a0_1, .int .u8 a0_2] 44 (0, 0)) (by (with_reducible repeat (first | refine blk_drewN ?_ _ | refine blk_drew ?_ | refine blk_alloc ?_ _)); exact BK301.out)) : gb302 ≠ gb301)); clear BK301; clear HB; have BK301 := n0_; have HB := n1_; have BK302 := n2_; have GW302 := n3_; have GE302 := n4_; have NB301_302 := n5_; have NB302_301 := n6_; clear n0_ n1_ n2_ n3_ n4_ n5_ n6_; clear hb hbox hg) | ((with_reducible refine gate_callee (f := 9) rfl ?_); refine goesL_ (some 21) rfl rfl Try.func9 (by kernel_rfl) rfl #[] rfl (by (try simp only [List.map_toArray, List.map_cons, List.map_nil]); first | done | rfl | (simp only [List.length_drop, List.length_take]; rfl)) ?_; (with_reducible refine (gambrellaw10_awake.calls  true _ A4.out).mono ?_); rintro e w24 ⟨rfl, hb⟩; refine ⟨_, rfl, ?_⟩; have n0_ := Aside0.mk (blk_below (g := gb301) (o := .cells #[.int .u8 a0_0, .int .u8 a0_1, .int .u8 a0_2] 44 (0, 0)) (by (with_reducible repeat (first | refine blk_drewN ?_ _ | refine blk_drew ?_ | refine blk_alloc ?_ _)); exact BK301.out) hb); have n1_ := Aside0.mk (blk_below (g := gb302) (o := .cells #[.int .i64 a2_0, .int .i64 a2_1, .int .i64 a2_2] 23 (0, 0)) (by (with_reducible repeat (first | refine blk_drewN ?_ _ | refine blk_drew ?_ | refine blk_alloc ?_ _)); exact BK302.out) hb); have n2_ := Aside0.mk (below_step (by repeat (first | (with_reducible first | exact HB.out | apply below_alloc | apply pw_below_drewN | apply below_drew1 | refine below_set ?_ GE301.out | refine below_set ?_ GE302.out) | exact HB.out)) hb); clear BK301; clear BK302; clear HB; have BK301 := n0_; have BK302 := n1_; have HB := n2_; clear n0_ n1_ n2_; (try clear hb); (try clear hb2); (try clear hk); (try clear hi); have hnb25 := NB301_302.out; have hnc25 := NB302_301.out; have hcz26_0 : w24.cell? ⟨gb301, 0, none⟩ = some (.int .u8 a0_0) := (blk_cell BK301.out 0).trans rfl; have hcz26_1 : w24.cell? ⟨gb301, 1, none⟩ = some (.int .u8 a0_1) := (blk_cell BK301.out 1).trans rfl; have hcz26_2 : w24.cell? ⟨gb301, 2, none⟩ = some (.int .u8 a0_2) := (blk_cell BK301.out 2).trans rfl; have hfz26_0 := blk_frozen BK301.out 0; have hfz26_1 := blk_frozen BK301.out 1; have hfz26_2 := blk_frozen BK301.out 2) | ((with_reducible refine gate_callee (f := 18) rfl ?_); refine goesL_ (some 23) rfl rfl Try.func18 (by kernel_rfl) rfl #[.agg #[.int .u8 a0_0, .int .u8 a0_1, .int .u8 a0_2]] rfl (by (try simp only [List.map_toArray, List.map_cons, List.map_nil]); first | done | rfl | (simp only [List.length_drop, List.length_take]; rfl)) ?_; (with_reducible refine (gambrelref09_Some.calls a0_0 a0_1 a0_2 t304 t305 t306 _ A5.out).mono ?_); rintro e w27 ⟨rfl, hb⟩; refine ⟨_, rfl, ?_⟩; have n0_ := Aside0.mk (blk_below (g := gb301) (o := .cells #[.int .u8 a0_0, .int .u8 a0_1, .int .u8 a0_2] 44 (0, 0)) (by (with_reducible repeat (first | refine blk_drewN ?_ _ | refine blk_drew ?_ | refine blk_alloc ?_ _)); exact BK301.out) hb); have n1_ := Aside0.mk (blk_below (g := gb302) (o := .cells #[.int .i64 a2_0, .int .i64 a2_1, .int .i64 a2_2] 23 (0, 0)) (by (with_reducible repeat (first | refine blk_drewN ?_ _ | refine blk_drew ?_ | refine blk_alloc ?_ _)); exact BK302.out) hb); have n2_ := Aside0.mk (below_step (by repeat (first | (with_reducible first | exact HB.out | apply below_alloc | apply pw_below_drewN | apply below_drew1 | refine below_set ?_ GE301.out | refine below_set ?_ GE302.out) | exact HB.out)) hb); clear BK301; clear BK302; clear HB; have BK301 := n0_; have BK302 := n1_; have HB := n2_; clear n0_ n1_ n2_; (try clear hb); (try clear hb2); (try clear hk); (try clear hi)) | ((with_reducible refine gate_dst (N := 8) rfl ?_); (try (refine gate_guard (by rfl) ?_; dsimp only)); refine box_event ?hg (N := 8) ?hd (cs := #[.int .i64 0, .int .i64 0, .int .i64 0]) (t := 23) ?hr ?_; (case hd => rfl); (case hg => rfl); (case hr => first | (go_simp; done) | (go_simp; rfl)); intro gb307 hg w28 hbox hb; have n0_ := Aside0.mk (blk_below (g := gb301) (o := .cells #[.int .u8 a0_0, .int .u8 a0_1, .int .u8 a0_2] 44 (0, 0)) (by (with_reducible repeat (first | refine blk_drewN ?_ _ | refine blk_drew ?_ | refine blk_alloc ?_ _)); exact BK301.out) hb); have n1_ := Aside0.mk (blk_below (g := gb302) (o := .cells #[.int .i64 a2_0, .int .i64 a2_1, .int .i64 a2_2] 23 (0, 0)) (by (with_reducible repeat (first | refine blk_drewN ?_ _ | refine blk_drew ?_ | refine blk_alloc ?_ _)); exact BK302.out) hb); have n2_ := Aside0.mk (below_step (by repeat (first | (with_reducible first | exact HB.out | apply below_alloc | apply pw_below_drewN | apply below_drew1 | refine below_set ?_ GE301.out | refine below_set ?_ GE302.out) | exact HB.out)) hb); have n3_ := Aside0.mk (hbox); have n4_ := Aside0.mk ((by rw [hg]; exact (below_size (by repeat (first | (with_reducible first | exact HB.out | apply below_alloc | apply pw_below_drewN | apply below_drew1 | refine below_set ?_ GE301.out | refine below_set ?_ GE302.out) | exact HB.out))) : w.heap.size ≤ gb307)); have n5_ := Aside0.mk ((by rw [hg]; exact (below_size (by repeat (first | (with_reducible first | exact HB.out | apply below_alloc | apply pw_below_drewN | apply below_drew1 | refine below_set ?_ GE301.out | refine below_set ?_ GE302.out) | exact HB.out))) : w.heap.size ≤ gb307)); have n6_ := Aside0.mk ((by rw [hg]; exact Nat.ne_of_lt (blk_lt (g := gb301) (o := .cells #[.int .u8 a0_0, .int .u8 a0_1, .int .u8 a0_2] 44 (0, 0)) (by (with_reducible repeat (first | refine blk_drewN ?_ _ | refine blk_drew ?_ | refine blk_alloc ?_ _)); exact BK301.out)) : gb301 ≠ gb307)); have n7_ := Aside0.mk ((by rw [hg]; exact Nat.ne_of_gt (blk_lt (g := gb301) (o := .cells #[.int .u8 a0_0, .int .u8 a0_1, .int .u8 a0_2] 44 (0, 0)) (by (with_reducible repeat (first | refine blk_drewN ?_ _ | refine blk_drew ?_ | refine blk_alloc ?_ _)); exact BK301.out)) : gb307 ≠ gb301)); have n8_ := Aside0.mk ((by rw [hg]; exact Nat.ne_of_lt (blk_lt (g := gb302) (o := .cells #[.int .i64 a2_0, .int .i64 a2_1, .int .i64 a2_2] 23 (0, 0)) (by (with_reducible repeat (first | refine blk_drewN ?_ _ | refine blk_drew ?_ | refine blk_alloc ?_ _)); exact BK302.out)) : gb302 ≠ gb307)); have n9_ := Aside0.mk ((by rw [hg]; exact Nat.ne_of_gt (blk_lt (g := gb302) (o := .cells #[.int .i64 a2_0, .int .i64 a2_1, .int .i64 a2_2] 23 (0, 0)) (by (with_reducible repeat (first | refine blk_drewN ?_ _ | refine blk_drew ?_ | refine blk_alloc ?_ _)); exact BK302.out)) : gb307 ≠ gb302)); clear BK301; clear BK302; clear HB; have BK301 := n0_; have BK302 := n1_; have HB := n2_; have BK307 := n3_; have GW307 := n4_; have GE307 := n5_; have NB301_307 := n6_; have NB307_301 := n7_; have NB302_307 := n8_; have NB307_302 := n9_; clear n0_ n1_ n2_ n3_ n4_ n5_ n6_ n7_ n8_ n9_; clear hb hbox hg; have hnb29 := NB307_301.out; have hnc29 := NB301_307.out; have hnb30 := NB307_302.out; have hnc30 := NB302_307.out; have hcz31_0 : w28.cell? ⟨gb307, 0, none⟩ = some (.int .i64 0) := (blk_cell BK307.out 0).trans rfl; have hcz31_1 : w28.cell? ⟨gb307, 1, none⟩ = some (.int .i64 0) := (blk_cell BK307.out 1).trans rfl; have hcz31_2 : w28.cell? ⟨gb307, 2, none⟩ = some (.int .i64 0) := (blk_cell BK307.out 2).trans rfl; have hfz31_0 := blk_frozen BK307.out 0; have hfz31_1 := blk_frozen BK307.out 1; have hfz31_2 := blk_frozen BK307.out 2) | ((with_reducible refine gate_callee (f := 10) rfl ?_); refine goesL_ (some 29) rfl rfl Try.func10 (by kernel_rfl) rfl #[.agg #[.int .i64 t304, .int .i64 t305, .int .i64 t306], .int .i64 (wrap64 (4097 + (wrap64 (a1))))] rfl (by (try simp only [List.map_toArray, List.map_cons, List.map_nil]); first | done | rfl | (simp only [List.length_drop, List.length_take]; rfl)) ?_; (with_reducible refine (layout_Size.calls k t304 t305 t306 (wrap64 (4097 + (wrap64 (a1)))) t308 t309 _ A6.out).mono ?_); rintro e w32 ⟨rfl, hb⟩; refine ⟨_, rfl, ?_⟩; have n0_ := Aside0.mk (blk_below (g := gb301) (o := .cells #[.int .u8 a0_0, .int .u8 a0_1, .int .u8 a0_2] 44 (0, 0)) (by (with_reducible repeat (first | refine blk_drewN ?_ _ | refine blk_drew ?_ | refine blk_alloc ?_ _)); refine blk_far ?_ NB301_307.out _; (with_reducible repeat (first | refine blk_drewN ?_ _ | refine blk_drew ?_ | refine blk_alloc ?_ _)); refine blk_far ?_ NB301_307.out _; (with_reducible repeat (first | refine blk_drewN ?_ _ | refine blk_drew ?_ | refine blk_alloc ?_ _)); refine blk_far ?_ NB301_307.out _; (with_reducible repeat (first | refine blk_drewN ?_ _ | refine blk_drew ?_ | refine blk_alloc ?_ _)); exact BK301.out) hb); have n1_ := Aside0.mk (blk_below (g := gb302) (o := .cells #[.int .i64 a2_0, .int .i64 a2_1, .int .i64 a2_2] 23 (0, 0)) (by (with_reducible repeat (first | refine blk_drewN ?_ _ | refine blk_drew ?_ | refine blk_alloc ?_ _)); refine blk_far ?_ NB302_307.out _; (with_reducible repeat (first | refine blk_drewN ?_ _ | refine blk_drew ?_ | refine blk_alloc ?_ _)); refine blk_far ?_ NB302_307.out _; (with_reducible repeat (first | refine blk_drewN ?_ _ | refine blk_drew ?_ | refine blk_alloc ?_ _)); refine blk_far ?_ NB302_307.out _; (with_reducible repeat (first | refine blk_drewN ?_ _ | refine blk_drew ?_ | refine blk_alloc ?_ _)); exact BK302.out) hb); have n2_ := Aside0.mk (blk_below (g := gb307) (o := .cells #[.int .i64 t304, .int .i64 t305, .int .i64 t306] 23 (0, 0)) (by (with_reducible repeat (first | refine blk_drewN ?_ _ | refine blk_drew ?_ | refine blk_alloc ?_ _)); refine blk_put (cs := #[.int .i64 t304, .int .i64 t305, .int .i64 0]) ?_ 2 _ rfl; (with_reducible repeat (first | refine blk_drewN ?_ _ | refine blk_drew ?_ | refine blk_alloc ?_ _)); refine blk_put (cs := #[.int .i64 t304, .int .i64 0, .int .i64 0]) ?_ 1 _ rfl; (with_reducible repeat (first | refine blk_drewN ?_ _ | refine blk_drew ?_ | refine blk_alloc ?_ _)); refine blk_put (cs := #[.int .i64 0, .int .i64 0, .int .i64 0]) ?_ 0 _ rfl; (with_reducible repeat (first | refine blk_drewN ?_ _ | refine blk_drew ?_ | refine blk_alloc ?_ _)); exact BK307.out) hb); have n3_ := Aside0.mk (below_step (by repeat (first | (with_reducible first | exact HB.out | apply below_alloc | apply pw_below_drewN | apply below_drew1 | refine below_set ?_ GE301.out | refine below_set ?_ GE302.out | refine below_set ?_ GE307.out) | exact HB.out)) hb); clear BK301; clear BK302; clear BK307; clear HB; have BK301 := n0_; have BK302 := n1_; have BK307 := n2_; have HB := n3_; clear n0_ n1_ n2_ n3_; (try clear hb); (try clear hb2); (try clear hk); (try clear hi); have hcz33_0 : w32.cell? ⟨gb307, 0, none⟩ = some (.int .i64 t304) := (blk_cell BK307.out 0).trans rfl; have hcz33_1 : w32.cell? ⟨gb307, 1, none⟩ = some (.int .i64 t305) := (blk_cell BK307.out 1).trans rfl; have hcz33_2 : w32.cell? ⟨gb307, 2, none⟩ = some (.int .i64 t306) := (blk_cell BK307.out 2).trans rfl; have hfz33_0 := blk_frozen BK307.out 0; have hfz33_1 := blk_frozen BK307.out 1; have hfz33_2 := blk_frozen BK307.out 2) | ((with_reducible refine gate_callee (f := 10) rfl ?_); refine goesL_ (some 37) rfl rfl Try.func10 (by kernel_rfl) rfl #[.agg #[.int .i64 t304, .int .i64 t305, .int .i64 t306], .int .i64 (wrap64 ((-1) - (wrap64 (a1))))] rfl (by (try simp only [List.map_toArray, List.map_cons, List.map_nil]); first | done | rfl | (simp only [List.length_drop, List.length_take]; rfl)) ?_; (with_reducible refine (layout_Size.calls k t304 t305 t306 (wrap64 ((-1) - (wrap64 (a1)))) t310 t311 _ A7.out).mono ?_); rintro e w34 ⟨rfl, hb⟩; refine ⟨_, rfl, ?_⟩; have n0_ := Aside0.mk (blk_below (g := gb301) (o := .cells #[.int .u8 a0_0, .int .u8 a0_1, .int .u8 a0_2] 44 (0, 0)) (by (with_reducible repeat (first | refine blk_drewN ?_ _ | refine blk_drew ?_ | refine blk_alloc ?_ _)); exact BK301.out) hb); have n1_ := Aside0.mk (blk_below (g := gb302) (o := .cells #[.int .i64 a2_0, .int .i64 a2_1, .int .i64 a2_2] 23 (0, 0)) (by (with_reducible repeat (first | refine blk_drewN ?_ _ | refine blk_drew ?_ | refine blk_alloc ?_ _)); exact BK302.out) hb); have n2_ := Aside0.mk (blk_below (g := gb307) (o := .cells #[.int .i64 t304, .int .i64 t305, .int .i64 t306] 23 (0, 0)) (by (with_reducible repeat (first | refine blk_drewN ?_ _ | refine blk_drew ?_ | refine blk_alloc ?_ _)); exact BK307.out) hb); have n3_ := Aside0.mk (below_step (by repeat (first | (with_reducible first | exact HB.out | apply below_alloc | apply pw_below_drewN | apply below_drew1 | refine below_set ?_ GE301.out | refine below_set ?_ GE302.out | refine below_set ?_ GE307.out) | exact HB.out)) hb); clear BK301; clear BK302; clear BK307; clear HB; have BK301 := n0_; have BK302 := n1_; have BK307 := n2_; have HB := n3_; clear n0_ n1_ n2_ n3_; (try clear hb); (try clear hb2); (try clear hk); (try clear hi)))
                    have n0_ := Aside0.mk (blk_drew BK301.out)
                    have n1_ := Aside0.mk (blk_drew BK302.out)
                    have n2_ := Aside0.mk (blk_drew BK307.out)
                    have n3_ := Aside0.mk (below_drew1 HB.out)
                    clear BK301
                    clear BK302
                    clear BK307
                    clear HB
                    have BK301 := n0_
                    have BK302 := n1_
                    have BK307 := n2_
                    have HB := n3_
                    clear n0_ n1_ n2_ n3_
                    refine start_ (n := 8) (S := fun w' => w'.cell? ⟨gb307, 0, none⟩ = some (.int .i64 t304) ∧ w'.cell? ⟨gb307, 1, none⟩ = some (.int .i64 t305) ∧ w'.cell? ⟨gb307, 2, none⟩ = some (.int .i64 t306)) (ds := []) #[false, false, false, false, false, false, false, false] (by kernel_rfl) rfl rfl ⟨(blk_cell BK307.out 0).trans rfl, (blk_cell BK307.out 1).trans rfl, (blk_cell BK307.out 2).trans rfl⟩ (fun hHeld => ?_); refine with_tabW gambrellaw10_LayoutBig.tab5 gambrellaw10_LayoutBig.bits5 (fun HT_ HW_ => ?_)
                    generalize w34.drew = w35 at BK301 BK302 BK307 HB hHeld ⊢
                    refine take_ (i := 0) (N := some 41) (v := ?_) (a' := ?_) #[true, false, false, false, false, false, false, false] rfl rfl (take_ofW HT_.out HW_.out (by kernel_rfl)) (fun _ _ _ h => h) (Or.inl ⟨by rfl, ?_⟩) hHeld ?_ ?_
                    rotate_left
                    · rintro w' ⟨s0, s1, s2⟩
                      go_simp
                      with_reducible rfl
                    rotate_left
                    · simp only [Act.put, List.setIfInBounds_toArray, List.set_cons_zero, List.set_cons_succ, i64_w, i32_w]
                      rfl
                    refine one_ (i := 1) (N := some 42) #[true, true, false, false, false, false, false, false] rfl rfl (one_of HT_.out (by kernel_rfl)) (by decide) (fun K hK => ?_)
                    refine Kd.R_make_step (Kd.int .u8) _ 5 (by rfl) (N := 42) rfl 24 _ _ rfl 4097 rfl rfl Try.underlying24 (.int .u8 0) 1 info5 rfl (by decide) (by omega) 0 (ok := fun _ => True) (okp := fun _ => True) rfl (fun _ hk => hk) trivial (by omega) (by omega) (Below.refl _ _) (Nat.le_refl _) ?_
                    intro v313 w36 ho37 hb hg_ hnew_
                    clear hg_ hnew_
                    (first | rw [← Ny312.out] at ho37 | (simp only [Int.reduceToNat] at ho37; rw [← Ny312.out] at ho37))
                    have n0_ := Aside0.mk (Kd.R_lower ho37 (below_size (by repeat (first | (with_reducible first | exact HB.out | apply below_alloc | apply pw_below_drewN | apply below_drew1 | refine below_set ?_ GE301.out | refine below_set ?_ GE302.out | refine below_set ?_ GE307.out) | exact HB.out))))
                    have n1_ := Aside0.mk (blk_below (g := gb301) (o := .cells #[.int .u8 a0_0, .int .u8 a0_1, .int .u8 a0_2] 44 (0, 0)) (by (with_reducible repeat (first | refine blk_drewN ?_ _ | refine blk_drew ?_ | refine blk_alloc ?_ _)); exact BK301.out) hb)
                    have n2_ := Aside0.mk (blk_below (g := gb302) (o := .cells #[.int .i64 a2_0, .int .i64 a2_1, .int .i64 a2_2] 23 (0, 0)) (by (with_reducible repeat (first | refine blk_drewN ?_ _ | refine blk_drew ?_ | refine blk_alloc ?_ _)); exact BK302.out) hb)
                    have n3_ := Aside0.mk (blk_below (g := gb307) (o := .cells #[.int .i64 t304, .int .i64 t305, .int .i64 t306] 23 (0, 0)) (by (with_reducible repeat (first | refine blk_drewN ?_ _ | refine blk_drew ?_ | refine blk_alloc ?_ _)); exact BK307.out) hb)
                    have n4_ := Aside0.mk (below_step (by repeat (first | (with_reducible first | exact HB.out | apply below_alloc | apply pw_below_drewN | apply below_drew1 | refine below_set ?_ GE301.out | refine below_set ?_ GE302.out | refine below_set ?_ GE307.out) | exact HB.out)) hb)
                    clear BK301
                    clear BK302
                    clear BK307
                    clear HB
                    have HO314 := n0_
                    have BK301 := n1_
                    have BK302 := n2_
                    have BK307 := n3_
                    have HB := n4_
                    clear n0_ n1_ n2_ n3_ n4_
                    clear hb ho37
                    obtain ⟨Ao38, co38, eo38⟩ := Kd.R_slice HO314.out
                    (first | subst eo38 | (injection eo38 with f1_ f2_ f3_; have f4_ := f1_.symm; have f5_ := f3_.symm; clear f1_ f2_ f3_; subst f4_; subst f5_))
                    refine hK.out _ _ ⟨(blk_cell BK307.out 0).trans rfl, (blk_cell BK307.out 1).trans rfl, (blk_cell BK307.out 2).trans rfl⟩ (fun hHeld => ?_)
                    clear hK K
                    refine norm_ (a' := ?_) ?_ ?_
                    rotate_left
                    · show Act.put _ (some 42) _ = _
                      simp only [Act.put, List.setIfInBounds_toArray, List.set_cons_zero, List.set_cons_succ, i64_w, i32_w]
                      rfl
                    refine one_ (i := 2) (N := some 43) #[true, true, true, false, false, false, false, false] rfl rfl (one_of HT_.out (by kernel_rfl)) (by decide) (fun K hK => ?_)
                    refine goes_ Try.func12 (by kernel_rfl) rfl #[.agg #[.int .i64 t304, .int .i64 t305, .int .i64 t306], .slice Ao38 y312.length co38] (by rfl) rfl rfl (by (try simp only [List.map_toArray, List.map_cons, List.map_nil]); first | done | rfl | (simp only [List.length_drop, List.length_take]; rfl)) ?_
                    with_reducible refine (layout_Split.calls t304 t305 t306 _ _ y312 t315 t318 _ ?side1 ?side2 A9.out).mono ?_
                    (case side1 => repeat (first | exact (Kd.R_reads' HO314.out).2.2 | (with_reducible refine Kd.C_alloc ?_ _) | (with_reducible refine Kd.C_drewN ?_ _) | (with_reducible refine Kd.C_drew ?_)))
                    (case side2 => exact (Kd.R_reads' HO314.out).2.1)
                    rintro e w39 ⟨v316, rfl, ho0, hb⟩
                    refine ⟨_, rfl, ?_⟩
                    have n0_ := Aside0.mk (Kd.R_below (by (with_reducible repeat (first | apply Kd.R_alloc | apply Kd.R_drewN | apply Kd.R_drew)); exact HO314.out) hb)
                    have n1_ := Aside0.mk (Kd.S_lower (Kd.S_new' ho0 (Kd.R_lt (by (with_reducible repeat (first | apply Kd.R_alloc | apply Kd.R_drewN | apply Kd.R_drew)); exact HO314.out))) (below_size (by repeat (first | (with_reducible first | exact HB.out | apply below_alloc | apply pw_below_drewN | apply below_drew1 | refine below_set ?_ GE301.out | refine below_set ?_ GE302.out | refine below_set ?_ GE307.out) | exact HB.out))))
                    have n2_ := Aside0.mk (blk_below (g := gb301) (o := .cells #[.int .u8 a0_0, .int .u8 a0_1, .int .u8 a0_2] 44 (0, 0)) (by (with_reducible repeat (first | refine blk_drewN ?_ _ | refine blk_drew ?_ | refine blk_alloc ?_ _)); exact BK301.out) hb)
                    have n3_ := Aside0.mk (blk_below (g := gb302) (o := .cells #[.int .i64 a2_0, .int .i64 a2_1, .int .i64 a2_2] 23 (0, 0)) (by (with_reducible repeat (first | refine blk_drewN ?_ _ | refine blk_drew ?_ | refine blk_alloc ?_ _)); exact BK302.out) hb)
                    have n4_ := Aside0.mk (blk_below (g := gb307) (o := .cells #[.int .i64 t304, .int .i64 t305, .int .i64 t306] 23 (0, 0)) (by (with_reducible repeat (first | refine blk_drewN ?_ _ | refine blk_drew ?_ | refine blk_alloc ?_ _)); exact BK307.out) hb)
                    have n5_ := Aside0.mk (below_step (by repeat (first | (with_reducible first | exact HB.out | apply below_alloc | apply pw_below_drewN | apply below_drew1 | refine below_set ?_ GE301.out | refine below_set ?_ GE302.out | refine below_set ?_ GE307.out) | exact HB.out)) hb)
                    clear HO314
                    clear BK301
                    clear BK302
                    clear BK307
                    clear HB
                    have HO314 := n0_
                    have HO317 := n1_
                    have BK301 := n2_
                    have BK302 := n3_
                    have BK307 := n4_
                    have HB := n5_
                    clear n0_ n1_ n2_ n3_ n4_ n5_
                    (try clear hb)
                    (try clear hb2)
                    (try clear hk)
                    (try clear hi)
                    (try clear ho0)
                    refine hK.out _ _ ⟨(blk_cell BK307.out 0).trans rfl, (blk_cell BK307.out 1).trans rfl, (blk_cell BK307.out 2).trans rfl⟩ (fun hHeld => ?_)
                    clear hK K
                    refine norm_ (a' := ?_) ?_ ?_
                    rotate_left
                    · show Act.put _ (some 43) _ = _
                      simp only [Act.put, List.setIfInBounds_toArray, List.set_cons_zero, List.set_cons_succ, i64_w, i32_w]
                      rfl
                    refine pure_ (i := 3) (N := some 40) (v := ?_) (a' := ?_) #[true, true, true, true, false, false, false, false] rfl rfl (any_of HT_.out (by kernel_rfl)) (fun _ _ _ h => h) (Or.inl ⟨by rfl, ?_⟩) ?_ ?_
                    rotate_left
                    · intro w'
                      go_simp
                      with_reducible rfl
                    rotate_left
                    · simp only [Act.put, List.setIfInBounds_toArray, List.set_cons_zero, List.set_cons_succ, i64_w, i32_w]
                      rfl
                    refine pure_ (i := 4) (N := some 44) (v := ?_) (a' := ?_) #[true, true, true, true, true, false, false, false] rfl rfl (any_of HT_.out (by kernel_rfl)) (fun _ _ _ h => h) (Or.inl ⟨by rfl, ?_⟩) ?_ ?_
                    rotate_left
                    · intro w'
                      go_simp
                      with_reducible rfl
                    rotate_left
                    · simp only [Act.put, List.setIfInBounds_toArray, List.set_cons_zero, List.set_cons_succ, i64_w, i32_w]
                      rfl
                    refine pure_ (i := 5) (N := some 45) (v := ?_) (a' := ?_) #[true, true, true, true, true, true, false, false] rfl rfl (any_of HT_.out (by kernel_rfl)) (fun _ _ _ h => h) (Or.inl ⟨by rfl, ?_⟩) ?_ ?_
                    rotate_left
                    · intro w'
                      go_simp
                      with_reducible rfl
                    rotate_left
                    · simp only [Act.put, List.setIfInBounds_toArray, List.set_cons_zero, List.set_cons_succ, i64_w, i32_w]
                      rfl
                    refine pure_ (i := 6) (N := some 13) (v := ?_) (a' := ?_) #[true, true, true, true, true, true, true, false] rfl rfl (any_of HT_.out (by kernel_rfl)) (fun _ _ _ h => h) (Or.inl ⟨by rfl, ?_⟩) ?_ ?_
                    rotate_left
                    · intro w'
                      go_simp
                      with_reducible rfl
                    rotate_left
                    · simp only [Act.put, List.setIfInBounds_toArray, List.set_cons_zero, List.set_cons_succ, i64_w, i32_w]
                      rfl
                    refine pure_ (i := 7) (N := some 14) (v := ?_) (a' := ?_) #[true, true, true, true, true, true, true, true] rfl rfl (any_of HT_.out (by kernel_rfl)) (fun _ _ _ h => h) (Or.inl ⟨by rfl, ?_⟩) ?_ ?_
                    rotate_left
                    · intro w'
                      go_simp
                      with_reducible rfl
                    rotate_left
                    · simp only [Act.put, List.setIfInBounds_toArray, List.set_cons_zero, List.set_cons_succ, i64_w, i32_w]
                      rfl
                    refine done_ (done_of HT_.out (by kernel_rfl)) ?_
                    try go_wp2
                    have n0_ := Aside0.mk (Kd.R_drew HO314.out)
                    have n1_ := Aside0.mk (Kd.S_drew HO317.out)
                    have n2_ := Aside0.mk (blk_drew BK301.out)
                    have n3_ := Aside0.mk (blk_drew BK302.out)
                    have n4_ := Aside0.mk (blk_drew BK307.out)
                    have n5_ := Aside0.mk (below_drew1 HB.out)
                    clear HO314
                    clear HO317
                    clear BK301
                    clear BK302
                    clear BK307
                    clear HB
                    have HO314 := n0_
                    have HO317 := n1_
                    have BK301 := n2_
                    have BK302 := n3_
                    have BK307 := n4_
                    have HB := n5_
                    clear n0_ n1_ n2_ n3_ n4_ n5_
                    refine start_ (n := 8) (S := fun w' => w'.cell? ⟨gb307, 0, none⟩ = some (.int .i64 t304) ∧ w'.cell? ⟨gb307, 1, none⟩ = some (.int .i64 t305) ∧ w'.cell? ⟨gb307, 2, none⟩ = some (.int .i64 t306)) (ds := []) #[false, false, false, false, false, false, false, false] (by kernel_rfl) rfl rfl ⟨(blk_cell BK307.out 0).trans rfl, (blk_cell BK307.out 1).trans rfl, (blk_cell BK307.out 2).trans rfl⟩ (fun hHeld => ?_); refine with_tabW gambrellaw10_LayoutBig.tab6 gambrellaw10_LayoutBig.bits6 (fun HT_ HW_ => ?_)
                    generalize w39.drew = w40 at HO314 HO317 BK301 BK302 BK307 HB hHeld ⊢
                    refine take_ (i := 0) (N := some 47) (v := ?_) (a' := ?_) #[true, false, false, false, false, false, false, false] rfl rfl (take_ofW HT_.out HW_.out (by kernel_rfl)) (fun _ _ _ h => h) (Or.inl ⟨by rfl, ?_⟩) hHeld ?_ ?_
                    rotate_left
                    · rintro w' ⟨s0, s1, s2⟩
                      go_simp
                      with_reducible rfl
                    rotate_left
                    · simp only [Act.put, List.setIfInBounds_toArray, List.set_cons_zero, List.set_cons_succ, i64_w, i32_w]
                      rfl
                    refine one_ (i := 1) (N := some 48) #[true, true, false, false, false, false, false, false] rfl rfl (one_of HT_.out (by kernel_rfl)) (by decide) (fun K hK => ?_)
                    refine Kd.R_make_step (Kd.int .u8) _ 5 (by rfl) (N := 48) rfl 24 _ _ rfl 4096 rfl rfl Try.underlying24 (.int .u8 0) 1 info5 rfl (by decide) (by omega) 0 (ok := fun _ => True) (okp := fun _ => True) rfl (fun _ hk => hk) trivial (by omega) (by omega) (Below.refl _ _) (Nat.le_refl _) ?_
                    intro v320 w41 ho42 hb hg_ hnew_
                    clear hg_ hnew_
                    (first | rw [← Ny319.out] at ho42 | (simp only [Int.reduceToNat] at ho42; rw [← Ny319.out] at ho42))
                    have n0_ := Aside0.mk (Kd.R_elder' (by (with_reducible repeat (first | apply Kd.R_alloc | apply Kd.R_drewN | apply Kd.R_drew)); exact HO314.out) (Kd.R_base ho42) hb)
                    have n1_ := Aside0.mk (Kd.S_elder' (by (with_reducible repeat (first | apply Kd.S_alloc | apply Kd.S_drewN | apply Kd.S_drew)); exact HO317.out) (Kd.R_base ho42) hb)
                    have n2_ := Aside0.mk (Kd.R_lower (Kd.R_new' ho42 (Kd.R_lt (by (with_reducible repeat (first | apply Kd.R_alloc | apply Kd.R_drewN | apply Kd.R_drew)); exact HO314.out))) (below_size (by repeat (first | (with_reducible first | exact HB.out | apply below_alloc | apply pw_below_drewN | apply below_drew1 | refine below_set ?_ GE301.out | refine below_set ?_ GE302.out | refine below_set ?_ GE307.out) | exact HB.out))))
                    have n3_ := Aside0.mk (blk_below (g := gb301) (o := .cells #[.int .u8 a0_0, .int .u8 a0_1, .int .u8 a0_2] 44 (0, 0)) (by (with_reducible repeat (first | refine blk_drewN ?_ _ | refine blk_drew ?_ | refine blk_alloc ?_ _)); exact BK301.out) hb)
                    have n4_ := Aside0.mk (blk_below (g := gb302) (o := .cells #[.int .i64 a2_0, .int .i64 a2_1, .int .i64 a2_2] 23 (0, 0)) (by (with_reducible repeat (first | refine blk_drewN ?_ _ | refine blk_drew ?_ | refine blk_alloc ?_ _)); exact BK302.out) hb)
                    have n5_ := Aside0.mk (blk_below (g := gb307) (o := .cells #[.int .i64 t304, .int .i64 t305, .int .i64 t306] 23 (0, 0)) (by (with_reducible repeat (first | refine blk_drewN ?_ _ | refine blk_drew ?_ | refine blk_alloc ?_ _)); exact BK307.out) hb)
                    have n6_ := Aside0.mk (below_step (by repeat (first | (with_reducible first | exact HB.out | apply below_alloc | apply pw_below_drewN | apply below_drew1 | refine below_set ?_ GE301.out | refine below_set ?_ GE302.out | refine below_set ?_ GE307.out) | exact HB.out)) hb)
                    clear HO314
                    clear HO317
                    clear BK301
                    clear BK302
                    clear BK307
                    clear HB
                    have HO314 := n0_
                    have HO317 := n1_
                    have HO321 := n2_
                    have BK301 := n3_
                    have BK302 := n4_
                    have BK307 := n5_
                    have HB := n6_
                    clear n0_ n1_ n2_ n3_ n4_ n5_ n6_
                    clear hb ho42
                    obtain ⟨Ao43, co43, eo43⟩ := Kd.R_slice HO321.out
                    (first | subst eo43 | (injection eo43 with f1_ f2_ f3_; have f4_ := f1_.symm; have f5_ := f3_.symm; clear f1_ f2_ f3_; subst f4_; subst f5_))
                    refine hK.out _ _ ⟨(blk_cell BK307.out 0).trans rfl, (blk_cell BK307.out 1).trans rfl, (blk_cell BK307.out 2).trans rfl⟩ (fun hHeld => ?_)
                    clear hK K
                    refine norm_ (a' := ?_) ?_ ?_
                    rotate_left
                    · show Act.put _ (some 48) _ = _
                      simp only [Act.put, List.setIfInBounds_toArray, List.set_cons_zero, List.set_cons_succ, i64_w, i32_w]
                      rfl
                    refine one_ (i := 2) (N := some 49) #[true, true, true, false, false, false, false, false] rfl rfl (one_of HT_.out (by kernel_rfl)) (by decide) (fun K hK => ?_)
                    refine goes_ Try.func12 (by kernel_rfl) rfl #[.agg #[.int .i64 t304, .int .i64 t305, .int .i64 t306], .slice Ao43 y319.length co43] (by rfl) rfl rfl (by (try simp only [List.map_toArray, List.map_cons, List.map_nil]); first | done | rfl | (simp only [List.length_drop, List.length_take]; rfl)) ?_
                    with_reducible refine (layout_Split.calls t304 t305 t306 _ _ y319 t322 t325 _ ?side1 ?side2 A11.out).mono ?_
                    (case side1 => repeat (first | exact (Kd.R_reads' HO321.out).2.2 | (with_reducible refine Kd.C_alloc ?_ _) | (with_reducible refine Kd.C_drewN ?_ _) | (with_reducible refine Kd.C_drew ?_)))
                    (case side2 => exact (Kd.R_reads' HO321.out).2.1)
                    rintro e w44 ⟨v323, rfl, ho0, hb⟩
                    refine ⟨_, rfl, ?_⟩
                    have n0_ := Aside0.mk (Kd.R_below (by (with_reducible repeat (first | apply Kd.R_alloc | apply Kd.R_drewN | apply Kd.R_drew)); exact HO314.out) hb)
                    have n1_ := Aside0.mk (Kd.S_elder' (by (with_reducible repeat (first | apply Kd.S_alloc | apply Kd.S_drewN | apply Kd.S_drew)); exact HO317.out) (Kd.S_base ho0) hb)
                    have n2_ := Aside0.mk (Kd.R_below (by (with_reducible repeat (first | apply Kd.R_alloc | apply Kd.R_drewN | apply Kd.R_drew)); exact HO321.out) hb)
                    have n3_ := Aside0.mk (Kd.S_lower (Kd.S_new' (Kd.S_new' (Kd.S_new' ho0 (Kd.R_lt (by (with_reducible repeat (first | apply Kd.R_alloc | apply Kd.R_drewN | apply Kd.R_drew)); exact HO314.out))) (Kd.S_lt (by (with_reducible repeat (first | apply Kd.S_alloc | apply Kd.S_drewN | apply Kd.S_drew)); exact HO317.out))) (Kd.R_lt (by (with_reducible repeat (first | apply Kd.R_alloc | apply Kd.R_drewN | apply Kd.R_drew)); exact HO321.out))) (below_size (by repeat (first | (with_reducible first | exact HB.out | apply below_alloc | apply pw_below_drewN | apply below_drew1 | refine below_set ?_ GE301.out | refine below_set ?_ GE302.out | refine below_set ?_ GE307.out) | exact HB.out))))
                    have n4_ := Aside0.mk (blk_below (g := gb301) (o := .cells #[.int .u8 a0_0, .int .u8 a0_1, .int .u8 a0_2] 44 (0, 0)) (by (with_reducible repeat (first | refine blk_drewN ?_ _ | refine blk_drew ?_ | refine blk_alloc ?_ _)); exact BK301.out) hb)
                    have n5_ := Aside0.mk (blk_below (g := gb302) (o := .cells #[.int .i64 a2_0, .int .i64 a2_1, .int .i64 a2_2] 23 (0, 0)) (by (with_reducible repeat (first | refine blk_drewN ?_ _ | refine blk_drew ?_ | refine blk_alloc ?_ _)); exact BK302.out) hb)
                    have n6_ := Aside0.mk (blk_below (g := gb307) (o := .cells #[.int .i64 t304, .int .i64 t305, .int .i64 t306] 23 (0, 0)) (by (with_reducible repeat (first | refine blk_drewN ?_ _ | refine blk_drew ?_ | refine blk_alloc ?_ _)); exact BK307.out) hb)
                    have n7_ := Aside0.mk (below_step (by repeat (first | (with_reducible first | exact HB.out | apply below_alloc | apply pw_below_drewN | apply below_drew1 | refine below_set ?_ GE301.out | refine below_set ?_ GE302.out | refine below_set ?_ GE307.out) | exact HB.out)) hb)
                    clear HO314
                    clear HO317
                    clear HO321
                    clear BK301
                    clear BK302
                    clear BK307
                    clear HB
                    have HO314 := n0_
                    have HO317 := n1_
                    have HO321 := n2_
                    have HO324 := n3_
                    have BK301 := n4_
                    have BK302 := n5_
                    have BK307 := n6_
                    have HB := n7_
                    clear n0_ n1_ n2_ n3_ n4_ n5_ n6_ n7_
                    (try clear hb)
                    (try clear hb2)
                    (try clear hk)
                    (try clear hi)
                    (try clear ho0)
                    refine hK.out _ _ ⟨(blk_cell BK307.out 0).trans rfl, (blk_cell BK307.out 1).trans rfl, (blk_cell BK307.out 2).trans rfl⟩ (fun hHeld => ?_)
                    clear hK K
                    refine norm_ (a' := ?_) ?_ ?_
                    rotate_left
                    · show Act.put _ (some 49) _ = _
                      simp only [Act.put, List.setIfInBounds_toArray, List.set_cons_zero, List.set_cons_succ, i64_w, i32_w]
                      rfl
                    refine pure_ (i := 3) (N := some 46) (v := ?_) (a' := ?_) #[true, true, true, true, false, false, false, false] rfl rfl (any_of HT_.out (by kernel_rfl)) (fun _ _ _ h => h) (Or.inl ⟨by rfl, ?_⟩) ?_ ?_
                    rotate_left
                    · intro w'
                      go_simp
                      with_reducible rfl
                    rotate_left
                    · simp only [Act.put, List.setIfInBounds_toArray, List.set_cons_zero, List.set_cons_succ, i64_w, i32_w]
                      rfl
                    refine pure_ (i := 4) (N := some 50) (v := ?_) (a' := ?_) #[true, true, true, true, true, false, false, false] rfl rfl (any_of HT_.out (by kernel_rfl)) (fun _ _ _ h => h) (Or.inl ⟨by rfl, ?_⟩) ?_ ?_
                    rotate_left
                    · intro w'
                      go_simp
                      with_reducible rfl
                    rotate_left
                    · simp only [Act.put, List.setIfInBounds_toArray, List.set_cons_zero, List.set_cons_succ, i64_w, i32_w]
                      rfl
                    refine pure_ (i := 5) (N := some 51) (v := ?_) (a' := ?_) #[true, true, true, true, true, true, false, false] rfl rfl (any_of HT_.out (by kernel_rfl)) (fun _ _ _ h => h) (Or.inl ⟨by rfl, ?_⟩) ?_ ?_
                    rotate_left
                    · intro w'
                      go_simp
                      with_reducible rfl
                    rotate_left
                    · simp only [Act.put, List.setIfInBounds_toArray, List.set_cons_zero, List.set_cons_succ, i64_w, i32_w]
                      rfl
                    refine pure_ (i := 6) (N := some 15) (v := ?_) (a' := ?_) #[true, true, true, true, true, true, true, false] rfl rfl (any_of HT_.out (by kernel_rfl)) (fun _ _ _ h => h) (Or.inl ⟨by rfl, ?_⟩) ?_ ?_
                    rotate_left
                    · intro w'
                      go_simp
                      with_reducible rfl
                    rotate_left
                    · simp only [Act.put, List.setIfInBounds_toArray, List.set_cons_zero, List.set_cons_succ, i64_w, i32_w]
                      rfl
                    refine pure_ (i := 7) (N := some 16) (v := ?_) (a' := ?_) #[true, true, true, true, true, true, true, true] rfl rfl (any_of HT_.out (by kernel_rfl)) (fun _ _ _ h => h) (Or.inl ⟨by rfl, ?_⟩) ?_ ?_
                    rotate_left
                    · intro w'
                      go_simp
                      with_reducible rfl
                    rotate_left
                    · simp only [Act.put, List.setIfInBounds_toArray, List.set_cons_zero, List.set_cons_succ, i64_w, i32_w]
                      rfl
                    refine done_ (done_of HT_.out (by kernel_rfl)) ?_
                    have hcz45_0 : w44.cell? ⟨gb302, 0, none⟩ = some (.int .i64 a2_0) := (blk_cell BK302.out 0).trans rfl
                    have hcz45_1 : w44.cell? ⟨gb302, 1, none⟩ = some (.int .i64 a2_1) := (blk_cell BK302.out 1).trans rfl
                    have hcz45_2 : w44.cell? ⟨gb302, 2, none⟩ = some (.int .i64 a2_2) := (blk_cell BK302.out 2).trans rfl
                    have hfz45_0 := blk_frozen BK302.out 0
                    have hfz45_1 := blk_frozen BK302.out 1
                    have hfz45_2 := blk_frozen BK302.out 2
                    try go_wp2_with (first | ((with_reducible refine gate_callee (f := 10) rfl ?_); refine goesL_ (some 54) rfl rfl Try.func10 (by kernel_rfl) rfl #[.agg #[.int .i64 a2_0, .int .i64 a2_1, .int .i64 a2_2], .int .i64 5] rfl (by (try simp only [List.map_toArray, List.map_cons, List.map_nil]); first | done | rfl | (simp only [List.length_drop, List.length_take]; rfl)) ?_; (with_reducible refine (layout_Size.calls k a2_0 a2_1 a2_2 5 t326 t327 _ A12.out).mono ?_); rintro e w46 ⟨rfl, hb⟩; refine ⟨_, rfl, ?_⟩; have n0_ := Aside0.mk (Kd.R_below (by (with_reducible repeat (first | apply Kd.R_alloc | apply Kd.R_drewN | apply Kd.R_drew)); exact HO314.out) hb); have n1_ := Aside0.mk (Kd.S_below (by (with_reducible repeat (first | apply Kd.S_alloc | apply Kd.S_drewN | apply Kd.S_drew)); exact HO317.out) hb); have n2_ := Aside0.mk (Kd.R_below (by (with_reducible repeat (first | apply Kd.R_alloc | apply Kd.R_drewN | apply Kd.R_drew)); exact HO321.out) hb); have n3_ := Aside0.mk (Kd.S_below (by (with_reducible repeat (first | apply Kd.S_alloc | apply Kd.S_drewN | apply Kd.S_drew)); exact HO324.out) hb); have n4_ := Aside0.mk (blk_below (g := gb301) (o := .cells #[.int .u8 a0_0, .int .u8 a0_1, .int .u8 a0_2] 44 (0, 0)) (by (with_reducible repeat (first | refine blk_drewN ?_ _ | refine blk_drew ?_ | refine blk_alloc ?_ _)); exact BK301.out) hb); have n5_ := Aside0.mk (blk_below (g := gb302) (o := .cells #[.int .i64 a2_0, .int .i64 a2_1, .int .i64 a2_2] 23 (0, 0)) (by (with_reducible repeat (first | refine blk_drewN ?_ _ | refine blk_drew ?_ | refine blk_alloc ?_ _)); exact BK302.out) hb); have n6_ := Aside0.mk (blk_below (g := gb307) (o := .cells #[.int .i64 t304, .int .i64 t305, .int .i64 t306] 23 (0, 0)) (by (with_reducible repeat (first | refine blk_drewN ?_ _ | refine blk_drew ?_ | refine blk_alloc ?_ _)); exact BK307.out) hb); have n7_ := Aside0.mk (below_step (by repeat (first | (with_reducible first | exact HB.out | apply below_alloc | apply pw_below_drewN | apply below_drew1 | refine below_set ?_ GE301.out | refine below_set ?_ GE302.out | refine below_set ?_ GE307.out) | exact HB.out)) hb); clear HO314; clear HO317; clear HO321; clear HO324; clear BK301; clear BK302; clear BK307; clear HB; have HO314 := n0_; have HO317 := n1_; have HO321 := n2_; have HO324 := n3_; have BK301 := n4_; have BK302 := n5_; have BK307 := n6_; have HB := n7_; clear n0_ n1_ n2_ n3_ n4_ n5_ n6_ n7_; (try clear hb); (try clear hb2); (try clear hk); (try clear hi); have hcz47_0 : w46.cell? ⟨gb307, 0, none⟩ = some (.int .i64 t304) := (blk_cell BK307.out 0).trans rfl; have hcz47_1 : w46.cell? ⟨gb307, 1, none⟩ = some (.int .i64 t305) := (blk_cell BK307.out 1).trans rfl; have hcz47_2 : w46.cell? ⟨gb307, 2, none⟩ = some (.int .i64 t306) := (blk_cell BK307.out 2).trans rfl; have hfz47_0 := blk_frozen BK307.out 0; have hfz47_1 := blk_frozen BK307.out 1; have hfz47_2 := blk_frozen BK307.out 2) | ((with_reducible refine gate_callee (f := 16) rfl ?_); refine goesL_ (some 59) rfl rfl Try.func16 (by kernel_rfl) rfl #[.agg #[.int .i64 t304, .int .i64 t305, .int .i64 t306], .slice none 0 0, .int .i64 0] rfl (by (try simp only [List.map_toArray, List.map_cons, List.map_nil]); first | done | rfl | (simp only [List.length_drop, List.length_take]; rfl)) ?_; (refine (layout_Join.calls t304 t305 t306 _ _ ([] : List (List Int)) 0 t328 t331 _ ?side1 ?side2 A13.out).mono ?_); (case side1 => exact Kd.C_nil _ _); (case side2 => exact Nat.le_refl _); rintro e w48 ⟨v329, rfl, ho0, hb⟩; refine ⟨_, rfl, ?_⟩; have n0_ := Aside0.mk (Kd.R_elder' (by (with_reducible repeat (first | apply Kd.R_alloc | apply Kd.R_drewN | apply Kd.R_drew)); exact HO314.out) (Kd.R_base ho0) hb); have n1_ := Aside0.mk (Kd.S_elder' (by (with_reducible repeat (first | apply Kd.S_alloc | apply Kd.S_drewN | apply Kd.S_drew)); exact HO317.out) (Kd.R_base ho0) hb); have n2_ := Aside0.mk (Kd.R_elder' (by (with_reducible repeat (first | apply Kd.R_alloc | apply Kd.R_drewN | apply Kd.R_drew)); exact HO321.out) (Kd.R_base ho0) hb); have n3_ := Aside0.mk (Kd.S_elder' (by (with_reducible repeat (first | apply Kd.S_alloc | apply Kd.S_drewN | apply Kd.S_drew)); exact HO324.out) (Kd.R_base ho0) hb); have n4_ := Aside0.mk (Kd.R_lower (Kd.R_new' (Kd.R_new' ho0 (Kd.R_lt (by (with_reducible repeat (first | apply Kd.R_alloc | apply Kd.R_drewN | apply Kd.R_drew)); exact HO314.out))) (Kd.R_lt (by (with_reducible repeat (first | apply Kd.R_alloc | apply Kd.R_drewN | apply Kd.R_drew)); exact HO321.out))) (below_size (by repeat (first | (with_reducible first | exact HB.out | apply below_alloc | apply pw_below_drewN | apply below_drew1 | refine below_set ?_ GE301.out | refine below_set ?_ GE302.out | refine below_set ?_ GE307.out) | exact HB.out)))); have n5_ := Aside0.mk (blk_below (g := gb301) (o := .cells #[.int .u8 a0_0, .int .u8 a0_1, .int .u8 a0_2] 44 (0, 0)) (by (with_reducible repeat (first | refine blk_drewN ?_ _ | refine blk_drew ?_ | refine blk_alloc ?_ _)); exact BK301.out) hb); have n6_ := Aside0.mk (blk_below (g := gb302) (o := .cells #[.int .i64 a2_0, .int .i64 a2_1, .int .i64 a2_2] 23 (0, 0)) (by (with_reducible repeat (first | refine blk_drewN ?_ _ | refine blk_drew ?_ | refine blk_alloc ?_ _)); exact BK302.out) hb); have n7_ := Aside0.mk (blk_below (g := gb307) (o := .cells #[.int .i64 t304, .int .i64 t305, .int .i64 t306] 23 (0, 0)) (by (with_reducible repeat (first | refine blk_drewN ?_ _ | refine blk_drew ?_ | refine blk_alloc ?_ _)); exact BK307.out) hb); have n8_ := Aside0.mk (below_step (by repeat (first | (with_reducible first | exact HB.out | apply below_alloc | apply pw_below_drewN | apply below_drew1 | refine below_set ?_ GE301.out | refine below_set ?_ GE302.out | refine below_set ?_ GE307.out) | exact HB.out)) hb); clear HO314; clear HO317; clear HO321; clear HO324; clear BK301; clear BK302; clear BK307; clear HB; have HO314 := n0_; have HO317 := n1_; have HO321 := n2_; have HO324 := n3_; have HO330 := n4_; have BK301 := n5_; have BK302 := n6_; have BK307 := n7_; have HB := n8_; clear n0_ n1_ n2_ n3_ n4_ n5_ n6_ n7_ n8_; (try clear hb); (try clear hb2); (try clear hk); (try clear hi); (try clear ho0); obtain ⟨Ao49, co49, eo49⟩ := Kd.S_slice HO324.out; subst eo49; have hcz50_0 : w48.cell? ⟨gb307, 0, none⟩ = some (.int .i64 t304) := (blk_cell BK307.out 0).trans rfl; have hcz50_1 : w48.cell? ⟨gb307, 1, none⟩ = some (.int .i64 t305) := (blk_cell BK307.out 1).trans rfl; have hcz50_2 : w48.cell? ⟨gb307, 2, none⟩ = some (.int .i64 t306) := (blk_cell BK307.out 2).trans rfl; have hfz50_0 := blk_frozen BK307.out 0; have hfz50_1 := blk_frozen BK307.out 1; have hfz50_2 := blk_frozen BK307.out 2; have hcz51_0 : w48.cell? ⟨gb302, 0, none⟩ = some (.int .i64 a2_0) := (blk_cell BK302.out 0).trans rfl; have hcz51_1 : w48.cell? ⟨gb302, 1, none⟩ = some (.int .i64 a2_1) := (blk_cell BK302.out 1).trans rfl; have hcz51_2 : w48.cell? ⟨gb302, 2, none⟩ = some (.int .i64 a2_2) := (blk_cell BK302.out 2).trans rfl; have hfz51_0 := blk_frozen BK302.out 0; have hfz51_1 := blk_frozen BK302.out 1; have hfz51_2 := blk_frozen BK302.out 2) | (go_at_call 20; (with_reducible refine (gambrelref09_May.calls a2_0 a2_1 a2_2 t332 _ A20.out).mono ?_); rintro e w52 ⟨rfl, hb⟩; have n0_ := Aside0.mk (Kd.R_below (by (with_reducible repeat (first | apply Kd.R_alloc | apply Kd.R_drewN | apply Kd.R_drew)); exact HO314.out) hb); have n1_ := Aside0.mk (Kd.S_below (by (with_reducible repeat (first | apply Kd.S_alloc | apply Kd.S_drewN | apply Kd.S_drew)); exact HO317.out) hb); have n2_ := Aside0.mk (Kd.R_below (by (with_reducible repeat (first | apply Kd.R_alloc | apply Kd.R_drewN | apply Kd.R_drew)); exact HO321.out) hb); have n3_ := Aside0.mk (Kd.S_below (by (with_reducible repeat (first | apply Kd.S_alloc | apply Kd.S_drewN | apply Kd.S_drew)); exact HO324.out) hb); have n4_ := Aside0.mk (Kd.R_below (by (with_reducible repeat (first | apply Kd.R_alloc | apply Kd.R_drewN | apply Kd.R_drew)); exact HO330.out) hb); have n5_ := Aside0.mk (blk_below (g := gb301) (o := .cells #[.int .u8 a0_0, .int .u8 a0_1, .int .u8 a0_2] 44 (0, 0)) (by (with_reducible repeat (first | refine blk_drewN ?_ _ | refine blk_drew ?_ | refine blk_alloc ?_ _)); exact BK301.out) hb); have n6_ := Aside0.mk (blk_below (g := gb302) (o := .cells #[.int .i64 a2_0, .int .i64 a2_1, .int .i64 a2_2] 23 (0, 0)) (by (with_reducible repeat (first | refine blk_drewN ?_ _ | refine blk_drew ?_ | refine blk_alloc ?_ _)); exact BK302.out) hb); have n7_ := Aside0.mk (blk_below (g := gb307) (o := .cells #[.int .i64 t304, .int .i64 t305, .int .i64 t306] 23 (0, 0)) (by (with_reducible repeat (first | refine blk_drewN ?_ _ | refine blk_drew ?_ | refine blk_alloc ?_ _)); exact BK307.out) hb); have n8_ := Aside0.mk (below_step (by repeat (first | (with_reducible first | exact HB.out | apply below_alloc | apply pw_below_drewN | apply below_drew1 | refine below_set ?_ GE301.out | refine below_set ?_ GE302.out | refine below_set ?_ GE307.out) | exact HB.out)) hb); clear HO314; clear HO317; clear HO321; clear HO324; clear HO330; clear BK301; clear BK302; clear BK307; clear HB; have HO314 := n0_; have HO317 := n1_; have HO321 := n2_; have HO324 := n3_; have HO330 := n4_; have BK301 := n5_; have BK302 := n6_; have BK307 := n7_; have HB := n8_; clear n0_ n1_ n2_ n3_ n4_ n5_ n6_ n7_ n8_; (try clear hb); (try clear hb2); (try clear hk); (try clear hi)))
                    go_ret
                    exact ⟨by first | rfl | (simp [errW_none, errW_some] <;> rfl) | (simp [*, errW_none, errW_some] <;> rfl), by repeat (first | (with_reducible first | exact HB.out | apply below_alloc | apply pw_below_drewN | apply below_drew1 | refine below_set ?_ GE301.out | refine below_set ?_ GE302.out | refine below_set ?_ GE307.out) | exact HB.out)⟩
                  · rw [if_neg c21] at H
                    exact absurd H (by simp)
                · rw [if_neg c19] at H
                  exact absurd H (by simp)
              · rw [if_neg c18] at H
                exact absurd H (by simp)
            · rw [if_neg c17] at H
              exact absurd H (by simp)
          · rw [if_neg c16] at H
            exact absurd H (by simp)
        · rw [if_neg c15] at H
          exact absurd H (by simp)
      · replace c14 := Bool.eq_false_iff.mpr c14
        subst c14
        have H1 : (none) = some r := by rw [if_neg (show ¬ (false = true) by decide)] at H; exact H
        clear H
        have H := H1
        clear H1
        exact absurd H (by simp)
    · rw [if_neg c10] at H
      exact absurd H (by simp)
  · rw [if_neg c8] at H
    exact absurd H (by simp)

end Go.Proofs.Ytibcgallhldnnaa.P
