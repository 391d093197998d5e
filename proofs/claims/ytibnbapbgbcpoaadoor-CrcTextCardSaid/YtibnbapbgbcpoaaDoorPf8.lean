-- Written by a program of this seat (wip/tools/stage.py) out of the translation. Lean checks it.
import Derived.Test.YtibnbapbgbcpoaaDoorP0
import Derived.Test.YtibnbapbgbcpoaaDoorPf18
import Derived.Test.YtibnbapbgbcpoaaDoorPf19
import Derived.Test.YtibnbapbgbcpoaaDoorH6
import Derived.Test.YtibnbapbgbcpoaaDoorH9
namespace Go.Proofs.YtibnbapbgbcpoaaDoor.P
open Go.RowKit Go.Proofs.YtibnbapbgbcpoaaDoorW.PrintWords Go.Proofs.YtibnbapbgbcpoaaDoorW.PrintLast Go.Proofs.YtibnbapbgbcpoaaDoorW.PrintMore
attribute [local go_sem] max2_int min2_int max_two min_two max_three min_three max_four min_four   -- for this text's walks alone
set_option linter.unusedVariables false
set_option linter.unusedSimpArgs false

/-! ### gambrellaw13_CrcText: function 8 -/
def gambrellaw13_CrcText.f (k : Nat) (a0 : Int) (a1 : ByteArray) : Option (Bool) := (gambrellaw13_awake.f).bind fun t158 => ((crc_Text.f a0).bind fun t159 => ((crc_Read.f t159).bind fun bt160 => ((crc_Read.f a1).bind fun bt162 => ((gambrelref13_Read.f k a1).bind fun bt164 => (if t158 = true then (if bt160.2 = true then (if bt160.1 = a0 then ((crc_Text.f a0).bind fun t166 => ((gambrelref13_Text.f k a0).bind fun t167 => (if t166.toList = t167.toList then (if bt162.1 = bt164.1 then (if (bt162.2 == bt164.2) = true then (if bt162.2 = true then ((crc_Text.f bt162.1).bind fun t168 => (some (t168.toList == a1.toList))) else (some true)) else (none)) else (none)) else (none)))) else (none)) else (none)) else (none))))))
theorem gambrellaw13_CrcText.mono : ∀ a0 a1 k, LeO (gambrellaw13_CrcText.f k a0 a1) (gambrellaw13_CrcText.f (k + 1) a0 a1) := by
  intro a0 a1 k
  unfold gambrellaw13_CrcText.f
  repeat' first
      | (with_reducible exact gambrelref13_Read.mono _ _)
      | (with_reducible exact gambrelref13_Text.mono _ _)
      | (with_reducible exact LeO.refl _)
      | (with_reducible exact LeO.none _)
      | (with_reducible refine LeO.ite ?_ ?_)
      | (with_reducible refine LeO.bind ?_ (fun _ => ?_))
      | exact gambrelref13_Read.mono _ _
      | exact gambrelref13_Text.mono _ _
      | exact LeO.none _
      | refine LeO.ite ?_ ?_
      | refine LeO.bind ?_ (fun _ => ?_)
set_option maxHeartbeats 8000000 in
set_option maxRecDepth 100000 in
theorem gambrellaw13_CrcText.calls (k : Nat) (a0 : Int) (a1 : ByteArray) (r : Bool) (w : World) (h : gambrellaw13_CrcText.f k a0 a1 = some r) (hlg : LG w) :
    Calls Tryd.prog 8 #[.int .u32 a0, .string a1] w fun e w' => e = .returned (.bool r) ∧ Below w.heap.size w w' := by
  have HLG := Aside0.mk hlg
  clear hlg
  have HB := Aside0.mk (Below.refl w.heap.size w)
  have H : ((gambrellaw13_awake.f).bind fun t158 => ((crc_Text.f a0).bind fun t159 => ((crc_Read.f t159).bind fun bt160 => ((crc_Read.f a1).bind fun bt162 => ((gambrelref13_Read.f k a1).bind fun bt164 => (if t158 = true then (if bt160.2 = true then (if bt160.1 = a0 then ((crc_Text.f a0).bind fun t166 => ((gambrelref13_Text.f k a0).bind fun t167 => (if t166.toList = t167.toList then (if bt162.1 = bt164.1 then (if (bt162.2 == bt164.2) = true then (if bt162.2 = true then ((crc_Text.f bt162.1).bind fun t168 => (some (t168.toList == a1.toList))) else (some true)) else (none)) else (none)) else (none)))) else (none)) else (none)) else (none))))))) = some r := h
  clear h
  replace H := Option.bind_eq_some_iff.mp H
  obtain ⟨t158, A30, H⟩ := H
  replace H : ((crc_Text.f a0).bind fun t159 => ((crc_Read.f t159).bind fun bt160 => ((crc_Read.f a1).bind fun bt162 => ((gambrelref13_Read.f k a1).bind fun bt164 => (if t158 = true then (if bt160.2 = true then (if bt160.1 = a0 then ((crc_Text.f a0).bind fun t166 => ((gambrelref13_Text.f k a0).bind fun t167 => (if t166.toList = t167.toList then (if bt162.1 = bt164.1 then (if (bt162.2 == bt164.2) = true then (if bt162.2 = true then ((crc_Text.f bt162.1).bind fun t168 => (some (t168.toList == a1.toList))) else (some true)) else (none)) else (none)) else (none)))) else (none)) else (none)) else (none)))))) = some r := H
  have A3 := Aside0.mk A30
  clear A30
  replace H := Option.bind_eq_some_iff.mp H
  obtain ⟨t159, A40, H⟩ := H
  replace H : ((crc_Read.f t159).bind fun bt160 => ((crc_Read.f a1).bind fun bt162 => ((gambrelref13_Read.f k a1).bind fun bt164 => (if t158 = true then (if bt160.2 = true then (if bt160.1 = a0 then ((crc_Text.f a0).bind fun t166 => ((gambrelref13_Text.f k a0).bind fun t167 => (if t166.toList = t167.toList then (if bt162.1 = bt164.1 then (if (bt162.2 == bt164.2) = true then (if bt162.2 = true then ((crc_Text.f bt162.1).bind fun t168 => (some (t168.toList == a1.toList))) else (some true)) else (none)) else (none)) else (none)))) else (none)) else (none)) else (none))))) = some r := H
  have A4 := Aside0.mk A40
  clear A40
  replace H := Option.bind_eq_some_iff.mp H
  obtain ⟨⟨t160, t161⟩, A50, H⟩ := H
  replace H : ((crc_Read.f a1).bind fun bt162 => ((gambrelref13_Read.f k a1).bind fun bt164 => (if t158 = true then (if t161 = true then (if t160 = a0 then ((crc_Text.f a0).bind fun t166 => ((gambrelref13_Text.f k a0).bind fun t167 => (if t166.toList = t167.toList then (if bt162.1 = bt164.1 then (if (bt162.2 == bt164.2) = true then (if bt162.2 = true then ((crc_Text.f bt162.1).bind fun t168 => (some (t168.toList == a1.toList))) else (some true)) else (none)) else (none)) else (none)))) else (none)) else (none)) else (none)))) = some r := H
  have A5 := Aside0.mk A50
  clear A50
  replace H := Option.bind_eq_some_iff.mp H
  obtain ⟨⟨t162, t163⟩, A60, H⟩ := H
  replace H : ((gambrelref13_Read.f k a1).bind fun bt164 => (if t158 = true then (if t161 = true then (if t160 = a0 then ((crc_Text.f a0).bind fun t166 => ((gambrelref13_Text.f k a0).bind fun t167 => (if t166.toList = t167.toList then (if t162 = bt164.1 then (if (t163 == bt164.2) = true then (if t163 = true then ((crc_Text.f t162).bind fun t168 => (some (t168.toList == a1.toList))) else (some true)) else (none)) else (none)) else (none)))) else (none)) else (none)) else (none))) = some r := H
  have A6 := Aside0.mk A60
  clear A60
  replace H := Option.bind_eq_some_iff.mp H
  obtain ⟨⟨t164, t165⟩, A70, H⟩ := H
  replace H : (if t158 = true then (if t161 = true then (if t160 = a0 then ((crc_Text.f a0).bind fun t166 => ((gambrelref13_Text.f k a0).bind fun t167 => (if t166.toList = t167.toList then (if t162 = t164 then (if (t163 == t165) = true then (if t163 = true then ((crc_Text.f t162).bind fun t168 => (some (t168.toList == a1.toList))) else (some true)) else (none)) else (none)) else (none)))) else (none)) else (none)) else (none)) = some r := H
  have A7 := Aside0.mk A70
  clear A70
  by_cases c8 : t158 = true
  · subst c8
    have H1 : (if t161 = true then (if t160 = a0 then ((crc_Text.f a0).bind fun t166 => ((gambrelref13_Text.f k a0).bind fun t167 => (if t166.toList = t167.toList then (if t162 = t164 then (if (t163 == t165) = true then (if t163 = true then ((crc_Text.f t162).bind fun t168 => (some (t168.toList == a1.toList))) else (some true)) else (none)) else (none)) else (none)))) else (none)) else (none)) = some r := by rw [if_pos rfl] at H; exact H
    clear H
    have H := H1
    clear H1
    by_cases c9 : t161 = true
    · subst c9
      have H1 : (if t160 = a0 then ((crc_Text.f a0).bind fun t166 => ((gambrelref13_Text.f k a0).bind fun t167 => (if t166.toList = t167.toList then (if t162 = t164 then (if (t163 == t165) = true then (if t163 = true then ((crc_Text.f t162).bind fun t168 => (some (t168.toList == a1.toList))) else (some true)) else (none)) else (none)) else (none)))) else (none)) = some r := by rw [if_pos rfl] at H; exact H
      clear H
      have H := H1
      clear H1
      by_cases c10 : t160 = a0
      · rw [if_pos c10] at H
        have c10b0 : (t160 == a0) = true := beq_iff_eq.mpr c10
        have c10b1 : (t160 != a0) = false := bne_eq_false_iff_eq.mpr c10
        clear c10
        replace H := Option.bind_eq_some_iff.mp H
        obtain ⟨t166, A110, H⟩ := H
        replace H : ((gambrelref13_Text.f k a0).bind fun t167 => (if t166.toList = t167.toList then (if t162 = t164 then (if (t163 == t165) = true then (if t163 = true then ((crc_Text.f t162).bind fun t168 => (some (t168.toList == a1.toList))) else (some true)) else (none)) else (none)) else (none))) = some r := H
        have A11 := Aside0.mk A110
        clear A110
        replace H := Option.bind_eq_some_iff.mp H
        obtain ⟨t167, A120, H⟩ := H
        replace H : (if t166.toList = t167.toList then (if t162 = t164 then (if (t163 == t165) = true then (if t163 = true then ((crc_Text.f t162).bind fun t168 => (some (t168.toList == a1.toList))) else (some true)) else (none)) else (none)) else (none)) = some r := H
        have A12 := Aside0.mk A120
        clear A120
        by_cases c13 : t166.toList = t167.toList
        · rw [if_pos c13] at H
          have c13b0 : (t166.toList == t167.toList) = true := beq_iff_eq.mpr c13
          have c13b1 : (t166.toList != t167.toList) = false := bne_eq_false_iff_eq.mpr c13
          clear c13
          by_cases c14 : t162 = t164
          · rw [if_pos c14] at H
            have c14b0 : (t162 == t164) = true := beq_iff_eq.mpr c14
            have c14b1 : (t162 != t164) = false := bne_eq_false_iff_eq.mpr c14
            clear c14
            by_cases c15 : (t163 == t165) = true
            · rw [if_pos c15] at H
              have c15b0 : (t163 == t165) = true := c15
              (try (have c15b1 : decide (t163 = t165) = true := by simpa using c15))
              (try (have c15b2 : (t163 == t165) = true := by simpa using c15))
              clear c15
              by_cases c16 : t163 = true
              · subst c16
                have H1 : ((crc_Text.f t162).bind fun t168 => (some (t168.toList == a1.toList))) = some r := by rw [if_pos rfl] at H; exact H
                clear H
                have H := H1
                clear H1
                replace H := Option.bind_eq_some_iff.mp H
                obtain ⟨t168, A170, H⟩ := H
                replace H : (some (t168.toList == a1.toList)) = some r := H
                have A17 := Aside0.mk A170
                clear A170
                obtain rfl := Option.some.inj H
                go_enter Tryd.func8, Tryd.ntmps8
                go_wp2_with (first | ((with_reducible refine gate_callee (f := 9) rfl ?_); refine goesL_ (some 12) rfl rfl Tryd.func9 (by kernel_rfl) rfl #[] rfl (by (try simp only [List.map_toArray, List.map_cons, List.map_nil]); first | done | rfl | (simp only [List.length_drop, List.length_take]; rfl)) ?_; (with_reducible refine (gambrellaw13_awake.calls true _ A3.out (LG.below HLG.out (by repeat (first | (with_reducible first | exact HB.out | apply below_alloc | apply pw_below_drewN | apply below_drew1) | exact HB.out)))).mono ?_); rintro e w18 ⟨rfl, hb⟩; refine ⟨_, rfl, ?_⟩; have n0_ := Aside0.mk (below_step (by repeat (first | (with_reducible first | exact HB.out | apply below_alloc | apply pw_below_drewN | apply below_drew1) | exact HB.out)) hb); clear HB; have HB := n0_; clear n0_; (try clear hb); (try clear hb2); (try clear hk); (try clear hi)) | ((with_reducible refine gate_callee (f := 17) rfl ?_); refine goesL_ (some 15) rfl rfl Tryd.func17 (by kernel_rfl) rfl #[.int .u32 a0] rfl (by (try simp only [List.map_toArray, List.map_cons, List.map_nil]); first | done | rfl | (simp only [List.length_drop, List.length_take]; rfl)) ?_; (with_reducible refine (crc_Text.calls a0 t159 _ A4.out (LG.below HLG.out (by repeat (first | (with_reducible first | exact HB.out | apply below_alloc | apply pw_below_drewN | apply below_drew1) | exact HB.out)))).mono ?_); rintro e w19 ⟨rfl, hb⟩; refine ⟨_, rfl, ?_⟩; have n0_ := Aside0.mk (below_step (by repeat (first | (with_reducible first | exact HB.out | apply below_alloc | apply pw_below_drewN | apply below_drew1) | exact HB.out)) hb); clear HB; have HB := n0_; clear n0_; (try clear hb); (try clear hb2); (try clear hk); (try clear hi)) | ((with_reducible refine gate_callee (f := 16) rfl ?_); refine goesL_ (some 16) rfl rfl Tryd.func16 (by kernel_rfl) rfl #[.string t159] rfl (by (try simp only [List.map_toArray, List.map_cons, List.map_nil]); first | done | rfl | (simp only [List.length_drop, List.length_take]; rfl)) ?_; (with_reducible refine (crc_Read.calls t159 t160 true _ A5.out (LG.below HLG.out (by repeat (first | (with_reducible first | exact HB.out | apply below_alloc | apply pw_below_drewN | apply below_drew1) | exact HB.out)))).mono ?_); rintro e w20 ⟨rfl, hb⟩; refine ⟨_, rfl, ?_⟩; have n0_ := Aside0.mk (below_step (by repeat (first | (with_reducible first | exact HB.out | apply below_alloc | apply pw_below_drewN | apply below_drew1) | exact HB.out)) hb); clear HB; have HB := n0_; clear n0_; (try clear hb); (try clear hb2); (try clear hk); (try clear hi)) | ((with_reducible refine gate_callee (f := 16) rfl ?_); refine goesL_ (some 21) rfl rfl Tryd.func16 (by kernel_rfl) rfl #[.string a1] rfl (by (try simp only [List.map_toArray, List.map_cons, List.map_nil]); first | done | rfl | (simp only [List.length_drop, List.length_take]; rfl)) ?_; (with_reducible refine (crc_Read.calls a1 t162 true _ A6.out (LG.below HLG.out (by repeat (first | (with_reducible first | exact HB.out | apply below_alloc | apply pw_below_drewN | apply below_drew1) | exact HB.out)))).mono ?_); rintro e w21 ⟨rfl, hb⟩; refine ⟨_, rfl, ?_⟩; have n0_ := Aside0.mk (below_step (by repeat (first | (with_reducible first | exact HB.out | apply below_alloc | apply pw_below_drewN | apply below_drew1) | exact HB.out)) hb); clear HB; have HB := n0_; clear n0_; (try clear hb); (try clear hb2); (try clear hk); (try clear hi)) | ((with_reducible refine gate_callee (f := 18) rfl ?_); refine goesL_ (some 26) rfl rfl Tryd.func18 (by kernel_rfl) rfl #[.string a1] rfl (by (try simp only [List.map_toArray, List.map_cons, List.map_nil]); first | done | rfl | (simp only [List.length_drop, List.length_take]; rfl)) ?_; (with_reducible refine (gambrelref13_Read.calls k a1 t164 t165 _ A7.out).mono ?_); rintro e w' ⟨rfl, ⟨nd, rfl⟩⟩; refine ⟨_, rfl, ?_⟩) | (go_at_call 17; (with_reducible refine (crc_Text.calls a0 t166 _ A11.out (LG.below HLG.out (by repeat (first | (with_reducible first | exact HB.out | apply below_alloc | apply pw_below_drewN | apply below_drew1) | exact HB.out)))).mono ?_); rintro e w22 ⟨rfl, hb⟩; have n0_ := Aside0.mk (below_step (by repeat (first | (with_reducible first | exact HB.out | apply below_alloc | apply pw_below_drewN | apply below_drew1) | exact HB.out)) hb); clear HB; have HB := n0_; clear n0_; (try clear hb); (try clear hb2); (try clear hk); (try clear hi)) | (go_at_call 19; (with_reducible refine (gambrelref13_Text.calls k a0 t167 _ A12.out).mono ?_); rintro e w' ⟨rfl, ⟨nd, rfl⟩⟩) | (go_at_call 17; (with_reducible refine (crc_Text.calls t162 t168 _ A17.out (LG.below HLG.out (by repeat (first | (with_reducible first | exact HB.out | apply below_alloc | apply pw_below_drewN | apply below_drew1) | exact HB.out)))).mono ?_); rintro e w23 ⟨rfl, hb⟩; have n0_ := Aside0.mk (below_step (by repeat (first | (with_reducible first | exact HB.out | apply below_alloc | apply pw_below_drewN | apply below_drew1) | exact HB.out)) hb); clear HB; have HB := n0_; clear n0_; (try clear hb); (try clear hb2); (try clear hk); (try clear hi)))
                go_ret
                exact ⟨by first | rfl | (simp [errW_none, errW_some] <;> rfl) | (simp [*, errW_none, errW_some] <;> rfl), by repeat (first | (with_reducible first | exact HB.out | apply below_alloc | apply pw_below_drewN | apply below_drew1) | exact HB.out)⟩
              · replace c16 := Bool.eq_false_iff.mpr c16
                subst c16
                have H1 : (some true) = some r := by rw [if_neg (show ¬ (false = true) by decide)] at H; exact H
                clear H
                have H := H1
                clear H1
                obtain rfl := Option.some.inj H
                go_enter Tryd.func8, Tryd.ntmps8
                go_wp2_with (first | ((with_reducible refine gate_callee (f := 9) rfl ?_); refine goesL_ (some 12) rfl rfl Tryd.func9 (by kernel_rfl) rfl #[] rfl (by (try simp only [List.map_toArray, List.map_cons, List.map_nil]); first | done | rfl | (simp only [List.length_drop, List.length_take]; rfl)) ?_; (with_reducible refine (gambrellaw13_awake.calls true _ A3.out (LG.below HLG.out (by repeat (first | (with_reducible first | exact HB.out | apply below_alloc | apply pw_below_drewN | apply below_drew1) | exact HB.out)))).mono ?_); rintro e w24 ⟨rfl, hb⟩; refine ⟨_, rfl, ?_⟩; have n0_ := Aside0.mk (below_step (by repeat (first | (with_reducible first | exact HB.out | apply below_alloc | apply pw_below_drewN | apply below_drew1) | exact HB.out)) hb); clear HB; have HB := n0_; clear n0_; (try clear hb); (try clear hb2); (try clear hk); (try clear hi)) | ((with_reducible refine gate_callee (f := 17) rfl ?_); refine goesL_ (some 15) rfl rfl Tryd.func17 (by kernel_rfl) rfl #[.int .u32 a0] rfl (by (try simp only [List.map_toArray, List.map_cons, List.map_nil]); first | done | rfl | (simp only [List.length_drop, List.length_take]; rfl)) ?_; (with_reducible refine (crc_Text.calls a0 t159 _ A4.out (LG.below HLG.out (by repeat (first | (with_reducible first | exact HB.out | apply below_alloc | apply pw_below_drewN | apply below_drew1) | exact HB.out)))).mono ?_); rintro e w25 ⟨rfl, hb⟩; refine ⟨_, rfl, ?_⟩; have n0_ := Aside0.mk (below_step (by repeat (first | (with_reducible first | exact HB.out | apply below_alloc | apply pw_below_drewN | apply below_drew1) | exact HB.out)) hb); clear HB; have HB := n0_; clear n0_; (try clear hb); (try clear hb2); (try clear hk); (try clear hi)) | ((with_reducible refine gate_callee (f := 16) rfl ?_); refine goesL_ (some 16) rfl rfl Tryd.func16 (by kernel_rfl) rfl #[.string t159] rfl (by (try simp only [List.map_toArray, List.map_cons, List.map_nil]); first | done | rfl | (simp only [List.length_drop, List.length_take]; rfl)) ?_; (with_reducible refine (crc_Read.calls t159 t160 true _ A5.out (LG.below HLG.out (by repeat (first | (with_reducible first | exact HB.out | apply below_alloc | apply pw_below_drewN | apply below_drew1) | exact HB.out)))).mono ?_); rintro e w26 ⟨rfl, hb⟩; refine ⟨_, rfl, ?_⟩; have n0_ := Aside0.mk (below_step (by repeat (first | (with_reducible first | exact HB.out | apply below_alloc | apply pw_below_drewN | apply below_drew1) | exact HB.out)) hb); clear HB; have HB := n0_; clear n0_; (try clear hb); (try clear hb2); (try clear hk); (try clear hi)) | ((with_reducible refine gate_callee (f := 16) rfl ?_); refine goesL_ (some 21) rfl rfl Tryd.func16 (by kernel_rfl) rfl #[.string a1] rfl (by (try simp only [List.map_toArray, List.map_cons, List.map_nil]); first | done | rfl | (simp only [List.length_drop, List.length_take]; rfl)) ?_; (with_reducible refine (crc_Read.calls a1 t162 false _ A6.out (LG.below HLG.out (by repeat (first | (with_reducible first | exact HB.out | apply below_alloc | apply pw_below_drewN | apply below_drew1) | exact HB.out)))).mono ?_); rintro e w27 ⟨rfl, hb⟩; refine ⟨_, rfl, ?_⟩; have n0_ := Aside0.mk (below_step (by repeat (first | (with_reducible first | exact HB.out | apply below_alloc | apply pw_below_drewN | apply below_drew1) | exact HB.out)) hb); clear HB; have HB := n0_; clear n0_; (try clear hb); (try clear hb2); (try clear hk); (try clear hi)) | ((with_reducible refine gate_callee (f := 18) rfl ?_); refine goesL_ (some 26) rfl rfl Tryd.func18 (by kernel_rfl) rfl #[.string a1] rfl (by (try simp only [List.map_toArray, List.map_cons, List.map_nil]); first | done | rfl | (simp only [List.length_drop, List.length_take]; rfl)) ?_; (with_reducible refine (gambrelref13_Read.calls k a1 t164 t165 _ A7.out).mono ?_); rintro e w' ⟨rfl, ⟨nd, rfl⟩⟩; refine ⟨_, rfl, ?_⟩) | (go_at_call 17; (with_reducible refine (crc_Text.calls a0 t166 _ A11.out (LG.below HLG.out (by repeat (first | (with_reducible first | exact HB.out | apply below_alloc | apply pw_below_drewN | apply below_drew1) | exact HB.out)))).mono ?_); rintro e w28 ⟨rfl, hb⟩; have n0_ := Aside0.mk (below_step (by repeat (first | (with_reducible first | exact HB.out | apply below_alloc | apply pw_below_drewN | apply below_drew1) | exact HB.out)) hb); clear HB; have HB := n0_; clear n0_; (try clear hb); (try clear hb2); (try clear hk); (try clear hi)) | (go_at_call 19; (with_reducible refine (gambrelref13_Text.calls k a0 t167 _ A12.out).mono ?_); rintro e w' ⟨rfl, ⟨nd, rfl⟩⟩))
                go_ret
                exact ⟨by first | rfl | (simp [errW_none, errW_some] <;> rfl) | (simp [*, errW_none, errW_some] <;> rfl), by repeat (first | (with_reducible first | exact HB.out | apply below_alloc | apply pw_below_drewN | apply below_drew1) | exact HB.out)⟩
            · rw [if_neg c15] at H
              exact absurd H (by simp)
          · rw [if_neg c14] at H
            exact absurd H (by simp)
        · rw [if_neg c13] at H
          exact absurd H (by simp)
      · rw [if_neg c10] at H
        exact absurd H (by simp)
    · replace c9 := Bool.eq_false_iff.mpr c9
      subst c9
      have H1 : (none) = some r := by rw [if_neg (show ¬ (false = true) by decide)] at H; exact H
      clear H
      have H := H1
      clear H1
      exact absurd H (by simp)
  · replace c8 := Bool.eq_false_iff.mpr c8
    subst c8
    have H1 : (none) = some r := by rw [if_neg (show ¬ (false = true) by decide)] at H; exact H
    clear H
    have H := H1
    clear H1
    exact absurd H (by simp)

/-- THE ONE PURE STATEMENT of gambrellaw13_CrcText: yours. -/
def gambrellaw13_CrcText.Pure : Prop := ∀ (a0 : Int) (a1 : ByteArray), (Lit.int .u32 a0).wf = true → a1.size ≤ 140737488351232 → ∃ k, gambrellaw13_CrcText.f k a0 a1 = some true
theorem gambrellaw13_CrcText.walk (P : gambrellaw13_CrcText.Pure) (a0 : Int) (a1 : ByteArray) (w : World) (w0 : (Lit.int .u32 a0).wf = true) (w1 : a1.size ≤ 140737488351232) (hlg : LG w) :
    Calls Tryd.prog 8 #[.int .u32 a0, .string a1] w fun e w' => e = .returned (.bool true) ∧ Below w.heap.size w w' := by
  obtain ⟨k, h⟩ := P a0 a1 w0 w1
  refine (gambrellaw13_CrcText.calls k a0 a1 true w h hlg).mono ?_
  rintro e w' ⟨rfl, hd⟩
  exact ⟨rfl, hd⟩

end Go.Proofs.YtibnbapbgbcpoaaDoor.P
