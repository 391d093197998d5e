/- Written by a program of this seat (wip/tools/stage.py) out of the translation: what each function of this text returns, where its plain form returns. Lean checks it. -/
import Derived.Test.YtibcgallhldnnaaP0
namespace Go.Proofs.Ytibcgallhldnnaa.P
open Go.RowKit Go.Proofs.YtibcgallhldnnaaW.PrintWords Go.Proofs.YtibcgallhldnnaaW.PrintLast Go.Proofs.YtibcgallhldnnaaW.PrintMore
attribute [local go_sem] max2_int min2_int max_two min_two max_three min_three max_four min_four   -- for this text's walks alone
set_option linter.unusedVariables false
set_option linter.unusedSimpArgs false

/-! ### gambrelref10_unit: function 24 -/
def gambrelref10_unit.f (a0 : Int) : Option (Int) := if a0 = 106 then (some 8) else (if a0 = 105 then (some 16) else (some 1))
set_option maxHeartbeats 8000000 in
set_option maxRecDepth 100000 in
theorem gambrelref10_unit.calls (a0 : Int) (r : Int) (w : World) (h : gambrelref10_unit.f a0 = some r) :
    Calls Try.prog 24 #[.int .u8 a0] w fun e w' => e = .returned (.int .i64 r) ∧ Drawn0 w w' := by
  have H : (if a0 = 106 then (some 8) else (if a0 = 105 then (some 16) else (some 1))) = some r := h
  clear h
  by_cases c2 : a0 = 106
  · rw [if_pos c2] at H
    have c2b0 : (a0 == 106) = true := beq_iff_eq.mpr c2
    have c2b1 : (a0 != 106) = false := bne_eq_false_iff_eq.mpr c2
    clear c2
    obtain rfl := Option.some.inj H
    go_enter Try.func24, Try.ntmps24
    go_wp2
    go_ret
    exact ⟨by first | rfl | (simp; done) | (simp [*]; done), by repeat (first | exact Drawn0.refl _ | apply Drawn0.step)⟩
  · rw [if_neg c2] at H
    have c2b0 : (a0 == 106) = false := beq_eq_false_iff_ne.mpr c2
    have c2b1 : (a0 != 106) = true := bne_iff_ne.mpr c2
    by_cases c3 : a0 = 105
    · rw [if_pos c3] at H
      have c3b0 : (a0 == 105) = true := beq_iff_eq.mpr c3
      have c3b1 : (a0 != 105) = false := bne_eq_false_iff_eq.mpr c3
      clear c3
      obtain rfl := Option.some.inj H
      go_enter Try.func24, Try.ntmps24
      go_wp2
      go_ret
      exact ⟨by first | rfl | (simp; done) | (simp [*]; done), by repeat (first | exact Drawn0.refl _ | apply Drawn0.step)⟩
    · rw [if_neg c3] at H
      have c3b0 : (a0 == 105) = false := beq_eq_false_iff_ne.mpr c3
      have c3b1 : (a0 != 105) = true := bne_iff_ne.mpr c3
      obtain rfl := Option.some.inj H
      go_enter Try.func24, Try.ntmps24
      go_wp2
      go_ret
      exact ⟨by first | rfl | (simp; done) | (simp [*]; done), by repeat (first | exact Drawn0.refl _ | apply Drawn0.step)⟩

end Go.Proofs.Ytibcgallhldnnaa.P
