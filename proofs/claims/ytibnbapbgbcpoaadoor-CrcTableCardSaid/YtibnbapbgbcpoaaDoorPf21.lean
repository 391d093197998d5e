-- Written by a program of this seat (wip/tools/stage.py) out of the translation. Lean checks it.
import Derived.Test.YtibnbapbgbcpoaaDoorP0
import Derived.Test.YtibnbapbgbcpoaaDoorPf25
namespace Go.Proofs.YtibnbapbgbcpoaaDoor.P
open Go.RowKit Go.Proofs.YtibnbapbgbcpoaaDoorW.PrintWords Go.Proofs.YtibnbapbgbcpoaaDoorW.PrintLast Go.Proofs.YtibnbapbgbcpoaaDoorW.PrintMore
attribute [local go_sem] max2_int min2_int max_two min_two max_three min_three max_four min_four   -- for this text's walks alone
set_option linter.unusedVariables false
set_option linter.unusedSimpArgs false

/-! ### gambrelref13_take: function 21 -/
def gambrelref13_take.l0 : Nat → Int → Int → Option (Int)
  | 0, _, _ => none
  | k + 1, x0, x5 => if x5 < 8 then ((gambrelref13_step.f x0).bind fun t102 => (gambrelref13_take.l0 k t102 (wrap64 (x5 + 1)))) else (some x0)
def gambrelref13_take.f (k : Nat) (a0 : Int) (a1 : Int) : Option (Int) := gambrelref13_take.l0 k (Go.bits .xor .u32 a0 ((a1) % 4294967296)) 0
theorem gambrelref13_take.mono_l : ∀ k, (∀ y0 y1, LeO (gambrelref13_take.l0 k y0 y1) (gambrelref13_take.l0 (k + 1) y0 y1))
  | 0 => fun _ _ r h => by simp [gambrelref13_take.l0] at h
  | k + 1 => by
    have ih0 := gambrelref13_take.mono_l k
    · intro y0 y1
      unfold gambrelref13_take.l0
      repeat' first
      | (with_reducible exact ih0 _ _)
      | (with_reducible exact LeO.refl _)
      | (with_reducible exact LeO.none _)
      | (with_reducible refine LeO.ite ?_ ?_)
      | (with_reducible refine LeO.bind ?_ (fun _ => ?_))
      | exact ih0 _ _
      | exact LeO.none _
      | refine LeO.ite ?_ ?_
      | refine LeO.bind ?_ (fun _ => ?_)
theorem gambrelref13_take.mono : ∀ a0 a1 k, LeO (gambrelref13_take.f k a0 a1) (gambrelref13_take.f (k + 1) a0 a1) := by
  intro a0 a1 k
  have ih0 := gambrelref13_take.mono_l k
  unfold gambrelref13_take.f
  repeat' first
      | (with_reducible exact ih0 _ _)
      | (with_reducible exact LeO.refl _)
      | (with_reducible exact LeO.none _)
      | (with_reducible refine LeO.ite ?_ ?_)
      | (with_reducible refine LeO.bind ?_ (fun _ => ?_))
      | exact ih0 _ _
      | exact LeO.none _
      | refine LeO.ite ?_ ?_
      | refine LeO.bind ?_ (fun _ => ?_)
set_option maxHeartbeats 8000000 in
set_option maxRecDepth 100000 in
theorem gambrelref13_take.calls (k : Nat) (a0 : Int) (a1 : Int) (r : Int) (w : World) (h : gambrelref13_take.f k a0 a1 = some r) :
    Calls Tryd.prog 21 #[.int .u32 a0, .int .u8 a1] w fun e w' => e = .returned (.int .u32 r) ∧ Drawn0 w w' := by
  have H : (gambrelref13_take.l0 k (Go.bits .xor .u32 a0 ((a1) % 4294967296)) 0) = some r := h
  clear h
  have H' := Aside0.mk H
  clear H
  go_enter Tryd.func21, Tryd.ntmps21
  go_wp2
  go_loopg [0, 5] k (fun kq v0 v5 w' => ∃ (x0_1 : Int) (x5_1 : Int), v0 = .int .u32 x0_1 ∧ v5 = .int .i64 x5_1 ∧ Aside0 (gambrelref13_take.l0 kq x0_1 x5_1 = some r) ∧ Aside0 (kq ≤ k) ∧ Drawn0 w w')
  case atStart => exact ⟨(Go.bits .xor .u32 a0 ((a1) % 4294967296)), (0), (by first | rfl | (simp; done) | (simp [*]; done)), (by first | rfl | (simp; done) | (simp [*]; done)), H', ⟨Nat.le_refl _⟩, by repeat (first | exact Drawn0.refl _ | apply Drawn0.step)⟩
  case round =>
    clear H'
    try clear c2
    try clear p2
    obtain ⟨x0_1, x5_1, rfl, rfl, HA, HK1, ⟨m1, rfl⟩⟩ := hrel
    cases gk with
    | zero => exact absurd HA.out (by simp [gambrelref13_take.l0])
    | succ k1 =>
      have H := HA.out
      clear HA
      simp only [gambrelref13_take.l0] at H
      by_cases c3 : x5_1 < 8
      · rw [if_pos c3] at H
        have c3b0 : decide (x5_1 < 8) = true := decide_eq_true c3
        clear c3
        replace H := Option.bind_eq_some_iff.mp H
        obtain ⟨t102, A40, H⟩ := H
        replace H : (gambrelref13_take.l0 k1 t102 (wrap64 (x5_1 + 1))) = some r := H
        have A4 := Aside0.mk A40
        clear A40
        have H' := Aside0.mk H
        clear H
        go_wp2_with (first | ((with_reducible refine gate_callee (f := 25) rfl ?_); refine goesL_ (some 15) rfl rfl Tryd.func25 (by kernel_rfl) rfl #[.int .u32 x0_1] rfl (by (try simp only [List.map_toArray, List.map_cons, List.map_nil]); first | done | rfl | (simp only [List.length_drop, List.length_take]; rfl)) ?_; (with_reducible refine (gambrelref13_step.calls x0_1 t102 _ A4.out).mono ?_); rintro e w' ⟨rfl, ⟨nd, rfl⟩⟩; refine ⟨_, rfl, ?_⟩))
        go_roundg k1
        case measure => have := HK1.out; omega
        case rel => exact ⟨(t102), (wrap64 (x5_1 + 1)), (by first | rfl | (simp; done) | (simp [*]; done)), (by first | rfl | (simp; done) | (simp [*]; done)), H', ⟨by have := HK1.out; omega⟩, by repeat (first | exact Drawn0.refl _ | apply Drawn0.step)⟩
      · rw [if_neg c3] at H
        have c3b0 : decide (x5_1 < 8) = false := decide_eq_false c3
        clear c3
        obtain rfl := Option.some.inj H
        go_wp2
        go_ret
        exact ⟨by first | rfl | (simp; done) | (simp [*]; done), by repeat (first | exact Drawn0.refl _ | apply Drawn0.step)⟩

end Go.Proofs.YtibnbapbgbcpoaaDoor.P
