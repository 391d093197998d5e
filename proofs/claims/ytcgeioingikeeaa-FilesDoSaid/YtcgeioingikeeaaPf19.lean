/- Written by a program of this seat (wip/tools/stage.py) out of the translation: what each function of this text returns, where its plain form returns. Lean checks it. -/
import Derived.Test.YtcgeioingikeeaaP0
import Derived.Test.YtcgeioingikeeaaPf24
import Derived.Test.YtcgeioingikeeaaPf30
namespace Go.Proofs.Ytcgeioingikeeaa.P
open Go.RowKit Go.Proofs.YtcgeioingikeeaaW.PrintWords Go.Proofs.YtcgeioingikeeaaW.PrintLast Go.Proofs.YtcgeioingikeeaaW.PrintMore
attribute [local go_sem] max2_int min2_int max_two min_two max_three min_three max_four min_four   -- for this text's walks alone
set_option linter.unusedVariables false
set_option linter.unusedSimpArgs false

/-! ### gambrelref17_Do: function 19 -/
mutual
def gambrelref17_Do.j0 : Nat → List (S38) → Int → Bool → ByteArray → Int → Int → List Int → Option ((List (S38)) × Int)
  | 0, _, _, _, _, _, _, _ => none
  | k + 1, x0, x2, x43, x135000, x135001, x135002, x135003 => if x43 = true then (some (([] : List (S38)), 1)) else (if x2 ≥ 0 then (gambrelref17_Do.j1 k x0 x2 x135003 (decide (x2 < (x135003.length : Int))) x135000 x135001 x135002 x135003) else (gambrelref17_Do.j1 k x0 x2 x135003 false x135000 x135001 x135002 x135003))
def gambrelref17_Do.j1 : Nat → List (S38) → Int → List Int → Bool → ByteArray → Int → Int → List Int → Option ((List (S38)) × Int)
  | 0, _, _, _, _, _, _, _, _ => none
  | k + 1, x0, x2, x8, x53, x135000, x135001, x135002, x135003 => if x53 = true then (if 0 ≤ x2 then (if x2 ≤ (x8.length : Int) then (gambrelref17_Do.j2 k x0 (x8.take (x2 : Int).toNat) x135000 x135001 x135002 x135003) else (none)) else (none)) else (gambrelref17_Do.j2 k x0 x8 x135000 x135001 x135002 x135003)
def gambrelref17_Do.j2 : Nat → List (S38) → List Int → ByteArray → Int → Int → List Int → Option ((List (S38)) × Int)
  | 0, _, _, _, _, _, _ => none
  | k + 1, x0, x8, x135000, x135001, x135002, x135003 => (gambrelref17_Get.f k x0 x135000).bind fun bt140 => (if x135001 = 2 then (gambrelref17_Do.j3 k x0 x8 bt140.1 (bt140.1.length : Int) x135000 x135001 x135002 x135003) else (gambrelref17_Do.j3 k x0 x8 bt140.1 0 x135000 x135001 x135002 x135003))
def gambrelref17_Do.j3 : Nat → List (S38) → List Int → List Int → Int → ByteArray → Int → Int → List Int → Option ((List (S38)) × Int)
  | 0, _, _, _, _, _, _, _, _ => none
  | k + 1, x0, x8, x9, x11, x135000, x135001, x135002, x135003 => if x135001 = 3 then (gambrelref17_Do.j4 k x0 x8 x9 x135002 x135000 x135001 x135002 x135003) else (gambrelref17_Do.j4 k x0 x8 x9 x11 x135000 x135001 x135002 x135003)
def gambrelref17_Do.j4 : Nat → List (S38) → List Int → List Int → Int → ByteArray → Int → Int → List Int → Option ((List (S38)) × Int)
  | 0, _, _, _, _, _, _, _, _ => none
  | k + 1, x0, x8, x9, x11, x135000, x135001, x135002, x135003 => if x11 > 65536 then (gambrelref17_Do.j5 k x0 x8 x9 x11 true x135000 x135001 x135002 x135003) else (if (wrap64 (x11 + (x8.length : Int))) > 65536 then (gambrelref17_Do.j5 k x0 x8 x9 x11 true x135000 x135001 x135002 x135003) else (if x135001 = 3 then (gambrelref17_Do.j5 k x0 x8 x9 x11 (decide ((x9.length : Int) > 65536)) x135000 x135001 x135002 x135003) else (gambrelref17_Do.j5 k x0 x8 x9 x11 false x135000 x135001 x135002 x135003)))
def gambrelref17_Do.j5 : Nat → List (S38) → List Int → List Int → Int → Bool → ByteArray → Int → Int → List Int → Option ((List (S38)) × Int)
  | 0, _, _, _, _, _, _, _, _, _ => none
  | k + 1, x0, x8, x9, x11, x92, x135000, x135001, x135002, x135003 => if x92 = true then (some (([] : List (S38)), 11)) else (if (x8.length : Int) = 0 then (gambrelref17_Do.j6 k x0 x8 x9 x11 (decide ((x135003.length : Int) > 0)) x135000 x135001 x135002 x135003) else (gambrelref17_Do.j6 k x0 x8 x9 x11 false x135000 x135001 x135002 x135003))
def gambrelref17_Do.j6 : Nat → List (S38) → List Int → List Int → Int → Bool → ByteArray → Int → Int → List Int → Option ((List (S38)) × Int)
  | 0, _, _, _, _, _, _, _, _, _ => none
  | k + 1, x0, x8, x9, x11, x101, x135000, x135001, x135002, x135003 => if x101 = true then (some (x0, 0)) else (if x135001 = 1 then (gambrelref17_Do.j7 k x0 x8 x11 ([] : List Int) x135000 x135001 x135002 x135003) else (if ([] : List Int).length + x9.length < 140737488355328 then (gambrelref17_Do.j7 k x0 x8 x11 (([] : List Int) ++ x9) x135000 x135001 x135002 x135003) else (none)))
def gambrelref17_Do.j7 : Nat → List (S38) → List Int → Int → List Int → ByteArray → Int → Int → List Int → Option ((List (S38)) × Int)
  | 0, _, _, _, _, _, _, _, _ => none
  | k + 1, x0, x8, x11, x12, x135000, x135001, x135002, x135003 => gambrelref17_Do.l0 k x0 x8 x11 x12 x135000 x135001 x135002 x135003
def gambrelref17_Do.l0 : Nat → List (S38) → List Int → Int → List Int → ByteArray → Int → Int → List Int → Option ((List (S38)) × Int)
  | 0, _, _, _, _, _, _, _, _ => none
  | k + 1, x0, x8, x11, x12, x135000, x135001, x135002, x135003 => if (x12.length : Int) < x11 then (if x12.length < 140737488355328 then (gambrelref17_Do.l0 k x0 x8 x11 (x12 ++ [0]) x135000 x135001 x135002 x135003) else (none)) else (gambrelref17_Do.l1 k x0 x8 x11 x12 0 x135000 x135001 x135002 x135003)
def gambrelref17_Do.l1 : Nat → List (S38) → List Int → Int → List Int → Int → ByteArray → Int → Int → List Int → Option ((List (S38)) × Int)
  | 0, _, _, _, _, _, _, _, _, _ => none
  | k + 1, x0, x8, x11, x12, x13, x135000, x135001, x135002, x135003 => if x13 < (x8.length : Int) then (if (wrap64 (x11 + x13)) < (x12.length : Int) then (if 0 ≤ x13 then (if 0 ≤ (wrap64 (x11 + x13)) then (gambrelref17_Do.l1 k x0 x8 x11 (x12.set ((wrap64 (x11 + x13)) : Int).toNat (rd x8 x13)) (wrap64 (x13 + 1)) x135000 x135001 x135002 x135003) else (none)) else (none)) else (if 0 ≤ x13 then (if x12.length < 140737488355328 then (gambrelref17_Do.l1 k x0 x8 x11 (x12 ++ [rd x8 x13]) (wrap64 (x13 + 1)) x135000 x135001 x135002 x135003) else (none)) else (none))) else ((gambrelref17_Put.f k x0 x135000 x12).bind fun t156 => (some (t156, 0)))
end
def gambrelref17_Do.f (k : Nat) (l0 : List (S38)) (a1_0 : ByteArray) (a1_1 : Int) (a1_2 : Int) (l1_3 : List Int) (a2 : Int) : Option ((List (S38)) × Int) := if a1_1 < 1 then (gambrelref17_Do.j0 k l0 a2 true a1_0 a1_1 a1_2 l1_3) else (if a1_1 > 3 then (gambrelref17_Do.j0 k l0 a2 true a1_0 a1_1 a1_2 l1_3) else (if (a1_0.size : Int) < 1 then (gambrelref17_Do.j0 k l0 a2 true a1_0 a1_1 a1_2 l1_3) else (if (a1_0.size : Int) > 40 then (gambrelref17_Do.j0 k l0 a2 true a1_0 a1_1 a1_2 l1_3) else (if a1_1 = 3 then (gambrelref17_Do.j0 k l0 a2 (decide (a1_2 < 0)) a1_0 a1_1 a1_2 l1_3) else (gambrelref17_Do.j0 k l0 a2 false a1_0 a1_1 a1_2 l1_3)))))
theorem gambrelref17_Do.mono_l : ∀ k, (∀ y0 y1 y2 y3 y4 y5 y6, LeO (gambrelref17_Do.j0 k y0 y1 y2 y3 y4 y5 y6) (gambrelref17_Do.j0 (k + 1) y0 y1 y2 y3 y4 y5 y6)) ∧ (∀ y0 y1 y2 y3 y4 y5 y6 y7, LeO (gambrelref17_Do.j1 k y0 y1 y2 y3 y4 y5 y6 y7) (gambrelref17_Do.j1 (k + 1) y0 y1 y2 y3 y4 y5 y6 y7)) ∧ (∀ y0 y1 y2 y3 y4 y5, LeO (gambrelref17_Do.j2 k y0 y1 y2 y3 y4 y5) (gambrelref17_Do.j2 (k + 1) y0 y1 y2 y3 y4 y5)) ∧ (∀ y0 y1 y2 y3 y4 y5 y6 y7, LeO (gambrelref17_Do.j3 k y0 y1 y2 y3 y4 y5 y6 y7) (gambrelref17_Do.j3 (k + 1) y0 y1 y2 y3 y4 y5 y6 y7)) ∧ (∀ y0 y1 y2 y3 y4 y5 y6 y7, LeO (gambrelref17_Do.j4 k y0 y1 y2 y3 y4 y5 y6 y7) (gambrelref17_Do.j4 (k + 1) y0 y1 y2 y3 y4 y5 y6 y7)) ∧ (∀ y0 y1 y2 y3 y4 y5 y6 y7 y8, LeO (gambrelref17_Do.j5 k y0 y1 y2 y3 y4 y5 y6 y7 y8) (gambrelref17_Do.j5 (k + 1) y0 y1 y2 y3 y4 y5 y6 y7 y8)) ∧ (∀ y0 y1 y2 y3 y4 y5 y6 y7 y8, LeO (gambrelref17_Do.j6 k y0 y1 y2 y3 y4 y5 y6 y7 y8) (gambrelref17_Do.j6 (k + 1) y0 y1 y2 y3 y4 y5 y6 y7 y8)) ∧ (∀ y0 y1 y2 y3 y4 y5 y6 y7, LeO (gambrelref17_Do.j7 k y0 y1 y2 y3 y4 y5 y6 y7) (gambrelref17_Do.j7 (k + 1) y0 y1 y2 y3 y4 y5 y6 y7)) ∧ (∀ y0 y1 y2 y3 y4 y5 y6 y7, LeO (gambrelref17_Do.l0 k y0 y1 y2 y3 y4 y5 y6 y7) (gambrelref17_Do.l0 (k + 1) y0 y1 y2 y3 y4 y5 y6 y7)) ∧ (∀ y0 y1 y2 y3 y4 y5 y6 y7 y8, LeO (gambrelref17_Do.l1 k y0 y1 y2 y3 y4 y5 y6 y7 y8) (gambrelref17_Do.l1 (k + 1) y0 y1 y2 y3 y4 y5 y6 y7 y8))
  | 0 => ⟨fun _ _ _ _ _ _ _ r h => by simp [gambrelref17_Do.j0] at h, fun _ _ _ _ _ _ _ _ r h => by simp [gambrelref17_Do.j1] at h, fun _ _ _ _ _ _ r h => by simp [gambrelref17_Do.j2] at h, fun _ _ _ _ _ _ _ _ r h => by simp [gambrelref17_Do.j3] at h, fun _ _ _ _ _ _ _ _ r h => by simp [gambrelref17_Do.j4] at h, fun _ _ _ _ _ _ _ _ _ r h => by simp [gambrelref17_Do.j5] at h, fun _ _ _ _ _ _ _ _ _ r h => by simp [gambrelref17_Do.j6] at h, fun _ _ _ _ _ _ _ _ r h => by simp [gambrelref17_Do.j7] at h, fun _ _ _ _ _ _ _ _ r h => by simp [gambrelref17_Do.l0] at h, fun _ _ _ _ _ _ _ _ _ r h => by simp [gambrelref17_Do.l1] at h⟩
  | k + 1 => by
    obtain ⟨ih0, ih1, ih2, ih3, ih4, ih5, ih6, ih7, ih8, ih9⟩ := gambrelref17_Do.mono_l k
    refine ⟨?_, ?_, ?_, ?_, ?_, ?_, ?_, ?_, ?_, ?_⟩
    · intro y0 y1 y2 y3 y4 y5 y6
      unfold gambrelref17_Do.j0
      repeat' first
      | (with_reducible exact ih0 _ _ _ _ _ _ _)
      | (with_reducible exact ih1 _ _ _ _ _ _ _ _)
      | (with_reducible exact ih2 _ _ _ _ _ _)
      | (with_reducible exact ih3 _ _ _ _ _ _ _ _)
      | (with_reducible exact ih4 _ _ _ _ _ _ _ _)
      | (with_reducible exact ih5 _ _ _ _ _ _ _ _ _)
      | (with_reducible exact ih6 _ _ _ _ _ _ _ _ _)
      | (with_reducible exact ih7 _ _ _ _ _ _ _ _)
      | (with_reducible exact ih8 _ _ _ _ _ _ _ _)
      | (with_reducible exact ih9 _ _ _ _ _ _ _ _ _)
      | (with_reducible exact gambrelref17_Get.mono _ _ _)
      | (with_reducible exact gambrelref17_Put.mono _ _ _ _)
      | (with_reducible exact LeO.refl _)
      | (with_reducible exact LeO.none _)
      | (with_reducible refine LeO.ite ?_ ?_)
      | (with_reducible refine LeO.bind ?_ (fun _ => ?_))
      | exact ih0 _ _ _ _ _ _ _
      | exact ih1 _ _ _ _ _ _ _ _
      | exact ih2 _ _ _ _ _ _
      | exact ih3 _ _ _ _ _ _ _ _
      | exact ih4 _ _ _ _ _ _ _ _
      | exact ih5 _ _ _ _ _ _ _ _ _
      | exact ih6 _ _ _ _ _ _ _ _ _
      | exact ih7 _ _ _ _ _ _ _ _
      | exact ih8 _ _ _ _ _ _ _ _
      | exact ih9 _ _ _ _ _ _ _ _ _
      | exact gambrelref17_Get.mono _ _ _
      | exact gambrelref17_Put.mono _ _ _ _
      | exact LeO.none _
      | refine LeO.ite ?_ ?_
      | refine LeO.bind ?_ (fun _ => ?_)
    · intro y0 y1 y2 y3 y4 y5 y6 y7
      unfold gambrelref17_Do.j1
      repeat' first
      | (with_reducible exact ih0 _ _ _ _ _ _ _)
      | (with_reducible exact ih1 _ _ _ _ _ _ _ _)
      | (with_reducible exact ih2 _ _ _ _ _ _)
      | (with_reducible exact ih3 _ _ _ _ _ _ _ _)
      | (with_reducible exact ih4 _ _ _ _ _ _ _ _)
      | (with_reducible exact ih5 _ _ _ _ _ _ _ _ _)
      | (with_reducible exact ih6 _ _ _ _ _ _ _ _ _)
      | (with_reducible exact ih7 _ _ _ _ _ _ _ _)
      | (with_reducible exact ih8 _ _ _ _ _ _ _ _)
      | (with_reducible exact ih9 _ _ _ _ _ _ _ _ _)
      | (with_reducible exact gambrelref17_Get.mono _ _ _)
      | (with_reducible exact gambrelref17_Put.mono _ _ _ _)
      | (with_reducible exact LeO.refl _)
      | (with_reducible exact LeO.none _)
      | (with_reducible refine LeO.ite ?_ ?_)
      | (with_reducible refine LeO.bind ?_ (fun _ => ?_))
      | exact ih0 _ _ _ _ _ _ _
      | exact ih1 _ _ _ _ _ _ _ _
      | exact ih2 _ _ _ _ _ _
      | exact ih3 _ _ _ _ _ _ _ _
      | exact ih4 _ _ _ _ _ _ _ _
      | exact ih5 _ _ _ _ _ _ _ _ _
      | exact ih6 _ _ _ _ _ _ _ _ _
      | exact ih7 _ _ _ _ _ _ _ _
      | exact ih8 _ _ _ _ _ _ _ _
      | exact ih9 _ _ _ _ _ _ _ _ _
      | exact gambrelref17_Get.mono _ _ _
      | exact gambrelref17_Put.mono _ _ _ _
      | exact LeO.none _
      | refine LeO.ite ?_ ?_
      | refine LeO.bind ?_ (fun _ => ?_)
    · intro y0 y1 y2 y3 y4 y5
      unfold gambrelref17_Do.j2
      repeat' first
      | (with_reducible exact ih0 _ _ _ _ _ _ _)
      | (with_reducible exact ih1 _ _ _ _ _ _ _ _)
      | (with_reducible exact ih2 _ _ _ _ _ _)
      | (with_reducible exact ih3 _ _ _ _ _ _ _ _)
      | (with_reducible exact ih4 _ _ _ _ _ _ _ _)
      | (with_reducible exact ih5 _ _ _ _ _ _ _ _ _)
      | (with_reducible exact ih6 _ _ _ _ _ _ _ _ _)
      | (with_reducible exact ih7 _ _ _ _ _ _ _ _)
      | (with_reducible exact ih8 _ _ _ _ _ _ _ _)
      | (with_reducible exact ih9 _ _ _ _ _ _ _ _ _)
      | (with_reducible exact gambrelref17_Get.mono _ _ _)
      | (with_reducible exact gambrelref17_Put.mono _ _ _ _)
      | (with_reducible exact LeO.refl _)
      | (with_reducible exact LeO.none _)
      | (with_reducible refine LeO.ite ?_ ?_)
      | (with_reducible refine LeO.bind ?_ (fun _ => ?_))
      | exact ih0 _ _ _ _ _ _ _
      | exact ih1 _ _ _ _ _ _ _ _
      | exact ih2 _ _ _ _ _ _
      | exact ih3 _ _ _ _ _ _ _ _
      | exact ih4 _ _ _ _ _ _ _ _
      | exact ih5 _ _ _ _ _ _ _ _ _
      | exact ih6 _ _ _ _ _ _ _ _ _
      | exact ih7 _ _ _ _ _ _ _ _
      | exact ih8 _ _ _ _ _ _ _ _
      | exact ih9 _ _ _ _ _ _ _ _ _
      | exact gambrelref17_Get.mono _ _ _
      | exact gambrelref17_Put.mono _ _ _ _
      | exact LeO.none _
      | refine LeO.ite ?_ ?_
      | refine LeO.bind ?_ (fun _ => ?_)
    · intro y0 y1 y2 y3 y4 y5 y6 y7
      unfold gambrelref17_Do.j3
      repeat' first
      | (with_reducible exact ih0 _ _ _ _ _ _ _)
      | (with_reducible exact ih1 _ _ _ _ _ _ _ _)
      | (with_reducible exact ih2 _ _ _ _ _ _)
      | (with_reducible exact ih3 _ _ _ _ _ _ _ _)
      | (with_reducible exact ih4 _ _ _ _ _ _ _ _)
      | (with_reducible exact ih5 _ _ _ _ _ _ _ _ _)
      | (with_reducible exact ih6 _ _ _ _ _ _ _ _ _)
      | (with_reducible exact ih7 _ _ _ _ _ _ _ _)
      | (with_reducible exact ih8 _ _ _ _ _ _ _ _)
      | (with_reducible exact ih9 _ _ _ _ _ _ _ _ _)
      | (with_reducible exact gambrelref17_Get.mono _ _ _)
      | (with_reducible exact gambrelref17_Put.mono _ _ _ _)
      | (with_reducible exact LeO.refl _)
      | (with_reducible exact LeO.none _)
      | (with_reducible refine LeO.ite ?_ ?_)
      | (with_reducible refine LeO.bind ?_ (fun _ => ?_))
      | exact ih0 _ _ _ _ _ _ _
      | exact ih1 _ _ _ _ _ _ _ _
      | exact ih2 _ _ _ _ _ _
      | exact ih3 _ _ _ _ _ _ _ _
      | exact ih4 _ _ _ _ _ _ _ _
      | exact ih5 _ _ _ _ _ _ _ _ _
      | exact ih6 _ _ _ _ _ _ _ _ _
      | exact ih7 _ _ _ _ _ _ _ _
      | exact ih8 _ _ _ _ _ _ _ _
      | exact ih9 _ _ _ _ _ _ _ _ _
      | exact gambrelref17_Get.mono _ _ _
      | exact gambrelref17_Put.mono _ _ _ _
      | exact LeO.none _
      | refine LeO.ite ?_ ?_
      | refine LeO.bind ?_ (fun _ => ?_)
    · intro y0 y1 y2 y3 y4 y5 y6 y7
      unfold gambrelref17_Do.j4
      repeat' first
      | (with_reducible exact ih0 _ _ _ _ _ _ _)
      | (with_reducible exact ih1 _ _ _ _ _ _ _ _)
      | (with_reducible exact ih2 _ _ _ _ _ _)
      | (with_reducible exact ih3 _ _ _ _ _ _ _ _)
      | (with_reducible exact ih4 _ _ _ _ _ _ _ _)
      | (with_reducible exact ih5 _ _ _ _ _ _ _ _ _)
      | (with_reducible exact ih6 _ _ _ _ _ _ _ _ _)
      | (with_reducible exact ih7 _ _ _ _ _ _ _ _)
      | (with_reducible exact ih8 _ _ _ _ _ _ _ _)
      | (with_reducible exact ih9 _ _ _ _ _ _ _ _ _)
      | (with_reducible exact gambrelref17_Get.mono _ _ _)
      | (with_reducible exact gambrelref17_Put.mono _ _ _ _)
      | (with_reducible exact LeO.refl _)
      | (with_reducible exact LeO.none _)
      | (with_reducible refine LeO.ite ?_ ?_)
      | (with_reducible refine LeO.bind ?_ (fun _ => ?_))
      | exact ih0 _ _ _ _ _ _ _
      | exact ih1 _ _ _ _ _ _ _ _
      | exact ih2 _ _ _ _ _ _
      | exact ih3 _ _ _ _ _ _ _ _
      | exact ih4 _ _ _ _ _ _ _ _
      | exact ih5 _ _ _ _ _ _ _ _ _
      | exact ih6 _ _ _ _ _ _ _ _ _
      | exact ih7 _ _ _ _ _ _ _ _
      | exact ih8 _ _ _ _ _ _ _ _
      | exact ih9 _ _ _ _ _ _ _ _ _
      | exact gambrelref17_Get.mono _ _ _
      | exact gambrelref17_Put.mono _ _ _ _
      | exact LeO.none _
      | refine LeO.ite ?_ ?_
      | refine LeO.bind ?_ (fun _ => ?_)
    · intro y0 y1 y2 y3 y4 y5 y6 y7 y8
      unfold gambrelref17_Do.j5
      repeat' first
      | (with_reducible exact ih0 _ _ _ _ _ _ _)
      | (with_reducible exact ih1 _ _ _ _ _ _ _ _)
      | (with_reducible exact ih2 _ _ _ _ _ _)
      | (with_reducible exact ih3 _ _ _ _ _ _ _ _)
      | (with_reducible exact ih4 _ _ _ _ _ _ _ _)
      | (with_reducible exact ih5 _ _ _ _ _ _ _ _ _)
      | (with_reducible exact ih6 _ _ _ _ _ _ _ _ _)
      | (with_reducible exact ih7 _ _ _ _ _ _ _ _)
      | (with_reducible exact ih8 _ _ _ _ _ _ _ _)
      | (with_reducible exact ih9 _ _ _ _ _ _ _ _ _)
      | (with_reducible exact gambrelref17_Get.mono _ _ _)
      | (with_reducible exact gambrelref17_Put.mono _ _ _ _)
      | (with_reducible exact LeO.refl _)
      | (with_reducible exact LeO.none _)
      | (with_reducible refine LeO.ite ?_ ?_)
      | (with_reducible refine LeO.bind ?_ (fun _ => ?_))
      | exact ih0 _ _ _ _ _ _ _
      | exact ih1 _ _ _ _ _ _ _ _
      | exact ih2 _ _ _ _ _ _
      | exact ih3 _ _ _ _ _ _ _ _
      | exact ih4 _ _ _ _ _ _ _ _
      | exact ih5 _ _ _ _ _ _ _ _ _
      | exact ih6 _ _ _ _ _ _ _ _ _
      | exact ih7 _ _ _ _ _ _ _ _
      | exact ih8 _ _ _ _ _ _ _ _
      | exact ih9 _ _ _ _ _ _ _ _ _
      | exact gambrelref17_Get.mono _ _ _
      | exact gambrelref17_Put.mono _ _ _ _
      | exact LeO.none _
      | refine LeO.ite ?_ ?_
      | refine LeO.bind ?_ (fun _ => ?_)
    · intro y0 y1 y2 y3 y4 y5 y6 y7 y8
      unfold gambrelref17_Do.j6
      repeat' first
      | (with_reducible exact ih0 _ _ _ _ _ _ _)
      | (with_reducible exact ih1 _ _ _ _ _ _ _ _)
      | (with_reducible exact ih2 _ _ _ _ _ _)
      | (with_reducible exact ih3 _ _ _ _ _ _ _ _)
      | (with_reducible exact ih4 _ _ _ _ _ _ _ _)
      | (with_reducible exact ih5 _ _ _ _ _ _ _ _ _)
      | (with_reducible exact ih6 _ _ _ _ _ _ _ _ _)
      | (with_reducible exact ih7 _ _ _ _ _ _ _ _)
      | (with_reducible exact ih8 _ _ _ _ _ _ _ _)
      | (with_reducible exact ih9 _ _ _ _ _ _ _ _ _)
      | (with_reducible exact gambrelref17_Get.mono _ _ _)
      | (with_reducible exact gambrelref17_Put.mono _ _ _ _)
      | (with_reducible exact LeO.refl _)
      | (with_reducible exact LeO.none _)
      | (with_reducible refine LeO.ite ?_ ?_)
      | (with_reducible refine LeO.bind ?_ (fun _ => ?_))
      | exact ih0 _ _ _ _ _ _ _
      | exact ih1 _ _ _ _ _ _ _ _
      | exact ih2 _ _ _ _ _ _
      | exact ih3 _ _ _ _ _ _ _ _
      | exact ih4 _ _ _ _ _ _ _ _
      | exact ih5 _ _ _ _ _ _ _ _ _
      | exact ih6 _ _ _ _ _ _ _ _ _
      | exact ih7 _ _ _ _ _ _ _ _
      | exact ih8 _ _ _ _ _ _ _ _
      | exact ih9 _ _ _ _ _ _ _ _ _
      | exact gambrelref17_Get.mono _ _ _
      | exact gambrelref17_Put.mono _ _ _ _
      | exact LeO.none _
      | refine LeO.ite ?_ ?_
      | refine LeO.bind ?_ (fun _ => ?_)
    · intro y0 y1 y2 y3 y4 y5 y6 y7
      unfold gambrelref17_Do.j7
      repeat' first
      | (with_reducible exact ih0 _ _ _ _ _ _ _)
      | (with_reducible exact ih1 _ _ _ _ _ _ _ _)
      | (with_reducible exact ih2 _ _ _ _ _ _)
      | (with_reducible exact ih3 _ _ _ _ _ _ _ _)
      | (with_reducible exact ih4 _ _ _ _ _ _ _ _)
      | (with_reducible exact ih5 _ _ _ _ _ _ _ _ _)
      | (with_reducible exact ih6 _ _ _ _ _ _ _ _ _)
      | (with_reducible exact ih7 _ _ _ _ _ _ _ _)
      | (with_reducible exact ih8 _ _ _ _ _ _ _ _)
      | (with_reducible exact ih9 _ _ _ _ _ _ _ _ _)
      | (with_reducible exact gambrelref17_Get.mono _ _ _)
      | (with_reducible exact gambrelref17_Put.mono _ _ _ _)
      | (with_reducible exact LeO.refl _)
      | (with_reducible exact LeO.none _)
      | (with_reducible refine LeO.ite ?_ ?_)
      | (with_reducible refine LeO.bind ?_ (fun _ => ?_))
      | exact ih0 _ _ _ _ _ _ _
      | exact ih1 _ _ _ _ _ _ _ _
      | exact ih2 _ _ _ _ _ _
      | exact ih3 _ _ _ _ _ _ _ _
      | exact ih4 _ _ _ _ _ _ _ _
      | exact ih5 _ _ _ _ _ _ _ _ _
      | exact ih6 _ _ _ _ _ _ _ _ _
      | exact ih7 _ _ _ _ _ _ _ _
      | exact ih8 _ _ _ _ _ _ _ _
      | exact ih9 _ _ _ _ _ _ _ _ _
      | exact gambrelref17_Get.mono _ _ _
      | exact gambrelref17_Put.mono _ _ _ _
      | exact LeO.none _
      | refine LeO.ite ?_ ?_
      | refine LeO.bind ?_ (fun _ => ?_)
    · intro y0 y1 y2 y3 y4 y5 y6 y7
      unfold gambrelref17_Do.l0
      repeat' first
      | (with_reducible exact ih0 _ _ _ _ _ _ _)
      | (with_reducible exact ih1 _ _ _ _ _ _ _ _)
      | (with_reducible exact ih2 _ _ _ _ _ _)
      | (with_reducible exact ih3 _ _ _ _ _ _ _ _)
      | (with_reducible exact ih4 _ _ _ _ _ _ _ _)
      | (with_reducible exact ih5 _ _ _ _ _ _ _ _ _)
      | (with_reducible exact ih6 _ _ _ _ _ _ _ _ _)
      | (with_reducible exact ih7 _ _ _ _ _ _ _ _)
      | (with_reducible exact ih8 _ _ _ _ _ _ _ _)
      | (with_reducible exact ih9 _ _ _ _ _ _ _ _ _)
      | (with_reducible exact gambrelref17_Get.mono _ _ _)
      | (with_reducible exact gambrelref17_Put.mono _ _ _ _)
      | (with_reducible exact LeO.refl _)
      | (with_reducible exact LeO.none _)
      | (with_reducible refine LeO.ite ?_ ?_)
      | (with_reducible refine LeO.bind ?_ (fun _ => ?_))
      | exact ih0 _ _ _ _ _ _ _
      | exact ih1 _ _ _ _ _ _ _ _
      | exact ih2 _ _ _ _ _ _
      | exact ih3 _ _ _ _ _ _ _ _
      | exact ih4 _ _ _ _ _ _ _ _
      | exact ih5 _ _ _ _ _ _ _ _ _
      | exact ih6 _ _ _ _ _ _ _ _ _
      | exact ih7 _ _ _ _ _ _ _ _
      | exact ih8 _ _ _ _ _ _ _ _
      | exact ih9 _ _ _ _ _ _ _ _ _
      | exact gambrelref17_Get.mono _ _ _
      | exact gambrelref17_Put.mono _ _ _ _
      | exact LeO.none _
      | refine LeO.ite ?_ ?_
      | refine LeO.bind ?_ (fun _ => ?_)
    · intro y0 y1 y2 y3 y4 y5 y6 y7 y8
      unfold gambrelref17_Do.l1
      repeat' first
      | (with_reducible exact ih0 _ _ _ _ _ _ _)
      | (with_reducible exact ih1 _ _ _ _ _ _ _ _)
      | (with_reducible exact ih2 _ _ _ _ _ _)
      | (with_reducible exact ih3 _ _ _ _ _ _ _ _)
      | (with_reducible exact ih4 _ _ _ _ _ _ _ _)
      | (with_reducible exact ih5 _ _ _ _ _ _ _ _ _)
      | (with_reducible exact ih6 _ _ _ _ _ _ _ _ _)
      | (with_reducible exact ih7 _ _ _ _ _ _ _ _)
      | (with_reducible exact ih8 _ _ _ _ _ _ _ _)
      | (with_reducible exact ih9 _ _ _ _ _ _ _ _ _)
      | (with_reducible exact gambrelref17_Get.mono _ _ _)
      | (with_reducible exact gambrelref17_Put.mono _ _ _ _)
      | (with_reducible exact LeO.refl _)
      | (with_reducible exact LeO.none _)
      | (with_reducible refine LeO.ite ?_ ?_)
      | (with_reducible refine LeO.bind ?_ (fun _ => ?_))
      | exact ih0 _ _ _ _ _ _ _
      | exact ih1 _ _ _ _ _ _ _ _
      | exact ih2 _ _ _ _ _ _
      | exact ih3 _ _ _ _ _ _ _ _
      | exact ih4 _ _ _ _ _ _ _ _
      | exact ih5 _ _ _ _ _ _ _ _ _
      | exact ih6 _ _ _ _ _ _ _ _ _
      | exact ih7 _ _ _ _ _ _ _ _
      | exact ih8 _ _ _ _ _ _ _ _
      | exact ih9 _ _ _ _ _ _ _ _ _
      | exact gambrelref17_Get.mono _ _ _
      | exact gambrelref17_Put.mono _ _ _ _
      | exact LeO.none _
      | refine LeO.ite ?_ ?_
      | refine LeO.bind ?_ (fun _ => ?_)
theorem gambrelref17_Do.mono : ∀ a0 a1 a2 a3 a4 a5 k, LeO (gambrelref17_Do.f k a0 a1 a2 a3 a4 a5) (gambrelref17_Do.f (k + 1) a0 a1 a2 a3 a4 a5) := by
  intro a0 a1 a2 a3 a4 a5 k
  obtain ⟨ih0, ih1, ih2, ih3, ih4, ih5, ih6, ih7, ih8, ih9⟩ := gambrelref17_Do.mono_l k
  unfold gambrelref17_Do.f
  repeat' first
      | (with_reducible exact ih0 _ _ _ _ _ _ _)
      | (with_reducible exact ih1 _ _ _ _ _ _ _ _)
      | (with_reducible exact ih2 _ _ _ _ _ _)
      | (with_reducible exact ih3 _ _ _ _ _ _ _ _)
      | (with_reducible exact ih4 _ _ _ _ _ _ _ _)
      | (with_reducible exact ih5 _ _ _ _ _ _ _ _ _)
      | (with_reducible exact ih6 _ _ _ _ _ _ _ _ _)
      | (with_reducible exact ih7 _ _ _ _ _ _ _ _)
      | (with_reducible exact ih8 _ _ _ _ _ _ _ _)
      | (with_reducible exact ih9 _ _ _ _ _ _ _ _ _)
      | (with_reducible exact gambrelref17_Get.mono _ _ _)
      | (with_reducible exact gambrelref17_Put.mono _ _ _ _)
      | (with_reducible exact LeO.refl _)
      | (with_reducible exact LeO.none _)
      | (with_reducible refine LeO.ite ?_ ?_)
      | (with_reducible refine LeO.bind ?_ (fun _ => ?_))
      | exact ih0 _ _ _ _ _ _ _
      | exact ih1 _ _ _ _ _ _ _ _
      | exact ih2 _ _ _ _ _ _
      | exact ih3 _ _ _ _ _ _ _ _
      | exact ih4 _ _ _ _ _ _ _ _
      | exact ih5 _ _ _ _ _ _ _ _ _
      | exact ih6 _ _ _ _ _ _ _ _ _
      | exact ih7 _ _ _ _ _ _ _ _
      | exact ih8 _ _ _ _ _ _ _ _
      | exact ih9 _ _ _ _ _ _ _ _ _
      | exact gambrelref17_Get.mono _ _ _
      | exact gambrelref17_Put.mono _ _ _ _
      | exact LeO.none _
      | refine LeO.ite ?_ ?_
      | refine LeO.bind ?_ (fun _ => ?_)
set_option maxHeartbeats 8000000 in
set_option maxRecDepth 100000 in
theorem gambrelref17_Do.calls (k : Nat) (P0_ : Nat → Prop) (A0 : Option Addr) (c0 : Nat) (l0 : List (S38)) (a1_0 : ByteArray) (a1_1 : Int) (a1_2 : Int) (P1_3_ : Nat → Prop) (A1_3 : Option Addr) (c1_3 : Nat) (l1_3 : List Int) (a2 : Int) (r1 : List (S38)) (r2 : Int) (w : World) (hs0 : Kd.V k38 38 w w.heap.size (fun k_ => P0_ k_) (.slice A0 l0.length c0) l0) (hs1_3 : Kd.V (Kd.int .u8) 5 w w.heap.size (fun k_ => P1_3_ k_) (.slice A1_3 l1_3.length c1_3) l1_3) (h : gambrelref17_Do.f k l0 a1_0 a1_1 a1_2 l1_3 a2 = some (r1, r2)) :
    Calls Try.prog 19 #[.slice A0 l0.length c0, .agg #[.string a1_0, .int .i64 a1_1, .int .i64 a1_2, .slice A1_3 l1_3.length c1_3], .int .i64 a2] w fun e w' => ∃ v0_ : Value, e = .returned (.tuple #[v0_, .int .i64 r2]) ∧ Kd.V k38 38 w' w.heap.size (fun k_ => ((P0_ k_ ∨ P1_3_ k_) ∨ w.heap.size ≤ k_)) v0_ r1 ∧ Below w.heap.size w w' := by
  have hu25 := Try.underlying25
  have HO0 := Aside0.mk (show Kd.V k38 38 w w.heap.size (fun k_ => ((P0_ k_ ∨ P1_3_ k_) ∨ w.heap.size ≤ k_)) (.slice A0 l0.length c0) l0 from Kd.V_mono hs0 (fun k_ hk => .inl (.inl hk)))
  have HO1_3 := Aside0.mk (show Kd.V (Kd.int .u8) 5 w w.heap.size (fun k_ => ((P0_ k_ ∨ P1_3_ k_) ∨ w.heap.size ≤ k_)) (.slice A1_3 l1_3.length c1_3) l1_3 from Kd.V_mono hs1_3 (fun k_ hk => .inl (.inr hk)))
  have HB := Aside0.mk (Below.refl w.heap.size w)
  have H : (if a1_1 < 1 then (gambrelref17_Do.j0 k l0 a2 true a1_0 a1_1 a1_2 l1_3) else (if a1_1 > 3 then (gambrelref17_Do.j0 k l0 a2 true a1_0 a1_1 a1_2 l1_3) else (if (a1_0.size : Int) < 1 then (gambrelref17_Do.j0 k l0 a2 true a1_0 a1_1 a1_2 l1_3) else (if (a1_0.size : Int) > 40 then (gambrelref17_Do.j0 k l0 a2 true a1_0 a1_1 a1_2 l1_3) else (if a1_1 = 3 then (gambrelref17_Do.j0 k l0 a2 (decide (a1_2 < 0)) a1_0 a1_1 a1_2 l1_3) else (gambrelref17_Do.j0 k l0 a2 false a1_0 a1_1 a1_2 l1_3)))))) = some (r1, r2) := h
  clear h
  have HC4 := Aside0.mk H
  clear H
  go_enter Try.func19, Try.ntmps19
  go_upto_region 1 with (first | ((with_reducible refine gate_dst (N := 4) rfl ?_); (try (refine gate_guard (by rfl) ?_; dsimp only)); refine box_event ?hg (N := 4) ?hd (cs := #[.string a1_0, .int .i64 a1_1, .int .i64 a1_2, .slice A1_3 l1_3.length c1_3]) (t := 25) ?hr ?_; (case hd => rfl); (case hg => rfl); (case hr => first | (go_simp; done) | (go_simp; rfl)); intro gb134 hg w5 hbox hb; have n0_ := Aside0.mk (Kd.V_below (Kd.V_elderB (by (with_reducible repeat (first | apply Kd.V_alloc | apply Kd.V_drewN | apply Kd.V_drew)); exact HO0.out) gb134 (Nat.le_of_eq hg.symm)) hb); have n1_ := Aside0.mk (Kd.V_below (Kd.V_elderB (by (with_reducible repeat (first | apply Kd.V_alloc | apply Kd.V_drewN | apply Kd.V_drew)); exact HO1_3.out) gb134 (Nat.le_of_eq hg.symm)) hb); have n2_ := Aside0.mk (below_step (by repeat (first | (with_reducible first | exact HB.out | apply below_alloc | apply pw_below_drewN | apply below_drew1) | exact HB.out)) hb); have n3_ := Aside0.mk (hbox); have n4_ := Aside0.mk ((by rw [hg]; exact (below_size (by repeat (first | (with_reducible first | exact HB.out | apply below_alloc | apply pw_below_drewN | apply below_drew1) | exact HB.out))) : w.heap.size ≤ gb134)); have n5_ := Aside0.mk ((by rw [hg]; exact (below_size (by repeat (first | (with_reducible first | exact HB.out | apply below_alloc | apply pw_below_drewN | apply below_drew1) | exact HB.out))) : w.heap.size ≤ gb134)); clear HO0; clear HO1_3; clear HB; have HO0 := n0_; have HO1_3 := n1_; have HB := n2_; have BK134 := n3_; have GW134 := n4_; have GE134 := n5_; clear n0_ n1_ n2_ n3_ n4_ n5_; clear hb hbox hg))
  (try simp only [Act.put, List.setIfInBounds_toArray, List.set_cons_zero, List.set_cons_succ])
  go_cut [43] (fun v43 wc => ∃ (kq : Nat) (x43_3 : Bool), v43 = .bool x43_3 ∧ Aside0 (gambrelref17_Do.j0 kq l0 a2 x43_3 a1_0 a1_1 a1_2 l1_3 = some (r1, r2)) ∧ Aside0 (kq ≤ k) ∧ Aside0 (Kd.V k38 38 wc w.heap.size (fun k_ => ((P0_ k_ ∨ P1_3_ k_) ∨ w.heap.size ≤ k_) ∧ k_ ≠ gb134) (.slice A0 l0.length c0) l0) ∧ Aside0 (Kd.V (Kd.int .u8) 5 wc w.heap.size (fun k_ => ((P0_ k_ ∨ P1_3_ k_) ∨ w.heap.size ≤ k_) ∧ k_ ≠ gb134) (.slice A1_3 l1_3.length c1_3) l1_3) ∧ Aside0 (wc.heap[gb134]? = some (.cells #[.string a1_0, .int .i64 a1_1, .int .i64 a1_2, (.slice A1_3 l1_3.length c1_3)] 25 (0, 0))) ∧ Aside0 (Below w.heap.size w wc))
  case first =>
    have H := HC4.out
    clear HC4
    by_cases c6 : a1_1 < 1
    · rw [if_pos c6] at H
      have c6b0 : decide (a1_1 < 1) = true := decide_eq_true c6
      clear c6
      (first | rw [c6b0] | (simp only [i64_w, i32_w]; rw [c6b0]) | skip)
      have H' := Aside0.mk H
      clear H
      have hcz7_0 : w5.cell? ⟨gb134, 0, none⟩ = some (.string a1_0) := (blk_cell BK134.out 0).trans rfl
      have hcz7_1 : w5.cell? ⟨gb134, 1, none⟩ = some (.int .i64 a1_1) := (blk_cell BK134.out 1).trans rfl
      have hcz7_2 : w5.cell? ⟨gb134, 2, none⟩ = some (.int .i64 a1_2) := (blk_cell BK134.out 2).trans rfl
      have hcz7_3 : w5.cell? ⟨gb134, 3, none⟩ = some (.slice A1_3 l1_3.length c1_3) := (blk_cell BK134.out 3).trans rfl
      have hfz7_0 := blk_frozen BK134.out 0
      have hfz7_1 := blk_frozen BK134.out 1
      have hfz7_2 := blk_frozen BK134.out 2
      have hfz7_3 := blk_frozen BK134.out 3
      go_wp2
      go_meet
      case rel => exact ⟨_, (true), (by first | rfl | (simp; done) | (simp [*]; done)), H', ⟨by first | omega | exact Nat.le_refl _⟩, ⟨by (with_reducible repeat (first | apply Kd.V_alloc | apply Kd.V_drewN | apply Kd.V_drew)); exact HO0.out⟩, ⟨by (with_reducible repeat (first | apply Kd.V_alloc | apply Kd.V_drewN | apply Kd.V_drew)); exact HO1_3.out⟩, ⟨by (with_reducible repeat (first | refine blk_drewN ?_ _ | refine blk_drew ?_ | refine blk_alloc ?_ _)); exact BK134.out⟩, ⟨by repeat (first | (with_reducible first | exact HB.out | apply below_alloc | apply pw_below_drewN | apply below_drew1 | refine below_set ?_ GE134.out) | exact HB.out)⟩⟩
    · rw [if_neg c6] at H
      have c6b0 : decide (a1_1 < 1) = false := decide_eq_false c6
      clear c6
      (first | rw [c6b0] | (simp only [i64_w, i32_w]; rw [c6b0]) | skip)
      by_cases c8 : a1_1 > 3
      · rw [if_pos c8] at H
        have c8b0 : decide (3 < a1_1) = true := decide_eq_true c8
        clear c8
        have H' := Aside0.mk H
        clear H
        have hcz9_0 : w5.cell? ⟨gb134, 0, none⟩ = some (.string a1_0) := (blk_cell BK134.out 0).trans rfl
        have hcz9_1 : w5.cell? ⟨gb134, 1, none⟩ = some (.int .i64 a1_1) := (blk_cell BK134.out 1).trans rfl
        have hcz9_2 : w5.cell? ⟨gb134, 2, none⟩ = some (.int .i64 a1_2) := (blk_cell BK134.out 2).trans rfl
        have hcz9_3 : w5.cell? ⟨gb134, 3, none⟩ = some (.slice A1_3 l1_3.length c1_3) := (blk_cell BK134.out 3).trans rfl
        have hfz9_0 := blk_frozen BK134.out 0
        have hfz9_1 := blk_frozen BK134.out 1
        have hfz9_2 := blk_frozen BK134.out 2
        have hfz9_3 := blk_frozen BK134.out 3
        go_wp2
        go_meet
        case rel => exact ⟨_, (true), (by first | rfl | (simp; done) | (simp [*]; done)), H', ⟨by first | omega | exact Nat.le_refl _⟩, ⟨by (with_reducible repeat (first | apply Kd.V_alloc | apply Kd.V_drewN | apply Kd.V_drew)); exact HO0.out⟩, ⟨by (with_reducible repeat (first | apply Kd.V_alloc | apply Kd.V_drewN | apply Kd.V_drew)); exact HO1_3.out⟩, ⟨by (with_reducible repeat (first | refine blk_drewN ?_ _ | refine blk_drew ?_ | refine blk_alloc ?_ _)); exact BK134.out⟩, ⟨by repeat (first | (with_reducible first | exact HB.out | apply below_alloc | apply pw_below_drewN | apply below_drew1 | refine below_set ?_ GE134.out) | exact HB.out)⟩⟩
      · rw [if_neg c8] at H
        have c8b0 : decide (3 < a1_1) = false := decide_eq_false c8
        clear c8
        by_cases c10 : (a1_0.size : Int) < 1
        · rw [if_pos c10] at H
          have c10b0 : decide ((a1_0.size : Int) < 1) = true := decide_eq_true c10
          have c10b1 : decide (a1_0.size < 1) = true := decide_eq_true (by omega)
          clear c10
          have H' := Aside0.mk H
          clear H
          have hcz11_0 : w5.cell? ⟨gb134, 0, none⟩ = some (.string a1_0) := (blk_cell BK134.out 0).trans rfl
          have hcz11_1 : w5.cell? ⟨gb134, 1, none⟩ = some (.int .i64 a1_1) := (blk_cell BK134.out 1).trans rfl
          have hcz11_2 : w5.cell? ⟨gb134, 2, none⟩ = some (.int .i64 a1_2) := (blk_cell BK134.out 2).trans rfl
          have hcz11_3 : w5.cell? ⟨gb134, 3, none⟩ = some (.slice A1_3 l1_3.length c1_3) := (blk_cell BK134.out 3).trans rfl
          have hfz11_0 := blk_frozen BK134.out 0
          have hfz11_1 := blk_frozen BK134.out 1
          have hfz11_2 := blk_frozen BK134.out 2
          have hfz11_3 := blk_frozen BK134.out 3
          go_wp2
          go_meet
          case rel => exact ⟨_, (true), (by first | rfl | (simp; done) | (simp [*]; done)), H', ⟨by first | omega | exact Nat.le_refl _⟩, ⟨by (with_reducible repeat (first | apply Kd.V_alloc | apply Kd.V_drewN | apply Kd.V_drew)); exact HO0.out⟩, ⟨by (with_reducible repeat (first | apply Kd.V_alloc | apply Kd.V_drewN | apply Kd.V_drew)); exact HO1_3.out⟩, ⟨by (with_reducible repeat (first | refine blk_drewN ?_ _ | refine blk_drew ?_ | refine blk_alloc ?_ _)); exact BK134.out⟩, ⟨by repeat (first | (with_reducible first | exact HB.out | apply below_alloc | apply pw_below_drewN | apply below_drew1 | refine below_set ?_ GE134.out) | exact HB.out)⟩⟩
        · rw [if_neg c10] at H
          have c10b0 : decide ((a1_0.size : Int) < 1) = false := decide_eq_false c10
          have c10b1 : decide (a1_0.size < 1) = false := decide_eq_false (by omega)
          clear c10
          by_cases c12 : (a1_0.size : Int) > 40
          · rw [if_pos c12] at H
            have c12b0 : decide (40 < (a1_0.size : Int)) = true := decide_eq_true c12
            have c12b1 : decide (40 < a1_0.size) = true := decide_eq_true (by omega)
            clear c12
            have H' := Aside0.mk H
            clear H
            have hcz13_0 : w5.cell? ⟨gb134, 0, none⟩ = some (.string a1_0) := (blk_cell BK134.out 0).trans rfl
            have hcz13_1 : w5.cell? ⟨gb134, 1, none⟩ = some (.int .i64 a1_1) := (blk_cell BK134.out 1).trans rfl
            have hcz13_2 : w5.cell? ⟨gb134, 2, none⟩ = some (.int .i64 a1_2) := (blk_cell BK134.out 2).trans rfl
            have hcz13_3 : w5.cell? ⟨gb134, 3, none⟩ = some (.slice A1_3 l1_3.length c1_3) := (blk_cell BK134.out 3).trans rfl
            have hfz13_0 := blk_frozen BK134.out 0
            have hfz13_1 := blk_frozen BK134.out 1
            have hfz13_2 := blk_frozen BK134.out 2
            have hfz13_3 := blk_frozen BK134.out 3
            go_wp2
            go_meet
            case rel => exact ⟨_, (true), (by first | rfl | (simp; done) | (simp [*]; done)), H', ⟨by first | omega | exact Nat.le_refl _⟩, ⟨by (with_reducible repeat (first | apply Kd.V_alloc | apply Kd.V_drewN | apply Kd.V_drew)); exact HO0.out⟩, ⟨by (with_reducible repeat (first | apply Kd.V_alloc | apply Kd.V_drewN | apply Kd.V_drew)); exact HO1_3.out⟩, ⟨by (with_reducible repeat (first | refine blk_drewN ?_ _ | refine blk_drew ?_ | refine blk_alloc ?_ _)); exact BK134.out⟩, ⟨by repeat (first | (with_reducible first | exact HB.out | apply below_alloc | apply pw_below_drewN | apply below_drew1 | refine below_set ?_ GE134.out) | exact HB.out)⟩⟩
          · rw [if_neg c12] at H
            have c12b0 : decide (40 < (a1_0.size : Int)) = false := decide_eq_false c12
            have c12b1 : decide (40 < a1_0.size) = false := decide_eq_false (by omega)
            clear c12
            by_cases c14 : a1_1 = 3
            · rw [if_pos c14] at H
              have c14b0 : (a1_1 == 3) = true := beq_iff_eq.mpr c14
              have c14b1 : (a1_1 != 3) = false := bne_eq_false_iff_eq.mpr c14
              clear c14
              have H' := Aside0.mk H
              clear H
              have hcz15_0 : w5.cell? ⟨gb134, 0, none⟩ = some (.string a1_0) := (blk_cell BK134.out 0).trans rfl
              have hcz15_1 : w5.cell? ⟨gb134, 1, none⟩ = some (.int .i64 a1_1) := (blk_cell BK134.out 1).trans rfl
              have hcz15_2 : w5.cell? ⟨gb134, 2, none⟩ = some (.int .i64 a1_2) := (blk_cell BK134.out 2).trans rfl
              have hcz15_3 : w5.cell? ⟨gb134, 3, none⟩ = some (.slice A1_3 l1_3.length c1_3) := (blk_cell BK134.out 3).trans rfl
              have hfz15_0 := blk_frozen BK134.out 0
              have hfz15_1 := blk_frozen BK134.out 1
              have hfz15_2 := blk_frozen BK134.out 2
              have hfz15_3 := blk_frozen BK134.out 3
              go_wp2
              go_meet
              case rel => exact ⟨_, (decide (a1_2 < 0)), (by first | rfl | (simp; done) | (simp [*]; done)), H', ⟨by first | omega | exact Nat.le_refl _⟩, ⟨by (with_reducible repeat (first | apply Kd.V_alloc | apply Kd.V_drewN | apply Kd.V_drew)); exact HO0.out⟩, ⟨by (with_reducible repeat (first | apply Kd.V_alloc | apply Kd.V_drewN | apply Kd.V_drew)); exact HO1_3.out⟩, ⟨by (with_reducible repeat (first | refine blk_drewN ?_ _ | refine blk_drew ?_ | refine blk_alloc ?_ _)); exact BK134.out⟩, ⟨by repeat (first | (with_reducible first | exact HB.out | apply below_alloc | apply pw_below_drewN | apply below_drew1 | refine below_set ?_ GE134.out) | exact HB.out)⟩⟩
            · rw [if_neg c14] at H
              have c14b0 : (a1_1 == 3) = false := beq_eq_false_iff_ne.mpr c14
              have c14b1 : (a1_1 != 3) = true := bne_iff_ne.mpr c14
              have H' := Aside0.mk H
              clear H
              have hcz16_0 : w5.cell? ⟨gb134, 0, none⟩ = some (.string a1_0) := (blk_cell BK134.out 0).trans rfl
              have hcz16_1 : w5.cell? ⟨gb134, 1, none⟩ = some (.int .i64 a1_1) := (blk_cell BK134.out 1).trans rfl
              have hcz16_2 : w5.cell? ⟨gb134, 2, none⟩ = some (.int .i64 a1_2) := (blk_cell BK134.out 2).trans rfl
              have hcz16_3 : w5.cell? ⟨gb134, 3, none⟩ = some (.slice A1_3 l1_3.length c1_3) := (blk_cell BK134.out 3).trans rfl
              have hfz16_0 := blk_frozen BK134.out 0
              have hfz16_1 := blk_frozen BK134.out 1
              have hfz16_2 := blk_frozen BK134.out 2
              have hfz16_3 := blk_frozen BK134.out 3
              go_wp2
              go_meet
              case rel => exact ⟨_, (false), (by first | rfl | (simp; done) | (simp [*]; done)), H', ⟨by first | omega | exact Nat.le_refl _⟩, ⟨by (with_reducible repeat (first | apply Kd.V_alloc | apply Kd.V_drewN | apply Kd.V_drew)); exact HO0.out⟩, ⟨by (with_reducible repeat (first | apply Kd.V_alloc | apply Kd.V_drewN | apply Kd.V_drew)); exact HO1_3.out⟩, ⟨by (with_reducible repeat (first | refine blk_drewN ?_ _ | refine blk_drew ?_ | refine blk_alloc ?_ _)); exact BK134.out⟩, ⟨by repeat (first | (with_reducible first | exact HB.out | apply below_alloc | apply pw_below_drewN | apply below_drew1 | refine below_set ?_ GE134.out) | exact HB.out)⟩⟩
  case rest =>
    clear HC4
    try clear c1
    try clear p2
    try clear c6
    try clear c6b0
    try clear c8
    try clear c8b0
    try clear c10
    try clear c10b0
    try clear c10b1
    try clear c12
    try clear c12b0
    try clear c12b1
    try clear c14
    try clear c14b0
    try clear c14b1
    try clear hcz11_0
    try clear hcz11_1
    try clear hcz11_2
    try clear hcz11_3
    try clear hcz13_0
    try clear hcz13_1
    try clear hcz13_2
    try clear hcz13_3
    try clear hcz15_0
    try clear hcz15_1
    try clear hcz15_2
    try clear hcz15_3
    try clear hcz16_0
    try clear hcz16_1
    try clear hcz16_2
    try clear hcz16_3
    try clear hcz7_0
    try clear hcz7_1
    try clear hcz7_2
    try clear hcz7_3
    try clear hcz9_0
    try clear hcz9_1
    try clear hcz9_2
    try clear hcz9_3
    try clear hfz11_0
    try clear hfz11_1
    try clear hfz11_2
    try clear hfz11_3
    try clear hfz13_0
    try clear hfz13_1
    try clear hfz13_2
    try clear hfz13_3
    try clear hfz15_0
    try clear hfz15_1
    try clear hfz15_2
    try clear hfz15_3
    try clear hfz16_0
    try clear hfz16_1
    try clear hfz16_2
    try clear hfz16_3
    try clear hfz7_0
    try clear hfz7_1
    try clear hfz7_2
    try clear hfz7_3
    try clear hfz9_0
    try clear hfz9_1
    try clear hfz9_2
    try clear hfz9_3
    obtain ⟨kq, x43_3, rfl, HA, HJ3, HO_0, HO_135003, BK134, HB⟩ := hcut
    cases kq with
    | zero => exact absurd HA.out (by simp [gambrelref17_Do.j0])
    | succ kj3 =>
      have H := HA.out
      clear HA
      simp only [gambrelref17_Do.j0] at H
      by_cases c17 : x43_3 = true
      · subst c17
        have H1 : (some (([] : List (S38)), 1)) = some (r1, r2) := by rw [if_pos rfl] at H; exact H
        clear H
        have H := H1
        clear H1
        simp only [Option.some.injEq, Prod.mk.injEq] at H
        obtain ⟨rfl, rfl⟩ := H
        go_wp2
        go_ret2
        exact ⟨_, by first | rfl | (simp [errW_none, errW_some] <;> rfl) | (simp [*, errW_none, errW_some] <;> rfl), Kd.V_nil _ _ _ _ _, by repeat (first | (with_reducible first | exact HB.out | apply below_alloc | apply pw_below_drewN | apply below_drew1 | refine below_set ?_ GE134.out) | exact HB.out)⟩
      · replace c17 := Bool.eq_false_iff.mpr c17
        subst c17
        have H1 : (if a2 ≥ 0 then (gambrelref17_Do.j1 kj3 l0 a2 l1_3 (decide (a2 < (l1_3.length : Int))) a1_0 a1_1 a1_2 l1_3) else (gambrelref17_Do.j1 kj3 l0 a2 l1_3 false a1_0 a1_1 a1_2 l1_3)) = some (r1, r2) := by rw [if_neg (show ¬ (false = true) by decide)] at H; exact H
        clear H
        have H := H1
        clear H1
        have HC18 := Aside0.mk H
        clear H
        have hcz19_0 : wc.cell? ⟨gb134, 0, none⟩ = some (.string a1_0) := (blk_cell BK134.out 0).trans rfl
        have hcz19_1 : wc.cell? ⟨gb134, 1, none⟩ = some (.int .i64 a1_1) := (blk_cell BK134.out 1).trans rfl
        have hcz19_2 : wc.cell? ⟨gb134, 2, none⟩ = some (.int .i64 a1_2) := (blk_cell BK134.out 2).trans rfl
        have hcz19_3 : wc.cell? ⟨gb134, 3, none⟩ = some (.slice A1_3 l1_3.length c1_3) := (blk_cell BK134.out 3).trans rfl
        have hfz19_0 := blk_frozen BK134.out 0
        have hfz19_1 := blk_frozen BK134.out 1
        have hfz19_2 := blk_frozen BK134.out 2
        have hfz19_3 := blk_frozen BK134.out 3
        go_upto_region 4 with (fail)
        go_cut [53] (fun v53 wc => ∃ (kq : Nat) (x53_17 : Bool), v53 = .bool x53_17 ∧ Aside0 (gambrelref17_Do.j1 kq l0 a2 l1_3 x53_17 a1_0 a1_1 a1_2 l1_3 = some (r1, r2)) ∧ Aside0 (kq ≤ kj3) ∧ Aside0 (Kd.V k38 38 wc w.heap.size (fun k_ => ((P0_ k_ ∨ P1_3_ k_) ∨ w.heap.size ≤ k_) ∧ k_ ≠ gb134) (.slice A0 l0.length c0) l0) ∧ Aside0 (Kd.V (Kd.int .u8) 5 wc w.heap.size (fun k_ => ((P0_ k_ ∨ P1_3_ k_) ∨ w.heap.size ≤ k_) ∧ k_ ≠ gb134) (.slice A1_3 l1_3.length c1_3) l1_3) ∧ Aside0 (Kd.V (Kd.int .u8) 5 wc w.heap.size (fun k_ => ((P0_ k_ ∨ P1_3_ k_) ∨ w.heap.size ≤ k_) ∧ k_ ≠ gb134) (.slice A1_3 l1_3.length c1_3) l1_3) ∧ Aside0 (wc.heap[gb134]? = some (.cells #[.string a1_0, .int .i64 a1_1, .int .i64 a1_2, (.slice A1_3 l1_3.length c1_3)] 25 (0, 0))) ∧ Aside0 (Below w.heap.size w wc))
        case first =>
          have H := HC18.out
          clear HC18
          by_cases c20 : a2 ≥ 0
          · rw [if_pos c20] at H
            have c20b0 : decide (0 ≤ a2) = true := decide_eq_true c20
            clear c20
            (first | rw [c20b0] | (simp only [i64_w, i32_w]; rw [c20b0]) | skip)
            have H' := Aside0.mk H
            clear H
            go_wp2
            go_meet
            case rel => exact ⟨_, (decide (a2 < (l1_3.length : Int))), (by first | rfl | (simp; done) | (simp [*]; done)), H', ⟨by have := HJ3.out; first | omega | exact Nat.le_refl _⟩, ⟨by (with_reducible repeat (first | apply Kd.V_alloc | apply Kd.V_drewN | apply Kd.V_drew)); exact HO_0.out⟩, ⟨by (with_reducible repeat (first | apply Kd.V_alloc | apply Kd.V_drewN | apply Kd.V_drew)); exact HO_135003.out⟩, ⟨by (with_reducible repeat (first | apply Kd.V_alloc | apply Kd.V_drewN | apply Kd.V_drew)); exact HO_135003.out⟩, ⟨by (with_reducible repeat (first | refine blk_drewN ?_ _ | refine blk_drew ?_ | refine blk_alloc ?_ _)); exact BK134.out⟩, ⟨by repeat (first | (with_reducible first | exact HB.out | apply below_alloc | apply pw_below_drewN | apply below_drew1 | refine below_set ?_ GE134.out) | exact HB.out)⟩⟩
          · rw [if_neg c20] at H
            have c20b0 : decide (0 ≤ a2) = false := decide_eq_false c20
            clear c20
            (first | rw [c20b0] | (simp only [i64_w, i32_w]; rw [c20b0]) | skip)
            have H' := Aside0.mk H
            clear H
            go_wp2
            go_meet
            case rel => exact ⟨_, (false), (by first | rfl | (simp; done) | (simp [*]; done)), H', ⟨by have := HJ3.out; first | omega | exact Nat.le_refl _⟩, ⟨by (with_reducible repeat (first | apply Kd.V_alloc | apply Kd.V_drewN | apply Kd.V_drew)); exact HO_0.out⟩, ⟨by (with_reducible repeat (first | apply Kd.V_alloc | apply Kd.V_drewN | apply Kd.V_drew)); exact HO_135003.out⟩, ⟨by (with_reducible repeat (first | apply Kd.V_alloc | apply Kd.V_drewN | apply Kd.V_drew)); exact HO_135003.out⟩, ⟨by (with_reducible repeat (first | refine blk_drewN ?_ _ | refine blk_drew ?_ | refine blk_alloc ?_ _)); exact BK134.out⟩, ⟨by repeat (first | (with_reducible first | exact HB.out | apply below_alloc | apply pw_below_drewN | apply below_drew1 | refine below_set ?_ GE134.out) | exact HB.out)⟩⟩
        case rest =>
          clear HC18
          try clear c1
          try clear c2
          try clear p2
          try clear c6
          try clear c6b0
          try clear c8
          try clear c8b0
          try clear c10
          try clear c10b0
          try clear c10b1
          try clear c12
          try clear c12b0
          try clear c12b1
          try clear c14
          try clear c14b0
          try clear c14b1
          try clear c17
          try clear c19
          try clear c20
          try clear c20b0
          try clear hcz11_0
          try clear hcz11_1
          try clear hcz11_2
          try clear hcz11_3
          try clear hcz13_0
          try clear hcz13_1
          try clear hcz13_2
          try clear hcz13_3
          try clear hcz15_0
          try clear hcz15_1
          try clear hcz15_2
          try clear hcz15_3
          try clear hcz16_0
          try clear hcz16_1
          try clear hcz16_2
          try clear hcz16_3
          try clear hcz19_0
          try clear hcz19_1
          try clear hcz19_2
          try clear hcz19_3
          try clear hcz7_0
          try clear hcz7_1
          try clear hcz7_2
          try clear hcz7_3
          try clear hcz9_0
          try clear hcz9_1
          try clear hcz9_2
          try clear hcz9_3
          try clear hfz11_0
          try clear hfz11_1
          try clear hfz11_2
          try clear hfz11_3
          try clear hfz13_0
          try clear hfz13_1
          try clear hfz13_2
          try clear hfz13_3
          try clear hfz15_0
          try clear hfz15_1
          try clear hfz15_2
          try clear hfz15_3
          try clear hfz16_0
          try clear hfz16_1
          try clear hfz16_2
          try clear hfz16_3
          try clear hfz19_0
          try clear hfz19_1
          try clear hfz19_2
          try clear hfz19_3
          try clear hfz7_0
          try clear hfz7_1
          try clear hfz7_2
          try clear hfz7_3
          try clear hfz9_0
          try clear hfz9_1
          try clear hfz9_2
          try clear hfz9_3
          try clear p2
          obtain ⟨kq, x53_17, rfl, HA, HJ17, HO_0, HO_8, HO_135003, BK134, HB⟩ := hcut
          cases kq with
          | zero => exact absurd HA.out (by simp [gambrelref17_Do.j1])
          | succ kj17 =>
            have H := HA.out
            clear HA
            simp only [gambrelref17_Do.j1] at H
            have HC21 := Aside0.mk H
            clear H
            go_upto_if 53 with (fail)
            go_cut [8] (fun v8 wc => ∃ (kq : Nat) (x8_20 : List Int), Aside0 (gambrelref17_Do.j2 kq l0 x8_20 a1_0 a1_1 a1_2 l1_3 = some (r1, r2)) ∧ Aside0 (kq ≤ kj17) ∧ Aside0 (Kd.V k38 38 wc w.heap.size (fun k_ => ((P0_ k_ ∨ P1_3_ k_) ∨ w.heap.size ≤ k_) ∧ k_ ≠ gb134) (.slice A0 l0.length c0) l0) ∧ Aside0 (Kd.V (Kd.int .u8) 5 wc w.heap.size (fun k_ => ((P0_ k_ ∨ P1_3_ k_) ∨ w.heap.size ≤ k_) ∧ k_ ≠ gb134) v8 x8_20) ∧ Aside0 (Kd.V (Kd.int .u8) 5 wc w.heap.size (fun k_ => ((P0_ k_ ∨ P1_3_ k_) ∨ w.heap.size ≤ k_) ∧ k_ ≠ gb134) (.slice A1_3 l1_3.length c1_3) l1_3) ∧ Aside0 (wc.heap[gb134]? = some (.cells #[.string a1_0, .int .i64 a1_1, .int .i64 a1_2, (.slice A1_3 l1_3.length c1_3)] 25 (0, 0))) ∧ Aside0 (Below w.heap.size w wc))
            case first =>
              have H := HC21.out
              clear HC21
              by_cases c22 : x53_17 = true
              · subst c22
                have H1 : (if 0 ≤ a2 then (if a2 ≤ (l1_3.length : Int) then (gambrelref17_Do.j2 kj17 l0 (l1_3.take (a2 : Int).toNat) a1_0 a1_1 a1_2 l1_3) else (none)) else (none)) = some (r1, r2) := by rw [if_pos rfl] at H; exact H
                clear H
                have H := H1
                clear H1
                by_cases c23 : 0 ≤ a2
                · rw [if_pos c23] at H
                  have c23b0 := eq_true c23
                  have c23b1 : decide (0 ≤ a2) = true := decide_eq_true c23
                  clear c23
                  by_cases c24 : a2 ≤ (l1_3.length : Int)
                  · rw [if_pos c24] at H
                    have c24b0 := eq_true c24
                    have c24b1 : decide (a2 ≤ (l1_3.length : Int)) = true := decide_eq_true c24
                    clear c24
                    obtain ⟨y135, hy135⟩ : ∃ y_ : List Int, y_ = (l1_3.take (a2 : Int).toNat) := ⟨_, rfl⟩
                    replace H : (gambrelref17_Do.j2 kj17 l0 y135 a1_0 a1_1 a1_2 l1_3) = some (r1, r2) := by first | (rw [hy135]; with_reducible exact H) | (have H2_ := (Option.bind_some _ _).symm.trans H; rw [hy135]; with_reducible exact H2_) | (have H2_ := (Option.bind_some _ _).symm.trans H; with_reducible exact H2_) | with_reducible exact H | (rw [hy135]; exact H) | exact H
                    have Ny135 := Aside0.mk hy135
                    clear hy135
                    have H' := Aside0.mk H
                    clear H
                    have q25 : (a2 : Int) ≤ ((l1_3.length : Int) : Int) := of_decide_eq_true (by first | (with_reducible assumption) | assumption)
                    obtain ⟨i025, hi025, _, hsz25, _⟩ := info_parts info5
                    have hroom25 : l1_3.length ≤ c1_3 := (Kd.V_reads' HO_8.out).2.1
                    have hC25 : Kd.F (Kd.int .u8) _ _ A1_3 l1_3.length l1_3 := (Kd.V_at (base := w.heap.size) HO_8.out).2.2
                    have hcut25 := cut_to (P := Try.prog) 23 5 .i64 Try.underlying23 hi025 A1_3 l1_3.length c1_3 a2 (of_decide_eq_true (by first | (with_reducible assumption) | assumption)) q25 hroom25
                    have hr25 := Kd.F_take (m := (a2 : Int).toNat) hC25 (by omega)
                    have hy25 : y135.length = (a2 : Int).toNat := (by rw [Ny135.out, List.length_take]; omega)
                    rw [← Ny135.out] at hr25
                    rw [← hy25] at hcut25
                    have HO139 := Aside0.mk (show Kd.V (Kd.int .u8) 5 _ w.heap.size _ (.slice A1_3 y135.length c1_3) y135 from Kd.V_mk (by omega) hr25)
                    have HC139 := Aside0.mk (show y135.length ≤ c1_3 from by omega)
                    clear hr25 hC25 hroom25 hi025 hsz25
                    have KY25 := Aside0.mk hy25
                    clear hy25
                    replace q25 := eq_true q25
                    go_wp2
                    go_meet
                    case rel => exact ⟨_, (y135), H', ⟨by have := HJ3.out; have := HJ17.out; first | omega | exact Nat.le_refl _⟩, ⟨by (with_reducible repeat (first | apply Kd.V_alloc | apply Kd.V_drewN | apply Kd.V_drew)); exact HO_0.out⟩, ⟨by (with_reducible repeat (first | apply Kd.V_alloc | apply Kd.V_drewN | apply Kd.V_drew)); exact HO139.out⟩, ⟨by (with_reducible repeat (first | apply Kd.V_alloc | apply Kd.V_drewN | apply Kd.V_drew)); exact HO_135003.out⟩, ⟨by (with_reducible repeat (first | refine blk_drewN ?_ _ | refine blk_drew ?_ | refine blk_alloc ?_ _)); exact BK134.out⟩, ⟨by repeat (first | (with_reducible first | exact HB.out | apply below_alloc | apply pw_below_drewN | apply below_drew1 | refine below_set ?_ GE134.out) | exact HB.out)⟩⟩
                  · rw [if_neg c24] at H
                    exact absurd H (by simp)
                · rw [if_neg c23] at H
                  exact absurd H (by simp)
              · replace c22 := Bool.eq_false_iff.mpr c22
                subst c22
                have H1 : (gambrelref17_Do.j2 kj17 l0 l1_3 a1_0 a1_1 a1_2 l1_3) = some (r1, r2) := by rw [if_neg (show ¬ (false = true) by decide)] at H; exact H
                clear H
                have H := H1
                clear H1
                have H' := Aside0.mk H
                clear H
                go_wp2
                go_meet
                case rel => exact ⟨_, (l1_3), H', ⟨by have := HJ3.out; have := HJ17.out; first | omega | exact Nat.le_refl _⟩, ⟨by (with_reducible repeat (first | apply Kd.V_alloc | apply Kd.V_drewN | apply Kd.V_drew)); exact HO_0.out⟩, ⟨by (with_reducible repeat (first | apply Kd.V_alloc | apply Kd.V_drewN | apply Kd.V_drew)); exact HO_8.out⟩, ⟨by (with_reducible repeat (first | apply Kd.V_alloc | apply Kd.V_drewN | apply Kd.V_drew)); exact HO_135003.out⟩, ⟨by (with_reducible repeat (first | refine blk_drewN ?_ _ | refine blk_drew ?_ | refine blk_alloc ?_ _)); exact BK134.out⟩, ⟨by repeat (first | (with_reducible first | exact HB.out | apply below_alloc | apply pw_below_drewN | apply below_drew1 | refine below_set ?_ GE134.out) | exact HB.out)⟩⟩
            case rest =>
              clear HC21
              try clear c1
              try clear c2
              try clear p2
              try clear q2
              try clear c6
              try clear c6b0
              try clear c8
              try clear c8b0
              try clear c10
              try clear c10b0
              try clear c10b1
              try clear c12
              try clear c12b0
              try clear c12b1
              try clear c14
              try clear c14b0
              try clear c14b1
              try clear c17
              try clear c19
              try clear c20
              try clear c20b0
              try clear c22
              try clear c23
              try clear c23b0
              try clear c23b1
              try clear c24
              try clear c24b0
              try clear c24b1
              try clear q25
              try clear hcz11_0
              try clear hcz11_1
              try clear hcz11_2
              try clear hcz11_3
              try clear hcz13_0
              try clear hcz13_1
              try clear hcz13_2
              try clear hcz13_3
              try clear hcz15_0
              try clear hcz15_1
              try clear hcz15_2
              try clear hcz15_3
              try clear hcz16_0
              try clear hcz16_1
              try clear hcz16_2
              try clear hcz16_3
              try clear hcz19_0
              try clear hcz19_1
              try clear hcz19_2
              try clear hcz19_3
              try clear hcz7_0
              try clear hcz7_1
              try clear hcz7_2
              try clear hcz7_3
              try clear hcz9_0
              try clear hcz9_1
              try clear hcz9_2
              try clear hcz9_3
              try clear hfz11_0
              try clear hfz11_1
              try clear hfz11_2
              try clear hfz11_3
              try clear hfz13_0
              try clear hfz13_1
              try clear hfz13_2
              try clear hfz13_3
              try clear hfz15_0
              try clear hfz15_1
              try clear hfz15_2
              try clear hfz15_3
              try clear hfz16_0
              try clear hfz16_1
              try clear hfz16_2
              try clear hfz16_3
              try clear hfz19_0
              try clear hfz19_1
              try clear hfz19_2
              try clear hfz19_3
              try clear hfz7_0
              try clear hfz7_1
              try clear hfz7_2
              try clear hfz7_3
              try clear hfz9_0
              try clear hfz9_1
              try clear hfz9_2
              try clear hfz9_3
              try clear p2
              try clear q25
              obtain ⟨kq, x8_20, HA, HJ20, HO_0, HO_8, HO_135003, BK134, HB⟩ := hcut
              cases kq with
              | zero => exact absurd HA.out (by simp [gambrelref17_Do.j2])
              | succ kj20 =>
                have H := HA.out
                clear HA
                simp only [gambrelref17_Do.j2] at H
                replace H := Option.bind_eq_some_iff.mp H
                obtain ⟨⟨t140, t143⟩, A260, H⟩ := H
                replace H : (if a1_1 = 2 then (gambrelref17_Do.j3 kj20 l0 x8_20 t140 (t140.length : Int) a1_0 a1_1 a1_2 l1_3) else (gambrelref17_Do.j3 kj20 l0 x8_20 t140 0 a1_0 a1_1 a1_2 l1_3)) = some (r1, r2) := H
                have A26 := Aside0.mk A260
                clear A260
                have HC27 := Aside0.mk H
                clear H
                have hcz28_0 : wc.cell? ⟨gb134, 0, none⟩ = some (.string a1_0) := (blk_cell BK134.out 0).trans rfl
                have hcz28_1 : wc.cell? ⟨gb134, 1, none⟩ = some (.int .i64 a1_1) := (blk_cell BK134.out 1).trans rfl
                have hcz28_2 : wc.cell? ⟨gb134, 2, none⟩ = some (.int .i64 a1_2) := (blk_cell BK134.out 2).trans rfl
                have hcz28_3 : wc.cell? ⟨gb134, 3, none⟩ = some (.slice A1_3 l1_3.length c1_3) := (blk_cell BK134.out 3).trans rfl
                have hfz28_0 := blk_frozen BK134.out 0
                have hfz28_1 := blk_frozen BK134.out 1
                have hfz28_2 := blk_frozen BK134.out 2
                have hfz28_3 := blk_frozen BK134.out 3
                go_upto_if 66 with (first | ((with_reducible refine gate_callee (f := 30) rfl ?_); refine goesL_ (some 61) rfl rfl Try.func30 (by kernel_rfl) rfl #[.slice A0 l0.length c0, .string a1_0] rfl (by (try simp only [List.map_toArray, List.map_cons, List.map_nil]); first | done | rfl | (simp only [List.length_drop, List.length_take]; rfl)) ?_; (with_reducible refine (gambrelref17_Get.calls kj20 (fun k_ => (((P0_ k_ ∨ P1_3_ k_) ∨ w.heap.size ≤ k_) ∧ k_ ≠ gb134)) _ _ l0 a1_0 t140 t143 _ ?side1 A26.out).mono ?_); (case side1 => exact HO_0.out); rintro e w29 ⟨v141, rfl, ho0, hb⟩; refine ⟨_, rfl, ?_⟩; have n0_ := Aside0.mk (Kd.V_below (by (with_reducible repeat (first | apply Kd.V_alloc | apply Kd.V_drewN | apply Kd.V_drew)); exact HO_0.out) hb); have n1_ := Aside0.mk (Kd.V_below (by (with_reducible repeat (first | apply Kd.V_alloc | apply Kd.V_drewN | apply Kd.V_drew)); exact HO_8.out) hb); have n2_ := Aside0.mk (Kd.V_below (by (with_reducible repeat (first | apply Kd.V_alloc | apply Kd.V_drewN | apply Kd.V_drew)); exact HO_135003.out) hb); have n3_ := Aside0.mk (Kd.V_lower (Kd.V_mono (ok' := fun k_ => ((P0_ k_ ∨ P1_3_ k_) ∨ w.heap.size ≤ k_) ∧ k_ ≠ gb134) ho0 (fun k_ hk_ => ⟨Or.elim hk_ (fun hs_ => hs_.1) (fun hn_ => (.inr (Nat.le_trans (below_size (by repeat (first | (with_reducible first | exact HB.out | apply below_alloc | apply pw_below_drewN | apply below_drew1 | refine below_set ?_ GE134.out) | exact HB.out))) hn_))), Or.elim hk_ (fun hs_ => hs_.2) (fun hn_ => (Kd.freshB (g := gb134) (o := .cells #[.string a1_0, .int .i64 a1_1, .int .i64 a1_2, .slice A1_3 l1_3.length c1_3] 25 (0, 0)) (by (with_reducible repeat (first | refine blk_drewN ?_ _ | refine blk_drew ?_ | refine blk_alloc ?_ _)); exact BK134.out) k_ hn_))⟩)) (below_size (by repeat (first | (with_reducible first | exact HB.out | apply below_alloc | apply pw_below_drewN | apply below_drew1 | refine below_set ?_ GE134.out) | exact HB.out)))); have n4_ := Aside0.mk (blk_below (g := gb134) (o := .cells #[.string a1_0, .int .i64 a1_1, .int .i64 a1_2, .slice A1_3 l1_3.length c1_3] 25 (0, 0)) (by (with_reducible repeat (first | refine blk_drewN ?_ _ | refine blk_drew ?_ | refine blk_alloc ?_ _)); exact BK134.out) hb); have n5_ := Aside0.mk (below_step (by repeat (first | (with_reducible first | exact HB.out | apply below_alloc | apply pw_below_drewN | apply below_drew1 | refine below_set ?_ GE134.out) | exact HB.out)) hb); clear HO_0; clear HO_8; clear HO_135003; clear BK134; clear HB; have HO_0 := n0_; have HO_8 := n1_; have HO_135003 := n2_; have HO142 := n3_; have BK134 := n4_; have HB := n5_; clear n0_ n1_ n2_ n3_ n4_ n5_; (try clear hb); (try clear hb2); (try clear hk); (try clear hi); (try clear ho0); have hcz30_0 : w29.cell? ⟨gb134, 0, none⟩ = some (.string a1_0) := (blk_cell BK134.out 0).trans rfl; have hcz30_1 : w29.cell? ⟨gb134, 1, none⟩ = some (.int .i64 a1_1) := (blk_cell BK134.out 1).trans rfl; have hcz30_2 : w29.cell? ⟨gb134, 2, none⟩ = some (.int .i64 a1_2) := (blk_cell BK134.out 2).trans rfl; have hcz30_3 : w29.cell? ⟨gb134, 3, none⟩ = some (.slice A1_3 l1_3.length c1_3) := (blk_cell BK134.out 3).trans rfl; have hfz30_0 := blk_frozen BK134.out 0; have hfz30_1 := blk_frozen BK134.out 1; have hfz30_2 := blk_frozen BK134.out 2; have hfz30_3 := blk_frozen BK134.out 3))
                (try simp only [Act.put, List.setIfInBounds_toArray, List.set_cons_zero, List.set_cons_succ])
                go_cut [11] (fun v11 wc => ∃ (kq : Nat) (x11_26 : Int), v11 = .int .i64 x11_26 ∧ Aside0 (gambrelref17_Do.j3 kq l0 x8_20 t140 x11_26 a1_0 a1_1 a1_2 l1_3 = some (r1, r2)) ∧ Aside0 (kq ≤ kj20) ∧ Aside0 (Kd.V k38 38 wc w.heap.size (fun k_ => ((P0_ k_ ∨ P1_3_ k_) ∨ w.heap.size ≤ k_) ∧ k_ ≠ gb134) (.slice A0 l0.length c0) l0) ∧ Aside0 (Kd.V (Kd.int .u8) 5 wc w.heap.size (fun k_ => ((P0_ k_ ∨ P1_3_ k_) ∨ w.heap.size ≤ k_) ∧ k_ ≠ gb134) u8 x8_20) ∧ Aside0 (Kd.V (Kd.int .u8) 5 wc w.heap.size (fun k_ => ((P0_ k_ ∨ P1_3_ k_) ∨ w.heap.size ≤ k_) ∧ k_ ≠ gb134) v141 t140) ∧ Aside0 (Kd.V (Kd.int .u8) 5 wc w.heap.size (fun k_ => ((P0_ k_ ∨ P1_3_ k_) ∨ w.heap.size ≤ k_) ∧ k_ ≠ gb134) (.slice A1_3 l1_3.length c1_3) l1_3) ∧ Aside0 (wc.heap[gb134]? = some (.cells #[.string a1_0, .int .i64 a1_1, .int .i64 a1_2, (.slice A1_3 l1_3.length c1_3)] 25 (0, 0))) ∧ Aside0 (Below w.heap.size w wc))
                case first =>
                  have H := HC27.out
                  clear HC27
                  by_cases c31 : a1_1 = 2
                  · rw [if_pos c31] at H
                    have c31b0 : (a1_1 == 2) = true := beq_iff_eq.mpr c31
                    have c31b1 : (a1_1 != 2) = false := bne_eq_false_iff_eq.mpr c31
                    clear c31
                    (first | rw [c31b0] | (simp only [i64_w, i32_w]; rw [c31b0]) | skip)
                    have H' := Aside0.mk H
                    clear H
                    obtain ⟨Ao32, co32, eo32⟩ := Kd.V_slice HO142.out
                    subst eo32
                    go_wp2
                    go_meet
                    case rel => exact ⟨_, ((t140.length : Int)), (by first | rfl | (simp; done) | (simp [*]; done)), H', ⟨by have := HJ3.out; have := HJ17.out; have := HJ20.out; first | omega | exact Nat.le_refl _⟩, ⟨by (with_reducible repeat (first | apply Kd.V_alloc | apply Kd.V_drewN | apply Kd.V_drew)); exact HO_0.out⟩, ⟨by (with_reducible repeat (first | apply Kd.V_alloc | apply Kd.V_drewN | apply Kd.V_drew)); exact HO_8.out⟩, ⟨by (with_reducible repeat (first | apply Kd.V_alloc | apply Kd.V_drewN | apply Kd.V_drew)); exact HO142.out⟩, ⟨by (with_reducible repeat (first | apply Kd.V_alloc | apply Kd.V_drewN | apply Kd.V_drew)); exact HO_135003.out⟩, ⟨by (with_reducible repeat (first | refine blk_drewN ?_ _ | refine blk_drew ?_ | refine blk_alloc ?_ _)); exact BK134.out⟩, ⟨by repeat (first | (with_reducible first | exact HB.out | apply below_alloc | apply pw_below_drewN | apply below_drew1 | refine below_set ?_ GE134.out) | exact HB.out)⟩⟩
                  · rw [if_neg c31] at H
                    have c31b0 : (a1_1 == 2) = false := beq_eq_false_iff_ne.mpr c31
                    have c31b1 : (a1_1 != 2) = true := bne_iff_ne.mpr c31
                    (first | rw [c31b0] | (simp only [i64_w, i32_w]; rw [c31b0]) | skip)
                    have H' := Aside0.mk H
                    clear H
                    go_wp2
                    go_meet
                    case rel => exact ⟨_, (0), (by first | rfl | (simp; done) | (simp [*]; done)), H', ⟨by have := HJ3.out; have := HJ17.out; have := HJ20.out; first | omega | exact Nat.le_refl _⟩, ⟨by (with_reducible repeat (first | apply Kd.V_alloc | apply Kd.V_drewN | apply Kd.V_drew)); exact HO_0.out⟩, ⟨by (with_reducible repeat (first | apply Kd.V_alloc | apply Kd.V_drewN | apply Kd.V_drew)); exact HO_8.out⟩, ⟨by (with_reducible repeat (first | apply Kd.V_alloc | apply Kd.V_drewN | apply Kd.V_drew)); exact HO142.out⟩, ⟨by (with_reducible repeat (first | apply Kd.V_alloc | apply Kd.V_drewN | apply Kd.V_drew)); exact HO_135003.out⟩, ⟨by (with_reducible repeat (first | refine blk_drewN ?_ _ | refine blk_drew ?_ | refine blk_alloc ?_ _)); exact BK134.out⟩, ⟨by repeat (first | (with_reducible first | exact HB.out | apply below_alloc | apply pw_below_drewN | apply below_drew1 | refine below_set ?_ GE134.out) | exact HB.out)⟩⟩
                case rest =>
                  clear HC27
                  try clear c1
                  try clear c2
                  try clear p2
                  try clear q2
                  try clear c3
                  try clear c6
                  try clear c6b0
                  try clear c8
                  try clear c8b0
                  try clear c10
                  try clear c10b0
                  try clear c10b1
                  try clear c12
                  try clear c12b0
                  try clear c12b1
                  try clear c14
                  try clear c14b0
                  try clear c14b1
                  try clear c17
                  try clear c19
                  try clear c20
                  try clear c20b0
                  try clear c22
                  try clear c23
                  try clear c23b0
                  try clear c23b1
                  try clear c24
                  try clear c24b0
                  try clear c24b1
                  try clear q25
                  try clear c30
                  try clear c31
                  try clear c31b0
                  try clear c31b1
                  try clear hcz11_0
                  try clear hcz11_1
                  try clear hcz11_2
                  try clear hcz11_3
                  try clear hcz13_0
                  try clear hcz13_1
                  try clear hcz13_2
                  try clear hcz13_3
                  try clear hcz15_0
                  try clear hcz15_1
                  try clear hcz15_2
                  try clear hcz15_3
                  try clear hcz16_0
                  try clear hcz16_1
                  try clear hcz16_2
                  try clear hcz16_3
                  try clear hcz19_0
                  try clear hcz19_1
                  try clear hcz19_2
                  try clear hcz19_3
                  try clear hcz28_0
                  try clear hcz28_1
                  try clear hcz28_2
                  try clear hcz28_3
                  try clear hcz30_0
                  try clear hcz30_1
                  try clear hcz30_2
                  try clear hcz30_3
                  try clear hcz7_0
                  try clear hcz7_1
                  try clear hcz7_2
                  try clear hcz7_3
                  try clear hcz9_0
                  try clear hcz9_1
                  try clear hcz9_2
                  try clear hcz9_3
                  try clear hfz11_0
                  try clear hfz11_1
                  try clear hfz11_2
                  try clear hfz11_3
                  try clear hfz13_0
                  try clear hfz13_1
                  try clear hfz13_2
                  try clear hfz13_3
                  try clear hfz15_0
                  try clear hfz15_1
                  try clear hfz15_2
                  try clear hfz15_3
                  try clear hfz16_0
                  try clear hfz16_1
                  try clear hfz16_2
                  try clear hfz16_3
                  try clear hfz19_0
                  try clear hfz19_1
                  try clear hfz19_2
                  try clear hfz19_3
                  try clear hfz28_0
                  try clear hfz28_1
                  try clear hfz28_2
                  try clear hfz28_3
                  try clear hfz30_0
                  try clear hfz30_1
                  try clear hfz30_2
                  try clear hfz30_3
                  try clear hfz7_0
                  try clear hfz7_1
                  try clear hfz7_2
                  try clear hfz7_3
                  try clear hfz9_0
                  try clear hfz9_1
                  try clear hfz9_2
                  try clear hfz9_3
                  try clear p2
                  try clear q2
                  try clear q25
                  obtain ⟨kq, x11_26, rfl, HA, HJ26, HO_0, HO_8, HO_9, HO_135003, BK134, HB⟩ := hcut
                  cases kq with
                  | zero => exact absurd HA.out (by simp [gambrelref17_Do.j3])
                  | succ kj26 =>
                    have H := HA.out
                    clear HA
                    simp only [gambrelref17_Do.j3] at H
                    have HC33 := Aside0.mk H
                    clear H
                    have hcz34_0 : wc.cell? ⟨gb134, 0, none⟩ = some (.string a1_0) := (blk_cell BK134.out 0).trans rfl
                    have hcz34_1 : wc.cell? ⟨gb134, 1, none⟩ = some (.int .i64 a1_1) := (blk_cell BK134.out 1).trans rfl
                    have hcz34_2 : wc.cell? ⟨gb134, 2, none⟩ = some (.int .i64 a1_2) := (blk_cell BK134.out 2).trans rfl
                    have hcz34_3 : wc.cell? ⟨gb134, 3, none⟩ = some (.slice A1_3 l1_3.length c1_3) := (blk_cell BK134.out 3).trans rfl
                    have hfz34_0 := blk_frozen BK134.out 0
                    have hfz34_1 := blk_frozen BK134.out 1
                    have hfz34_2 := blk_frozen BK134.out 2
                    have hfz34_3 := blk_frozen BK134.out 3
                    go_upto_if 71 with (fail)
                    go_cut [11] (fun v11 wc => ∃ (kq : Nat) (x11_32 : Int), v11 = .int .i64 x11_32 ∧ Aside0 (gambrelref17_Do.j4 kq l0 x8_20 t140 x11_32 a1_0 a1_1 a1_2 l1_3 = some (r1, r2)) ∧ Aside0 (kq ≤ kj26) ∧ Aside0 (Kd.V k38 38 wc w.heap.size (fun k_ => ((P0_ k_ ∨ P1_3_ k_) ∨ w.heap.size ≤ k_) ∧ k_ ≠ gb134) (.slice A0 l0.length c0) l0) ∧ Aside0 (Kd.V (Kd.int .u8) 5 wc w.heap.size (fun k_ => ((P0_ k_ ∨ P1_3_ k_) ∨ w.heap.size ≤ k_) ∧ k_ ≠ gb134) u8 x8_20) ∧ Aside0 (Kd.V (Kd.int .u8) 5 wc w.heap.size (fun k_ => ((P0_ k_ ∨ P1_3_ k_) ∨ w.heap.size ≤ k_) ∧ k_ ≠ gb134) v141 t140) ∧ Aside0 (Kd.V (Kd.int .u8) 5 wc w.heap.size (fun k_ => ((P0_ k_ ∨ P1_3_ k_) ∨ w.heap.size ≤ k_) ∧ k_ ≠ gb134) (.slice A1_3 l1_3.length c1_3) l1_3) ∧ Aside0 (wc.heap[gb134]? = some (.cells #[.string a1_0, .int .i64 a1_1, .int .i64 a1_2, (.slice A1_3 l1_3.length c1_3)] 25 (0, 0))) ∧ Aside0 (Below w.heap.size w wc))
                    case first =>
                      have H := HC33.out
                      clear HC33
                      by_cases c35 : a1_1 = 3
                      · rw [if_pos c35] at H
                        have c35b0 : (a1_1 == 3) = true := beq_iff_eq.mpr c35
                        have c35b1 : (a1_1 != 3) = false := bne_eq_false_iff_eq.mpr c35
                        clear c35
                        (first | rw [c35b0] | (simp only [i64_w, i32_w]; rw [c35b0]) | skip)
                        have H' := Aside0.mk H
                        clear H
                        have hcz36_0 : wc.cell? ⟨gb134, 0, none⟩ = some (.string a1_0) := (blk_cell BK134.out 0).trans rfl
                        have hcz36_1 : wc.cell? ⟨gb134, 1, none⟩ = some (.int .i64 a1_1) := (blk_cell BK134.out 1).trans rfl
                        have hcz36_2 : wc.cell? ⟨gb134, 2, none⟩ = some (.int .i64 a1_2) := (blk_cell BK134.out 2).trans rfl
                        have hcz36_3 : wc.cell? ⟨gb134, 3, none⟩ = some (.slice A1_3 l1_3.length c1_3) := (blk_cell BK134.out 3).trans rfl
                        have hfz36_0 := blk_frozen BK134.out 0
                        have hfz36_1 := blk_frozen BK134.out 1
                        have hfz36_2 := blk_frozen BK134.out 2
                        have hfz36_3 := blk_frozen BK134.out 3
                        go_wp2
                        go_meet
                        case rel => exact ⟨_, (a1_2), (by first | rfl | (simp; done) | (simp [*]; done)), H', ⟨by have := HJ3.out; have := HJ17.out; have := HJ20.out; have := HJ26.out; first | omega | exact Nat.le_refl _⟩, ⟨by (with_reducible repeat (first | apply Kd.V_alloc | apply Kd.V_drewN | apply Kd.V_drew)); exact HO_0.out⟩, ⟨by (with_reducible repeat (first | apply Kd.V_alloc | apply Kd.V_drewN | apply Kd.V_drew)); exact HO_8.out⟩, ⟨by (with_reducible repeat (first | apply Kd.V_alloc | apply Kd.V_drewN | apply Kd.V_drew)); exact HO_9.out⟩, ⟨by (with_reducible repeat (first | apply Kd.V_alloc | apply Kd.V_drewN | apply Kd.V_drew)); exact HO_135003.out⟩, ⟨by (with_reducible repeat (first | refine blk_drewN ?_ _ | refine blk_drew ?_ | refine blk_alloc ?_ _)); exact BK134.out⟩, ⟨by repeat (first | (with_reducible first | exact HB.out | apply below_alloc | apply pw_below_drewN | apply below_drew1 | refine below_set ?_ GE134.out) | exact HB.out)⟩⟩
                      · rw [if_neg c35] at H
                        have c35b0 : (a1_1 == 3) = false := beq_eq_false_iff_ne.mpr c35
                        have c35b1 : (a1_1 != 3) = true := bne_iff_ne.mpr c35
                        (first | rw [c35b0] | (simp only [i64_w, i32_w]; rw [c35b0]) | skip)
                        have H' := Aside0.mk H
                        clear H
                        go_wp2
                        go_meet
                        case rel => exact ⟨_, (x11_26), (by first | rfl | (simp; done) | (simp [*]; done)), H', ⟨by have := HJ3.out; have := HJ17.out; have := HJ20.out; have := HJ26.out; first | omega | exact Nat.le_refl _⟩, ⟨by (with_reducible repeat (first | apply Kd.V_alloc | apply Kd.V_drewN | apply Kd.V_drew)); exact HO_0.out⟩, ⟨by (with_reducible repeat (first | apply Kd.V_alloc | apply Kd.V_drewN | apply Kd.V_drew)); exact HO_8.out⟩, ⟨by (with_reducible repeat (first | apply Kd.V_alloc | apply Kd.V_drewN | apply Kd.V_drew)); exact HO_9.out⟩, ⟨by (with_reducible repeat (first | apply Kd.V_alloc | apply Kd.V_drewN | apply Kd.V_drew)); exact HO_135003.out⟩, ⟨by (with_reducible repeat (first | refine blk_drewN ?_ _ | refine blk_drew ?_ | refine blk_alloc ?_ _)); exact BK134.out⟩, ⟨by repeat (first | (with_reducible first | exact HB.out | apply below_alloc | apply pw_below_drewN | apply below_drew1 | refine below_set ?_ GE134.out) | exact HB.out)⟩⟩
                    case rest =>
                      clear HC33
                      try clear c1
                      try clear c2
                      try clear p2
                      try clear q2
                      try clear c3
                      try clear c6
                      try clear c6b0
                      try clear c8
                      try clear c8b0
                      try clear c10
                      try clear c10b0
                      try clear c10b1
                      try clear c12
                      try clear c12b0
                      try clear c12b1
                      try clear c14
                      try clear c14b0
                      try clear c14b1
                      try clear c17
                      try clear c19
                      try clear c20
                      try clear c20b0
                      try clear c22
                      try clear c23
                      try clear c23b0
                      try clear c23b1
                      try clear c24
                      try clear c24b0
                      try clear c24b1
                      try clear q25
                      try clear c30
                      try clear c31
                      try clear c31b0
                      try clear c31b1
                      try clear c35
                      try clear c35b0
                      try clear c35b1
                      try clear hcz11_0
                      try clear hcz11_1
                      try clear hcz11_2
                      try clear hcz11_3
                      try clear hcz13_0
                      try clear hcz13_1
                      try clear hcz13_2
                      try clear hcz13_3
                      try clear hcz15_0
                      try clear hcz15_1
                      try clear hcz15_2
                      try clear hcz15_3
                      try clear hcz16_0
                      try clear hcz16_1
                      try clear hcz16_2
                      try clear hcz16_3
                      try clear hcz19_0
                      try clear hcz19_1
                      try clear hcz19_2
                      try clear hcz19_3
                      try clear hcz28_0
                      try clear hcz28_1
                      try clear hcz28_2
                      try clear hcz28_3
                      try clear hcz30_0
                      try clear hcz30_1
                      try clear hcz30_2
                      try clear hcz30_3
                      try clear hcz34_0
                      try clear hcz34_1
                      try clear hcz34_2
                      try clear hcz34_3
                      try clear hcz36_0
                      try clear hcz36_1
                      try clear hcz36_2
                      try clear hcz36_3
                      try clear hcz7_0
                      try clear hcz7_1
                      try clear hcz7_2
                      try clear hcz7_3
                      try clear hcz9_0
                      try clear hcz9_1
                      try clear hcz9_2
                      try clear hcz9_3
                      try clear hfz11_0
                      try clear hfz11_1
                      try clear hfz11_2
                      try clear hfz11_3
                      try clear hfz13_0
                      try clear hfz13_1
                      try clear hfz13_2
                      try clear hfz13_3
                      try clear hfz15_0
                      try clear hfz15_1
                      try clear hfz15_2
                      try clear hfz15_3
                      try clear hfz16_0
                      try clear hfz16_1
                      try clear hfz16_2
                      try clear hfz16_3
                      try clear hfz19_0
                      try clear hfz19_1
                      try clear hfz19_2
                      try clear hfz19_3
                      try clear hfz28_0
                      try clear hfz28_1
                      try clear hfz28_2
                      try clear hfz28_3
                      try clear hfz30_0
                      try clear hfz30_1
                      try clear hfz30_2
                      try clear hfz30_3
                      try clear hfz34_0
                      try clear hfz34_1
                      try clear hfz34_2
                      try clear hfz34_3
                      try clear hfz36_0
                      try clear hfz36_1
                      try clear hfz36_2
                      try clear hfz36_3
                      try clear hfz7_0
                      try clear hfz7_1
                      try clear hfz7_2
                      try clear hfz7_3
                      try clear hfz9_0
                      try clear hfz9_1
                      try clear hfz9_2
                      try clear hfz9_3
                      try clear p2
                      try clear q2
                      try clear q25
                      obtain ⟨kq, x11_32, rfl, HA, HJ32, HO_0, HO_8, HO_9, HO_135003, BK134, HB⟩ := hcut
                      cases kq with
                      | zero => exact absurd HA.out (by simp [gambrelref17_Do.j4])
                      | succ kj32 =>
                        have H := HA.out
                        clear HA
                        simp only [gambrelref17_Do.j4] at H
                        have HC37 := Aside0.mk H
                        clear H
                        go_upto_region 12 with (fail)
                        go_cut [92] (fun v92 wc => ∃ (kq : Nat) (x92_36 : Bool), v92 = .bool x92_36 ∧ Aside0 (gambrelref17_Do.j5 kq l0 x8_20 t140 x11_32 x92_36 a1_0 a1_1 a1_2 l1_3 = some (r1, r2)) ∧ Aside0 (kq ≤ kj32) ∧ Aside0 (Kd.V k38 38 wc w.heap.size (fun k_ => ((P0_ k_ ∨ P1_3_ k_) ∨ w.heap.size ≤ k_) ∧ k_ ≠ gb134) (.slice A0 l0.length c0) l0) ∧ Aside0 (Kd.V (Kd.int .u8) 5 wc w.heap.size (fun k_ => ((P0_ k_ ∨ P1_3_ k_) ∨ w.heap.size ≤ k_) ∧ k_ ≠ gb134) u8 x8_20) ∧ Aside0 (Kd.V (Kd.int .u8) 5 wc w.heap.size (fun k_ => ((P0_ k_ ∨ P1_3_ k_) ∨ w.heap.size ≤ k_) ∧ k_ ≠ gb134) v141 t140) ∧ Aside0 (Kd.V (Kd.int .u8) 5 wc w.heap.size (fun k_ => ((P0_ k_ ∨ P1_3_ k_) ∨ w.heap.size ≤ k_) ∧ k_ ≠ gb134) (.slice A1_3 l1_3.length c1_3) l1_3) ∧ Aside0 (wc.heap[gb134]? = some (.cells #[.string a1_0, .int .i64 a1_1, .int .i64 a1_2, (.slice A1_3 l1_3.length c1_3)] 25 (0, 0))) ∧ Aside0 (Below w.heap.size w wc))
                        case first =>
                          have H := HC37.out
                          clear HC37
                          by_cases c38 : x11_32 > 65536
                          · rw [if_pos c38] at H
                            have c38b0 : decide (65536 < x11_32) = true := decide_eq_true c38
                            clear c38
                            (first | rw [c38b0] | (simp only [i64_w, i32_w]; rw [c38b0]) | skip)
                            have H' := Aside0.mk H
                            clear H
                            go_wp2
                            go_meet
                            case rel => exact ⟨_, (true), (by first | rfl | (simp; done) | (simp [*]; done)), H', ⟨by have := HJ3.out; have := HJ17.out; have := HJ20.out; have := HJ26.out; have := HJ32.out; first | omega | exact Nat.le_refl _⟩, ⟨by (with_reducible repeat (first | apply Kd.V_alloc | apply Kd.V_drewN | apply Kd.V_drew)); exact HO_0.out⟩, ⟨by (with_reducible repeat (first | apply Kd.V_alloc | apply Kd.V_drewN | apply Kd.V_drew)); exact HO_8.out⟩, ⟨by (with_reducible repeat (first | apply Kd.V_alloc | apply Kd.V_drewN | apply Kd.V_drew)); exact HO_9.out⟩, ⟨by (with_reducible repeat (first | apply Kd.V_alloc | apply Kd.V_drewN | apply Kd.V_drew)); exact HO_135003.out⟩, ⟨by (with_reducible repeat (first | refine blk_drewN ?_ _ | refine blk_drew ?_ | refine blk_alloc ?_ _)); exact BK134.out⟩, ⟨by repeat (first | (with_reducible first | exact HB.out | apply below_alloc | apply pw_below_drewN | apply below_drew1 | refine below_set ?_ GE134.out) | exact HB.out)⟩⟩
                          · rw [if_neg c38] at H
                            have c38b0 : decide (65536 < x11_32) = false := decide_eq_false c38
                            clear c38
                            (first | rw [c38b0] | (simp only [i64_w, i32_w]; rw [c38b0]) | skip)
                            by_cases c39 : (wrap64 (x11_32 + (x8_20.length : Int))) > 65536
                            · rw [if_pos c39] at H
                              have c39b0 : decide (65536 < (wrap64 (x11_32 + (x8_20.length : Int)))) = true := decide_eq_true c39
                              clear c39
                              have H' := Aside0.mk H
                              clear H
                              obtain ⟨Ao40, co40, eo40⟩ := Kd.V_slice HO_8.out
                              subst eo40
                              go_wp2
                              go_meet
                              case rel => exact ⟨_, (true), (by first | rfl | (simp; done) | (simp [*]; done)), H', ⟨by have := HJ3.out; have := HJ17.out; have := HJ20.out; have := HJ26.out; have := HJ32.out; first | omega | exact Nat.le_refl _⟩, ⟨by (with_reducible repeat (first | apply Kd.V_alloc | apply Kd.V_drewN | apply Kd.V_drew)); exact HO_0.out⟩, ⟨by (with_reducible repeat (first | apply Kd.V_alloc | apply Kd.V_drewN | apply Kd.V_drew)); exact HO_8.out⟩, ⟨by (with_reducible repeat (first | apply Kd.V_alloc | apply Kd.V_drewN | apply Kd.V_drew)); exact HO_9.out⟩, ⟨by (with_reducible repeat (first | apply Kd.V_alloc | apply Kd.V_drewN | apply Kd.V_drew)); exact HO_135003.out⟩, ⟨by (with_reducible repeat (first | refine blk_drewN ?_ _ | refine blk_drew ?_ | refine blk_alloc ?_ _)); exact BK134.out⟩, ⟨by repeat (first | (with_reducible first | exact HB.out | apply below_alloc | apply pw_below_drewN | apply below_drew1 | refine below_set ?_ GE134.out) | exact HB.out)⟩⟩
                            · rw [if_neg c39] at H
                              have c39b0 : decide (65536 < (wrap64 (x11_32 + (x8_20.length : Int)))) = false := decide_eq_false c39
                              clear c39
                              by_cases c41 : a1_1 = 3
                              · rw [if_pos c41] at H
                                have c41b0 : (a1_1 == 3) = true := beq_iff_eq.mpr c41
                                have c41b1 : (a1_1 != 3) = false := bne_eq_false_iff_eq.mpr c41
                                clear c41
                                have H' := Aside0.mk H
                                clear H
                                obtain ⟨Ao42, co42, eo42⟩ := Kd.V_slice HO_8.out
                                subst eo42
                                have hcz43_0 : wc.cell? ⟨gb134, 0, none⟩ = some (.string a1_0) := (blk_cell BK134.out 0).trans rfl
                                have hcz43_1 : wc.cell? ⟨gb134, 1, none⟩ = some (.int .i64 a1_1) := (blk_cell BK134.out 1).trans rfl
                                have hcz43_2 : wc.cell? ⟨gb134, 2, none⟩ = some (.int .i64 a1_2) := (blk_cell BK134.out 2).trans rfl
                                have hcz43_3 : wc.cell? ⟨gb134, 3, none⟩ = some (.slice A1_3 l1_3.length c1_3) := (blk_cell BK134.out 3).trans rfl
                                have hfz43_0 := blk_frozen BK134.out 0
                                have hfz43_1 := blk_frozen BK134.out 1
                                have hfz43_2 := blk_frozen BK134.out 2
                                have hfz43_3 := blk_frozen BK134.out 3
                                obtain ⟨Ao44, co44, eo44⟩ := Kd.V_slice HO_9.out
                                subst eo44
                                go_wp2
                                go_meet
                                case rel => exact ⟨_, (decide ((t140.length : Int) > 65536)), (by first | rfl | (simp; done) | (simp [*]; done)), H', ⟨by have := HJ3.out; have := HJ17.out; have := HJ20.out; have := HJ26.out; have := HJ32.out; first | omega | exact Nat.le_refl _⟩, ⟨by (with_reducible repeat (first | apply Kd.V_alloc | apply Kd.V_drewN | apply Kd.V_drew)); exact HO_0.out⟩, ⟨by (with_reducible repeat (first | apply Kd.V_alloc | apply Kd.V_drewN | apply Kd.V_drew)); exact HO_8.out⟩, ⟨by (with_reducible repeat (first | apply Kd.V_alloc | apply Kd.V_drewN | apply Kd.V_drew)); exact HO_9.out⟩, ⟨by (with_reducible repeat (first | apply Kd.V_alloc | apply Kd.V_drewN | apply Kd.V_drew)); exact HO_135003.out⟩, ⟨by (with_reducible repeat (first | refine blk_drewN ?_ _ | refine blk_drew ?_ | refine blk_alloc ?_ _)); exact BK134.out⟩, ⟨by repeat (first | (with_reducible first | exact HB.out | apply below_alloc | apply pw_below_drewN | apply below_drew1 | refine below_set ?_ GE134.out) | exact HB.out)⟩⟩
                              · rw [if_neg c41] at H
                                have c41b0 : (a1_1 == 3) = false := beq_eq_false_iff_ne.mpr c41
                                have c41b1 : (a1_1 != 3) = true := bne_iff_ne.mpr c41
                                have H' := Aside0.mk H
                                clear H
                                obtain ⟨Ao45, co45, eo45⟩ := Kd.V_slice HO_8.out
                                subst eo45
                                have hcz46_0 : wc.cell? ⟨gb134, 0, none⟩ = some (.string a1_0) := (blk_cell BK134.out 0).trans rfl
                                have hcz46_1 : wc.cell? ⟨gb134, 1, none⟩ = some (.int .i64 a1_1) := (blk_cell BK134.out 1).trans rfl
                                have hcz46_2 : wc.cell? ⟨gb134, 2, none⟩ = some (.int .i64 a1_2) := (blk_cell BK134.out 2).trans rfl
                                have hcz46_3 : wc.cell? ⟨gb134, 3, none⟩ = some (.slice A1_3 l1_3.length c1_3) := (blk_cell BK134.out 3).trans rfl
                                have hfz46_0 := blk_frozen BK134.out 0
                                have hfz46_1 := blk_frozen BK134.out 1
                                have hfz46_2 := blk_frozen BK134.out 2
                                have hfz46_3 := blk_frozen BK134.out 3
                                go_wp2
                                go_meet
                                case rel => exact ⟨_, (false), (by first | rfl | (simp; done) | (simp [*]; done)), H', ⟨by have := HJ3.out; have := HJ17.out; have := HJ20.out; have := HJ26.out; have := HJ32.out; first | omega | exact Nat.le_refl _⟩, ⟨by (with_reducible repeat (first | apply Kd.V_alloc | apply Kd.V_drewN | apply Kd.V_drew)); exact HO_0.out⟩, ⟨by (with_reducible repeat (first | apply Kd.V_alloc | apply Kd.V_drewN | apply Kd.V_drew)); exact HO_8.out⟩, ⟨by (with_reducible repeat (first | apply Kd.V_alloc | apply Kd.V_drewN | apply Kd.V_drew)); exact HO_9.out⟩, ⟨by (with_reducible repeat (first | apply Kd.V_alloc | apply Kd.V_drewN | apply Kd.V_drew)); exact HO_135003.out⟩, ⟨by (with_reducible repeat (first | refine blk_drewN ?_ _ | refine blk_drew ?_ | refine blk_alloc ?_ _)); exact BK134.out⟩, ⟨by repeat (first | (with_reducible first | exact HB.out | apply below_alloc | apply pw_below_drewN | apply below_drew1 | refine below_set ?_ GE134.out) | exact HB.out)⟩⟩
                        case rest =>
                          clear HC37
                          try clear c1
                          try clear c2
                          try clear p2
                          try clear q2
                          try clear c3
                          try clear c4
                          try clear c6
                          try clear c6b0
                          try clear p6
                          try clear c8
                          try clear c8b0
                          try clear c10
                          try clear c10b0
                          try clear c10b1
                          try clear c12
                          try clear c12b0
                          try clear c12b1
                          try clear c14
                          try clear c14b0
                          try clear c14b1
                          try clear c17
                          try clear c19
                          try clear c20
                          try clear c20b0
                          try clear c22
                          try clear c23
                          try clear c23b0
                          try clear c23b1
                          try clear c24
                          try clear c24b0
                          try clear c24b1
                          try clear q25
                          try clear c30
                          try clear c31
                          try clear c31b0
                          try clear c31b1
                          try clear c35
                          try clear c35b0
                          try clear c35b1
                          try clear c38
                          try clear c38b0
                          try clear c39
                          try clear c39b0
                          try clear c41
                          try clear c41b0
                          try clear c41b1
                          try clear hcz11_0
                          try clear hcz11_1
                          try clear hcz11_2
                          try clear hcz11_3
                          try clear hcz13_0
                          try clear hcz13_1
                          try clear hcz13_2
                          try clear hcz13_3
                          try clear hcz15_0
                          try clear hcz15_1
                          try clear hcz15_2
                          try clear hcz15_3
                          try clear hcz16_0
                          try clear hcz16_1
                          try clear hcz16_2
                          try clear hcz16_3
                          try clear hcz19_0
                          try clear hcz19_1
                          try clear hcz19_2
                          try clear hcz19_3
                          try clear hcz28_0
                          try clear hcz28_1
                          try clear hcz28_2
                          try clear hcz28_3
                          try clear hcz30_0
                          try clear hcz30_1
                          try clear hcz30_2
                          try clear hcz30_3
                          try clear hcz34_0
                          try clear hcz34_1
                          try clear hcz34_2
                          try clear hcz34_3
                          try clear hcz36_0
                          try clear hcz36_1
                          try clear hcz36_2
                          try clear hcz36_3
                          try clear hcz43_0
                          try clear hcz43_1
                          try clear hcz43_2
                          try clear hcz43_3
                          try clear hcz46_0
                          try clear hcz46_1
                          try clear hcz46_2
                          try clear hcz46_3
                          try clear hcz7_0
                          try clear hcz7_1
                          try clear hcz7_2
                          try clear hcz7_3
                          try clear hcz9_0
                          try clear hcz9_1
                          try clear hcz9_2
                          try clear hcz9_3
                          try clear hfz11_0
                          try clear hfz11_1
                          try clear hfz11_2
                          try clear hfz11_3
                          try clear hfz13_0
                          try clear hfz13_1
                          try clear hfz13_2
                          try clear hfz13_3
                          try clear hfz15_0
                          try clear hfz15_1
                          try clear hfz15_2
                          try clear hfz15_3
                          try clear hfz16_0
                          try clear hfz16_1
                          try clear hfz16_2
                          try clear hfz16_3
                          try clear hfz19_0
                          try clear hfz19_1
                          try clear hfz19_2
                          try clear hfz19_3
                          try clear hfz28_0
                          try clear hfz28_1
                          try clear hfz28_2
                          try clear hfz28_3
                          try clear hfz30_0
                          try clear hfz30_1
                          try clear hfz30_2
                          try clear hfz30_3
                          try clear hfz34_0
                          try clear hfz34_1
                          try clear hfz34_2
                          try clear hfz34_3
                          try clear hfz36_0
                          try clear hfz36_1
                          try clear hfz36_2
                          try clear hfz36_3
                          try clear hfz43_0
                          try clear hfz43_1
                          try clear hfz43_2
                          try clear hfz43_3
                          try clear hfz46_0
                          try clear hfz46_1
                          try clear hfz46_2
                          try clear hfz46_3
                          try clear hfz7_0
                          try clear hfz7_1
                          try clear hfz7_2
                          try clear hfz7_3
                          try clear hfz9_0
                          try clear hfz9_1
                          try clear hfz9_2
                          try clear hfz9_3
                          try clear p2
                          try clear q2
                          try clear q25
                          obtain ⟨kq, x92_36, rfl, HA, HJ36, HO_0, HO_8, HO_9, HO_135003, BK134, HB⟩ := hcut
                          cases kq with
                          | zero => exact absurd HA.out (by simp [gambrelref17_Do.j5])
                          | succ kj36 =>
                            have H := HA.out
                            clear HA
                            simp only [gambrelref17_Do.j5] at H
                            by_cases c47 : x92_36 = true
                            · subst c47
                              have H1 : (some (([] : List (S38)), 11)) = some (r1, r2) := by rw [if_pos rfl] at H; exact H
                              clear H
                              have H := H1
                              clear H1
                              simp only [Option.some.injEq, Prod.mk.injEq] at H
                              obtain ⟨rfl, rfl⟩ := H
                              go_wp2
                              go_ret2
                              exact ⟨_, by first | rfl | (simp [errW_none, errW_some] <;> rfl) | (simp [*, errW_none, errW_some] <;> rfl), Kd.V_nil _ _ _ _ _, by repeat (first | (with_reducible first | exact HB.out | apply below_alloc | apply pw_below_drewN | apply below_drew1 | refine below_set ?_ GE134.out) | exact HB.out)⟩
                            · replace c47 := Bool.eq_false_iff.mpr c47
                              subst c47
                              have H1 : (if (x8_20.length : Int) = 0 then (gambrelref17_Do.j6 kj36 l0 x8_20 t140 x11_32 (decide ((l1_3.length : Int) > 0)) a1_0 a1_1 a1_2 l1_3) else (gambrelref17_Do.j6 kj36 l0 x8_20 t140 x11_32 false a1_0 a1_1 a1_2 l1_3)) = some (r1, r2) := by rw [if_neg (show ¬ (false = true) by decide)] at H; exact H
                              clear H
                              have H := H1
                              clear H1
                              have HC48 := Aside0.mk H
                              clear H
                              go_upto_region 14 with (fail)
                              go_cut [101] (fun v101 wc => ∃ (kq : Nat) (x101_47 : Bool), v101 = .bool x101_47 ∧ Aside0 (gambrelref17_Do.j6 kq l0 x8_20 t140 x11_32 x101_47 a1_0 a1_1 a1_2 l1_3 = some (r1, r2)) ∧ Aside0 (kq ≤ kj36) ∧ Aside0 (Kd.V k38 38 wc w.heap.size (fun k_ => ((P0_ k_ ∨ P1_3_ k_) ∨ w.heap.size ≤ k_) ∧ k_ ≠ gb134) (.slice A0 l0.length c0) l0) ∧ Aside0 (Kd.V (Kd.int .u8) 5 wc w.heap.size (fun k_ => ((P0_ k_ ∨ P1_3_ k_) ∨ w.heap.size ≤ k_) ∧ k_ ≠ gb134) u8 x8_20) ∧ Aside0 (Kd.V (Kd.int .u8) 5 wc w.heap.size (fun k_ => ((P0_ k_ ∨ P1_3_ k_) ∨ w.heap.size ≤ k_) ∧ k_ ≠ gb134) v141 t140) ∧ Aside0 (Kd.V (Kd.int .u8) 5 wc w.heap.size (fun k_ => ((P0_ k_ ∨ P1_3_ k_) ∨ w.heap.size ≤ k_) ∧ k_ ≠ gb134) (.slice A1_3 l1_3.length c1_3) l1_3) ∧ Aside0 (wc.heap[gb134]? = some (.cells #[.string a1_0, .int .i64 a1_1, .int .i64 a1_2, (.slice A1_3 l1_3.length c1_3)] 25 (0, 0))) ∧ Aside0 (Below w.heap.size w wc))
                              case first =>
                                have H := HC48.out
                                clear HC48
                                by_cases c49 : (x8_20.length : Int) = 0
                                · rw [if_pos c49] at H
                                  have c49b0 : ((x8_20.length : Int) == 0) = true := beq_iff_eq.mpr c49
                                  have c49b1 : ((x8_20.length : Int) != 0) = false := bne_eq_false_iff_eq.mpr c49
                                  clear c49
                                  (first | rw [c49b0] | (simp only [i64_w, i32_w]; rw [c49b0]) | skip)
                                  have H' := Aside0.mk H
                                  clear H
                                  obtain ⟨Ao50, co50, eo50⟩ := Kd.V_slice HO_8.out
                                  subst eo50
                                  have hcz51_0 : wc.cell? ⟨gb134, 0, none⟩ = some (.string a1_0) := (blk_cell BK134.out 0).trans rfl
                                  have hcz51_1 : wc.cell? ⟨gb134, 1, none⟩ = some (.int .i64 a1_1) := (blk_cell BK134.out 1).trans rfl
                                  have hcz51_2 : wc.cell? ⟨gb134, 2, none⟩ = some (.int .i64 a1_2) := (blk_cell BK134.out 2).trans rfl
                                  have hcz51_3 : wc.cell? ⟨gb134, 3, none⟩ = some (.slice A1_3 l1_3.length c1_3) := (blk_cell BK134.out 3).trans rfl
                                  have hfz51_0 := blk_frozen BK134.out 0
                                  have hfz51_1 := blk_frozen BK134.out 1
                                  have hfz51_2 := blk_frozen BK134.out 2
                                  have hfz51_3 := blk_frozen BK134.out 3
                                  go_wp2
                                  go_meet
                                  case rel => exact ⟨_, (decide ((l1_3.length : Int) > 0)), (by first | rfl | (simp; done) | (simp [*]; done)), H', ⟨by have := HJ3.out; have := HJ17.out; have := HJ20.out; have := HJ26.out; have := HJ32.out; have := HJ36.out; first | omega | exact Nat.le_refl _⟩, ⟨by (with_reducible repeat (first | apply Kd.V_alloc | apply Kd.V_drewN | apply Kd.V_drew)); exact HO_0.out⟩, ⟨by (with_reducible repeat (first | apply Kd.V_alloc | apply Kd.V_drewN | apply Kd.V_drew)); exact HO_8.out⟩, ⟨by (with_reducible repeat (first | apply Kd.V_alloc | apply Kd.V_drewN | apply Kd.V_drew)); exact HO_9.out⟩, ⟨by (with_reducible repeat (first | apply Kd.V_alloc | apply Kd.V_drewN | apply Kd.V_drew)); exact HO_135003.out⟩, ⟨by (with_reducible repeat (first | refine blk_drewN ?_ _ | refine blk_drew ?_ | refine blk_alloc ?_ _)); exact BK134.out⟩, ⟨by repeat (first | (with_reducible first | exact HB.out | apply below_alloc | apply pw_below_drewN | apply below_drew1 | refine below_set ?_ GE134.out) | exact HB.out)⟩⟩
                                · rw [if_neg c49] at H
                                  have c49b0 : ((x8_20.length : Int) == 0) = false := beq_eq_false_iff_ne.mpr c49
                                  have c49b1 : ((x8_20.length : Int) != 0) = true := bne_iff_ne.mpr c49
                                  have c49b2 : ¬ (x8_20 = []) := fun h_ => c49 (by rw [h_]; rfl)
                                  (first | rw [c49b0] | (simp only [i64_w, i32_w]; rw [c49b0]) | skip)
                                  have H' := Aside0.mk H
                                  clear H
                                  obtain ⟨Ao52, co52, eo52⟩ := Kd.V_slice HO_8.out
                                  subst eo52
                                  go_wp2
                                  go_meet
                                  case rel => exact ⟨_, (false), (by first | rfl | (simp; done) | (simp [*]; done)), H', ⟨by have := HJ3.out; have := HJ17.out; have := HJ20.out; have := HJ26.out; have := HJ32.out; have := HJ36.out; first | omega | exact Nat.le_refl _⟩, ⟨by (with_reducible repeat (first | apply Kd.V_alloc | apply Kd.V_drewN | apply Kd.V_drew)); exact HO_0.out⟩, ⟨by (with_reducible repeat (first | apply Kd.V_alloc | apply Kd.V_drewN | apply Kd.V_drew)); exact HO_8.out⟩, ⟨by (with_reducible repeat (first | apply Kd.V_alloc | apply Kd.V_drewN | apply Kd.V_drew)); exact HO_9.out⟩, ⟨by (with_reducible repeat (first | apply Kd.V_alloc | apply Kd.V_drewN | apply Kd.V_drew)); exact HO_135003.out⟩, ⟨by (with_reducible repeat (first | refine blk_drewN ?_ _ | refine blk_drew ?_ | refine blk_alloc ?_ _)); exact BK134.out⟩, ⟨by repeat (first | (with_reducible first | exact HB.out | apply below_alloc | apply pw_below_drewN | apply below_drew1 | refine below_set ?_ GE134.out) | exact HB.out)⟩⟩
                              case rest =>
                                clear HC48
                                try clear c1
                                try clear c2
                                try clear p2
                                try clear q2
                                try clear c3
                                try clear c4
                                try clear c6
                                try clear c6b0
                                try clear p6
                                try clear c8
                                try clear c8b0
                                try clear c10
                                try clear c10b0
                                try clear c10b1
                                try clear c12
                                try clear c12b0
                                try clear c12b1
                                try clear c14
                                try clear c14b0
                                try clear c14b1
                                try clear c17
                                try clear c19
                                try clear c20
                                try clear c20b0
                                try clear c22
                                try clear c23
                                try clear c23b0
                                try clear c23b1
                                try clear c24
                                try clear c24b0
                                try clear c24b1
                                try clear q25
                                try clear c30
                                try clear c31
                                try clear c31b0
                                try clear c31b1
                                try clear c35
                                try clear c35b0
                                try clear c35b1
                                try clear c38
                                try clear c38b0
                                try clear c39
                                try clear c39b0
                                try clear c41
                                try clear c41b0
                                try clear c41b1
                                try clear c47
                                try clear c49
                                try clear c49b0
                                try clear c49b1
                                try clear c49b2
                                try clear hcz11_0
                                try clear hcz11_1
                                try clear hcz11_2
                                try clear hcz11_3
                                try clear hcz13_0
                                try clear hcz13_1
                                try clear hcz13_2
                                try clear hcz13_3
                                try clear hcz15_0
                                try clear hcz15_1
                                try clear hcz15_2
                                try clear hcz15_3
                                try clear hcz16_0
                                try clear hcz16_1
                                try clear hcz16_2
                                try clear hcz16_3
                                try clear hcz19_0
                                try clear hcz19_1
                                try clear hcz19_2
                                try clear hcz19_3
                                try clear hcz28_0
                                try clear hcz28_1
                                try clear hcz28_2
                                try clear hcz28_3
                                try clear hcz30_0
                                try clear hcz30_1
                                try clear hcz30_2
                                try clear hcz30_3
                                try clear hcz34_0
                                try clear hcz34_1
                                try clear hcz34_2
                                try clear hcz34_3
                                try clear hcz36_0
                                try clear hcz36_1
                                try clear hcz36_2
                                try clear hcz36_3
                                try clear hcz43_0
                                try clear hcz43_1
                                try clear hcz43_2
                                try clear hcz43_3
                                try clear hcz46_0
                                try clear hcz46_1
                                try clear hcz46_2
                                try clear hcz46_3
                                try clear hcz51_0
                                try clear hcz51_1
                                try clear hcz51_2
                                try clear hcz51_3
                                try clear hcz7_0
                                try clear hcz7_1
                                try clear hcz7_2
                                try clear hcz7_3
                                try clear hcz9_0
                                try clear hcz9_1
                                try clear hcz9_2
                                try clear hcz9_3
                                try clear hfz11_0
                                try clear hfz11_1
                                try clear hfz11_2
                                try clear hfz11_3
                                try clear hfz13_0
                                try clear hfz13_1
                                try clear hfz13_2
                                try clear hfz13_3
                                try clear hfz15_0
                                try clear hfz15_1
                                try clear hfz15_2
                                try clear hfz15_3
                                try clear hfz16_0
                                try clear hfz16_1
                                try clear hfz16_2
                                try clear hfz16_3
                                try clear hfz19_0
                                try clear hfz19_1
                                try clear hfz19_2
                                try clear hfz19_3
                                try clear hfz28_0
                                try clear hfz28_1
                                try clear hfz28_2
                                try clear hfz28_3
                                try clear hfz30_0
                                try clear hfz30_1
                                try clear hfz30_2
                                try clear hfz30_3
                                try clear hfz34_0
                                try clear hfz34_1
                                try clear hfz34_2
                                try clear hfz34_3
                                try clear hfz36_0
                                try clear hfz36_1
                                try clear hfz36_2
                                try clear hfz36_3
                                try clear hfz43_0
                                try clear hfz43_1
                                try clear hfz43_2
                                try clear hfz43_3
                                try clear hfz46_0
                                try clear hfz46_1
                                try clear hfz46_2
                                try clear hfz46_3
                                try clear hfz51_0
                                try clear hfz51_1
                                try clear hfz51_2
                                try clear hfz51_3
                                try clear hfz7_0
                                try clear hfz7_1
                                try clear hfz7_2
                                try clear hfz7_3
                                try clear hfz9_0
                                try clear hfz9_1
                                try clear hfz9_2
                                try clear hfz9_3
                                try clear p2
                                try clear p6
                                try clear q2
                                try clear q25
                                obtain ⟨kq, x101_47, rfl, HA, HJ47, HO_0, HO_8, HO_9, HO_135003, BK134, HB⟩ := hcut
                                cases kq with
                                | zero => exact absurd HA.out (by simp [gambrelref17_Do.j6])
                                | succ kj47 =>
                                  have H := HA.out
                                  clear HA
                                  simp only [gambrelref17_Do.j6] at H
                                  by_cases c53 : x101_47 = true
                                  · subst c53
                                    have H1 : (some (l0, 0)) = some (r1, r2) := by rw [if_pos rfl] at H; exact H
                                    clear H
                                    have H := H1
                                    clear H1
                                    simp only [Option.some.injEq, Prod.mk.injEq] at H
                                    obtain ⟨rfl, rfl⟩ := H
                                    go_wp2
                                    go_ret2
                                    exact ⟨_, by first | rfl | (simp [errW_none, errW_some] <;> rfl) | (simp [*, errW_none, errW_some] <;> rfl), by (with_reducible repeat (first | apply Kd.V_alloc | apply Kd.V_drewN | apply Kd.V_drew)); exact Kd.V_mono HO_0.out (fun _ hk => hk.1), by repeat (first | (with_reducible first | exact HB.out | apply below_alloc | apply pw_below_drewN | apply below_drew1 | refine below_set ?_ GE134.out) | exact HB.out)⟩
                                  · replace c53 := Bool.eq_false_iff.mpr c53
                                    subst c53
                                    have H1 : (if a1_1 = 1 then (gambrelref17_Do.j7 kj47 l0 x8_20 x11_32 ([] : List Int) a1_0 a1_1 a1_2 l1_3) else (if ([] : List Int).length + t140.length < 140737488355328 then (gambrelref17_Do.j7 kj47 l0 x8_20 x11_32 (([] : List Int) ++ t140) a1_0 a1_1 a1_2 l1_3) else (none))) = some (r1, r2) := by rw [if_neg (show ¬ (false = true) by decide)] at H; exact H
                                    clear H
                                    have H := H1
                                    clear H1
                                    have HC54 := Aside0.mk H
                                    clear H
                                    have hcz55_0 : wc.cell? ⟨gb134, 0, none⟩ = some (.string a1_0) := (blk_cell BK134.out 0).trans rfl
                                    have hcz55_1 : wc.cell? ⟨gb134, 1, none⟩ = some (.int .i64 a1_1) := (blk_cell BK134.out 1).trans rfl
                                    have hcz55_2 : wc.cell? ⟨gb134, 2, none⟩ = some (.int .i64 a1_2) := (blk_cell BK134.out 2).trans rfl
                                    have hcz55_3 : wc.cell? ⟨gb134, 3, none⟩ = some (.slice A1_3 l1_3.length c1_3) := (blk_cell BK134.out 3).trans rfl
                                    have hfz55_0 := blk_frozen BK134.out 0
                                    have hfz55_1 := blk_frozen BK134.out 1
                                    have hfz55_2 := blk_frozen BK134.out 2
                                    have hfz55_3 := blk_frozen BK134.out 3
                                    go_upto_if 105 with (fail)
                                    go_cut [12] (fun v12 wc => ∃ (kq : Nat) (x12_53 : List Int), Aside0 (gambrelref17_Do.j7 kq l0 x8_20 x11_32 x12_53 a1_0 a1_1 a1_2 l1_3 = some (r1, r2)) ∧ Aside0 (kq ≤ kj47) ∧ Aside0 (Kd.V k38 38 wc w.heap.size (fun k_ => ((P0_ k_ ∨ P1_3_ k_) ∨ w.heap.size ≤ k_) ∧ some k_ ≠ (v12 : Value).ownBlock ∧ k_ ≠ gb134) (.slice A0 l0.length c0) l0) ∧ Aside0 (Kd.V (Kd.int .u8) 5 wc w.heap.size (fun k_ => ((P0_ k_ ∨ P1_3_ k_) ∨ w.heap.size ≤ k_) ∧ some k_ ≠ (v12 : Value).ownBlock ∧ k_ ≠ gb134) u8 x8_20) ∧ Aside0 (Kd.R (Kd.int .u8) 5 wc w.heap.size (fun k_ => (w.heap.size ≤ k_)) v12 x12_53) ∧ Aside0 (Kd.V (Kd.int .u8) 5 wc w.heap.size (fun k_ => ((P0_ k_ ∨ P1_3_ k_) ∨ w.heap.size ≤ k_) ∧ some k_ ≠ (v12 : Value).ownBlock ∧ k_ ≠ gb134) (.slice A1_3 l1_3.length c1_3) l1_3) ∧ Aside0 (wc.heap[gb134]? = some (.cells #[.string a1_0, .int .i64 a1_1, .int .i64 a1_2, (.slice A1_3 l1_3.length c1_3)] 25 (0, 0))) ∧ Aside0 (Below w.heap.size w wc))
                                    case first =>
                                      have H := HC54.out
                                      clear HC54
                                      by_cases c56 : a1_1 = 1
                                      · rw [if_pos c56] at H
                                        have c56b0 : (a1_1 == 1) = true := beq_iff_eq.mpr c56
                                        have c56b1 : (a1_1 != 1) = false := bne_eq_false_iff_eq.mpr c56
                                        clear c56
                                        (first | rw [c56b0] | (simp only [i64_w, i32_w]; rw [c56b0]) | skip)
                                        have H' := Aside0.mk H
                                        clear H
                                        go_wp2
                                        go_meet
                                        case rel => exact ⟨_, (([] : List Int)), H', ⟨by have := HJ3.out; have := HJ17.out; have := HJ20.out; have := HJ26.out; have := HJ32.out; have := HJ36.out; have := HJ47.out; first | omega | exact Nat.le_refl _⟩, ⟨by (with_reducible repeat (first | apply Kd.V_alloc | apply Kd.V_drewN | apply Kd.V_drew)); exact Kd.V_mono HO_0.out (fun _ hk => ⟨hk.1, ⟨(by simp [Value.ownBlock]), hk.2⟩⟩)⟩, ⟨by (with_reducible repeat (first | apply Kd.V_alloc | apply Kd.V_drewN | apply Kd.V_drew)); exact Kd.V_mono HO_8.out (fun _ hk => ⟨hk.1, ⟨(by simp [Value.ownBlock]), hk.2⟩⟩)⟩, ⟨by first | exact Kd.R_nil _ _ _ _ _ | exact Kd.N_nil _ _ _ _ _ | exact Kd.V_nil _ _ _ _ _ | exact Kd.Q_nil _ _ _ _ _ | exact Kd.S_nil _ _ _ _ _⟩, ⟨by (with_reducible repeat (first | apply Kd.V_alloc | apply Kd.V_drewN | apply Kd.V_drew)); exact Kd.V_mono HO_135003.out (fun _ hk => ⟨hk.1, ⟨(by simp [Value.ownBlock]), hk.2⟩⟩)⟩, ⟨by (with_reducible repeat (first | refine blk_drewN ?_ _ | refine blk_drew ?_ | refine blk_alloc ?_ _)); exact BK134.out⟩, ⟨by repeat (first | (with_reducible first | exact HB.out | apply below_alloc | apply pw_below_drewN | apply below_drew1 | refine below_set ?_ GE134.out) | exact HB.out)⟩⟩
                                      · rw [if_neg c56] at H
                                        have c56b0 : (a1_1 == 1) = false := beq_eq_false_iff_ne.mpr c56
                                        have c56b1 : (a1_1 != 1) = true := bne_iff_ne.mpr c56
                                        (first | rw [c56b0] | (simp only [i64_w, i32_w]; rw [c56b0]) | skip)
                                        by_cases c57 : ([] : List Int).length + t140.length < 140737488355328
                                        · rw [if_pos c57] at H
                                          have LMc57 := Aside0.mk c57
                                          clear c57
                                          obtain ⟨y144, hy144⟩ : ∃ y_ : List Int, y_ = (([] : List Int) ++ t140) := ⟨_, rfl⟩
                                          replace H : (gambrelref17_Do.j7 kj47 l0 x8_20 x11_32 y144 a1_0 a1_1 a1_2 l1_3) = some (r1, r2) := by first | (rw [hy144]; with_reducible exact H) | (have H2_ := (Option.bind_some _ _).symm.trans H; rw [hy144]; with_reducible exact H2_) | (have H2_ := (Option.bind_some _ _).symm.trans H; with_reducible exact H2_) | with_reducible exact H | (rw [hy144]; exact H) | exact H
                                          have Ny144 := Aside0.mk hy144
                                          clear hy144
                                          have H' := Aside0.mk H
                                          clear H
                                          obtain ⟨Ao59, co59, eo59⟩ := Kd.V_slice HO_9.out
                                          subst eo59
                                          go_wp2_with (first | ((with_reducible refine gate_builtin (b := .append) (xs := #[.tmp 106, .tmp 107]) rfl ?_); (try (refine gate_guard (by rfl) ?_; dsimp only)); at_builtin; refine Kd.R_append_rows (Kd.int .u8) (w0 := w) w.heap.size rfl (.tmp 106) (.tmp 107) 23 5 (.int .u8 0) 1 rfl Try.underlying23 info5 rfl (by decide) (by omega) (.slice none 0 0) ([] : List Int) t140 _ _ _ (fun k_ => (w.heap.size ≤ k_)) (fun _ => False) rfl rfl ?aO ?aR (fun _ _ h => h) (fun _ h => h.elim) ?aF ?aB ?aS ?aL ?_; (case aR => repeat (first | exact (Kd.V_reads' HO_9.out).2.2 | (with_reducible refine Kd.C_alloc ?_ _) | (with_reducible refine Kd.C_drewN ?_ _) | (with_reducible refine Kd.C_drew ?_))); (case aB => exact (by repeat (first | (with_reducible first | exact HB.out | apply below_alloc | apply pw_below_drewN | apply below_drew1 | refine below_set ?_ GE134.out) | exact HB.out))); (case aF => exact (fun k_ hk => (Nat.le_trans (below_size (by repeat (first | (with_reducible first | exact HB.out | apply below_alloc | apply pw_below_drewN | apply below_drew1 | refine below_set ?_ GE134.out) | exact HB.out))) hk))); (case aO => exact ((Kd.R_nil _ _ _ _ (fun k_ => (w.heap.size ≤ k_))))); (case aS => exact (below_size (by repeat (first | (with_reducible first | exact HB.out | apply below_alloc | apply pw_below_drewN | apply below_drew1 | refine below_set ?_ GE134.out) | exact HB.out)))); (case aL => have := LMc57.out; omega); intro v145 w58 ho hb hg hat; rw [← Ny144.out] at ho; have n0_ := Aside0.mk (Kd.V_afterv (Kd.V_apart_nil (by (with_reducible repeat (first | apply Kd.V_alloc | apply Kd.V_drewN | apply Kd.V_drew)); exact HO_0.out)) hg hat); have n1_ := Aside0.mk (Kd.V_afterv (Kd.V_apart_nil (by (with_reducible repeat (first | apply Kd.V_alloc | apply Kd.V_drewN | apply Kd.V_drew)); exact HO_8.out)) hg hat); have n2_ := Aside0.mk (Kd.V_afterv (Kd.V_apart_nil (by (with_reducible repeat (first | apply Kd.V_alloc | apply Kd.V_drewN | apply Kd.V_drew)); exact HO_9.out)) hg hat); have n3_ := Aside0.mk (Kd.V_afterv (Kd.V_apart_nil (by (with_reducible repeat (first | apply Kd.V_alloc | apply Kd.V_drewN | apply Kd.V_drew)); exact HO_135003.out)) hg hat); have n4_ := Aside0.mk (blk_grown (g := gb134) (o := .cells #[.string a1_0, .int .i64 a1_1, .int .i64 a1_2, .slice A1_3 l1_3.length c1_3] 25 (0, 0)) (by (with_reducible repeat (first | refine blk_drewN ?_ _ | refine blk_drew ?_ | refine blk_alloc ?_ _)); exact BK134.out) hg (by simp [Value.ownBlock])); have n5_ := Aside0.mk (hb); have n6_ := Aside0.mk (ho); clear HO_0; clear HO_8; clear HO_9; clear HO_135003; clear BK134; clear HB; have HO_0 := n0_; have HO_8 := n1_; have HO_9 := n2_; have HO_135003 := n3_; have BK134 := n4_; have HB := n5_; have HO146 := n6_; clear n0_ n1_ n2_ n3_ n4_ n5_ n6_; clear ho hb hg hat))
                                          go_meet
                                          case rel => exact ⟨_, (y144), H', ⟨by have := HJ3.out; have := HJ17.out; have := HJ20.out; have := HJ26.out; have := HJ32.out; have := HJ36.out; have := HJ47.out; first | omega | exact Nat.le_refl _⟩, ⟨by (with_reducible repeat (first | apply Kd.V_alloc | apply Kd.V_drewN | apply Kd.V_drew)); exact Kd.V_mono HO_0.out (fun _ hk => ⟨hk.1.1, ⟨hk.2, hk.1.2⟩⟩)⟩, ⟨by (with_reducible repeat (first | apply Kd.V_alloc | apply Kd.V_drewN | apply Kd.V_drew)); exact Kd.V_mono HO_8.out (fun _ hk => ⟨hk.1.1, ⟨hk.2, hk.1.2⟩⟩)⟩, ⟨by (with_reducible repeat (first | apply Kd.R_alloc | apply Kd.R_drewN | apply Kd.R_drew)); exact HO146.out⟩, ⟨by (with_reducible repeat (first | apply Kd.V_alloc | apply Kd.V_drewN | apply Kd.V_drew)); exact Kd.V_mono HO_135003.out (fun _ hk => ⟨hk.1.1, ⟨hk.2, hk.1.2⟩⟩)⟩, ⟨by (with_reducible repeat (first | refine blk_drewN ?_ _ | refine blk_drew ?_ | refine blk_alloc ?_ _)); exact BK134.out⟩, ⟨by repeat (first | (with_reducible first | exact HB.out | apply below_alloc | apply pw_below_drewN | apply below_drew1 | refine below_set ?_ GE134.out) | exact HB.out)⟩⟩
                                        · rw [if_neg c57] at H
                                          exact absurd H (by simp)
                                    case rest =>
                                      clear HC54
                                      try clear c1
                                      try clear c2
                                      try clear p2
                                      try clear q2
                                      try clear c3
                                      try clear c4
                                      try clear c5
                                      try clear c6
                                      try clear c6b0
                                      try clear p6
                                      try clear c8
                                      try clear c8b0
                                      try clear c10
                                      try clear c10b0
                                      try clear c10b1
                                      try clear c12
                                      try clear c12b0
                                      try clear c12b1
                                      try clear c14
                                      try clear c14b0
                                      try clear c14b1
                                      try clear c17
                                      try clear c19
                                      try clear c20
                                      try clear c20b0
                                      try clear c22
                                      try clear c23
                                      try clear c23b0
                                      try clear c23b1
                                      try clear c24
                                      try clear c24b0
                                      try clear c24b1
                                      try clear q25
                                      try clear c30
                                      try clear c31
                                      try clear c31b0
                                      try clear c31b1
                                      try clear c35
                                      try clear c35b0
                                      try clear c35b1
                                      try clear c38
                                      try clear c38b0
                                      try clear c39
                                      try clear c39b0
                                      try clear c41
                                      try clear c41b0
                                      try clear c41b1
                                      try clear c47
                                      try clear c49
                                      try clear c49b0
                                      try clear c49b1
                                      try clear c49b2
                                      try clear c53
                                      try clear c56
                                      try clear c56b0
                                      try clear c56b1
                                      try clear c57
                                      try clear hcz11_0
                                      try clear hcz11_1
                                      try clear hcz11_2
                                      try clear hcz11_3
                                      try clear hcz13_0
                                      try clear hcz13_1
                                      try clear hcz13_2
                                      try clear hcz13_3
                                      try clear hcz15_0
                                      try clear hcz15_1
                                      try clear hcz15_2
                                      try clear hcz15_3
                                      try clear hcz16_0
                                      try clear hcz16_1
                                      try clear hcz16_2
                                      try clear hcz16_3
                                      try clear hcz19_0
                                      try clear hcz19_1
                                      try clear hcz19_2
                                      try clear hcz19_3
                                      try clear hcz28_0
                                      try clear hcz28_1
                                      try clear hcz28_2
                                      try clear hcz28_3
                                      try clear hcz30_0
                                      try clear hcz30_1
                                      try clear hcz30_2
                                      try clear hcz30_3
                                      try clear hcz34_0
                                      try clear hcz34_1
                                      try clear hcz34_2
                                      try clear hcz34_3
                                      try clear hcz36_0
                                      try clear hcz36_1
                                      try clear hcz36_2
                                      try clear hcz36_3
                                      try clear hcz43_0
                                      try clear hcz43_1
                                      try clear hcz43_2
                                      try clear hcz43_3
                                      try clear hcz46_0
                                      try clear hcz46_1
                                      try clear hcz46_2
                                      try clear hcz46_3
                                      try clear hcz51_0
                                      try clear hcz51_1
                                      try clear hcz51_2
                                      try clear hcz51_3
                                      try clear hcz55_0
                                      try clear hcz55_1
                                      try clear hcz55_2
                                      try clear hcz55_3
                                      try clear hcz7_0
                                      try clear hcz7_1
                                      try clear hcz7_2
                                      try clear hcz7_3
                                      try clear hcz9_0
                                      try clear hcz9_1
                                      try clear hcz9_2
                                      try clear hcz9_3
                                      try clear hfz11_0
                                      try clear hfz11_1
                                      try clear hfz11_2
                                      try clear hfz11_3
                                      try clear hfz13_0
                                      try clear hfz13_1
                                      try clear hfz13_2
                                      try clear hfz13_3
                                      try clear hfz15_0
                                      try clear hfz15_1
                                      try clear hfz15_2
                                      try clear hfz15_3
                                      try clear hfz16_0
                                      try clear hfz16_1
                                      try clear hfz16_2
                                      try clear hfz16_3
                                      try clear hfz19_0
                                      try clear hfz19_1
                                      try clear hfz19_2
                                      try clear hfz19_3
                                      try clear hfz28_0
                                      try clear hfz28_1
                                      try clear hfz28_2
                                      try clear hfz28_3
                                      try clear hfz30_0
                                      try clear hfz30_1
                                      try clear hfz30_2
                                      try clear hfz30_3
                                      try clear hfz34_0
                                      try clear hfz34_1
                                      try clear hfz34_2
                                      try clear hfz34_3
                                      try clear hfz36_0
                                      try clear hfz36_1
                                      try clear hfz36_2
                                      try clear hfz36_3
                                      try clear hfz43_0
                                      try clear hfz43_1
                                      try clear hfz43_2
                                      try clear hfz43_3
                                      try clear hfz46_0
                                      try clear hfz46_1
                                      try clear hfz46_2
                                      try clear hfz46_3
                                      try clear hfz51_0
                                      try clear hfz51_1
                                      try clear hfz51_2
                                      try clear hfz51_3
                                      try clear hfz55_0
                                      try clear hfz55_1
                                      try clear hfz55_2
                                      try clear hfz55_3
                                      try clear hfz7_0
                                      try clear hfz7_1
                                      try clear hfz7_2
                                      try clear hfz7_3
                                      try clear hfz9_0
                                      try clear hfz9_1
                                      try clear hfz9_2
                                      try clear hfz9_3
                                      try clear p2
                                      try clear p6
                                      try clear q2
                                      try clear q25
                                      obtain ⟨kq, x12_53, HA, HJ53, HO_0, HO_8, HO_12, HO_135003, BK134, HB⟩ := hcut
                                      cases kq with
                                      | zero => exact absurd HA.out (by simp [gambrelref17_Do.j7])
                                      | succ kj53 =>
                                        have H := HA.out
                                        clear HA
                                        simp only [gambrelref17_Do.j7] at H
                                        have H' := Aside0.mk H
                                        clear H
                                        go_wp2
                                        go_loopg [12] kj53 (fun kq v12 w' => ∃ (x12_9 : List Int), Aside0 (gambrelref17_Do.l0 kq l0 x8_20 x11_32 x12_9 a1_0 a1_1 a1_2 l1_3 = some (r1, r2)) ∧ Aside0 (kq ≤ kj53) ∧ Aside0 (Kd.V k38 38 w' w.heap.size (fun k_ => ((P0_ k_ ∨ P1_3_ k_) ∨ w.heap.size ≤ k_) ∧ some k_ ≠ (v12 : Value).ownBlock ∧ k_ ≠ gb134) (.slice A0 l0.length c0) l0) ∧ Aside0 (Kd.V (Kd.int .u8) 5 w' w.heap.size (fun k_ => ((P0_ k_ ∨ P1_3_ k_) ∨ w.heap.size ≤ k_) ∧ some k_ ≠ (v12 : Value).ownBlock ∧ k_ ≠ gb134) u8 x8_20) ∧ Aside0 (Kd.R (Kd.int .u8) 5 w' w.heap.size (fun k_ => (w.heap.size ≤ k_)) v12 x12_9) ∧ Aside0 (Kd.V (Kd.int .u8) 5 w' w.heap.size (fun k_ => ((P0_ k_ ∨ P1_3_ k_) ∨ w.heap.size ≤ k_) ∧ some k_ ≠ (v12 : Value).ownBlock ∧ k_ ≠ gb134) (.slice A1_3 l1_3.length c1_3) l1_3) ∧ Aside0 (w'.heap[gb134]? = some (.cells #[.string a1_0, .int .i64 a1_1, .int .i64 a1_2, (.slice A1_3 l1_3.length c1_3)] 25 (0, 0))) ∧ Aside0 (Below w.heap.size w w'))
                                        case atStart => exact ⟨(x12_53), H', ⟨Nat.le_refl _⟩, ⟨by (with_reducible repeat (first | apply Kd.V_alloc | apply Kd.V_drewN | apply Kd.V_drew)); exact HO_0.out⟩, ⟨by (with_reducible repeat (first | apply Kd.V_alloc | apply Kd.V_drewN | apply Kd.V_drew)); exact HO_8.out⟩, ⟨by (with_reducible repeat (first | apply Kd.R_alloc | apply Kd.R_drewN | apply Kd.R_drew)); exact HO_12.out⟩, ⟨by (with_reducible repeat (first | apply Kd.V_alloc | apply Kd.V_drewN | apply Kd.V_drew)); exact HO_135003.out⟩, ⟨by (with_reducible repeat (first | refine blk_drewN ?_ _ | refine blk_drew ?_ | refine blk_alloc ?_ _)); exact BK134.out⟩, ⟨by repeat (first | (with_reducible first | exact HB.out | apply below_alloc | apply pw_below_drewN | apply below_drew1 | refine below_set ?_ GE134.out) | exact HB.out)⟩⟩
                                        case round =>
                                          clear H'
                                          try clear c1
                                          try clear c2
                                          try clear p2
                                          try clear q2
                                          try clear c3
                                          try clear c4
                                          try clear c5
                                          try clear c6
                                          try clear c6b0
                                          try clear p6
                                          try clear c8
                                          try clear c8b0
                                          try clear c10
                                          try clear c10b0
                                          try clear c10b1
                                          try clear c12
                                          try clear c12b0
                                          try clear c12b1
                                          try clear c14
                                          try clear c14b0
                                          try clear c14b1
                                          try clear c17
                                          try clear c19
                                          try clear c20
                                          try clear c20b0
                                          try clear c22
                                          try clear c23
                                          try clear c23b0
                                          try clear c23b1
                                          try clear c24
                                          try clear c24b0
                                          try clear c24b1
                                          try clear q25
                                          try clear c30
                                          try clear c31
                                          try clear c31b0
                                          try clear c31b1
                                          try clear c35
                                          try clear c35b0
                                          try clear c35b1
                                          try clear c38
                                          try clear c38b0
                                          try clear c39
                                          try clear c39b0
                                          try clear c41
                                          try clear c41b0
                                          try clear c41b1
                                          try clear c47
                                          try clear c49
                                          try clear c49b0
                                          try clear c49b1
                                          try clear c49b2
                                          try clear c53
                                          try clear c56
                                          try clear c56b0
                                          try clear c56b1
                                          try clear c57
                                          try clear hcz11_0
                                          try clear hcz11_1
                                          try clear hcz11_2
                                          try clear hcz11_3
                                          try clear hcz13_0
                                          try clear hcz13_1
                                          try clear hcz13_2
                                          try clear hcz13_3
                                          try clear hcz15_0
                                          try clear hcz15_1
                                          try clear hcz15_2
                                          try clear hcz15_3
                                          try clear hcz16_0
                                          try clear hcz16_1
                                          try clear hcz16_2
                                          try clear hcz16_3
                                          try clear hcz19_0
                                          try clear hcz19_1
                                          try clear hcz19_2
                                          try clear hcz19_3
                                          try clear hcz28_0
                                          try clear hcz28_1
                                          try clear hcz28_2
                                          try clear hcz28_3
                                          try clear hcz30_0
                                          try clear hcz30_1
                                          try clear hcz30_2
                                          try clear hcz30_3
                                          try clear hcz34_0
                                          try clear hcz34_1
                                          try clear hcz34_2
                                          try clear hcz34_3
                                          try clear hcz36_0
                                          try clear hcz36_1
                                          try clear hcz36_2
                                          try clear hcz36_3
                                          try clear hcz43_0
                                          try clear hcz43_1
                                          try clear hcz43_2
                                          try clear hcz43_3
                                          try clear hcz46_0
                                          try clear hcz46_1
                                          try clear hcz46_2
                                          try clear hcz46_3
                                          try clear hcz51_0
                                          try clear hcz51_1
                                          try clear hcz51_2
                                          try clear hcz51_3
                                          try clear hcz55_0
                                          try clear hcz55_1
                                          try clear hcz55_2
                                          try clear hcz55_3
                                          try clear hcz7_0
                                          try clear hcz7_1
                                          try clear hcz7_2
                                          try clear hcz7_3
                                          try clear hcz9_0
                                          try clear hcz9_1
                                          try clear hcz9_2
                                          try clear hcz9_3
                                          try clear hfz11_0
                                          try clear hfz11_1
                                          try clear hfz11_2
                                          try clear hfz11_3
                                          try clear hfz13_0
                                          try clear hfz13_1
                                          try clear hfz13_2
                                          try clear hfz13_3
                                          try clear hfz15_0
                                          try clear hfz15_1
                                          try clear hfz15_2
                                          try clear hfz15_3
                                          try clear hfz16_0
                                          try clear hfz16_1
                                          try clear hfz16_2
                                          try clear hfz16_3
                                          try clear hfz19_0
                                          try clear hfz19_1
                                          try clear hfz19_2
                                          try clear hfz19_3
                                          try clear hfz28_0
                                          try clear hfz28_1
                                          try clear hfz28_2
                                          try clear hfz28_3
                                          try clear hfz30_0
                                          try clear hfz30_1
                                          try clear hfz30_2
                                          try clear hfz30_3
                                          try clear hfz34_0
                                          try clear hfz34_1
                                          try clear hfz34_2
                                          try clear hfz34_3
                                          try clear hfz36_0
                                          try clear hfz36_1
                                          try clear hfz36_2
                                          try clear hfz36_3
                                          try clear hfz43_0
                                          try clear hfz43_1
                                          try clear hfz43_2
                                          try clear hfz43_3
                                          try clear hfz46_0
                                          try clear hfz46_1
                                          try clear hfz46_2
                                          try clear hfz46_3
                                          try clear hfz51_0
                                          try clear hfz51_1
                                          try clear hfz51_2
                                          try clear hfz51_3
                                          try clear hfz55_0
                                          try clear hfz55_1
                                          try clear hfz55_2
                                          try clear hfz55_3
                                          try clear hfz7_0
                                          try clear hfz7_1
                                          try clear hfz7_2
                                          try clear hfz7_3
                                          try clear hfz9_0
                                          try clear hfz9_1
                                          try clear hfz9_2
                                          try clear hfz9_3
                                          try clear p2
                                          try clear p6
                                          try clear q2
                                          try clear q25
                                          obtain ⟨x12_9, HA, HK9, HO_0, HO_8, HO_12, HO_135003, BK134, HB⟩ := hrel
                                          cases gk with
                                          | zero => exact absurd HA.out (by simp [gambrelref17_Do.l0])
                                          | succ k9 =>
                                            have H := HA.out
                                            clear HA
                                            simp only [gambrelref17_Do.l0] at H
                                            by_cases c60 : (x12_9.length : Int) < x11_32
                                            · rw [if_pos c60] at H
                                              have c60b0 : decide ((x12_9.length : Int) < x11_32) = true := decide_eq_true c60
                                              clear c60
                                              by_cases c61 : x12_9.length < 140737488355328
                                              · rw [if_pos c61] at H
                                                have LMc61 := Aside0.mk c61
                                                clear c61
                                                obtain ⟨y147, hy147⟩ : ∃ y_ : List Int, y_ = (x12_9 ++ [0]) := ⟨_, rfl⟩
                                                replace H : (gambrelref17_Do.l0 k9 l0 x8_20 x11_32 y147 a1_0 a1_1 a1_2 l1_3) = some (r1, r2) := by first | (rw [hy147]; with_reducible exact H) | (have H2_ := (Option.bind_some _ _).symm.trans H; rw [hy147]; with_reducible exact H2_) | (have H2_ := (Option.bind_some _ _).symm.trans H; with_reducible exact H2_) | with_reducible exact H | (rw [hy147]; exact H) | exact H
                                                have Ny147 := Aside0.mk hy147
                                                clear hy147
                                                have H' := Aside0.mk H
                                                clear H
                                                obtain ⟨Ao62, co62, eo62⟩ := Kd.R_slice HO_12.out
                                                subst eo62
                                                go_wp2_with (first | ((with_reducible refine gate_builtin (b := .append) (xs := #[.tmp 113, .tmp 114]) rfl ?_); (try (refine gate_guard (by rfl) ?_; dsimp only)); at_builtin; refine Kd.R_append (Kd.int .u8) (w0 := w) w.heap.size rfl (.tmp 113) (.tmp 114) 23 5 (.int .u8 0) 1 rfl Try.underlying23 info5 rfl (by decide) (by omega) (.slice Ao62 x12_9.length co62) x12_9 0 [.int .u8 0] (fun k_ => (w.heap.size ≤ k_)) (fun _ => False) rfl rfl ?aP (fun _ hk => hk.elim) ?aF ?aO ?aB ?aS ?aL ?_; (case aP => exact rfl); (case aB => exact (by repeat (first | (with_reducible first | exact HB.out | apply below_alloc | apply pw_below_drewN | apply below_drew1 | refine below_set ?_ GE134.out) | exact HB.out))); (case aF => exact (fun k_ hk => (Nat.le_trans (below_size (by repeat (first | (with_reducible first | exact HB.out | apply below_alloc | apply pw_below_drewN | apply below_drew1 | refine below_set ?_ GE134.out) | exact HB.out))) hk))); (case aO => exact (by (with_reducible repeat (first | apply Kd.R_alloc | apply Kd.R_drewN | apply Kd.R_drew)); exact HO_12.out)); (case aS => exact (below_size (by repeat (first | (with_reducible first | exact HB.out | apply below_alloc | apply pw_below_drewN | apply below_drew1 | refine below_set ?_ GE134.out) | exact HB.out)))); (case aL => have := LMc61.out; omega); intro v148 w63 ho hb hg hat; rw [← Ny147.out] at ho; have n0_ := Aside0.mk (Kd.V_afterv (ok := (fun k_ => ((P0_ k_ ∨ P1_3_ k_) ∨ w.heap.size ≤ k_) ∧ k_ ≠ gb134)) (by (with_reducible repeat (first | apply Kd.V_alloc | apply Kd.V_drewN | apply Kd.V_drew)); exact Kd.V_mono HO_0.out (fun _ hk => ⟨⟨hk.1, hk.2.2⟩, hk.2.1⟩)) hg hat); have n1_ := Aside0.mk (Kd.V_afterv (ok := (fun k_ => ((P0_ k_ ∨ P1_3_ k_) ∨ w.heap.size ≤ k_) ∧ k_ ≠ gb134)) (by (with_reducible repeat (first | apply Kd.V_alloc | apply Kd.V_drewN | apply Kd.V_drew)); exact Kd.V_mono HO_8.out (fun _ hk => ⟨⟨hk.1, hk.2.2⟩, hk.2.1⟩)) hg hat); have n2_ := Aside0.mk (Kd.V_afterv (ok := (fun k_ => ((P0_ k_ ∨ P1_3_ k_) ∨ w.heap.size ≤ k_) ∧ k_ ≠ gb134)) (by (with_reducible repeat (first | apply Kd.V_alloc | apply Kd.V_drewN | apply Kd.V_drew)); exact Kd.V_mono HO_135003.out (fun _ hk => ⟨⟨hk.1, hk.2.2⟩, hk.2.1⟩)) hg hat); have n3_ := Aside0.mk (blk_grown (g := gb134) (o := .cells #[.string a1_0, .int .i64 a1_1, .int .i64 a1_2, .slice A1_3 l1_3.length c1_3] 25 (0, 0)) (by (with_reducible repeat (first | refine blk_drewN ?_ _ | refine blk_drew ?_ | refine blk_alloc ?_ _)); exact BK134.out) hg (Kd.R_ne HO_12.out BK134.out (by decide))); have n4_ := Aside0.mk (hb); have n5_ := Aside0.mk (ho); clear HO_0; clear HO_8; clear HO_135003; clear BK134; clear HB; clear HO_12; have HO_0 := n0_; have HO_8 := n1_; have HO_135003 := n2_; have BK134 := n3_; have HB := n4_; have HO149 := n5_; clear n0_ n1_ n2_ n3_ n4_ n5_; clear ho hb hg hat))
                                                go_roundg k9
                                                case measure => have := HJ3.out; have := HJ17.out; have := HJ20.out; have := HJ26.out; have := HJ32.out; have := HJ36.out; have := HJ47.out; have := HJ53.out; have := HK9.out; omega
                                                case rel => exact ⟨(y147), H', ⟨by have := HJ3.out; have := HJ17.out; have := HJ20.out; have := HJ26.out; have := HJ32.out; have := HJ36.out; have := HJ47.out; have := HJ53.out; have := HK9.out; omega⟩, ⟨by (with_reducible repeat (first | apply Kd.V_alloc | apply Kd.V_drewN | apply Kd.V_drew)); exact Kd.V_mono HO_0.out (fun _ hk => ⟨hk.1.1, ⟨hk.2, hk.1.2⟩⟩)⟩, ⟨by (with_reducible repeat (first | apply Kd.V_alloc | apply Kd.V_drewN | apply Kd.V_drew)); exact Kd.V_mono HO_8.out (fun _ hk => ⟨hk.1.1, ⟨hk.2, hk.1.2⟩⟩)⟩, ⟨by (with_reducible repeat (first | apply Kd.R_alloc | apply Kd.R_drewN | apply Kd.R_drew)); exact HO149.out⟩, ⟨by (with_reducible repeat (first | apply Kd.V_alloc | apply Kd.V_drewN | apply Kd.V_drew)); exact Kd.V_mono HO_135003.out (fun _ hk => ⟨hk.1.1, ⟨hk.2, hk.1.2⟩⟩)⟩, ⟨by (with_reducible repeat (first | refine blk_drewN ?_ _ | refine blk_drew ?_ | refine blk_alloc ?_ _)); exact BK134.out⟩, ⟨by repeat (first | (with_reducible first | exact HB.out | apply below_alloc | apply pw_below_drewN | apply below_drew1 | refine below_set ?_ GE134.out) | exact HB.out)⟩⟩
                                              · rw [if_neg c61] at H
                                                exact absurd H (by simp)
                                            · rw [if_neg c60] at H
                                              have c60b0 : decide ((x12_9.length : Int) < x11_32) = false := decide_eq_false c60
                                              clear c60
                                              have H' := Aside0.mk H
                                              clear H
                                              obtain ⟨Ao64, co64, eo64⟩ := Kd.R_slice HO_12.out
                                              subst eo64
                                              go_wp2
                                              go_loopg [12, 13] k9 (fun kq v12 v13 w' => ∃ (x8_10 : List Int) (x12_10 : List Int) (x13_10 : Int) (x135003_10 : List Int) (u135003 : Value), v13 = .int .i64 x13_10 ∧ Aside0 (gambrelref17_Do.l1 kq l0 x8_10 x11_32 x12_10 x13_10 a1_0 a1_1 a1_2 x135003_10 = some (r1, r2)) ∧ Aside0 (kq ≤ k9) ∧ Aside0 (Kd.V k38 38 w' w.heap.size (fun k_ => ((P0_ k_ ∨ P1_3_ k_) ∨ w.heap.size ≤ k_) ∧ some k_ ≠ (v12 : Value).ownBlock ∧ k_ ≠ gb134) (.slice A0 l0.length c0) l0) ∧ Aside0 (Kd.V (Kd.int .u8) 5 w' w.heap.size (fun k_ => ((P0_ k_ ∨ P1_3_ k_) ∨ w.heap.size ≤ k_) ∧ some k_ ≠ (v12 : Value).ownBlock ∧ k_ ≠ gb134) u8 x8_10) ∧ Aside0 (Kd.R (Kd.int .u8) 5 w' w.heap.size (fun k_ => (w.heap.size ≤ k_)) v12 x12_10) ∧ Aside0 (Kd.V (Kd.int .u8) 5 w' w.heap.size (fun k_ => ((P0_ k_ ∨ P1_3_ k_) ∨ w.heap.size ≤ k_) ∧ some k_ ≠ (v12 : Value).ownBlock ∧ k_ ≠ gb134) u135003 x135003_10) ∧ Aside0 (w'.heap[gb134]? = some (.cells #[.string a1_0, .int .i64 a1_1, .int .i64 a1_2, u135003] 25 (0, 0))) ∧ Aside0 (Below w.heap.size w w'))
                                              case atStart => exact ⟨(x8_20), (x12_9), (0), (l1_3), (.slice A1_3 l1_3.length c1_3), (by first | rfl | (simp; done) | (simp [*]; done)), H', ⟨Nat.le_refl _⟩, ⟨by (with_reducible repeat (first | apply Kd.V_alloc | apply Kd.V_drewN | apply Kd.V_drew)); exact HO_0.out⟩, ⟨by (with_reducible repeat (first | apply Kd.V_alloc | apply Kd.V_drewN | apply Kd.V_drew)); exact HO_8.out⟩, ⟨by (with_reducible repeat (first | apply Kd.R_alloc | apply Kd.R_drewN | apply Kd.R_drew)); exact HO_12.out⟩, ⟨by (with_reducible repeat (first | apply Kd.V_alloc | apply Kd.V_drewN | apply Kd.V_drew)); exact HO_135003.out⟩, ⟨by (with_reducible repeat (first | refine blk_drewN ?_ _ | refine blk_drew ?_ | refine blk_alloc ?_ _)); exact BK134.out⟩, ⟨by repeat (first | (with_reducible first | exact HB.out | apply below_alloc | apply pw_below_drewN | apply below_drew1 | refine below_set ?_ GE134.out) | exact HB.out)⟩⟩
                                              case round =>
                                                clear H'
                                                try clear c1
                                                try clear c2
                                                try clear p2
                                                try clear q2
                                                try clear c3
                                                try clear c4
                                                try clear c5
                                                try clear c6
                                                try clear c6b0
                                                try clear p6
                                                try clear c8
                                                try clear c8b0
                                                try clear c10
                                                try clear c10b0
                                                try clear c10b1
                                                try clear c12
                                                try clear c12b0
                                                try clear c12b1
                                                try clear c14
                                                try clear c14b0
                                                try clear c14b1
                                                try clear c17
                                                try clear c19
                                                try clear c20
                                                try clear c20b0
                                                try clear c22
                                                try clear c23
                                                try clear c23b0
                                                try clear c23b1
                                                try clear c24
                                                try clear c24b0
                                                try clear c24b1
                                                try clear q25
                                                try clear c30
                                                try clear c31
                                                try clear c31b0
                                                try clear c31b1
                                                try clear c35
                                                try clear c35b0
                                                try clear c35b1
                                                try clear c38
                                                try clear c38b0
                                                try clear c39
                                                try clear c39b0
                                                try clear c41
                                                try clear c41b0
                                                try clear c41b1
                                                try clear c47
                                                try clear c49
                                                try clear c49b0
                                                try clear c49b1
                                                try clear c49b2
                                                try clear c53
                                                try clear c56
                                                try clear c56b0
                                                try clear c56b1
                                                try clear c57
                                                try clear c60
                                                try clear c60b0
                                                try clear c61
                                                try clear hcz11_0
                                                try clear hcz11_1
                                                try clear hcz11_2
                                                try clear hcz11_3
                                                try clear hcz13_0
                                                try clear hcz13_1
                                                try clear hcz13_2
                                                try clear hcz13_3
                                                try clear hcz15_0
                                                try clear hcz15_1
                                                try clear hcz15_2
                                                try clear hcz15_3
                                                try clear hcz16_0
                                                try clear hcz16_1
                                                try clear hcz16_2
                                                try clear hcz16_3
                                                try clear hcz19_0
                                                try clear hcz19_1
                                                try clear hcz19_2
                                                try clear hcz19_3
                                                try clear hcz28_0
                                                try clear hcz28_1
                                                try clear hcz28_2
                                                try clear hcz28_3
                                                try clear hcz30_0
                                                try clear hcz30_1
                                                try clear hcz30_2
                                                try clear hcz30_3
                                                try clear hcz34_0
                                                try clear hcz34_1
                                                try clear hcz34_2
                                                try clear hcz34_3
                                                try clear hcz36_0
                                                try clear hcz36_1
                                                try clear hcz36_2
                                                try clear hcz36_3
                                                try clear hcz43_0
                                                try clear hcz43_1
                                                try clear hcz43_2
                                                try clear hcz43_3
                                                try clear hcz46_0
                                                try clear hcz46_1
                                                try clear hcz46_2
                                                try clear hcz46_3
                                                try clear hcz51_0
                                                try clear hcz51_1
                                                try clear hcz51_2
                                                try clear hcz51_3
                                                try clear hcz55_0
                                                try clear hcz55_1
                                                try clear hcz55_2
                                                try clear hcz55_3
                                                try clear hcz7_0
                                                try clear hcz7_1
                                                try clear hcz7_2
                                                try clear hcz7_3
                                                try clear hcz9_0
                                                try clear hcz9_1
                                                try clear hcz9_2
                                                try clear hcz9_3
                                                try clear hfz11_0
                                                try clear hfz11_1
                                                try clear hfz11_2
                                                try clear hfz11_3
                                                try clear hfz13_0
                                                try clear hfz13_1
                                                try clear hfz13_2
                                                try clear hfz13_3
                                                try clear hfz15_0
                                                try clear hfz15_1
                                                try clear hfz15_2
                                                try clear hfz15_3
                                                try clear hfz16_0
                                                try clear hfz16_1
                                                try clear hfz16_2
                                                try clear hfz16_3
                                                try clear hfz19_0
                                                try clear hfz19_1
                                                try clear hfz19_2
                                                try clear hfz19_3
                                                try clear hfz28_0
                                                try clear hfz28_1
                                                try clear hfz28_2
                                                try clear hfz28_3
                                                try clear hfz30_0
                                                try clear hfz30_1
                                                try clear hfz30_2
                                                try clear hfz30_3
                                                try clear hfz34_0
                                                try clear hfz34_1
                                                try clear hfz34_2
                                                try clear hfz34_3
                                                try clear hfz36_0
                                                try clear hfz36_1
                                                try clear hfz36_2
                                                try clear hfz36_3
                                                try clear hfz43_0
                                                try clear hfz43_1
                                                try clear hfz43_2
                                                try clear hfz43_3
                                                try clear hfz46_0
                                                try clear hfz46_1
                                                try clear hfz46_2
                                                try clear hfz46_3
                                                try clear hfz51_0
                                                try clear hfz51_1
                                                try clear hfz51_2
                                                try clear hfz51_3
                                                try clear hfz55_0
                                                try clear hfz55_1
                                                try clear hfz55_2
                                                try clear hfz55_3
                                                try clear hfz7_0
                                                try clear hfz7_1
                                                try clear hfz7_2
                                                try clear hfz7_3
                                                try clear hfz9_0
                                                try clear hfz9_1
                                                try clear hfz9_2
                                                try clear hfz9_3
                                                try clear p2
                                                try clear p6
                                                try clear q2
                                                try clear q25
                                                obtain ⟨x8_10, x12_10, x13_10, x135003_10, u135003, rfl, HA, HK10, HO_0, HO_8, HO_12, HO_135003, BK134, HB⟩ := hrel
                                                cases gk with
                                                | zero => exact absurd HA.out (by simp [gambrelref17_Do.l1])
                                                | succ k10 =>
                                                  have H := HA.out
                                                  clear HA
                                                  simp only [gambrelref17_Do.l1] at H
                                                  by_cases c65 : x13_10 < (x8_10.length : Int)
                                                  · rw [if_pos c65] at H
                                                    have c65b0 : decide (x13_10 < (x8_10.length : Int)) = true := decide_eq_true c65
                                                    clear c65
                                                    by_cases c66 : (wrap64 (x11_32 + x13_10)) < (x12_10.length : Int)
                                                    · rw [if_pos c66] at H
                                                      have c66b0 : decide ((wrap64 (x11_32 + x13_10)) < (x12_10.length : Int)) = true := decide_eq_true c66
                                                      clear c66
                                                      by_cases c67 : 0 ≤ x13_10
                                                      · rw [if_pos c67] at H
                                                        have c67b0 : decide (0 ≤ x13_10) = true := decide_eq_true c67
                                                        clear c67
                                                        obtain ⟨ji68, hji68⟩ : ∃ j_ : Int, (wrap64 (x11_32 + x13_10)) = j_ := ⟨_, rfl⟩
                                                        replace H : (if 0 ≤ (ji68) then (gambrelref17_Do.l1 k10 l0 x8_10 x11_32 (x12_10.set ((ji68) : Int).toNat (rd x8_10 x13_10)) (wrap64 (x13_10 + 1)) a1_0 a1_1 a1_2 x135003_10) else (none)) = some (r1, r2) := by first | (rw [hji68] at H; exact H) | (simp only [hji68] at H ⊢; exact H)
                                                        (try rw [hji68] at c66b0)
                                                        have hji68w : (IntKind.i64.wrap (x11_32 + x13_10)) = ji68 := (i64_w _).trans hji68
                                                        by_cases c69 : 0 ≤ (ji68)
                                                        · rw [if_pos c69] at H
                                                          have c69b0 : decide (0 ≤ (ji68)) = true := decide_eq_true c69
                                                          clear c69
                                                          obtain ⟨y151, hy151⟩ : ∃ y_ : List Int, y_ = (x12_10.set ((ji68) : Int).toNat (rd x8_10 x13_10)) := ⟨_, rfl⟩
                                                          replace H : (gambrelref17_Do.l1 k10 l0 x8_10 x11_32 y151 (wrap64 (x13_10 + 1)) a1_0 a1_1 a1_2 x135003_10) = some (r1, r2) := by first | (rw [hy151]; with_reducible exact H) | (have H2_ := (Option.bind_some _ _).symm.trans H; rw [hy151]; with_reducible exact H2_) | (have H2_ := (Option.bind_some _ _).symm.trans H; with_reducible exact H2_) | with_reducible exact H | (rw [hy151]; exact H) | exact H
                                                          have Ny151 := Aside0.mk hy151
                                                          clear hy151
                                                          have H' := Aside0.mk H
                                                          clear H
                                                          obtain ⟨Ao71, co71, eo71⟩ := Kd.V_slice HO_8.out
                                                          subst eo71
                                                          obtain ⟨Ao72, co72, eo72⟩ := Kd.R_slice HO_12.out
                                                          subst eo72
                                                          have p150 : 0 ≤ (x13_10 : Int) := of_decide_eq_true (by first | (with_reducible assumption) | assumption)
                                                          have q150 : x13_10 < (x8_10.length : Int) := of_decide_eq_true (by first | (with_reducible assumption) | assumption)
                                                          obtain ⟨ad150, e150, hx150_0⟩ := Kd.at_int (Kd.V_reads' HO_8.out).2.2 x13_10 p150 q150
                                                          cases e150
                                                          replace p150 := eq_true p150
                                                          replace q150 := eq_true q150
                                                          have p70 : 0 ≤ ((ji68) : Int) := of_decide_eq_true (by first | (with_reducible assumption) | assumption)
                                                          have q70 : ((ji68) : Int) < ((x12_10.length : Int) : Int) := of_decide_eq_true (by first | (with_reducible assumption) | assumption)
                                                          obtain ⟨go70, co70, eo70, gb70, gl70, cl70, HG70⟩ := Kd.R_form HO_12.out (by omega)
                                                          (first | cases eo70 | (injection eo70 with ea_ en_ ec_; (first | subst ea_ | (injection ea_ with ea_; subst ea_)); subst ec_; clear en_))
                                                          have GB70 := Aside0.mk gb70
                                                          have GG70 := Aside0.mk HG70
                                                          clear gb70 gl70 HG70
                                                          obtain ⟨hx70_0, hf70_0⟩ := Kd.R_celln 0 HO_12.out ((ji68) : Int) p70 q70
                                                          replace p70 := eq_true p70
                                                          replace q70 := eq_true q70
                                                          have HP73 := Kd.R_putg HO_12.out ((ji68) : Int) (rd x8_10 x13_10)
                                                          go_wp2_with (first | ((with_reducible refine gate_store (t := 5) (p := 136) rfl ?_); refine store_event (t := 5) (p := 136) (v := ?vo_w74) (w1 := (wr.setCell ⟨go70, ((ji68) : Int).toNat, none⟩ (.int .u8 (rd x8_10 x13_10)))) ?hg ?ho ?hn ?hr ?_; (case ho => rfl); (case hg => rfl); (case hn => rfl); (case hr => first | (go_simp; done) | (go_simp; rfl)); intro w74 hw; have hg : wr.grownBy w74 (some go70) := (by rw [hw]; exact HP73.2); have hp_ : Kd.R (Kd.int .u8) 5 w74 w.heap.size (fun k_ => (w.heap.size ≤ k_)) (.slice (some ⟨go70, 0, none⟩) x12_10.length co72) y151 := (by rw [hw, Ny151.out]; exact HP73.1); clear HP73; have n0_ := Aside0.mk (Kd.V_afterv (v := (.slice (some ⟨go70, 0, none⟩) x12_10.length co72)) (v1 := (.slice (some ⟨go70, 0, none⟩) x12_10.length co72)) (ok := (fun k_ => ((P0_ k_ ∨ P1_3_ k_) ∨ w.heap.size ≤ k_) ∧ k_ ≠ gb134)) (by (with_reducible repeat (first | apply Kd.V_alloc | apply Kd.V_drewN | apply Kd.V_drew)); exact Kd.V_mono HO_0.out (fun _ hk => ⟨⟨hk.1, hk.2.2⟩, hk.2.1⟩)) hg (.inl rfl)); have n1_ := Aside0.mk (Kd.V_afterv (v := (.slice (some ⟨go70, 0, none⟩) x12_10.length co72)) (v1 := (.slice (some ⟨go70, 0, none⟩) x12_10.length co72)) (ok := (fun k_ => ((P0_ k_ ∨ P1_3_ k_) ∨ w.heap.size ≤ k_) ∧ k_ ≠ gb134)) (by (with_reducible repeat (first | apply Kd.V_alloc | apply Kd.V_drewN | apply Kd.V_drew)); exact Kd.V_mono HO_8.out (fun _ hk => ⟨⟨hk.1, hk.2.2⟩, hk.2.1⟩)) hg (.inl rfl)); have n2_ := Aside0.mk (hp_); have n3_ := Aside0.mk (Kd.V_afterv (v := (.slice (some ⟨go70, 0, none⟩) x12_10.length co72)) (v1 := (.slice (some ⟨go70, 0, none⟩) x12_10.length co72)) (ok := (fun k_ => ((P0_ k_ ∨ P1_3_ k_) ∨ w.heap.size ≤ k_) ∧ k_ ≠ gb134)) (by (with_reducible repeat (first | apply Kd.V_alloc | apply Kd.V_drewN | apply Kd.V_drew)); exact Kd.V_mono HO_135003.out (fun _ hk => ⟨⟨hk.1, hk.2.2⟩, hk.2.1⟩)) hg (.inl rfl)); have n4_ := Aside0.mk (blk_grown (g := gb134) (o := .cells #[.string a1_0, .int .i64 a1_1, .int .i64 a1_2, u135003] 25 (0, 0)) (by (with_reducible repeat (first | refine blk_drewN ?_ _ | refine blk_drew ?_ | refine blk_alloc ?_ _)); exact BK134.out) hg (Kd.R_ne HO_12.out BK134.out (by decide))); have n5_ := Aside0.mk ((by rw [hw]; exact below_set (HB.out) GB70.out : Below w.heap.size w w74)); clear HO_0; clear HO_8; clear HO_12; clear HO_135003; clear BK134; clear HB; have HO_0 := n0_; have HO_8 := n1_; have HO_12 := n2_; have HO_135003 := n3_; have BK134 := n4_; have HB := n5_; clear n0_ n1_ n2_ n3_ n4_ n5_; clear hg hw hp_))
                                                          go_roundg k10
                                                          case measure => have := HJ3.out; have := HJ17.out; have := HJ20.out; have := HJ26.out; have := HJ32.out; have := HJ36.out; have := HJ47.out; have := HJ53.out; have := HK9.out; have := HK10.out; omega
                                                          case rel => exact ⟨(x8_10), (y151), (wrap64 (x13_10 + 1)), (x135003_10), (u135003), (by first | rfl | (simp; done) | (simp [*]; done)), H', ⟨by have := HJ3.out; have := HJ17.out; have := HJ20.out; have := HJ26.out; have := HJ32.out; have := HJ36.out; have := HJ47.out; have := HJ53.out; have := HK9.out; have := HK10.out; omega⟩, ⟨by (with_reducible repeat (first | apply Kd.V_alloc | apply Kd.V_drewN | apply Kd.V_drew)); exact Kd.V_mono HO_0.out (fun _ hk => ⟨hk.1.1, ⟨hk.2, hk.1.2⟩⟩)⟩, ⟨by (with_reducible repeat (first | apply Kd.V_alloc | apply Kd.V_drewN | apply Kd.V_drew)); exact Kd.V_mono HO_8.out (fun _ hk => ⟨hk.1.1, ⟨hk.2, hk.1.2⟩⟩)⟩, ⟨by (with_reducible repeat (first | apply Kd.R_alloc | apply Kd.R_drewN | apply Kd.R_drew)); exact HO_12.out⟩, ⟨by (with_reducible repeat (first | apply Kd.V_alloc | apply Kd.V_drewN | apply Kd.V_drew)); exact Kd.V_mono HO_135003.out (fun _ hk => ⟨hk.1.1, ⟨hk.2, hk.1.2⟩⟩)⟩, ⟨by (with_reducible repeat (first | refine blk_drewN ?_ _ | refine blk_drew ?_ | refine blk_alloc ?_ _)); exact BK134.out⟩, ⟨by repeat (first | (with_reducible first | exact HB.out | apply below_alloc | apply pw_below_drewN | apply below_drew1 | refine below_set ?_ GE134.out) | exact HB.out)⟩⟩
                                                        · rw [if_neg c69] at H
                                                          exact absurd H (by simp)
                                                      · rw [if_neg c67] at H
                                                        exact absurd H (by simp)
                                                    · rw [if_neg c66] at H
                                                      have c66b0 : decide ((wrap64 (x11_32 + x13_10)) < (x12_10.length : Int)) = false := decide_eq_false c66
                                                      clear c66
                                                      by_cases c75 : 0 ≤ x13_10
                                                      · rw [if_pos c75] at H
                                                        have c75b0 : decide (0 ≤ x13_10) = true := decide_eq_true c75
                                                        clear c75
                                                        by_cases c76 : x12_10.length < 140737488355328
                                                        · rw [if_pos c76] at H
                                                          have LMc76 := Aside0.mk c76
                                                          clear c76
                                                          obtain ⟨y153, hy153⟩ : ∃ y_ : List Int, y_ = (x12_10 ++ [rd x8_10 x13_10]) := ⟨_, rfl⟩
                                                          replace H : (gambrelref17_Do.l1 k10 l0 x8_10 x11_32 y153 (wrap64 (x13_10 + 1)) a1_0 a1_1 a1_2 x135003_10) = some (r1, r2) := by first | (rw [hy153]; with_reducible exact H) | (have H2_ := (Option.bind_some _ _).symm.trans H; rw [hy153]; with_reducible exact H2_) | (have H2_ := (Option.bind_some _ _).symm.trans H; with_reducible exact H2_) | with_reducible exact H | (rw [hy153]; exact H) | exact H
                                                          have Ny153 := Aside0.mk hy153
                                                          clear hy153
                                                          have H' := Aside0.mk H
                                                          clear H
                                                          obtain ⟨Ao77, co77, eo77⟩ := Kd.V_slice HO_8.out
                                                          subst eo77
                                                          obtain ⟨Ao78, co78, eo78⟩ := Kd.R_slice HO_12.out
                                                          subst eo78
                                                          have p152 : 0 ≤ (x13_10 : Int) := of_decide_eq_true (by first | (with_reducible assumption) | assumption)
                                                          have q152 : x13_10 < (x8_10.length : Int) := of_decide_eq_true (by first | (with_reducible assumption) | assumption)
                                                          obtain ⟨ad152, e152, hx152_0⟩ := Kd.at_int (Kd.V_reads' HO_8.out).2.2 x13_10 p152 q152
                                                          cases e152
                                                          replace p152 := eq_true p152
                                                          replace q152 := eq_true q152
                                                          go_wp2_with (first | ((with_reducible refine gate_builtin (b := .append) (xs := #[.tmp 137, .tmp 142]) rfl ?_); (try (refine gate_guard (by rfl) ?_; dsimp only)); at_builtin; refine Kd.R_append (Kd.int .u8) (w0 := w) w.heap.size rfl (.tmp 137) (.tmp 142) 23 5 (.int .u8 0) 1 rfl Try.underlying23 info5 rfl (by decide) (by omega) (.slice Ao78 x12_10.length co78) x12_10 (rd x8_10 x13_10) [.int .u8 (rd x8_10 x13_10)] (fun k_ => (w.heap.size ≤ k_)) (fun _ => False) rfl rfl ?aP (fun _ hk => hk.elim) ?aF ?aO ?aB ?aS ?aL ?_; (case aP => exact rfl); (case aB => exact (by repeat (first | (with_reducible first | exact HB.out | apply below_alloc | apply pw_below_drewN | apply below_drew1 | refine below_set ?_ GE134.out) | exact HB.out))); (case aF => exact (fun k_ hk => (Nat.le_trans (below_size (by repeat (first | (with_reducible first | exact HB.out | apply below_alloc | apply pw_below_drewN | apply below_drew1 | refine below_set ?_ GE134.out) | exact HB.out))) hk))); (case aO => exact (by (with_reducible repeat (first | apply Kd.R_alloc | apply Kd.R_drewN | apply Kd.R_drew)); exact HO_12.out)); (case aS => exact (below_size (by repeat (first | (with_reducible first | exact HB.out | apply below_alloc | apply pw_below_drewN | apply below_drew1 | refine below_set ?_ GE134.out) | exact HB.out)))); (case aL => have := LMc76.out; omega); intro v154 w79 ho hb hg hat; rw [← Ny153.out] at ho; have n0_ := Aside0.mk (Kd.V_afterv (ok := (fun k_ => ((P0_ k_ ∨ P1_3_ k_) ∨ w.heap.size ≤ k_) ∧ k_ ≠ gb134)) (by (with_reducible repeat (first | apply Kd.V_alloc | apply Kd.V_drewN | apply Kd.V_drew)); exact Kd.V_mono HO_0.out (fun _ hk => ⟨⟨hk.1, hk.2.2⟩, hk.2.1⟩)) hg hat); have n1_ := Aside0.mk (Kd.V_afterv (ok := (fun k_ => ((P0_ k_ ∨ P1_3_ k_) ∨ w.heap.size ≤ k_) ∧ k_ ≠ gb134)) (by (with_reducible repeat (first | apply Kd.V_alloc | apply Kd.V_drewN | apply Kd.V_drew)); exact Kd.V_mono HO_8.out (fun _ hk => ⟨⟨hk.1, hk.2.2⟩, hk.2.1⟩)) hg hat); have n2_ := Aside0.mk (Kd.V_afterv (ok := (fun k_ => ((P0_ k_ ∨ P1_3_ k_) ∨ w.heap.size ≤ k_) ∧ k_ ≠ gb134)) (by (with_reducible repeat (first | apply Kd.V_alloc | apply Kd.V_drewN | apply Kd.V_drew)); exact Kd.V_mono HO_135003.out (fun _ hk => ⟨⟨hk.1, hk.2.2⟩, hk.2.1⟩)) hg hat); have n3_ := Aside0.mk (blk_grown (g := gb134) (o := .cells #[.string a1_0, .int .i64 a1_1, .int .i64 a1_2, u135003] 25 (0, 0)) (by (with_reducible repeat (first | refine blk_drewN ?_ _ | refine blk_drew ?_ | refine blk_alloc ?_ _)); exact BK134.out) hg (Kd.R_ne HO_12.out BK134.out (by decide))); have n4_ := Aside0.mk (hb); have n5_ := Aside0.mk (ho); clear HO_0; clear HO_8; clear HO_135003; clear BK134; clear HB; clear HO_12; have HO_0 := n0_; have HO_8 := n1_; have HO_135003 := n2_; have BK134 := n3_; have HB := n4_; have HO155 := n5_; clear n0_ n1_ n2_ n3_ n4_ n5_; clear ho hb hg hat))
                                                          go_roundg k10
                                                          case measure => have := HJ3.out; have := HJ17.out; have := HJ20.out; have := HJ26.out; have := HJ32.out; have := HJ36.out; have := HJ47.out; have := HJ53.out; have := HK9.out; have := HK10.out; omega
                                                          case rel => exact ⟨(x8_10), (y153), (wrap64 (x13_10 + 1)), (x135003_10), (u135003), (by first | rfl | (simp; done) | (simp [*]; done)), H', ⟨by have := HJ3.out; have := HJ17.out; have := HJ20.out; have := HJ26.out; have := HJ32.out; have := HJ36.out; have := HJ47.out; have := HJ53.out; have := HK9.out; have := HK10.out; omega⟩, ⟨by (with_reducible repeat (first | apply Kd.V_alloc | apply Kd.V_drewN | apply Kd.V_drew)); exact Kd.V_mono HO_0.out (fun _ hk => ⟨hk.1.1, ⟨hk.2, hk.1.2⟩⟩)⟩, ⟨by (with_reducible repeat (first | apply Kd.V_alloc | apply Kd.V_drewN | apply Kd.V_drew)); exact Kd.V_mono HO_8.out (fun _ hk => ⟨hk.1.1, ⟨hk.2, hk.1.2⟩⟩)⟩, ⟨by (with_reducible repeat (first | apply Kd.R_alloc | apply Kd.R_drewN | apply Kd.R_drew)); exact HO155.out⟩, ⟨by (with_reducible repeat (first | apply Kd.V_alloc | apply Kd.V_drewN | apply Kd.V_drew)); exact Kd.V_mono HO_135003.out (fun _ hk => ⟨hk.1.1, ⟨hk.2, hk.1.2⟩⟩)⟩, ⟨by (with_reducible repeat (first | refine blk_drewN ?_ _ | refine blk_drew ?_ | refine blk_alloc ?_ _)); exact BK134.out⟩, ⟨by repeat (first | (with_reducible first | exact HB.out | apply below_alloc | apply pw_below_drewN | apply below_drew1 | refine below_set ?_ GE134.out) | exact HB.out)⟩⟩
                                                        · rw [if_neg c76] at H
                                                          exact absurd H (by simp)
                                                      · rw [if_neg c75] at H
                                                        exact absurd H (by simp)
                                                  · rw [if_neg c65] at H
                                                    have c65b0 : decide (x13_10 < (x8_10.length : Int)) = false := decide_eq_false c65
                                                    clear c65
                                                    replace H := Option.bind_eq_some_iff.mp H
                                                    obtain ⟨t156, A800, H⟩ := H
                                                    replace H : (some (t156, 0)) = some (r1, r2) := H
                                                    have A80 := Aside0.mk A800
                                                    clear A800
                                                    simp only [Option.some.injEq, Prod.mk.injEq] at H
                                                    obtain ⟨rfl, rfl⟩ := H
                                                    obtain ⟨Ao81, co81, eo81⟩ := Kd.V_slice HO_8.out
                                                    subst eo81
                                                    have hcz82_0 : wr.cell? ⟨gb134, 0, none⟩ = some (.string a1_0) := (blk_cell BK134.out 0).trans rfl
                                                    have hcz82_1 : wr.cell? ⟨gb134, 1, none⟩ = some (.int .i64 a1_1) := (blk_cell BK134.out 1).trans rfl
                                                    have hcz82_2 : wr.cell? ⟨gb134, 2, none⟩ = some (.int .i64 a1_2) := (blk_cell BK134.out 2).trans rfl
                                                    have hcz82_3 : wr.cell? ⟨gb134, 3, none⟩ = some (u135003) := (blk_cell BK134.out 3).trans rfl
                                                    have hfz82_0 := blk_frozen BK134.out 0
                                                    have hfz82_1 := blk_frozen BK134.out 1
                                                    have hfz82_2 := blk_frozen BK134.out 2
                                                    have hfz82_3 := blk_frozen BK134.out 3
                                                    obtain ⟨Ao83, co83, eo83⟩ := Kd.R_slice HO_12.out
                                                    subst eo83
                                                    go_wp2_with (first | ((with_reducible refine gate_callee (f := 24) rfl ?_); refine goesL_ (some 148) rfl rfl Try.func24 (by kernel_rfl) rfl #[.slice A0 l0.length c0, .string a1_0, .slice Ao83 x12_10.length co83] rfl (by (try simp only [List.map_toArray, List.map_cons, List.map_nil]); first | done | rfl | (simp only [List.length_drop, List.length_take]; rfl)) ?_; (with_reducible refine (gambrelref17_Put.calls k10 (fun k_ => (((P0_ k_ ∨ P1_3_ k_) ∨ w.heap.size ≤ k_) ∧ (some k_ ≠ (.slice Ao83 x12_10.length co83 : Value).ownBlock ∧ k_ ≠ gb134))) _ _ l0 a1_0 (fun k_ => some k_ = (.slice Ao83 x12_10.length co83 : Value).ownBlock) _ _ x12_10 t156 _ ?side1 ?side2 A80.out).mono ?_); (case side1 => exact HO_0.out); (case side2 => exact Kd.R_V (Kd.R_tight rfl (Kd.R_types (HO_12.out) BK134.out (by decide)))); rintro e w84 ⟨v157, rfl, ho0, hb⟩; refine ⟨_, rfl, ?_⟩; have n0_ := Aside0.mk (Kd.V_elder' (by (with_reducible repeat (first | apply Kd.V_alloc | apply Kd.V_drewN | apply Kd.V_drew)); exact HO_0.out) (Kd.N_base ho0) hb); have n1_ := Aside0.mk (Kd.V_elder' (by (with_reducible repeat (first | apply Kd.V_alloc | apply Kd.V_drewN | apply Kd.V_drew)); exact HO_8.out) (Kd.N_base ho0) hb); have n2_ := Aside0.mk (Kd.R_below (by (with_reducible repeat (first | apply Kd.R_alloc | apply Kd.R_drewN | apply Kd.R_drew)); exact HO_12.out) hb); have n3_ := Aside0.mk (Kd.V_elder' (by (with_reducible repeat (first | apply Kd.V_alloc | apply Kd.V_drewN | apply Kd.V_drew)); exact HO_135003.out) (Kd.N_base ho0) hb); have n4_ := Aside0.mk (Kd.N_lower (Kd.N_mono (ok' := fun k_ => ((P0_ k_ ∨ P1_3_ k_) ∨ w.heap.size ≤ k_) ∧ k_ ≠ gb134) ho0 (fun k_ hk_ => ⟨Or.elim hk_ (fun hs_ => Or.elim hs_ (fun hs_ => hs_.1) (fun hs_ => (.inr (((Kd.R_types (HO_12.out) BK134.out (by decide)).1 k_ hs_.symm).1)))) (fun hn_ => (.inr (Nat.le_trans (below_size (by repeat (first | (with_reducible first | exact HB.out | apply below_alloc | apply pw_below_drewN | apply below_drew1 | refine below_set ?_ GE134.out) | exact HB.out))) hn_))), Or.elim hk_ (fun hs_ => Or.elim hs_ (fun hs_ => hs_.2.2) (fun hs_ => ((Kd.R_types (HO_12.out) BK134.out (by decide)).1 k_ hs_.symm).2)) (fun hn_ => (Kd.freshB (g := gb134) (o := .cells #[.string a1_0, .int .i64 a1_1, .int .i64 a1_2, u135003] 25 (0, 0)) (by (with_reducible repeat (first | refine blk_drewN ?_ _ | refine blk_drew ?_ | refine blk_alloc ?_ _)); exact BK134.out) k_ hn_))⟩)) (below_size (by repeat (first | (with_reducible first | exact HB.out | apply below_alloc | apply pw_below_drewN | apply below_drew1 | refine below_set ?_ GE134.out) | exact HB.out)))); have n5_ := Aside0.mk (blk_below (g := gb134) (o := .cells #[.string a1_0, .int .i64 a1_1, .int .i64 a1_2, u135003] 25 (0, 0)) (by (with_reducible repeat (first | refine blk_drewN ?_ _ | refine blk_drew ?_ | refine blk_alloc ?_ _)); exact BK134.out) hb); have n6_ := Aside0.mk (below_step (by repeat (first | (with_reducible first | exact HB.out | apply below_alloc | apply pw_below_drewN | apply below_drew1 | refine below_set ?_ GE134.out) | exact HB.out)) hb); clear HO_0; clear HO_8; clear HO_12; clear HO_135003; clear BK134; clear HB; have HO_0 := n0_; have HO_8 := n1_; have HO_12 := n2_; have HO_135003 := n3_; have HO158 := n4_; have BK134 := n5_; have HB := n6_; clear n0_ n1_ n2_ n3_ n4_ n5_ n6_; (try clear hb); (try clear hb2); (try clear hk); (try clear hi); (try clear ho0)))
                                                    go_ret2
                                                    exact ⟨_, by first | rfl | (simp [errW_none, errW_some] <;> rfl) | (simp [*, errW_none, errW_some] <;> rfl), Kd.N_V (by (with_reducible repeat (first | apply Kd.N_alloc | apply Kd.N_drewN | apply Kd.N_drew)); exact Kd.N_mono HO158.out (fun _ hk => hk.1)), by repeat (first | (with_reducible first | exact HB.out | apply below_alloc | apply pw_below_drewN | apply below_drew1 | refine below_set ?_ GE134.out) | exact HB.out)⟩

end Go.Proofs.Ytcgeioingikeeaa.P
