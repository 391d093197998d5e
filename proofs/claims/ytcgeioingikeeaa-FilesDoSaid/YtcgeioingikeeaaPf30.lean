/- Written by a program of this seat (wip/tools/stage.py) out of the translation: what each function of this text returns, where its plain form returns. Lean checks it. -/
import Derived.Test.YtcgeioingikeeaaP0
namespace Go.Proofs.Ytcgeioingikeeaa.P
open Go.RowKit Go.Proofs.YtcgeioingikeeaaW.PrintWords Go.Proofs.YtcgeioingikeeaaW.PrintLast Go.Proofs.YtcgeioingikeeaaW.PrintMore
attribute [local go_sem] max2_int min2_int max_two min_two max_three min_three max_four min_four   -- for this text's walks alone
set_option linter.unusedVariables false
set_option linter.unusedSimpArgs false

/-! ### gambrelref17_Get: function 30 -/
def gambrelref17_Get.l0 : Nat → List (S38) → ByteArray → Int → Option (List Int × Bool)
  | 0, _, _, _ => none
  | k + 1, x0, x1, x6 => if x6 < (x0.length : Int) then (if 0 ≤ x6 then (if ((rd_T38 x0 x6).f0).toList = x1.toList then (some ((rd_T38 x0 x6).f1, true)) else (gambrelref17_Get.l0 k x0 x1 (wrap64 (x6 + 1)))) else (none)) else (some (([] : List Int), false))
def gambrelref17_Get.f (k : Nat) (l0 : List (S38)) (a1 : ByteArray) : Option (List Int × Bool) := gambrelref17_Get.l0 k l0 a1 0
theorem gambrelref17_Get.mono_l : ∀ k, (∀ y0 y1 y2, LeO (gambrelref17_Get.l0 k y0 y1 y2) (gambrelref17_Get.l0 (k + 1) y0 y1 y2))
  | 0 => fun _ _ _ r h => by simp [gambrelref17_Get.l0] at h
  | k + 1 => by
    have ih0 := gambrelref17_Get.mono_l k
    · intro y0 y1 y2
      unfold gambrelref17_Get.l0
      repeat' first
      | (with_reducible exact ih0 _ _ _)
      | (with_reducible exact LeO.refl _)
      | (with_reducible exact LeO.none _)
      | (with_reducible refine LeO.ite ?_ ?_)
      | (with_reducible refine LeO.bind ?_ (fun _ => ?_))
      | exact ih0 _ _ _
      | exact LeO.none _
      | refine LeO.ite ?_ ?_
      | refine LeO.bind ?_ (fun _ => ?_)
theorem gambrelref17_Get.mono : ∀ a0 a1 k, LeO (gambrelref17_Get.f k a0 a1) (gambrelref17_Get.f (k + 1) a0 a1) := by
  intro a0 a1 k
  have ih0 := gambrelref17_Get.mono_l k
  unfold gambrelref17_Get.f
  repeat' first
      | (with_reducible exact ih0 _ _ _)
      | (with_reducible exact LeO.refl _)
      | (with_reducible exact LeO.none _)
      | (with_reducible refine LeO.ite ?_ ?_)
      | (with_reducible refine LeO.bind ?_ (fun _ => ?_))
      | exact ih0 _ _ _
      | exact LeO.none _
      | refine LeO.ite ?_ ?_
      | refine LeO.bind ?_ (fun _ => ?_)
set_option maxHeartbeats 8000000 in
set_option maxRecDepth 100000 in
theorem gambrelref17_Get.calls (k : Nat) (P0_ : Nat → Prop) (A0 : Option Addr) (c0 : Nat) (l0 : List (S38)) (a1 : ByteArray) (r1 : List Int) (r2 : Bool) (w : World) (hs0 : Kd.V k38 38 w w.heap.size (fun k_ => P0_ k_) (.slice A0 l0.length c0) l0) (h : gambrelref17_Get.f k l0 a1 = some (r1, r2)) :
    Calls Try.prog 30 #[.slice A0 l0.length c0, .string a1] w fun e w' => ∃ v0_ : Value, e = .returned (.tuple #[v0_, .bool r2]) ∧ Kd.V (Kd.int .u8) 5 w' w.heap.size (fun k_ => (P0_ k_ ∨ w.heap.size ≤ k_)) v0_ r1 ∧ Below w.heap.size w w' := by
  have HO0 := Aside0.mk (show Kd.V k38 38 w w.heap.size (fun k_ => (P0_ k_ ∨ w.heap.size ≤ k_)) (.slice A0 l0.length c0) l0 from Kd.V_mono hs0 (fun k_ hk => .inl hk))
  have HB := Aside0.mk (Below.refl w.heap.size w)
  have H : (gambrelref17_Get.l0 k l0 a1 0) = some (r1, r2) := h
  clear h
  have H' := Aside0.mk H
  clear H
  go_enter Try.func30, Try.ntmps30
  go_wp2
  go_loopg [6] k (fun kq v6 w' => ∃ (x6_1 : Int), v6 = .int .i64 x6_1 ∧ Aside0 (gambrelref17_Get.l0 kq l0 a1 x6_1 = some (r1, r2)) ∧ Aside0 (kq ≤ k) ∧ Aside0 (Kd.V k38 38 w' w.heap.size (fun k_ => (P0_ k_ ∨ w.heap.size ≤ k_)) (.slice A0 l0.length c0) l0) ∧ Aside0 (Below w.heap.size w w'))
  case atStart => exact ⟨(0), (by first | rfl | (simp; done) | (simp [*]; done)), H', ⟨Nat.le_refl _⟩, ⟨by (with_reducible repeat (first | apply Kd.V_alloc | apply Kd.V_drewN | apply Kd.V_drew)); exact HO0.out⟩, ⟨by repeat (first | (with_reducible first | exact HB.out | apply below_alloc | apply pw_below_drewN | apply below_drew1) | exact HB.out)⟩⟩
  case round =>
    clear H'
    try clear p2
    obtain ⟨x6_1, rfl, HA, HK1, HO_0, HB⟩ := hrel
    cases gk with
    | zero => exact absurd HA.out (by simp [gambrelref17_Get.l0])
    | succ k1 =>
      have H := HA.out
      clear HA
      simp only [gambrelref17_Get.l0] at H
      by_cases c3 : x6_1 < (l0.length : Int)
      · rw [if_pos c3] at H
        have c3b0 : decide (x6_1 < (l0.length : Int)) = true := decide_eq_true c3
        clear c3
        by_cases c4 : 0 ≤ x6_1
        · rw [if_pos c4] at H
          have c4b0 : decide (0 ≤ x6_1) = true := decide_eq_true c4
          clear c4
          by_cases c5 : ((rd_T38 l0 x6_1).f0).toList = a1.toList
          · rw [if_pos c5] at H
            have c5b0 : (((rd_T38 l0 x6_1).f0).toList == a1.toList) = true := beq_iff_eq.mpr c5
            have c5b1 : (((rd_T38 l0 x6_1).f0).toList != a1.toList) = false := bne_eq_false_iff_eq.mpr c5
            clear c5
            simp only [Option.some.injEq, Prod.mk.injEq] at H
            obtain ⟨rfl, rfl⟩ := H
            have p132 : 0 ≤ (x6_1 : Int) := of_decide_eq_true (by first | (with_reducible assumption) | assumption)
            have q132 : x6_1 < (l0.length : Int) := of_decide_eq_true (by first | (with_reducible assumption) | assumption)
            obtain ⟨ad132, A132_1, c132_1, e132, hx132_0, hx132_1, hl132_1, hi132_1⟩ := at_T38 (Kd.V_reads' HO_0.out).2.2 x6_1 p132 q132
            cases e132
            obtain ⟨ce132, hce132, hMe132, hcc132⟩ := Kd.V_get HO_0.out z38 x6_1 p132 (by first | exact q132 | exact of_decide_eq_true (by first | (with_reducible assumption) | assumption) | (have e_ := (Kd.V_reads' HO_0.out).1; omega))
            obtain ⟨ua132_1, uc132_1, rfl, ul132_1, ge132_1⟩ := k38_openF hMe132
            have hv132_1 := hcc132 1 _ rfl
            rw [add_field _ _ 1 (by omega)] at hv132_1
            replace hv132_1 := Option.some.inj (hv132_1.symm.trans hx132_1)
            injection hv132_1 with hva_ hvn_ hvc_
            rw [hva_] at ge132_1
            rw [hvc_] at ul132_1
            have HL132_1 := Aside0.mk (show Kd.V (Kd.int .u8) 5 _ w.heap.size _ _ ((rd_T38 l0 x6_1).f1) from Kd.V_mk ul132_1 ge132_1)
            clear hva_ hvn_ hvc_ ge132_1 ul132_1
            clear hcc132 hce132
            have HR132_1 := Aside0.mk hi132_1
            have HC132_1 := Aside0.mk hl132_1
            clear hi132_1 hl132_1
            replace p132 := eq_true p132
            replace q132 := eq_true q132
            have p133 : 0 ≤ (x6_1 : Int) := of_decide_eq_true (by first | (with_reducible assumption) | assumption)
            have q133 : x6_1 < (l0.length : Int) := of_decide_eq_true (by first | (with_reducible assumption) | assumption)
            obtain ⟨ad133, A133_1, c133_1, e133, hx133_0, hx133_1, hl133_1, hi133_1⟩ := at_T38 (Kd.V_reads' HO_0.out).2.2 x6_1 p133 q133
            obtain rfl : ad132 = ad133 := (by injection e133)
            obtain ⟨ce133, hce133, hMe133, hcc133⟩ := Kd.V_get HO_0.out z38 x6_1 p133 (by first | exact q133 | exact of_decide_eq_true (by first | (with_reducible assumption) | assumption) | (have e_ := (Kd.V_reads' HO_0.out).1; omega))
            obtain ⟨ua133_1, uc133_1, rfl, ul133_1, ge133_1⟩ := k38_openF hMe133
            have hv133_1 := hcc133 1 _ rfl
            rw [add_field _ _ 1 (by omega)] at hv133_1
            replace hv133_1 := Option.some.inj (hv133_1.symm.trans hx133_1)
            injection hv133_1 with hva_ hvn_ hvc_
            rw [hva_] at ge133_1
            rw [hvc_] at ul133_1
            have HL133_1 := Aside0.mk (show Kd.V (Kd.int .u8) 5 _ w.heap.size _ _ ((rd_T38 l0 x6_1).f1) from Kd.V_mk ul133_1 ge133_1)
            clear hva_ hvn_ hvc_ ge133_1 ul133_1
            clear hcc133 hce133
            have HR133_1 := Aside0.mk hi133_1
            have HC133_1 := Aside0.mk hl133_1
            clear hi133_1 hl133_1
            replace p133 := eq_true p133
            replace q133 := eq_true q133
            have ea_ := Option.some.inj (hx132_1.symm.trans hx133_1)
            injection ea_ with ea_ en_ ec_
            subst ea_
            subst ec_
            clear en_
            go_wp2
            go_ret2
            exact ⟨_, by first | rfl | (simp [errW_none, errW_some] <;> rfl) | (simp [*, errW_none, errW_some] <;> rfl), by (with_reducible repeat (first | apply Kd.V_alloc | apply Kd.V_drewN | apply Kd.V_drew)); exact HL133_1.out, by repeat (first | (with_reducible first | exact HB.out | apply below_alloc | apply pw_below_drewN | apply below_drew1) | exact HB.out)⟩
          · rw [if_neg c5] at H
            have c5b0 : (((rd_T38 l0 x6_1).f0).toList == a1.toList) = false := beq_eq_false_iff_ne.mpr c5
            have c5b1 : (((rd_T38 l0 x6_1).f0).toList != a1.toList) = true := bne_iff_ne.mpr c5
            have H' := Aside0.mk H
            clear H
            have p132 : 0 ≤ (x6_1 : Int) := of_decide_eq_true (by first | (with_reducible assumption) | assumption)
            have q132 : x6_1 < (l0.length : Int) := of_decide_eq_true (by first | (with_reducible assumption) | assumption)
            obtain ⟨ad132, A132_1, c132_1, e132, hx132_0, hx132_1, hl132_1, hi132_1⟩ := at_T38 (Kd.V_reads' HO_0.out).2.2 x6_1 p132 q132
            cases e132
            obtain ⟨ce132, hce132, hMe132, hcc132⟩ := Kd.V_get HO_0.out z38 x6_1 p132 (by first | exact q132 | exact of_decide_eq_true (by first | (with_reducible assumption) | assumption) | (have e_ := (Kd.V_reads' HO_0.out).1; omega))
            obtain ⟨ua132_1, uc132_1, rfl, ul132_1, ge132_1⟩ := k38_openF hMe132
            have hv132_1 := hcc132 1 _ rfl
            rw [add_field _ _ 1 (by omega)] at hv132_1
            replace hv132_1 := Option.some.inj (hv132_1.symm.trans hx132_1)
            injection hv132_1 with hva_ hvn_ hvc_
            rw [hva_] at ge132_1
            rw [hvc_] at ul132_1
            have HL132_1 := Aside0.mk (show Kd.V (Kd.int .u8) 5 _ w.heap.size _ _ ((rd_T38 l0 x6_1).f1) from Kd.V_mk ul132_1 ge132_1)
            clear hva_ hvn_ hvc_ ge132_1 ul132_1
            clear hcc132 hce132
            have HR132_1 := Aside0.mk hi132_1
            have HC132_1 := Aside0.mk hl132_1
            clear hi132_1 hl132_1
            replace p132 := eq_true p132
            replace q132 := eq_true q132
            go_wp2
            go_roundg k1
            case measure => have := HK1.out; omega
            case rel => exact ⟨(wrap64 (x6_1 + 1)), (by first | rfl | (simp; done) | (simp [*]; done)), H', ⟨by have := HK1.out; omega⟩, ⟨by (with_reducible repeat (first | apply Kd.V_alloc | apply Kd.V_drewN | apply Kd.V_drew)); exact HO_0.out⟩, ⟨by repeat (first | (with_reducible first | exact HB.out | apply below_alloc | apply pw_below_drewN | apply below_drew1) | exact HB.out)⟩⟩
        · rw [if_neg c4] at H
          exact absurd H (by simp)
      · rw [if_neg c3] at H
        have c3b0 : decide (x6_1 < (l0.length : Int)) = false := decide_eq_false c3
        clear c3
        simp only [Option.some.injEq, Prod.mk.injEq] at H
        obtain ⟨rfl, rfl⟩ := H
        go_wp2
        go_ret2
        exact ⟨_, by first | rfl | (simp [errW_none, errW_some] <;> rfl) | (simp [*, errW_none, errW_some] <;> rfl), Kd.V_nil _ _ _ _ _, by repeat (first | (with_reducible first | exact HB.out | apply below_alloc | apply pw_below_drewN | apply below_drew1) | exact HB.out)⟩

end Go.Proofs.Ytcgeioingikeeaa.P
