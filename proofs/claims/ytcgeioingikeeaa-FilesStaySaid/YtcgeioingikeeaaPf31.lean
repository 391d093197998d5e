/- Written by a program of this seat (wip/tools/stage.py) out of the translation: what each function of this text returns, where its plain form returns. Lean checks it. -/
import Derived.Test.YtcgeioingikeeaaP0
import Derived.Test.YtcgeioingikeeaaS
namespace Go.Proofs.Ytcgeioingikeeaa.P
open Go.RowKit Go.Proofs.YtcgeioingikeeaaW.PrintWords Go.Proofs.YtcgeioingikeeaaW.PrintLast Go.Proofs.YtcgeioingikeeaaW.PrintMore
attribute [local go_sem] max2_int min2_int max_two min_two max_three min_three max_four min_four   -- for this text's walks alone
attribute [local go_sem] str_geq str_gtr str_leq
set_option linter.unusedVariables false
set_option linter.unusedSimpArgs false

/-! ### gambrelref17_May: function 31 -/
def gambrelref17_May.l0 : Nat → List (S38) → Int → Option (Bool)
  | 0, _, _ => none
  | k + 1, x0, x3 => if x3 < (x0.length : Int) then (if 0 ≤ x3 then (if (((rd_T38 x0 x3).f0).size : Int) < 1 then (some false) else (if (((rd_T38 x0 x3).f0).size : Int) > 40 then (some false) else (if (((rd_T38 x0 x3).f1).length : Int) > 65536 then (some false) else (if x3 > 0 then (if 0 ≤ (wrap64 (x3 - 1)) then (if (wrap64 (x3 - 1)) < (x0.length : Int) then (if ((Op.bytesLess (((rd_T38 x0 (wrap64 (x3 - 1))).f0).toList) (((rd_T38 x0 x3).f0).toList)) = true) then (gambrelref17_May.l0 k x0 (wrap64 (x3 + 1))) else (some false)) else (none)) else (none)) else (gambrelref17_May.l0 k x0 (wrap64 (x3 + 1))))))) else (none)) else (some true)
def gambrelref17_May.f (k : Nat) (l0 : List (S38)) : Option (Bool) := gambrelref17_May.l0 k l0 0
theorem gambrelref17_May.mono_l : ∀ k, (∀ y0 y1, LeO (gambrelref17_May.l0 k y0 y1) (gambrelref17_May.l0 (k + 1) y0 y1))
  | 0 => fun _ _ r h => by simp [gambrelref17_May.l0] at h
  | k + 1 => by
    have ih0 := gambrelref17_May.mono_l k
    · intro y0 y1
      unfold gambrelref17_May.l0
      repeat' first
      | (with_reducible exact ih0 _ _)
      | (with_reducible exact LeO.refl _)
      | (with_reducible exact LeO.none _)
      | (with_reducible refine LeO.ite ?_ ?_)
      | (with_reducible refine LeO.bind ?_ (fun _ => ?_))
      | exact ih0 _ _
      | exact LeO.none _
      | refine LeO.ite ?_ ?_
      | refine LeO.bind ?_ (fun _ => ?_)
theorem gambrelref17_May.mono : ∀ a0 k, LeO (gambrelref17_May.f k a0) (gambrelref17_May.f (k + 1) a0) := by
  intro a0 k
  have ih0 := gambrelref17_May.mono_l k
  unfold gambrelref17_May.f
  repeat' first
      | (with_reducible exact ih0 _ _)
      | (with_reducible exact LeO.refl _)
      | (with_reducible exact LeO.none _)
      | (with_reducible refine LeO.ite ?_ ?_)
      | (with_reducible refine LeO.bind ?_ (fun _ => ?_))
      | exact ih0 _ _
      | exact LeO.none _
      | refine LeO.ite ?_ ?_
      | refine LeO.bind ?_ (fun _ => ?_)
set_option maxHeartbeats 8000000 in
set_option maxRecDepth 100000 in
theorem gambrelref17_May.calls (k : Nat) (A0 : Option Addr) (c0 : Nat) (l0 : List (S38)) (r : Bool) (w : World) (hr0 : Kd.C k38 w A0 l0.length l0) (hc0 : l0.length ≤ c0) (h : gambrelref17_May.f k l0 = some r) :
    Calls Try.prog 31 #[.slice A0 l0.length c0] w fun e w' => e = .returned (.bool r) ∧ Drawn0 w w' := by
  have HR0 := Aside0.mk hr0
  have HC0 := Aside0.mk hc0
  clear hr0 hc0
  have H : (gambrelref17_May.l0 k l0 0) = some r := h
  clear h
  have H' := Aside0.mk H
  clear H
  go_enter Try.func31, Try.ntmps31
  go_wp2
  repeat (go_quiet (fail); try go_wp2)
  go_loopg [3] k (fun kq v3 w' => ∃ (x3_1 : Int), v3 = .int .i64 x3_1 ∧ Aside0 (gambrelref17_May.l0 kq l0 x3_1 = some r) ∧ Aside0 (kq ≤ k) ∧ Drawn0 w w')
  case atStart => exact ⟨(0), (by first | rfl | (simp; done) | (simp [*]; done)), H', ⟨Nat.le_refl _⟩, by repeat (first | exact Drawn0.refl _ | apply Drawn0.step)⟩
  case round =>
    clear H'
    obtain ⟨x3_1, rfl, HA, HK1, ⟨m1, rfl⟩⟩ := hrel
    cases gk with
    | zero => exact absurd HA.out (by simp [gambrelref17_May.l0])
    | succ k1 =>
      have H := HA.out
      clear HA
      simp only [gambrelref17_May.l0] at H
      by_cases c2 : x3_1 < (l0.length : Int)
      · rw [if_pos c2] at H
        have c2b0 : decide (x3_1 < (l0.length : Int)) = true := decide_eq_true c2
        clear c2
        by_cases c3 : 0 ≤ x3_1
        · rw [if_pos c3] at H
          have c3b0 : decide (0 ≤ x3_1) = true := decide_eq_true c3
          clear c3
          by_cases c4 : (((rd_T38 l0 x3_1).f0).size : Int) < 1
          · rw [if_pos c4] at H
            have c4b0 : decide ((((rd_T38 l0 x3_1).f0).size : Int) < 1) = true := decide_eq_true c4
            have c4b1 : decide (((rd_T38 l0 x3_1).f0).size < 1) = true := decide_eq_true (by omega)
            clear c4
            obtain rfl := Option.some.inj H
            have p275 : 0 ≤ (x3_1 : Int) := of_decide_eq_true (by first | (with_reducible assumption) | assumption)
            have q275 : x3_1 < (l0.length : Int) := of_decide_eq_true (by first | (with_reducible assumption) | assumption)
            obtain ⟨ad275, A275_1, c275_1, e275, hx275_0, hx275_1, hl275_1, hi275_1⟩ := at_T38 HR0.out x3_1 p275 q275
            cases e275
            have HR275_1 := Aside0.mk hi275_1
            have HC275_1 := Aside0.mk hl275_1
            clear hi275_1 hl275_1
            replace p275 := eq_true p275
            replace q275 := eq_true q275
            go_wp2
            repeat (go_quiet (fail); try go_wp2)
            go_ret
            exact ⟨by first | rfl | (simp; done) | (simp [*]; done), by repeat (first | exact Drawn0.refl _ | apply Drawn0.step)⟩
          · rw [if_neg c4] at H
            have c4b0 : decide ((((rd_T38 l0 x3_1).f0).size : Int) < 1) = false := decide_eq_false c4
            have c4b1 : decide (((rd_T38 l0 x3_1).f0).size < 1) = false := decide_eq_false (by omega)
            clear c4
            by_cases c5 : (((rd_T38 l0 x3_1).f0).size : Int) > 40
            · rw [if_pos c5] at H
              have c5b0 : decide (40 < (((rd_T38 l0 x3_1).f0).size : Int)) = true := decide_eq_true c5
              have c5b1 : decide (40 < ((rd_T38 l0 x3_1).f0).size) = true := decide_eq_true (by omega)
              clear c5
              obtain rfl := Option.some.inj H
              have p275 : 0 ≤ (x3_1 : Int) := of_decide_eq_true (by first | (with_reducible assumption) | assumption)
              have q275 : x3_1 < (l0.length : Int) := of_decide_eq_true (by first | (with_reducible assumption) | assumption)
              obtain ⟨ad275, A275_1, c275_1, e275, hx275_0, hx275_1, hl275_1, hi275_1⟩ := at_T38 HR0.out x3_1 p275 q275
              cases e275
              have HR275_1 := Aside0.mk hi275_1
              have HC275_1 := Aside0.mk hl275_1
              clear hi275_1 hl275_1
              replace p275 := eq_true p275
              replace q275 := eq_true q275
              have p276 : 0 ≤ (x3_1 : Int) := of_decide_eq_true (by first | (with_reducible assumption) | assumption)
              have q276 : x3_1 < (l0.length : Int) := of_decide_eq_true (by first | (with_reducible assumption) | assumption)
              obtain ⟨ad276, A276_1, c276_1, e276, hx276_0, hx276_1, hl276_1, hi276_1⟩ := at_T38 HR0.out x3_1 p276 q276
              obtain rfl : ad275 = ad276 := (by injection e276)
              have HR276_1 := Aside0.mk hi276_1
              have HC276_1 := Aside0.mk hl276_1
              clear hi276_1 hl276_1
              replace p276 := eq_true p276
              replace q276 := eq_true q276
              have ea_ := Option.some.inj (hx275_1.symm.trans hx276_1)
              injection ea_ with ea_ en_ ec_
              subst ea_
              subst ec_
              clear en_
              go_wp2
              repeat (go_quiet (fail); try go_wp2)
              go_ret
              exact ⟨by first | rfl | (simp; done) | (simp [*]; done), by repeat (first | exact Drawn0.refl _ | apply Drawn0.step)⟩
            · rw [if_neg c5] at H
              have c5b0 : decide (40 < (((rd_T38 l0 x3_1).f0).size : Int)) = false := decide_eq_false c5
              have c5b1 : decide (40 < ((rd_T38 l0 x3_1).f0).size) = false := decide_eq_false (by omega)
              clear c5
              by_cases c6 : (((rd_T38 l0 x3_1).f1).length : Int) > 65536
              · rw [if_pos c6] at H
                have c6b0 : decide (65536 < (((rd_T38 l0 x3_1).f1).length : Int)) = true := decide_eq_true c6
                have c6b1 : decide (65536 < ((rd_T38 l0 x3_1).f1).length) = true := decide_eq_true (by omega)
                clear c6
                obtain rfl := Option.some.inj H
                have p275 : 0 ≤ (x3_1 : Int) := of_decide_eq_true (by first | (with_reducible assumption) | assumption)
                have q275 : x3_1 < (l0.length : Int) := of_decide_eq_true (by first | (with_reducible assumption) | assumption)
                obtain ⟨ad275, A275_1, c275_1, e275, hx275_0, hx275_1, hl275_1, hi275_1⟩ := at_T38 HR0.out x3_1 p275 q275
                cases e275
                have HR275_1 := Aside0.mk hi275_1
                have HC275_1 := Aside0.mk hl275_1
                clear hi275_1 hl275_1
                replace p275 := eq_true p275
                replace q275 := eq_true q275
                have p276 : 0 ≤ (x3_1 : Int) := of_decide_eq_true (by first | (with_reducible assumption) | assumption)
                have q276 : x3_1 < (l0.length : Int) := of_decide_eq_true (by first | (with_reducible assumption) | assumption)
                obtain ⟨ad276, A276_1, c276_1, e276, hx276_0, hx276_1, hl276_1, hi276_1⟩ := at_T38 HR0.out x3_1 p276 q276
                obtain rfl : ad275 = ad276 := (by injection e276)
                have HR276_1 := Aside0.mk hi276_1
                have HC276_1 := Aside0.mk hl276_1
                clear hi276_1 hl276_1
                replace p276 := eq_true p276
                replace q276 := eq_true q276
                have ea_ := Option.some.inj (hx275_1.symm.trans hx276_1)
                injection ea_ with ea_ en_ ec_
                subst ea_
                subst ec_
                clear en_
                have p277 : 0 ≤ (x3_1 : Int) := of_decide_eq_true (by first | (with_reducible assumption) | assumption)
                have q277 : x3_1 < (l0.length : Int) := of_decide_eq_true (by first | (with_reducible assumption) | assumption)
                obtain ⟨ad277, A277_1, c277_1, e277, hx277_0, hx277_1, hl277_1, hi277_1⟩ := at_T38 HR0.out x3_1 p277 q277
                obtain rfl : ad275 = ad277 := (by injection e277)
                have HR277_1 := Aside0.mk hi277_1
                have HC277_1 := Aside0.mk hl277_1
                clear hi277_1 hl277_1
                replace p277 := eq_true p277
                replace q277 := eq_true q277
                have ea_ := Option.some.inj (hx275_1.symm.trans hx277_1)
                injection ea_ with ea_ en_ ec_
                subst ea_
                subst ec_
                clear en_
                go_wp2
                repeat (go_quiet (fail); try go_wp2)
                go_ret
                exact ⟨by first | rfl | (simp; done) | (simp [*]; done), by repeat (first | exact Drawn0.refl _ | apply Drawn0.step)⟩
              · rw [if_neg c6] at H
                have c6b0 : decide (65536 < (((rd_T38 l0 x3_1).f1).length : Int)) = false := decide_eq_false c6
                have c6b1 : decide (65536 < ((rd_T38 l0 x3_1).f1).length) = false := decide_eq_false (by omega)
                clear c6
                by_cases c7 : x3_1 > 0
                · rw [if_pos c7] at H
                  have c7b0 : decide (0 < x3_1) = true := decide_eq_true c7
                  clear c7
                  obtain ⟨ji8, hji8⟩ : ∃ j_ : Int, (wrap64 (x3_1 - 1)) = j_ := ⟨_, rfl⟩
                  replace H : (if 0 ≤ (ji8) then (if (ji8) < (l0.length : Int) then (if ((Op.bytesLess (((rd_T38 l0 (ji8)).f0).toList) (((rd_T38 l0 x3_1).f0).toList)) = true) then (gambrelref17_May.l0 k1 l0 (wrap64 (x3_1 + 1))) else (some false)) else (none)) else (none)) = some r := by first | (rw [hji8] at H; exact H) | (simp only [hji8] at H ⊢; exact H)
                  have hji8w : (IntKind.i64.wrap (x3_1 - 1)) = ji8 := (i64_w _).trans hji8
                  by_cases c9 : 0 ≤ (ji8)
                  · rw [if_pos c9] at H
                    have c9b0 : decide (0 ≤ (ji8)) = true := decide_eq_true c9
                    clear c9
                    by_cases c10 : (ji8) < (l0.length : Int)
                    · rw [if_pos c10] at H
                      have c10b0 : decide ((ji8) < (l0.length : Int)) = true := decide_eq_true c10
                      clear c10
                      by_cases c11 : ((Op.bytesLess (((rd_T38 l0 (ji8)).f0).toList) (((rd_T38 l0 x3_1).f0).toList)) = true)
                      · rw [if_pos c11] at H
                        have c11b0 : (Op.bytesLess (((rd_T38 l0 (ji8)).f0).toList) (((rd_T38 l0 x3_1).f0).toList)) = true := c11
                        clear c11
                        have H' := Aside0.mk H
                        clear H
                        have p275 : 0 ≤ (x3_1 : Int) := of_decide_eq_true (by first | (with_reducible assumption) | assumption)
                        have q275 : x3_1 < (l0.length : Int) := of_decide_eq_true (by first | (with_reducible assumption) | assumption)
                        obtain ⟨ad275, A275_1, c275_1, e275, hx275_0, hx275_1, hl275_1, hi275_1⟩ := at_T38 HR0.out x3_1 p275 q275
                        cases e275
                        have HR275_1 := Aside0.mk hi275_1
                        have HC275_1 := Aside0.mk hl275_1
                        clear hi275_1 hl275_1
                        replace p275 := eq_true p275
                        replace q275 := eq_true q275
                        have p276 : 0 ≤ (x3_1 : Int) := of_decide_eq_true (by first | (with_reducible assumption) | assumption)
                        have q276 : x3_1 < (l0.length : Int) := of_decide_eq_true (by first | (with_reducible assumption) | assumption)
                        obtain ⟨ad276, A276_1, c276_1, e276, hx276_0, hx276_1, hl276_1, hi276_1⟩ := at_T38 HR0.out x3_1 p276 q276
                        obtain rfl : ad275 = ad276 := (by injection e276)
                        have HR276_1 := Aside0.mk hi276_1
                        have HC276_1 := Aside0.mk hl276_1
                        clear hi276_1 hl276_1
                        replace p276 := eq_true p276
                        replace q276 := eq_true q276
                        have ea_ := Option.some.inj (hx275_1.symm.trans hx276_1)
                        injection ea_ with ea_ en_ ec_
                        subst ea_
                        subst ec_
                        clear en_
                        have p277 : 0 ≤ (x3_1 : Int) := of_decide_eq_true (by first | (with_reducible assumption) | assumption)
                        have q277 : x3_1 < (l0.length : Int) := of_decide_eq_true (by first | (with_reducible assumption) | assumption)
                        obtain ⟨ad277, A277_1, c277_1, e277, hx277_0, hx277_1, hl277_1, hi277_1⟩ := at_T38 HR0.out x3_1 p277 q277
                        obtain rfl : ad275 = ad277 := (by injection e277)
                        have HR277_1 := Aside0.mk hi277_1
                        have HC277_1 := Aside0.mk hl277_1
                        clear hi277_1 hl277_1
                        replace p277 := eq_true p277
                        replace q277 := eq_true q277
                        have ea_ := Option.some.inj (hx275_1.symm.trans hx277_1)
                        injection ea_ with ea_ en_ ec_
                        subst ea_
                        subst ec_
                        clear en_
                        have p278 : 0 ≤ ((ji8) : Int) := of_decide_eq_true (by first | (with_reducible assumption) | assumption)
                        have q278 : (ji8) < (l0.length : Int) := of_decide_eq_true (by first | (with_reducible assumption) | assumption)
                        obtain ⟨ad278, A278_1, c278_1, e278, hx278_0, hx278_1, hl278_1, hi278_1⟩ := at_T38 HR0.out (ji8) p278 q278
                        obtain rfl : ad275 = ad278 := (by injection e278)
                        have HR278_1 := Aside0.mk hi278_1
                        have HC278_1 := Aside0.mk hl278_1
                        clear hi278_1 hl278_1
                        replace p278 := eq_true p278
                        replace q278 := eq_true q278
                        have p279 : 0 ≤ (x3_1 : Int) := of_decide_eq_true (by first | (with_reducible assumption) | assumption)
                        have q279 : x3_1 < (l0.length : Int) := of_decide_eq_true (by first | (with_reducible assumption) | assumption)
                        obtain ⟨ad279, A279_1, c279_1, e279, hx279_0, hx279_1, hl279_1, hi279_1⟩ := at_T38 HR0.out x3_1 p279 q279
                        obtain rfl : ad275 = ad279 := (by injection e279)
                        have HR279_1 := Aside0.mk hi279_1
                        have HC279_1 := Aside0.mk hl279_1
                        clear hi279_1 hl279_1
                        replace p279 := eq_true p279
                        replace q279 := eq_true q279
                        have ea_ := Option.some.inj (hx275_1.symm.trans hx279_1)
                        injection ea_ with ea_ en_ ec_
                        subst ea_
                        subst ec_
                        clear en_
                        go_wp2
                        repeat (go_quiet (fail); try go_wp2)
                        go_roundg k1
                        case measure => have := HK1.out; omega
                        case rel => exact ⟨(wrap64 (x3_1 + 1)), (by first | rfl | (simp; done) | (simp [*]; done)), H', ⟨by have := HK1.out; omega⟩, by repeat (first | exact Drawn0.refl _ | apply Drawn0.step)⟩
                      · rw [if_neg c11] at H
                        have c11b0 : (Op.bytesLess (((rd_T38 l0 (ji8)).f0).toList) (((rd_T38 l0 x3_1).f0).toList)) = false := by simpa using c11
                        clear c11
                        obtain rfl := Option.some.inj H
                        have p275 : 0 ≤ (x3_1 : Int) := of_decide_eq_true (by first | (with_reducible assumption) | assumption)
                        have q275 : x3_1 < (l0.length : Int) := of_decide_eq_true (by first | (with_reducible assumption) | assumption)
                        obtain ⟨ad275, A275_1, c275_1, e275, hx275_0, hx275_1, hl275_1, hi275_1⟩ := at_T38 HR0.out x3_1 p275 q275
                        cases e275
                        have HR275_1 := Aside0.mk hi275_1
                        have HC275_1 := Aside0.mk hl275_1
                        clear hi275_1 hl275_1
                        replace p275 := eq_true p275
                        replace q275 := eq_true q275
                        have p276 : 0 ≤ (x3_1 : Int) := of_decide_eq_true (by first | (with_reducible assumption) | assumption)
                        have q276 : x3_1 < (l0.length : Int) := of_decide_eq_true (by first | (with_reducible assumption) | assumption)
                        obtain ⟨ad276, A276_1, c276_1, e276, hx276_0, hx276_1, hl276_1, hi276_1⟩ := at_T38 HR0.out x3_1 p276 q276
                        obtain rfl : ad275 = ad276 := (by injection e276)
                        have HR276_1 := Aside0.mk hi276_1
                        have HC276_1 := Aside0.mk hl276_1
                        clear hi276_1 hl276_1
                        replace p276 := eq_true p276
                        replace q276 := eq_true q276
                        have ea_ := Option.some.inj (hx275_1.symm.trans hx276_1)
                        injection ea_ with ea_ en_ ec_
                        subst ea_
                        subst ec_
                        clear en_
                        have p277 : 0 ≤ (x3_1 : Int) := of_decide_eq_true (by first | (with_reducible assumption) | assumption)
                        have q277 : x3_1 < (l0.length : Int) := of_decide_eq_true (by first | (with_reducible assumption) | assumption)
                        obtain ⟨ad277, A277_1, c277_1, e277, hx277_0, hx277_1, hl277_1, hi277_1⟩ := at_T38 HR0.out x3_1 p277 q277
                        obtain rfl : ad275 = ad277 := (by injection e277)
                        have HR277_1 := Aside0.mk hi277_1
                        have HC277_1 := Aside0.mk hl277_1
                        clear hi277_1 hl277_1
                        replace p277 := eq_true p277
                        replace q277 := eq_true q277
                        have ea_ := Option.some.inj (hx275_1.symm.trans hx277_1)
                        injection ea_ with ea_ en_ ec_
                        subst ea_
                        subst ec_
                        clear en_
                        have p278 : 0 ≤ ((ji8) : Int) := of_decide_eq_true (by first | (with_reducible assumption) | assumption)
                        have q278 : (ji8) < (l0.length : Int) := of_decide_eq_true (by first | (with_reducible assumption) | assumption)
                        obtain ⟨ad278, A278_1, c278_1, e278, hx278_0, hx278_1, hl278_1, hi278_1⟩ := at_T38 HR0.out (ji8) p278 q278
                        obtain rfl : ad275 = ad278 := (by injection e278)
                        have HR278_1 := Aside0.mk hi278_1
                        have HC278_1 := Aside0.mk hl278_1
                        clear hi278_1 hl278_1
                        replace p278 := eq_true p278
                        replace q278 := eq_true q278
                        have p279 : 0 ≤ (x3_1 : Int) := of_decide_eq_true (by first | (with_reducible assumption) | assumption)
                        have q279 : x3_1 < (l0.length : Int) := of_decide_eq_true (by first | (with_reducible assumption) | assumption)
                        obtain ⟨ad279, A279_1, c279_1, e279, hx279_0, hx279_1, hl279_1, hi279_1⟩ := at_T38 HR0.out x3_1 p279 q279
                        obtain rfl : ad275 = ad279 := (by injection e279)
                        have HR279_1 := Aside0.mk hi279_1
                        have HC279_1 := Aside0.mk hl279_1
                        clear hi279_1 hl279_1
                        replace p279 := eq_true p279
                        replace q279 := eq_true q279
                        have ea_ := Option.some.inj (hx275_1.symm.trans hx279_1)
                        injection ea_ with ea_ en_ ec_
                        subst ea_
                        subst ec_
                        clear en_
                        go_wp2
                        repeat (go_quiet (fail); try go_wp2)
                        go_ret
                        exact ⟨by first | rfl | (simp; done) | (simp only [← hji8] <;> (first | rfl | simp)) | (simp [*]; done), by repeat (first | exact Drawn0.refl _ | apply Drawn0.step)⟩
                    · rw [if_neg c10] at H
                      exact absurd H (by simp)
                  · rw [if_neg c9] at H
                    exact absurd H (by simp)
                · rw [if_neg c7] at H
                  have c7b0 : decide (0 < x3_1) = false := decide_eq_false c7
                  clear c7
                  have H' := Aside0.mk H
                  clear H
                  have p275 : 0 ≤ (x3_1 : Int) := of_decide_eq_true (by first | (with_reducible assumption) | assumption)
                  have q275 : x3_1 < (l0.length : Int) := of_decide_eq_true (by first | (with_reducible assumption) | assumption)
                  obtain ⟨ad275, A275_1, c275_1, e275, hx275_0, hx275_1, hl275_1, hi275_1⟩ := at_T38 HR0.out x3_1 p275 q275
                  cases e275
                  have HR275_1 := Aside0.mk hi275_1
                  have HC275_1 := Aside0.mk hl275_1
                  clear hi275_1 hl275_1
                  replace p275 := eq_true p275
                  replace q275 := eq_true q275
                  have p276 : 0 ≤ (x3_1 : Int) := of_decide_eq_true (by first | (with_reducible assumption) | assumption)
                  have q276 : x3_1 < (l0.length : Int) := of_decide_eq_true (by first | (with_reducible assumption) | assumption)
                  obtain ⟨ad276, A276_1, c276_1, e276, hx276_0, hx276_1, hl276_1, hi276_1⟩ := at_T38 HR0.out x3_1 p276 q276
                  obtain rfl : ad275 = ad276 := (by injection e276)
                  have HR276_1 := Aside0.mk hi276_1
                  have HC276_1 := Aside0.mk hl276_1
                  clear hi276_1 hl276_1
                  replace p276 := eq_true p276
                  replace q276 := eq_true q276
                  have ea_ := Option.some.inj (hx275_1.symm.trans hx276_1)
                  injection ea_ with ea_ en_ ec_
                  subst ea_
                  subst ec_
                  clear en_
                  have p277 : 0 ≤ (x3_1 : Int) := of_decide_eq_true (by first | (with_reducible assumption) | assumption)
                  have q277 : x3_1 < (l0.length : Int) := of_decide_eq_true (by first | (with_reducible assumption) | assumption)
                  obtain ⟨ad277, A277_1, c277_1, e277, hx277_0, hx277_1, hl277_1, hi277_1⟩ := at_T38 HR0.out x3_1 p277 q277
                  obtain rfl : ad275 = ad277 := (by injection e277)
                  have HR277_1 := Aside0.mk hi277_1
                  have HC277_1 := Aside0.mk hl277_1
                  clear hi277_1 hl277_1
                  replace p277 := eq_true p277
                  replace q277 := eq_true q277
                  have ea_ := Option.some.inj (hx275_1.symm.trans hx277_1)
                  injection ea_ with ea_ en_ ec_
                  subst ea_
                  subst ec_
                  clear en_
                  go_wp2
                  repeat (go_quiet (fail); try go_wp2)
                  go_roundg k1
                  case measure => have := HK1.out; omega
                  case rel => exact ⟨(wrap64 (x3_1 + 1)), (by first | rfl | (simp; done) | (simp [*]; done)), H', ⟨by have := HK1.out; omega⟩, by repeat (first | exact Drawn0.refl _ | apply Drawn0.step)⟩
        · rw [if_neg c3] at H
          exact absurd H (by simp)
      · rw [if_neg c2] at H
        have c2b0 : decide (x3_1 < (l0.length : Int)) = false := decide_eq_false c2
        clear c2
        obtain rfl := Option.some.inj H
        go_wp2
        repeat (go_quiet (fail); try go_wp2)
        go_ret
        exact ⟨by first | rfl | (simp; done) | (simp [*]; done), by repeat (first | exact Drawn0.refl _ | apply Drawn0.step)⟩

end Go.Proofs.Ytcgeioingikeeaa.P
