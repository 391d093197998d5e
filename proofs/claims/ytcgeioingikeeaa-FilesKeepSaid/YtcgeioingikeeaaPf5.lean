/- Written by a program of this seat (wip/tools/stage.py) out of the translation: what each function of this text returns, where its plain form returns. Lean checks it. -/
import Derived.Test.YtcgeioingikeeaaP0
import Derived.Test.YtcgeioingikeeaaPf16
import Derived.Test.YtcgeioingikeeaaPf27
import Derived.Test.YtcgeioingikeeaaH1
import Derived.Test.YtcgeioingikeeaaH3
import Derived.Test.YtcgeioingikeeaaH5
import Derived.Test.YtcgeioingikeeaaS
namespace Go.Proofs.Ytcgeioingikeeaa.P
open Go.RowKit Go.Proofs.YtcgeioingikeeaaW.PrintWords Go.Proofs.YtcgeioingikeeaaW.PrintLast Go.Proofs.YtcgeioingikeeaaW.PrintMore
attribute [local go_sem] max2_int min2_int max_two min_two max_three min_three max_four min_four   -- for this text's walks alone
attribute [local go_sem] str_geq str_gtr str_leq
set_option linter.unusedVariables false
set_option linter.unusedSimpArgs false

/-! ### gambrellaw17_FilesKeep: function 5 -/
def gambrellaw17_FilesKeep.j0 : Nat → List (S38) → List Int → List Int → Bool → Bool → Option (Bool)
  | 0, _, _, _, _, _ => none
  | k + 1, x0, x1, x2, x7, x49 => if x49 = true then (some x7) else ((some (([] : List Int) : List Int)).bind fun y240 => (if y240.length + x1.length < 140737488355328 then ((some (y240 ++ x1 : List Int)).bind fun y243 => (if y243.length + x2.length < 140737488355328 then ((some (y243 ++ x2 : List Int)).bind fun y246 => ((files_Do.f x0 (⟨#[113]⟩ : ByteArray) 2 0 x1 (x1.length : Int)).bind fun bt249 => ((files_Do.f bt249.1 (⟨#[113]⟩ : ByteArray) 2 0 x2 (-1)).bind fun bt253 => ((files_Do.f x0 (⟨#[113]⟩ : ByteArray) 2 0 y246 (-1)).bind fun bt257 => ((files_Do.f x0 (⟨#[113]⟩ : ByteArray) 1 0 y246 0).bind fun bt261 => ((files_Do.f x0 (⟨#[113]⟩ : ByteArray) 1 0 y246 (x1.length : Int)).bind fun bt265 => ((files_Get.f bt265.1 (⟨#[113]⟩ : ByteArray)).bind fun bt269 => (if x7 = true then (if (wrap64 ((wrap64 ((wrap64 ((wrap64 (bt249.2 + bt253.2)) + bt257.2)) + bt261.2)) + bt265.2)) = 0 then ((files_Same.f bt253.1 bt257.1).bind fun t273 => (if t273 = true then ((files_Same.f bt261.1 x0).bind fun t274 => (if t274 = true then (some ((strOfNums bt269.1).toList == (strOfNums x1).toList)) else (none))) else (none))) else (none)) else (none))))))))) else (none))) else (none)))
def gambrellaw17_FilesKeep.f (k : Nat) (l0 : List (S38)) (l1 : List Int) (l2 : List Int) : Option (Bool) := (gambrellaw17_awake.f).bind fun t237 => ((gambrelref17_Few.f k l0).bind fun t238 => (if t238 = true then ((files_May.f k l0).bind fun t239 => (if t239 = true then (if (l1.length : Int) > 500 then (gambrellaw17_FilesKeep.j0 k l0 l1 l2 t237 true) else (if (l2.length : Int) > 500 then (gambrellaw17_FilesKeep.j0 k l0 l1 l2 t237 true) else (if (l1.length : Int) = 0 then (gambrellaw17_FilesKeep.j0 k l0 l1 l2 t237 true) else (gambrellaw17_FilesKeep.j0 k l0 l1 l2 t237 ((l2.length : Int) == 0))))) else (gambrellaw17_FilesKeep.j0 k l0 l1 l2 t237 true))) else (gambrellaw17_FilesKeep.j0 k l0 l1 l2 t237 true)))
theorem gambrellaw17_FilesKeep.mono_l : ∀ k, (∀ y0 y1 y2 y3 y4, LeO (gambrellaw17_FilesKeep.j0 k y0 y1 y2 y3 y4) (gambrellaw17_FilesKeep.j0 (k + 1) y0 y1 y2 y3 y4))
  | 0 => fun _ _ _ _ _ r h => by simp [gambrellaw17_FilesKeep.j0] at h
  | k + 1 => by
    have ih0 := gambrellaw17_FilesKeep.mono_l k
    · intro y0 y1 y2 y3 y4
      unfold gambrellaw17_FilesKeep.j0
      repeat' first
      | (with_reducible exact ih0 _ _ _ _ _)
      | (with_reducible exact files_May.mono _ _)
      | (with_reducible exact gambrelref17_Few.mono _ _)
      | (with_reducible exact LeO.refl _)
      | (with_reducible exact LeO.none _)
      | (with_reducible refine LeO.ite ?_ ?_)
      | (with_reducible refine LeO.bind ?_ (fun _ => ?_))
      | exact ih0 _ _ _ _ _
      | exact files_May.mono _ _
      | exact gambrelref17_Few.mono _ _
      | exact LeO.none _
      | refine LeO.ite ?_ ?_
      | refine LeO.bind ?_ (fun _ => ?_)
theorem gambrellaw17_FilesKeep.mono : ∀ a0 a1 a2 k, LeO (gambrellaw17_FilesKeep.f k a0 a1 a2) (gambrellaw17_FilesKeep.f (k + 1) a0 a1 a2) := by
  intro a0 a1 a2 k
  have ih0 := gambrellaw17_FilesKeep.mono_l k
  unfold gambrellaw17_FilesKeep.f
  repeat' first
      | (with_reducible exact ih0 _ _ _ _ _)
      | (with_reducible exact files_May.mono _ _)
      | (with_reducible exact gambrelref17_Few.mono _ _)
      | (with_reducible exact LeO.refl _)
      | (with_reducible exact LeO.none _)
      | (with_reducible refine LeO.ite ?_ ?_)
      | (with_reducible refine LeO.bind ?_ (fun _ => ?_))
      | exact ih0 _ _ _ _ _
      | exact files_May.mono _ _
      | exact gambrelref17_Few.mono _ _
      | exact LeO.none _
      | refine LeO.ite ?_ ?_
      | refine LeO.bind ?_ (fun _ => ?_)
set_option maxHeartbeats 8000000 in
set_option maxRecDepth 100000 in
theorem gambrellaw17_FilesKeep.calls (k : Nat) (A0 : Option Addr) (c0 : Nat) (l0 : List (S38)) (A1 : Option Addr) (c1 : Nat) (l1 : List Int) (A2 : Option Addr) (c2 : Nat) (l2 : List Int) (r : Bool) (w : World) (hr0 : Kd.C k38 w A0 l0.length l0) (hc0 : l0.length ≤ c0) (hr1 : Kd.C (Kd.int .u8) w A1 l1.length l1) (hc1 : l1.length ≤ c1) (hr2 : Kd.C (Kd.int .u8) w A2 l2.length l2) (hc2 : l2.length ≤ c2) (h : gambrellaw17_FilesKeep.f k l0 l1 l2 = some r) :
    Calls Try.prog 5 #[.slice A0 l0.length c0, .slice A1 l1.length c1, .slice A2 l2.length c2] w fun e w' => e = .returned (.bool r) ∧ Below w.heap.size w w' := by
  have hu31 := Try.underlying31
  have HR0 := Aside0.mk hr0
  have HC0 := Aside0.mk hc0
  clear hr0 hc0
  have HR1 := Aside0.mk hr1
  have HC1 := Aside0.mk hc1
  clear hr1 hc1
  have HR2 := Aside0.mk hr2
  have HC2 := Aside0.mk hc2
  clear hr2 hc2
  have HB := Aside0.mk (Below.refl w.heap.size w)
  have H : ((gambrellaw17_awake.f).bind fun t237 => ((gambrelref17_Few.f k l0).bind fun t238 => (if t238 = true then ((files_May.f k l0).bind fun t239 => (if t239 = true then (if (l1.length : Int) > 500 then (gambrellaw17_FilesKeep.j0 k l0 l1 l2 t237 true) else (if (l2.length : Int) > 500 then (gambrellaw17_FilesKeep.j0 k l0 l1 l2 t237 true) else (if (l1.length : Int) = 0 then (gambrellaw17_FilesKeep.j0 k l0 l1 l2 t237 true) else (gambrellaw17_FilesKeep.j0 k l0 l1 l2 t237 ((l2.length : Int) == 0))))) else (gambrellaw17_FilesKeep.j0 k l0 l1 l2 t237 true))) else (gambrellaw17_FilesKeep.j0 k l0 l1 l2 t237 true)))) = some r := h
  clear h
  replace H := Option.bind_eq_some_iff.mp H
  obtain ⟨t237, A40, H⟩ := H
  replace H : ((gambrelref17_Few.f k l0).bind fun t238 => (if t238 = true then ((files_May.f k l0).bind fun t239 => (if t239 = true then (if (l1.length : Int) > 500 then (gambrellaw17_FilesKeep.j0 k l0 l1 l2 t237 true) else (if (l2.length : Int) > 500 then (gambrellaw17_FilesKeep.j0 k l0 l1 l2 t237 true) else (if (l1.length : Int) = 0 then (gambrellaw17_FilesKeep.j0 k l0 l1 l2 t237 true) else (gambrellaw17_FilesKeep.j0 k l0 l1 l2 t237 ((l2.length : Int) == 0))))) else (gambrellaw17_FilesKeep.j0 k l0 l1 l2 t237 true))) else (gambrellaw17_FilesKeep.j0 k l0 l1 l2 t237 true))) = some r := H
  have A4 := Aside0.mk A40
  clear A40
  have HC5 := Aside0.mk H
  clear H
  go_enter Try.func5, Try.ntmps5
  go_upto_region 2 with (first | ((with_reducible refine gate_callee (f := 15) rfl ?_); refine goesL_ (some 21) rfl rfl Try.func15 (by kernel_rfl) rfl #[] rfl (by (try simp only [List.map_toArray, List.map_cons, List.map_nil]); first | done | rfl | (simp only [List.length_drop, List.length_take]; rfl)) ?_; (with_reducible refine (gambrellaw17_awake.calls  t237 _ A4.out).mono ?_); rintro e w6 ⟨rfl, hb⟩; refine ⟨_, rfl, ?_⟩; have n0_ := Aside0.mk (below_step (by repeat (first | (with_reducible first | exact HB.out | apply below_alloc | apply pw_below_drewN | apply below_drew1) | exact HB.out)) hb); clear HB; have HB := n0_; clear n0_; (try clear hb); (try clear hb2); (try clear hk); (try clear hi)))
  (try simp only [Act.put, List.setIfInBounds_toArray, List.set_cons_zero, List.set_cons_succ])
  go_cut [49] (fun v49 wc => ∃ (kq : Nat) (x49_4 : Bool), v49 = .bool x49_4 ∧ Aside0 (gambrellaw17_FilesKeep.j0 kq l0 l1 l2 t237 x49_4 = some r) ∧ Aside0 (kq ≤ k) ∧ Aside0 (Below w.heap.size w wc))
  case first =>
    have H := HC5.out
    clear HC5
    replace H := Option.bind_eq_some_iff.mp H
    obtain ⟨t238, A70, H⟩ := H
    replace H : (if t238 = true then ((files_May.f k l0).bind fun t239 => (if t239 = true then (if (l1.length : Int) > 500 then (gambrellaw17_FilesKeep.j0 k l0 l1 l2 t237 true) else (if (l2.length : Int) > 500 then (gambrellaw17_FilesKeep.j0 k l0 l1 l2 t237 true) else (if (l1.length : Int) = 0 then (gambrellaw17_FilesKeep.j0 k l0 l1 l2 t237 true) else (gambrellaw17_FilesKeep.j0 k l0 l1 l2 t237 ((l2.length : Int) == 0))))) else (gambrellaw17_FilesKeep.j0 k l0 l1 l2 t237 true))) else (gambrellaw17_FilesKeep.j0 k l0 l1 l2 t237 true)) = some r := H
    have A7 := Aside0.mk A70
    clear A70
    by_cases c8 : t238 = true
    · subst c8
      have H1 : ((files_May.f k l0).bind fun t239 => (if t239 = true then (if (l1.length : Int) > 500 then (gambrellaw17_FilesKeep.j0 k l0 l1 l2 t237 true) else (if (l2.length : Int) > 500 then (gambrellaw17_FilesKeep.j0 k l0 l1 l2 t237 true) else (if (l1.length : Int) = 0 then (gambrellaw17_FilesKeep.j0 k l0 l1 l2 t237 true) else (gambrellaw17_FilesKeep.j0 k l0 l1 l2 t237 ((l2.length : Int) == 0))))) else (gambrellaw17_FilesKeep.j0 k l0 l1 l2 t237 true))) = some r := by rw [if_pos rfl] at H; exact H
      clear H
      have H := H1
      clear H1
      replace H := Option.bind_eq_some_iff.mp H
      obtain ⟨t239, A90, H⟩ := H
      replace H : (if t239 = true then (if (l1.length : Int) > 500 then (gambrellaw17_FilesKeep.j0 k l0 l1 l2 t237 true) else (if (l2.length : Int) > 500 then (gambrellaw17_FilesKeep.j0 k l0 l1 l2 t237 true) else (if (l1.length : Int) = 0 then (gambrellaw17_FilesKeep.j0 k l0 l1 l2 t237 true) else (gambrellaw17_FilesKeep.j0 k l0 l1 l2 t237 ((l2.length : Int) == 0))))) else (gambrellaw17_FilesKeep.j0 k l0 l1 l2 t237 true)) = some r := H
      have A9 := Aside0.mk A90
      clear A90
      by_cases c10 : t239 = true
      · subst c10
        have H1 : (if (l1.length : Int) > 500 then (gambrellaw17_FilesKeep.j0 k l0 l1 l2 t237 true) else (if (l2.length : Int) > 500 then (gambrellaw17_FilesKeep.j0 k l0 l1 l2 t237 true) else (if (l1.length : Int) = 0 then (gambrellaw17_FilesKeep.j0 k l0 l1 l2 t237 true) else (gambrellaw17_FilesKeep.j0 k l0 l1 l2 t237 ((l2.length : Int) == 0))))) = some r := by rw [if_pos rfl] at H; exact H
        clear H
        have H := H1
        clear H1
        by_cases c11 : (l1.length : Int) > 500
        · rw [if_pos c11] at H
          have c11b0 : decide (500 < (l1.length : Int)) = true := decide_eq_true c11
          have c11b1 : decide (500 < l1.length) = true := decide_eq_true (by omega)
          clear c11
          (first | rw [c11b0] | (simp only [i64_w, i32_w]; rw [c11b0]) | skip)
          have H' := Aside0.mk H
          clear H
          go_wp2_with (first | ((with_reducible refine gate_callee (f := 16) rfl ?_); refine goesL_ (some 23) rfl rfl Try.func16 (by kernel_rfl) rfl #[.slice A0 l0.length c0] rfl (by (try simp only [List.map_toArray, List.map_cons, List.map_nil]); first | done | rfl | (simp only [List.length_drop, List.length_take]; rfl)) ?_; (with_reducible refine (gambrelref17_Few.calls k _ _ l0 true _ ?side1 ?side2 A7.out).mono ?_); (case side1 => repeat (first | exact (Kd.C_below HR0.out HB.out) | (with_reducible refine Kd.C_alloc ?_ _) | (with_reducible refine Kd.C_drewN ?_ _) | (with_reducible refine Kd.C_drew ?_))); (case side2 => exact HC0.out); rintro e w' ⟨rfl, ⟨nd, rfl⟩⟩; refine ⟨_, rfl, ?_⟩) | (go_at_call 27; (with_reducible refine (files_May.calls k _ _ l0 true _ ?side1 ?side2 A9.out).mono ?_); (case side1 => repeat (first | exact (Kd.C_below HR0.out (by repeat (first | (with_reducible first | exact HB.out | apply below_alloc | apply pw_below_drewN | apply below_drew1) | exact HB.out))) | (with_reducible refine Kd.C_alloc ?_ _) | (with_reducible refine Kd.C_drewN ?_ _) | (with_reducible refine Kd.C_drew ?_))); (case side2 => exact HC0.out); rintro e w12 ⟨rfl, hb⟩; have n0_ := Aside0.mk (below_step (by repeat (first | (with_reducible first | exact HB.out | apply below_alloc | apply pw_below_drewN | apply below_drew1) | exact HB.out)) hb); clear HB; have HB := n0_; clear n0_; (try clear hb); (try clear hb2); (try clear hk); (try clear hi)))
          go_meet
          case rel => exact ⟨_, (true), (by first | rfl | (simp; done) | (simp [*]; done)), H', ⟨by first | omega | exact Nat.le_refl _⟩, ⟨by repeat (first | (with_reducible first | exact HB.out | apply below_alloc | apply pw_below_drewN | apply below_drew1) | exact HB.out)⟩⟩
        · rw [if_neg c11] at H
          have c11b0 : decide (500 < (l1.length : Int)) = false := decide_eq_false c11
          have c11b1 : decide (500 < l1.length) = false := decide_eq_false (by omega)
          clear c11
          (first | rw [c11b0] | (simp only [i64_w, i32_w]; rw [c11b0]) | skip)
          by_cases c13 : (l2.length : Int) > 500
          · rw [if_pos c13] at H
            have c13b0 : decide (500 < (l2.length : Int)) = true := decide_eq_true c13
            have c13b1 : decide (500 < l2.length) = true := decide_eq_true (by omega)
            clear c13
            have H' := Aside0.mk H
            clear H
            go_wp2_with (first | ((with_reducible refine gate_callee (f := 16) rfl ?_); refine goesL_ (some 23) rfl rfl Try.func16 (by kernel_rfl) rfl #[.slice A0 l0.length c0] rfl (by (try simp only [List.map_toArray, List.map_cons, List.map_nil]); first | done | rfl | (simp only [List.length_drop, List.length_take]; rfl)) ?_; (with_reducible refine (gambrelref17_Few.calls k _ _ l0 true _ ?side1 ?side2 A7.out).mono ?_); (case side1 => repeat (first | exact (Kd.C_below HR0.out HB.out) | (with_reducible refine Kd.C_alloc ?_ _) | (with_reducible refine Kd.C_drewN ?_ _) | (with_reducible refine Kd.C_drew ?_))); (case side2 => exact HC0.out); rintro e w' ⟨rfl, ⟨nd, rfl⟩⟩; refine ⟨_, rfl, ?_⟩) | (go_at_call 27; (with_reducible refine (files_May.calls k _ _ l0 true _ ?side1 ?side2 A9.out).mono ?_); (case side1 => repeat (first | exact (Kd.C_below HR0.out (by repeat (first | (with_reducible first | exact HB.out | apply below_alloc | apply pw_below_drewN | apply below_drew1) | exact HB.out))) | (with_reducible refine Kd.C_alloc ?_ _) | (with_reducible refine Kd.C_drewN ?_ _) | (with_reducible refine Kd.C_drew ?_))); (case side2 => exact HC0.out); rintro e w14 ⟨rfl, hb⟩; have n0_ := Aside0.mk (below_step (by repeat (first | (with_reducible first | exact HB.out | apply below_alloc | apply pw_below_drewN | apply below_drew1) | exact HB.out)) hb); clear HB; have HB := n0_; clear n0_; (try clear hb); (try clear hb2); (try clear hk); (try clear hi)))
            go_meet
            case rel => exact ⟨_, (true), (by first | rfl | (simp; done) | (simp [*]; done)), H', ⟨by first | omega | exact Nat.le_refl _⟩, ⟨by repeat (first | (with_reducible first | exact HB.out | apply below_alloc | apply pw_below_drewN | apply below_drew1) | exact HB.out)⟩⟩
          · rw [if_neg c13] at H
            have c13b0 : decide (500 < (l2.length : Int)) = false := decide_eq_false c13
            have c13b1 : decide (500 < l2.length) = false := decide_eq_false (by omega)
            clear c13
            by_cases c15 : (l1.length : Int) = 0
            · rw [if_pos c15] at H
              have c15b0 : ((l1.length : Int) == 0) = true := beq_iff_eq.mpr c15
              have c15b1 : ((l1.length : Int) != 0) = false := bne_eq_false_iff_eq.mpr c15
              clear c15
              have H' := Aside0.mk H
              clear H
              go_wp2_with (first | ((with_reducible refine gate_callee (f := 16) rfl ?_); refine goesL_ (some 23) rfl rfl Try.func16 (by kernel_rfl) rfl #[.slice A0 l0.length c0] rfl (by (try simp only [List.map_toArray, List.map_cons, List.map_nil]); first | done | rfl | (simp only [List.length_drop, List.length_take]; rfl)) ?_; (with_reducible refine (gambrelref17_Few.calls k _ _ l0 true _ ?side1 ?side2 A7.out).mono ?_); (case side1 => repeat (first | exact (Kd.C_below HR0.out HB.out) | (with_reducible refine Kd.C_alloc ?_ _) | (with_reducible refine Kd.C_drewN ?_ _) | (with_reducible refine Kd.C_drew ?_))); (case side2 => exact HC0.out); rintro e w' ⟨rfl, ⟨nd, rfl⟩⟩; refine ⟨_, rfl, ?_⟩) | (go_at_call 27; (with_reducible refine (files_May.calls k _ _ l0 true _ ?side1 ?side2 A9.out).mono ?_); (case side1 => repeat (first | exact (Kd.C_below HR0.out (by repeat (first | (with_reducible first | exact HB.out | apply below_alloc | apply pw_below_drewN | apply below_drew1) | exact HB.out))) | (with_reducible refine Kd.C_alloc ?_ _) | (with_reducible refine Kd.C_drewN ?_ _) | (with_reducible refine Kd.C_drew ?_))); (case side2 => exact HC0.out); rintro e w16 ⟨rfl, hb⟩; have n0_ := Aside0.mk (below_step (by repeat (first | (with_reducible first | exact HB.out | apply below_alloc | apply pw_below_drewN | apply below_drew1) | exact HB.out)) hb); clear HB; have HB := n0_; clear n0_; (try clear hb); (try clear hb2); (try clear hk); (try clear hi)))
              go_meet
              case rel => exact ⟨_, (true), (by first | rfl | (simp; done) | (simp [*]; done)), H', ⟨by first | omega | exact Nat.le_refl _⟩, ⟨by repeat (first | (with_reducible first | exact HB.out | apply below_alloc | apply pw_below_drewN | apply below_drew1) | exact HB.out)⟩⟩
            · rw [if_neg c15] at H
              have c15b0 : ((l1.length : Int) == 0) = false := beq_eq_false_iff_ne.mpr c15
              have c15b1 : ((l1.length : Int) != 0) = true := bne_iff_ne.mpr c15
              have c15b2 : ¬ (l1 = []) := fun h_ => c15 (by rw [h_]; rfl)
              have H' := Aside0.mk H
              clear H
              go_wp2_with (first | ((with_reducible refine gate_callee (f := 16) rfl ?_); refine goesL_ (some 23) rfl rfl Try.func16 (by kernel_rfl) rfl #[.slice A0 l0.length c0] rfl (by (try simp only [List.map_toArray, List.map_cons, List.map_nil]); first | done | rfl | (simp only [List.length_drop, List.length_take]; rfl)) ?_; (with_reducible refine (gambrelref17_Few.calls k _ _ l0 true _ ?side1 ?side2 A7.out).mono ?_); (case side1 => repeat (first | exact (Kd.C_below HR0.out HB.out) | (with_reducible refine Kd.C_alloc ?_ _) | (with_reducible refine Kd.C_drewN ?_ _) | (with_reducible refine Kd.C_drew ?_))); (case side2 => exact HC0.out); rintro e w' ⟨rfl, ⟨nd, rfl⟩⟩; refine ⟨_, rfl, ?_⟩) | (go_at_call 27; (with_reducible refine (files_May.calls k _ _ l0 true _ ?side1 ?side2 A9.out).mono ?_); (case side1 => repeat (first | exact (Kd.C_below HR0.out (by repeat (first | (with_reducible first | exact HB.out | apply below_alloc | apply pw_below_drewN | apply below_drew1) | exact HB.out))) | (with_reducible refine Kd.C_alloc ?_ _) | (with_reducible refine Kd.C_drewN ?_ _) | (with_reducible refine Kd.C_drew ?_))); (case side2 => exact HC0.out); rintro e w17 ⟨rfl, hb⟩; have n0_ := Aside0.mk (below_step (by repeat (first | (with_reducible first | exact HB.out | apply below_alloc | apply pw_below_drewN | apply below_drew1) | exact HB.out)) hb); clear HB; have HB := n0_; clear n0_; (try clear hb); (try clear hb2); (try clear hk); (try clear hi)))
              go_meet
              case rel => exact ⟨_, (((l2.length : Int) == 0)), (by first | rfl | (simp; done) | (simp [*]; done)), H', ⟨by first | omega | exact Nat.le_refl _⟩, ⟨by repeat (first | (with_reducible first | exact HB.out | apply below_alloc | apply pw_below_drewN | apply below_drew1) | exact HB.out)⟩⟩
      · replace c10 := Bool.eq_false_iff.mpr c10
        subst c10
        have H1 : (gambrellaw17_FilesKeep.j0 k l0 l1 l2 t237 true) = some r := by rw [if_neg (show ¬ (false = true) by decide)] at H; exact H
        clear H
        have H := H1
        clear H1
        have H' := Aside0.mk H
        clear H
        go_wp2_with (first | ((with_reducible refine gate_callee (f := 16) rfl ?_); refine goesL_ (some 23) rfl rfl Try.func16 (by kernel_rfl) rfl #[.slice A0 l0.length c0] rfl (by (try simp only [List.map_toArray, List.map_cons, List.map_nil]); first | done | rfl | (simp only [List.length_drop, List.length_take]; rfl)) ?_; (with_reducible refine (gambrelref17_Few.calls k _ _ l0 true _ ?side1 ?side2 A7.out).mono ?_); (case side1 => repeat (first | exact (Kd.C_below HR0.out HB.out) | (with_reducible refine Kd.C_alloc ?_ _) | (with_reducible refine Kd.C_drewN ?_ _) | (with_reducible refine Kd.C_drew ?_))); (case side2 => exact HC0.out); rintro e w' ⟨rfl, ⟨nd, rfl⟩⟩; refine ⟨_, rfl, ?_⟩) | (go_at_call 27; (with_reducible refine (files_May.calls k _ _ l0 false _ ?side1 ?side2 A9.out).mono ?_); (case side1 => repeat (first | exact (Kd.C_below HR0.out (by repeat (first | (with_reducible first | exact HB.out | apply below_alloc | apply pw_below_drewN | apply below_drew1) | exact HB.out))) | (with_reducible refine Kd.C_alloc ?_ _) | (with_reducible refine Kd.C_drewN ?_ _) | (with_reducible refine Kd.C_drew ?_))); (case side2 => exact HC0.out); rintro e w18 ⟨rfl, hb⟩; have n0_ := Aside0.mk (below_step (by repeat (first | (with_reducible first | exact HB.out | apply below_alloc | apply pw_below_drewN | apply below_drew1) | exact HB.out)) hb); clear HB; have HB := n0_; clear n0_; (try clear hb); (try clear hb2); (try clear hk); (try clear hi)))
        go_meet
        case rel => exact ⟨_, (true), (by first | rfl | (simp; done) | (simp [*]; done)), H', ⟨by first | omega | exact Nat.le_refl _⟩, ⟨by repeat (first | (with_reducible first | exact HB.out | apply below_alloc | apply pw_below_drewN | apply below_drew1) | exact HB.out)⟩⟩
    · replace c8 := Bool.eq_false_iff.mpr c8
      subst c8
      have H1 : (gambrellaw17_FilesKeep.j0 k l0 l1 l2 t237 true) = some r := by rw [if_neg (show ¬ (false = true) by decide)] at H; exact H
      clear H
      have H := H1
      clear H1
      have H' := Aside0.mk H
      clear H
      go_wp2_with (first | ((with_reducible refine gate_callee (f := 16) rfl ?_); refine goesL_ (some 23) rfl rfl Try.func16 (by kernel_rfl) rfl #[.slice A0 l0.length c0] rfl (by (try simp only [List.map_toArray, List.map_cons, List.map_nil]); first | done | rfl | (simp only [List.length_drop, List.length_take]; rfl)) ?_; (with_reducible refine (gambrelref17_Few.calls k _ _ l0 false _ ?side1 ?side2 A7.out).mono ?_); (case side1 => repeat (first | exact (Kd.C_below HR0.out HB.out) | (with_reducible refine Kd.C_alloc ?_ _) | (with_reducible refine Kd.C_drewN ?_ _) | (with_reducible refine Kd.C_drew ?_))); (case side2 => exact HC0.out); rintro e w' ⟨rfl, ⟨nd, rfl⟩⟩; refine ⟨_, rfl, ?_⟩))
      go_meet
      case rel => exact ⟨_, (true), (by first | rfl | (simp; done) | (simp [*]; done)), H', ⟨by first | omega | exact Nat.le_refl _⟩, ⟨by repeat (first | (with_reducible first | exact HB.out | apply below_alloc | apply pw_below_drewN | apply below_drew1) | exact HB.out)⟩⟩
  case rest =>
    clear HC5
    try clear c1
    try clear c2
    try clear p2
    try clear c5
    try clear c8
    try clear c10
    try clear c11
    try clear c11b0
    try clear c11b1
    try clear c13
    try clear c13b0
    try clear c13b1
    try clear c15
    try clear c15b0
    try clear c15b1
    try clear c15b2
    try clear c16
    obtain ⟨kq, x49_4, rfl, HA, HJ4, HB⟩ := hcut
    cases kq with
    | zero => exact absurd HA.out (by simp [gambrellaw17_FilesKeep.j0])
    | succ kj4 =>
      have H := HA.out
      clear HA
      simp only [gambrellaw17_FilesKeep.j0] at H
      by_cases c19 : x49_4 = true
      · subst c19
        have H1 : (some t237) = some r := by rw [if_pos rfl] at H; exact H
        clear H
        have H := H1
        clear H1
        obtain rfl := Option.some.inj H
        go_wp2
        go_ret
        exact ⟨by first | rfl | (simp [errW_none, errW_some] <;> rfl) | (simp [*, errW_none, errW_some] <;> rfl), by repeat (first | (with_reducible first | exact HB.out | apply below_alloc | apply pw_below_drewN | apply below_drew1) | exact HB.out)⟩
      · replace c19 := Bool.eq_false_iff.mpr c19
        subst c19
        have H1 : ((some (([] : List Int) : List Int)).bind fun y240 => (if y240.length + l1.length < 140737488355328 then ((some (y240 ++ l1 : List Int)).bind fun y243 => (if y243.length + l2.length < 140737488355328 then ((some (y243 ++ l2 : List Int)).bind fun y246 => ((files_Do.f l0 (⟨#[113]⟩ : ByteArray) 2 0 l1 (l1.length : Int)).bind fun bt249 => ((files_Do.f bt249.1 (⟨#[113]⟩ : ByteArray) 2 0 l2 (-1)).bind fun bt253 => ((files_Do.f l0 (⟨#[113]⟩ : ByteArray) 2 0 y246 (-1)).bind fun bt257 => ((files_Do.f l0 (⟨#[113]⟩ : ByteArray) 1 0 y246 0).bind fun bt261 => ((files_Do.f l0 (⟨#[113]⟩ : ByteArray) 1 0 y246 (l1.length : Int)).bind fun bt265 => ((files_Get.f bt265.1 (⟨#[113]⟩ : ByteArray)).bind fun bt269 => (if t237 = true then (if (wrap64 ((wrap64 ((wrap64 ((wrap64 (bt249.2 + bt253.2)) + bt257.2)) + bt261.2)) + bt265.2)) = 0 then ((files_Same.f bt253.1 bt257.1).bind fun t273 => (if t273 = true then ((files_Same.f bt261.1 l0).bind fun t274 => (if t274 = true then (some ((strOfNums bt269.1).toList == (strOfNums l1).toList)) else (none))) else (none))) else (none)) else (none))))))))) else (none))) else (none))) = some r := by rw [if_neg (show ¬ (false = true) by decide)] at H; exact H
        clear H
        have H := H1
        clear H1
        obtain ⟨y240, hy240⟩ : ∃ y_ : List Int, y_ = (([] : List Int)) := ⟨_, rfl⟩
        replace H : (if y240.length + l1.length < 140737488355328 then ((some (y240 ++ l1 : List Int)).bind fun y243 => (if y243.length + l2.length < 140737488355328 then ((some (y243 ++ l2 : List Int)).bind fun y246 => ((files_Do.f l0 (⟨#[113]⟩ : ByteArray) 2 0 l1 (l1.length : Int)).bind fun bt249 => ((files_Do.f bt249.1 (⟨#[113]⟩ : ByteArray) 2 0 l2 (-1)).bind fun bt253 => ((files_Do.f l0 (⟨#[113]⟩ : ByteArray) 2 0 y246 (-1)).bind fun bt257 => ((files_Do.f l0 (⟨#[113]⟩ : ByteArray) 1 0 y246 0).bind fun bt261 => ((files_Do.f l0 (⟨#[113]⟩ : ByteArray) 1 0 y246 (l1.length : Int)).bind fun bt265 => ((files_Get.f bt265.1 (⟨#[113]⟩ : ByteArray)).bind fun bt269 => (if t237 = true then (if (wrap64 ((wrap64 ((wrap64 ((wrap64 (bt249.2 + bt253.2)) + bt257.2)) + bt261.2)) + bt265.2)) = 0 then ((files_Same.f bt253.1 bt257.1).bind fun t273 => (if t273 = true then ((files_Same.f bt261.1 l0).bind fun t274 => (if t274 = true then (some ((strOfNums bt269.1).toList == (strOfNums l1).toList)) else (none))) else (none))) else (none)) else (none))))))))) else (none))) else (none)) = some r := by first | (rw [hy240]; with_reducible exact H) | (have H2_ := (Option.bind_some _ _).symm.trans H; rw [hy240]; with_reducible exact H2_) | (have H2_ := (Option.bind_some _ _).symm.trans H; with_reducible exact H2_) | with_reducible exact H | (rw [hy240]; exact H) | exact H
        have Ny240 := Aside0.mk hy240
        clear hy240
        by_cases c20 : y240.length + l1.length < 140737488355328
        · rw [if_pos c20] at H
          have LMc20 := Aside0.mk c20
          clear c20
          obtain ⟨y243, hy243⟩ : ∃ y_ : List Int, y_ = (y240 ++ l1) := ⟨_, rfl⟩
          replace H : (if y243.length + l2.length < 140737488355328 then ((some (y243 ++ l2 : List Int)).bind fun y246 => ((files_Do.f l0 (⟨#[113]⟩ : ByteArray) 2 0 l1 (l1.length : Int)).bind fun bt249 => ((files_Do.f bt249.1 (⟨#[113]⟩ : ByteArray) 2 0 l2 (-1)).bind fun bt253 => ((files_Do.f l0 (⟨#[113]⟩ : ByteArray) 2 0 y246 (-1)).bind fun bt257 => ((files_Do.f l0 (⟨#[113]⟩ : ByteArray) 1 0 y246 0).bind fun bt261 => ((files_Do.f l0 (⟨#[113]⟩ : ByteArray) 1 0 y246 (l1.length : Int)).bind fun bt265 => ((files_Get.f bt265.1 (⟨#[113]⟩ : ByteArray)).bind fun bt269 => (if t237 = true then (if (wrap64 ((wrap64 ((wrap64 ((wrap64 (bt249.2 + bt253.2)) + bt257.2)) + bt261.2)) + bt265.2)) = 0 then ((files_Same.f bt253.1 bt257.1).bind fun t273 => (if t273 = true then ((files_Same.f bt261.1 l0).bind fun t274 => (if t274 = true then (some ((strOfNums bt269.1).toList == (strOfNums l1).toList)) else (none))) else (none))) else (none)) else (none))))))))) else (none)) = some r := by first | (rw [hy243]; with_reducible exact H) | (have H2_ := (Option.bind_some _ _).symm.trans H; rw [hy243]; with_reducible exact H2_) | (have H2_ := (Option.bind_some _ _).symm.trans H; with_reducible exact H2_) | with_reducible exact H | (rw [hy243]; exact H) | exact H
          have Ny243 := Aside0.mk hy243
          clear hy243
          by_cases c21 : y243.length + l2.length < 140737488355328
          · rw [if_pos c21] at H
            have LMc21 := Aside0.mk c21
            clear c21
            obtain ⟨y246, hy246⟩ : ∃ y_ : List Int, y_ = (y243 ++ l2) := ⟨_, rfl⟩
            replace H : ((files_Do.f l0 (⟨#[113]⟩ : ByteArray) 2 0 l1 (l1.length : Int)).bind fun bt249 => ((files_Do.f bt249.1 (⟨#[113]⟩ : ByteArray) 2 0 l2 (-1)).bind fun bt253 => ((files_Do.f l0 (⟨#[113]⟩ : ByteArray) 2 0 y246 (-1)).bind fun bt257 => ((files_Do.f l0 (⟨#[113]⟩ : ByteArray) 1 0 y246 0).bind fun bt261 => ((files_Do.f l0 (⟨#[113]⟩ : ByteArray) 1 0 y246 (l1.length : Int)).bind fun bt265 => ((files_Get.f bt265.1 (⟨#[113]⟩ : ByteArray)).bind fun bt269 => (if t237 = true then (if (wrap64 ((wrap64 ((wrap64 ((wrap64 (bt249.2 + bt253.2)) + bt257.2)) + bt261.2)) + bt265.2)) = 0 then ((files_Same.f bt253.1 bt257.1).bind fun t273 => (if t273 = true then ((files_Same.f bt261.1 l0).bind fun t274 => (if t274 = true then (some ((strOfNums bt269.1).toList == (strOfNums l1).toList)) else (none))) else (none))) else (none)) else (none)))))))) = some r := by first | (rw [hy246]; with_reducible exact H) | (have H2_ := (Option.bind_some _ _).symm.trans H; rw [hy246]; with_reducible exact H2_) | (have H2_ := (Option.bind_some _ _).symm.trans H; with_reducible exact H2_) | with_reducible exact H | (rw [hy246]; exact H) | exact H
            have Ny246 := Aside0.mk hy246
            clear hy246
            replace H := Option.bind_eq_some_iff.mp H
            obtain ⟨⟨t249, t252⟩, A220, H⟩ := H
            replace H : ((files_Do.f t249 (⟨#[113]⟩ : ByteArray) 2 0 l2 (-1)).bind fun bt253 => ((files_Do.f l0 (⟨#[113]⟩ : ByteArray) 2 0 y246 (-1)).bind fun bt257 => ((files_Do.f l0 (⟨#[113]⟩ : ByteArray) 1 0 y246 0).bind fun bt261 => ((files_Do.f l0 (⟨#[113]⟩ : ByteArray) 1 0 y246 (l1.length : Int)).bind fun bt265 => ((files_Get.f bt265.1 (⟨#[113]⟩ : ByteArray)).bind fun bt269 => (if t237 = true then (if (wrap64 ((wrap64 ((wrap64 ((wrap64 (t252 + bt253.2)) + bt257.2)) + bt261.2)) + bt265.2)) = 0 then ((files_Same.f bt253.1 bt257.1).bind fun t273 => (if t273 = true then ((files_Same.f bt261.1 l0).bind fun t274 => (if t274 = true then (some ((strOfNums bt269.1).toList == (strOfNums l1).toList)) else (none))) else (none))) else (none)) else (none))))))) = some r := H
            have A22 := Aside0.mk A220
            clear A220
            replace H := Option.bind_eq_some_iff.mp H
            obtain ⟨⟨t253, t256⟩, A230, H⟩ := H
            replace H : ((files_Do.f l0 (⟨#[113]⟩ : ByteArray) 2 0 y246 (-1)).bind fun bt257 => ((files_Do.f l0 (⟨#[113]⟩ : ByteArray) 1 0 y246 0).bind fun bt261 => ((files_Do.f l0 (⟨#[113]⟩ : ByteArray) 1 0 y246 (l1.length : Int)).bind fun bt265 => ((files_Get.f bt265.1 (⟨#[113]⟩ : ByteArray)).bind fun bt269 => (if t237 = true then (if (wrap64 ((wrap64 ((wrap64 ((wrap64 (t252 + t256)) + bt257.2)) + bt261.2)) + bt265.2)) = 0 then ((files_Same.f t253 bt257.1).bind fun t273 => (if t273 = true then ((files_Same.f bt261.1 l0).bind fun t274 => (if t274 = true then (some ((strOfNums bt269.1).toList == (strOfNums l1).toList)) else (none))) else (none))) else (none)) else (none)))))) = some r := H
            have A23 := Aside0.mk A230
            clear A230
            replace H := Option.bind_eq_some_iff.mp H
            obtain ⟨⟨t257, t260⟩, A240, H⟩ := H
            replace H : ((files_Do.f l0 (⟨#[113]⟩ : ByteArray) 1 0 y246 0).bind fun bt261 => ((files_Do.f l0 (⟨#[113]⟩ : ByteArray) 1 0 y246 (l1.length : Int)).bind fun bt265 => ((files_Get.f bt265.1 (⟨#[113]⟩ : ByteArray)).bind fun bt269 => (if t237 = true then (if (wrap64 ((wrap64 ((wrap64 ((wrap64 (t252 + t256)) + t260)) + bt261.2)) + bt265.2)) = 0 then ((files_Same.f t253 t257).bind fun t273 => (if t273 = true then ((files_Same.f bt261.1 l0).bind fun t274 => (if t274 = true then (some ((strOfNums bt269.1).toList == (strOfNums l1).toList)) else (none))) else (none))) else (none)) else (none))))) = some r := H
            have A24 := Aside0.mk A240
            clear A240
            replace H := Option.bind_eq_some_iff.mp H
            obtain ⟨⟨t261, t264⟩, A250, H⟩ := H
            replace H : ((files_Do.f l0 (⟨#[113]⟩ : ByteArray) 1 0 y246 (l1.length : Int)).bind fun bt265 => ((files_Get.f bt265.1 (⟨#[113]⟩ : ByteArray)).bind fun bt269 => (if t237 = true then (if (wrap64 ((wrap64 ((wrap64 ((wrap64 (t252 + t256)) + t260)) + t264)) + bt265.2)) = 0 then ((files_Same.f t253 t257).bind fun t273 => (if t273 = true then ((files_Same.f t261 l0).bind fun t274 => (if t274 = true then (some ((strOfNums bt269.1).toList == (strOfNums l1).toList)) else (none))) else (none))) else (none)) else (none)))) = some r := H
            have A25 := Aside0.mk A250
            clear A250
            replace H := Option.bind_eq_some_iff.mp H
            obtain ⟨⟨t265, t268⟩, A260, H⟩ := H
            replace H : ((files_Get.f t265 (⟨#[113]⟩ : ByteArray)).bind fun bt269 => (if t237 = true then (if (wrap64 ((wrap64 ((wrap64 ((wrap64 (t252 + t256)) + t260)) + t264)) + t268)) = 0 then ((files_Same.f t253 t257).bind fun t273 => (if t273 = true then ((files_Same.f t261 l0).bind fun t274 => (if t274 = true then (some ((strOfNums bt269.1).toList == (strOfNums l1).toList)) else (none))) else (none))) else (none)) else (none))) = some r := H
            have A26 := Aside0.mk A260
            clear A260
            replace H := Option.bind_eq_some_iff.mp H
            obtain ⟨⟨t269, t270⟩, A270, H⟩ := H
            replace H : (if t237 = true then (if (wrap64 ((wrap64 ((wrap64 ((wrap64 (t252 + t256)) + t260)) + t264)) + t268)) = 0 then ((files_Same.f t253 t257).bind fun t273 => (if t273 = true then ((files_Same.f t261 l0).bind fun t274 => (if t274 = true then (some ((strOfNums t269).toList == (strOfNums l1).toList)) else (none))) else (none))) else (none)) else (none)) = some r := H
            have A27 := Aside0.mk A270
            clear A270
            by_cases c28 : t237 = true
            · subst c28
              have H1 : (if (wrap64 ((wrap64 ((wrap64 ((wrap64 (t252 + t256)) + t260)) + t264)) + t268)) = 0 then ((files_Same.f t253 t257).bind fun t273 => (if t273 = true then ((files_Same.f t261 l0).bind fun t274 => (if t274 = true then (some ((strOfNums t269).toList == (strOfNums l1).toList)) else (none))) else (none))) else (none)) = some r := by rw [if_pos rfl] at H; exact H
              clear H
              have H := H1
              clear H1
              by_cases c29 : (wrap64 ((wrap64 ((wrap64 ((wrap64 (t252 + t256)) + t260)) + t264)) + t268)) = 0
              · rw [if_pos c29] at H
                have c29b0 : ((wrap64 ((wrap64 ((wrap64 ((wrap64 (t252 + t256)) + t260)) + t264)) + t268)) == 0) = true := beq_iff_eq.mpr c29
                have c29b1 : ((wrap64 ((wrap64 ((wrap64 ((wrap64 (t252 + t256)) + t260)) + t264)) + t268)) != 0) = false := bne_eq_false_iff_eq.mpr c29
                clear c29
                replace H := Option.bind_eq_some_iff.mp H
                obtain ⟨t273, A300, H⟩ := H
                replace H : (if t273 = true then ((files_Same.f t261 l0).bind fun t274 => (if t274 = true then (some ((strOfNums t269).toList == (strOfNums l1).toList)) else (none))) else (none)) = some r := H
                have A30 := Aside0.mk A300
                clear A300
                by_cases c31 : t273 = true
                · subst c31
                  have H1 : ((files_Same.f t261 l0).bind fun t274 => (if t274 = true then (some ((strOfNums t269).toList == (strOfNums l1).toList)) else (none))) = some r := by rw [if_pos rfl] at H; exact H
                  clear H
                  have H := H1
                  clear H1
                  replace H := Option.bind_eq_some_iff.mp H
                  obtain ⟨t274, A320, H⟩ := H
                  replace H : (if t274 = true then (some ((strOfNums t269).toList == (strOfNums l1).toList)) else (none)) = some r := H
                  have A32 := Aside0.mk A320
                  clear A320
                  by_cases c33 : t274 = true
                  · subst c33
                    have H1 : (some ((strOfNums t269).toList == (strOfNums l1).toList)) = some r := by rw [if_pos rfl] at H; exact H
                    clear H
                    have H := H1
                    clear H1
                    obtain rfl := Option.some.inj H
                    go_wp2_with (first | ((with_reducible refine gate_dst (N := 51) rfl ?_); (try (refine gate_guard (by rfl) ?_; dsimp only)); refine Kd.R_lit (Kd.int .u8) _ 5 ?hg (N := 51) ?hd (xs := ([] : List Int)) (inner := []) (ok := fun _ => True) (okp := fun _ => True) ?hr ?hp (fun _ hk => hk) trivial (Below.refl _ _) (Nat.le_refl _) (by simp) ?_; (case hd => rfl); (case hg => rfl); (case hr => first | (go_simp; done) | (go_simp; rfl)); (case hp => exact (Reps.none _ _)); intro v241 w34 ho35 hb hg_ hnew_; clear hg_ hnew_; (first | rw [← Ny240.out] at ho35 | (simp only [Int.reduceToNat] at ho35; rw [← Ny240.out] at ho35)); have n0_ := Aside0.mk (Kd.R_lower ho35 (below_size (by repeat (first | (with_reducible first | exact HB.out | apply below_alloc | apply pw_below_drewN | apply below_drew1) | exact HB.out)))); have n1_ := Aside0.mk (below_step (by repeat (first | (with_reducible first | exact HB.out | apply below_alloc | apply pw_below_drewN | apply below_drew1) | exact HB.out)) hb); clear HB; have HO242 := n0_; have HB := n1_; clear n0_ n1_; clear hb ho35) | ((with_reducible refine gate_builtin (b := .append) (xs := #[.tmp 51, .tmp 52]) rfl ?_); (try (refine gate_guard (by rfl) ?_; dsimp only)); at_builtin; refine Kd.R_append_rows (Kd.int .u8) (w0 := w) w.heap.size rfl (.tmp 51) (.tmp 52) 23 5 (.int .u8 0) 1 rfl Try.underlying23 info5 rfl (by decide) (by omega) v241 y240 l1 _ _ _ (fun _ => True) (fun _ => False) rfl rfl ?aO ?aR (fun _ _ h => h) (fun _ h => h.elim) ?aF ?aB ?aS ?aL ?_; (case aR => repeat (first | exact (Kd.C_below HR1.out HB.out) | (with_reducible refine Kd.C_alloc ?_ _) | (with_reducible refine Kd.C_drewN ?_ _) | (with_reducible refine Kd.C_drew ?_))); (case aB => exact (by repeat (first | (with_reducible first | exact HB.out | apply below_alloc | apply pw_below_drewN | apply below_drew1) | exact HB.out))); (case aF => exact (fun _ _ => trivial)); (case aO => exact (by (with_reducible repeat (first | apply Kd.R_alloc | apply Kd.R_drewN | apply Kd.R_drew)); exact HO242.out)); (case aS => exact (below_size (by repeat (first | (with_reducible first | exact HB.out | apply below_alloc | apply pw_below_drewN | apply below_drew1) | exact HB.out)))); (case aL => have := LMc20.out; omega); intro v244 w36 ho hb hg hat; rw [← Ny243.out] at ho; have n0_ := Aside0.mk (hb); have n1_ := Aside0.mk (ho); clear HB; clear HO242; have HB := n0_; have HO245 := n1_; clear n0_ n1_; clear ho hb hg hat) | ((with_reducible refine gate_builtin (b := .append) (xs := #[.tmp 54, .tmp 55]) rfl ?_); (try (refine gate_guard (by rfl) ?_; dsimp only)); at_builtin; refine Kd.R_append_rows (Kd.int .u8) (w0 := w) w.heap.size rfl (.tmp 54) (.tmp 55) 23 5 (.int .u8 0) 1 rfl Try.underlying23 info5 rfl (by decide) (by omega) v244 y243 l2 _ _ _ (fun _ => True) (fun _ => False) rfl rfl ?aO ?aR (fun _ _ h => h) (fun _ h => h.elim) ?aF ?aB ?aS ?aL ?_; (case aR => repeat (first | exact (Kd.C_below HR2.out HB.out) | (with_reducible refine Kd.C_alloc ?_ _) | (with_reducible refine Kd.C_drewN ?_ _) | (with_reducible refine Kd.C_drew ?_))); (case aB => exact (by repeat (first | (with_reducible first | exact HB.out | apply below_alloc | apply pw_below_drewN | apply below_drew1) | exact HB.out))); (case aF => exact (fun _ _ => trivial)); (case aO => exact (by (with_reducible repeat (first | apply Kd.R_alloc | apply Kd.R_drewN | apply Kd.R_drew)); exact HO245.out)); (case aS => exact (below_size (by repeat (first | (with_reducible first | exact HB.out | apply below_alloc | apply pw_below_drewN | apply below_drew1) | exact HB.out)))); (case aL => have := LMc21.out; omega); intro v247 w37 ho hb hg hat; rw [← Ny246.out] at ho; have n0_ := Aside0.mk (hb); have n1_ := Aside0.mk (ho); clear HB; clear HO245; have HB := n0_; have HO248 := n1_; clear n0_ n1_; clear ho hb hg hat) | ((with_reducible refine gate_callee (f := 17) rfl ?_); refine goesL_ (some 63) rfl rfl Try.func17 (by kernel_rfl) rfl #[.slice A0 l0.length c0, .agg #[.string (⟨#[113]⟩ : ByteArray), .int .i64 2, .int .i64 0, .slice A1 l1.length c1], .int .i64 (l1.length : Int)] rfl (by (try simp only [List.map_toArray, List.map_cons, List.map_nil]); first | done | rfl | (simp only [List.length_drop, List.length_take]; rfl)) ?_; (with_reducible refine (files_Do.calls (fun k_ => k_ < w.heap.size) _ _ l0 (⟨#[113]⟩ : ByteArray) 2 0 _ _ l1 (l1.length : Int) t249 t252 _ ?side1 ?side2 ?side3 A22.out).mono ?_); (case side1 => exact Kd.V_mk HC0.out (Kd.F_below (Kd.C_F k38_heap HR0.out) (by repeat (first | (with_reducible first | exact HB.out | apply below_alloc | apply pw_below_drewN | apply below_drew1) | exact HB.out)))); (case side2 => repeat (first | exact (Kd.C_below HR1.out HB.out) | (with_reducible refine Kd.C_alloc ?_ _) | (with_reducible refine Kd.C_drewN ?_ _) | (with_reducible refine Kd.C_drew ?_))); (case side3 => exact HC1.out); rintro e w38 ⟨v250, rfl, ho0, hb⟩; refine ⟨_, rfl, ?_⟩; have n0_ := Aside0.mk (Kd.R_below (by (with_reducible repeat (first | apply Kd.R_alloc | apply Kd.R_drewN | apply Kd.R_drew)); exact HO248.out) hb); have n1_ := Aside0.mk (Kd.V_lower (Kd.V_mono (ok' := fun k_ => some k_ ≠ (v247 : Value).ownBlock) ho0 (fun k_ hk_ => Or.elim hk_ (fun hs_ => fun e_ => Nat.not_le.2 hs_ (Kd.R_base HO248.out k_ e_.symm)) (fun hn_ => (Kd.fresh' (Kd.R_lt (by (with_reducible repeat (first | apply Kd.R_alloc | apply Kd.R_drewN | apply Kd.R_drew)); exact HO248.out)) k_ hn_)))) (below_size (by repeat (first | (with_reducible first | exact HB.out | apply below_alloc | apply pw_below_drewN | apply below_drew1) | exact HB.out)))); have n2_ := Aside0.mk (below_step (by repeat (first | (with_reducible first | exact HB.out | apply below_alloc | apply pw_below_drewN | apply below_drew1) | exact HB.out)) hb); clear HO248; clear HB; have HO248 := n0_; have HO251 := n1_; have HB := n2_; clear n0_ n1_ n2_; (try clear hb); (try clear hb2); (try clear hk); (try clear hi); (try clear ho0); obtain ⟨Ao39, co39, eo39⟩ := Kd.V_slice HO251.out; subst eo39) | ((with_reducible refine gate_callee (f := 17) rfl ?_); refine goesL_ (some 70) rfl rfl Try.func17 (by kernel_rfl) rfl #[.slice Ao39 t249.length co39, .agg #[.string (⟨#[113]⟩ : ByteArray), .int .i64 2, .int .i64 0, .slice A2 l2.length c2], .int .i64 (-1)] rfl (by (try simp only [List.map_toArray, List.map_cons, List.map_nil]); first | done | rfl | (simp only [List.length_drop, List.length_take]; rfl)) ?_; (with_reducible refine (files_Do.calls (fun k_ => some k_ ≠ (v247 : Value).ownBlock) _ _ t249 (⟨#[113]⟩ : ByteArray) 2 0 _ _ l2 (-1) t253 t256 _ ?side1 ?side2 ?side3 A23.out).mono ?_); (case side1 => exact HO251.out); (case side2 => repeat (first | exact (Kd.C_below HR2.out HB.out) | (with_reducible refine Kd.C_alloc ?_ _) | (with_reducible refine Kd.C_drewN ?_ _) | (with_reducible refine Kd.C_drew ?_))); (case side3 => exact HC2.out); rintro e w40 ⟨v254, rfl, ho0, hb⟩; refine ⟨_, rfl, ?_⟩; have n0_ := Aside0.mk (Kd.R_below (by (with_reducible repeat (first | apply Kd.R_alloc | apply Kd.R_drewN | apply Kd.R_drew)); exact HO248.out) hb); have n1_ := Aside0.mk (Kd.V_below (by (with_reducible repeat (first | apply Kd.V_alloc | apply Kd.V_drewN | apply Kd.V_drew)); exact HO251.out) hb); have n2_ := Aside0.mk (Kd.V_lower (Kd.V_mono (ok' := fun k_ => some k_ ≠ (v247 : Value).ownBlock) ho0 (fun k_ hk_ => Or.elim hk_ (fun hs_ => hs_) (fun hn_ => (Kd.fresh' (Kd.R_lt (by (with_reducible repeat (first | apply Kd.R_alloc | apply Kd.R_drewN | apply Kd.R_drew)); exact HO248.out)) k_ hn_)))) (below_size (by repeat (first | (with_reducible first | exact HB.out | apply below_alloc | apply pw_below_drewN | apply below_drew1) | exact HB.out)))); have n3_ := Aside0.mk (below_step (by repeat (first | (with_reducible first | exact HB.out | apply below_alloc | apply pw_below_drewN | apply below_drew1) | exact HB.out)) hb); clear HO248; clear HO251; clear HB; have HO248 := n0_; have HO251 := n1_; have HO255 := n2_; have HB := n3_; clear n0_ n1_ n2_ n3_; (try clear hb); (try clear hb2); (try clear hk); (try clear hi); (try clear ho0); obtain ⟨Ao41, co41, eo41⟩ := Kd.R_slice HO248.out; subst eo41) | ((with_reducible refine gate_callee (f := 17) rfl ?_); refine goesL_ (some 77) rfl rfl Try.func17 (by kernel_rfl) rfl #[.slice A0 l0.length c0, .agg #[.string (⟨#[113]⟩ : ByteArray), .int .i64 2, .int .i64 0, .slice Ao41 y246.length co41], .int .i64 (-1)] rfl (by (try simp only [List.map_toArray, List.map_cons, List.map_nil]); first | done | rfl | (simp only [List.length_drop, List.length_take]; rfl)) ?_; (with_reducible refine (files_Do.calls (fun k_ => k_ < w.heap.size) _ _ l0 (⟨#[113]⟩ : ByteArray) 2 0 _ _ y246 (-1) t257 t260 _ ?side1 ?side2 ?side3 A24.out).mono ?_); (case side1 => exact Kd.V_mk HC0.out (Kd.F_below (Kd.C_F k38_heap HR0.out) (by repeat (first | (with_reducible first | exact HB.out | apply below_alloc | apply pw_below_drewN | apply below_drew1) | exact HB.out)))); (case side2 => repeat (first | exact (Kd.R_reads' HO248.out).2.2 | (with_reducible refine Kd.C_alloc ?_ _) | (with_reducible refine Kd.C_drewN ?_ _) | (with_reducible refine Kd.C_drew ?_))); (case side3 => exact (Kd.R_reads' HO248.out).2.1); rintro e w42 ⟨v258, rfl, ho0, hb⟩; refine ⟨_, rfl, ?_⟩; have n0_ := Aside0.mk (Kd.R_below (by (with_reducible repeat (first | apply Kd.R_alloc | apply Kd.R_drewN | apply Kd.R_drew)); exact HO248.out) hb); have n1_ := Aside0.mk (Kd.V_below (by (with_reducible repeat (first | apply Kd.V_alloc | apply Kd.V_drewN | apply Kd.V_drew)); exact HO251.out) hb); have n2_ := Aside0.mk (Kd.V_below (by (with_reducible repeat (first | apply Kd.V_alloc | apply Kd.V_drewN | apply Kd.V_drew)); exact HO255.out) hb); have n3_ := Aside0.mk (Kd.V_lower (Kd.V_mono (ok' := fun k_ => some k_ ≠ (.slice Ao41 y246.length co41 : Value).ownBlock) ho0 (fun k_ hk_ => Or.elim hk_ (fun hs_ => fun e_ => Nat.not_le.2 hs_ (Kd.R_base HO248.out k_ e_.symm)) (fun hn_ => (Kd.fresh' (Kd.R_lt (by (with_reducible repeat (first | apply Kd.R_alloc | apply Kd.R_drewN | apply Kd.R_drew)); exact HO248.out)) k_ hn_)))) (below_size (by repeat (first | (with_reducible first | exact HB.out | apply below_alloc | apply pw_below_drewN | apply below_drew1) | exact HB.out)))); have n4_ := Aside0.mk (below_step (by repeat (first | (with_reducible first | exact HB.out | apply below_alloc | apply pw_below_drewN | apply below_drew1) | exact HB.out)) hb); clear HO248; clear HO251; clear HO255; clear HB; have HO248 := n0_; have HO251 := n1_; have HO255 := n2_; have HO259 := n3_; have HB := n4_; clear n0_ n1_ n2_ n3_ n4_; (try clear hb); (try clear hb2); (try clear hk); (try clear hi); (try clear ho0)) | ((with_reducible refine gate_callee (f := 17) rfl ?_); refine goesL_ (some 84) rfl rfl Try.func17 (by kernel_rfl) rfl #[.slice A0 l0.length c0, .agg #[.string (⟨#[113]⟩ : ByteArray), .int .i64 1, .int .i64 0, .slice Ao41 y246.length co41], .int .i64 0] rfl (by (try simp only [List.map_toArray, List.map_cons, List.map_nil]); first | done | rfl | (simp only [List.length_drop, List.length_take]; rfl)) ?_; (with_reducible refine (files_Do.calls (fun k_ => k_ < w.heap.size) _ _ l0 (⟨#[113]⟩ : ByteArray) 1 0 _ _ y246 0 t261 t264 _ ?side1 ?side2 ?side3 A25.out).mono ?_); (case side1 => exact Kd.V_mk HC0.out (Kd.F_below (Kd.C_F k38_heap HR0.out) (by repeat (first | (with_reducible first | exact HB.out | apply below_alloc | apply pw_below_drewN | apply below_drew1) | exact HB.out)))); (case side2 => repeat (first | exact (Kd.R_reads' HO248.out).2.2 | (with_reducible refine Kd.C_alloc ?_ _) | (with_reducible refine Kd.C_drewN ?_ _) | (with_reducible refine Kd.C_drew ?_))); (case side3 => exact (Kd.R_reads' HO248.out).2.1); rintro e w43 ⟨v262, rfl, ho0, hb⟩; refine ⟨_, rfl, ?_⟩; have n0_ := Aside0.mk (Kd.R_below (by (with_reducible repeat (first | apply Kd.R_alloc | apply Kd.R_drewN | apply Kd.R_drew)); exact HO248.out) hb); have n1_ := Aside0.mk (Kd.V_below (by (with_reducible repeat (first | apply Kd.V_alloc | apply Kd.V_drewN | apply Kd.V_drew)); exact HO251.out) hb); have n2_ := Aside0.mk (Kd.V_below (by (with_reducible repeat (first | apply Kd.V_alloc | apply Kd.V_drewN | apply Kd.V_drew)); exact HO255.out) hb); have n3_ := Aside0.mk (Kd.V_below (by (with_reducible repeat (first | apply Kd.V_alloc | apply Kd.V_drewN | apply Kd.V_drew)); exact HO259.out) hb); have n4_ := Aside0.mk (Kd.V_lower (Kd.V_mono (ok' := fun k_ => some k_ ≠ (.slice Ao41 y246.length co41 : Value).ownBlock) ho0 (fun k_ hk_ => Or.elim hk_ (fun hs_ => fun e_ => Nat.not_le.2 hs_ (Kd.R_base HO248.out k_ e_.symm)) (fun hn_ => (Kd.fresh' (Kd.R_lt (by (with_reducible repeat (first | apply Kd.R_alloc | apply Kd.R_drewN | apply Kd.R_drew)); exact HO248.out)) k_ hn_)))) (below_size (by repeat (first | (with_reducible first | exact HB.out | apply below_alloc | apply pw_below_drewN | apply below_drew1) | exact HB.out)))); have n5_ := Aside0.mk (below_step (by repeat (first | (with_reducible first | exact HB.out | apply below_alloc | apply pw_below_drewN | apply below_drew1) | exact HB.out)) hb); clear HO248; clear HO251; clear HO255; clear HO259; clear HB; have HO248 := n0_; have HO251 := n1_; have HO255 := n2_; have HO259 := n3_; have HO263 := n4_; have HB := n5_; clear n0_ n1_ n2_ n3_ n4_ n5_; (try clear hb); (try clear hb2); (try clear hk); (try clear hi); (try clear ho0)) | ((with_reducible refine gate_callee (f := 17) rfl ?_); refine goesL_ (some 93) rfl rfl Try.func17 (by kernel_rfl) rfl #[.slice A0 l0.length c0, .agg #[.string (⟨#[113]⟩ : ByteArray), .int .i64 1, .int .i64 0, .slice Ao41 y246.length co41], .int .i64 (l1.length : Int)] rfl (by (try simp only [List.map_toArray, List.map_cons, List.map_nil]); first | done | rfl | (simp only [List.length_drop, List.length_take]; rfl)) ?_; (with_reducible refine (files_Do.calls (fun k_ => k_ < w.heap.size) _ _ l0 (⟨#[113]⟩ : ByteArray) 1 0 _ _ y246 (l1.length : Int) t265 t268 _ ?side1 ?side2 ?side3 A26.out).mono ?_); (case side1 => exact Kd.V_mk HC0.out (Kd.F_below (Kd.C_F k38_heap HR0.out) (by repeat (first | (with_reducible first | exact HB.out | apply below_alloc | apply pw_below_drewN | apply below_drew1) | exact HB.out)))); (case side2 => repeat (first | exact (Kd.R_reads' HO248.out).2.2 | (with_reducible refine Kd.C_alloc ?_ _) | (with_reducible refine Kd.C_drewN ?_ _) | (with_reducible refine Kd.C_drew ?_))); (case side3 => exact (Kd.R_reads' HO248.out).2.1); rintro e w44 ⟨v266, rfl, ho0, hb⟩; refine ⟨_, rfl, ?_⟩; have n0_ := Aside0.mk (Kd.R_below (by (with_reducible repeat (first | apply Kd.R_alloc | apply Kd.R_drewN | apply Kd.R_drew)); exact HO248.out) hb); have n1_ := Aside0.mk (Kd.V_below (by (with_reducible repeat (first | apply Kd.V_alloc | apply Kd.V_drewN | apply Kd.V_drew)); exact HO251.out) hb); have n2_ := Aside0.mk (Kd.V_below (by (with_reducible repeat (first | apply Kd.V_alloc | apply Kd.V_drewN | apply Kd.V_drew)); exact HO255.out) hb); have n3_ := Aside0.mk (Kd.V_below (by (with_reducible repeat (first | apply Kd.V_alloc | apply Kd.V_drewN | apply Kd.V_drew)); exact HO259.out) hb); have n4_ := Aside0.mk (Kd.V_below (by (with_reducible repeat (first | apply Kd.V_alloc | apply Kd.V_drewN | apply Kd.V_drew)); exact HO263.out) hb); have n5_ := Aside0.mk (Kd.V_lower (Kd.V_mono (ok' := fun k_ => some k_ ≠ (.slice Ao41 y246.length co41 : Value).ownBlock) ho0 (fun k_ hk_ => Or.elim hk_ (fun hs_ => fun e_ => Nat.not_le.2 hs_ (Kd.R_base HO248.out k_ e_.symm)) (fun hn_ => (Kd.fresh' (Kd.R_lt (by (with_reducible repeat (first | apply Kd.R_alloc | apply Kd.R_drewN | apply Kd.R_drew)); exact HO248.out)) k_ hn_)))) (below_size (by repeat (first | (with_reducible first | exact HB.out | apply below_alloc | apply pw_below_drewN | apply below_drew1) | exact HB.out)))); have n6_ := Aside0.mk (below_step (by repeat (first | (with_reducible first | exact HB.out | apply below_alloc | apply pw_below_drewN | apply below_drew1) | exact HB.out)) hb); clear HO248; clear HO251; clear HO255; clear HO259; clear HO263; clear HB; have HO248 := n0_; have HO251 := n1_; have HO255 := n2_; have HO259 := n3_; have HO263 := n4_; have HO267 := n5_; have HB := n6_; clear n0_ n1_ n2_ n3_ n4_ n5_ n6_; (try clear hb); (try clear hb2); (try clear hk); (try clear hi); (try clear ho0); obtain ⟨Ao45, co45, eo45⟩ := Kd.V_slice HO267.out; subst eo45) | ((with_reducible refine gate_callee (f := 28) rfl ?_); refine goesL_ (some 98) rfl rfl Try.func28 (by kernel_rfl) rfl #[.slice Ao45 t265.length co45, .string (⟨#[113]⟩ : ByteArray)] rfl (by (try simp only [List.map_toArray, List.map_cons, List.map_nil]); first | done | rfl | (simp only [List.length_drop, List.length_take]; rfl)) ?_; (with_reducible refine (files_Get.calls _ _ t265 (⟨#[113]⟩ : ByteArray) t269 t270 _ ?side1 ?side2 A27.out).mono ?_); (case side1 => repeat (first | exact (Kd.V_reads' HO267.out).2.2 | (with_reducible refine Kd.C_alloc ?_ _) | (with_reducible refine Kd.C_drewN ?_ _) | (with_reducible refine Kd.C_drew ?_))); (case side2 => exact (Kd.V_reads' HO267.out).2.1); rintro e w46 ⟨v271, rfl, ho0, hb⟩; refine ⟨_, rfl, ?_⟩; have n0_ := Aside0.mk (Kd.R_elder' (by (with_reducible repeat (first | apply Kd.R_alloc | apply Kd.R_drewN | apply Kd.R_drew)); exact HO248.out) (Kd.R_base ho0) hb); have n1_ := Aside0.mk (Kd.V_elder' (by (with_reducible repeat (first | apply Kd.V_alloc | apply Kd.V_drewN | apply Kd.V_drew)); exact HO251.out) (Kd.R_base ho0) hb); have n2_ := Aside0.mk (Kd.V_elder' (by (with_reducible repeat (first | apply Kd.V_alloc | apply Kd.V_drewN | apply Kd.V_drew)); exact HO255.out) (Kd.R_base ho0) hb); have n3_ := Aside0.mk (Kd.V_elder' (by (with_reducible repeat (first | apply Kd.V_alloc | apply Kd.V_drewN | apply Kd.V_drew)); exact HO259.out) (Kd.R_base ho0) hb); have n4_ := Aside0.mk (Kd.V_elder' (by (with_reducible repeat (first | apply Kd.V_alloc | apply Kd.V_drewN | apply Kd.V_drew)); exact HO263.out) (Kd.R_base ho0) hb); have n5_ := Aside0.mk (Kd.V_elder' (by (with_reducible repeat (first | apply Kd.V_alloc | apply Kd.V_drewN | apply Kd.V_drew)); exact HO267.out) (Kd.R_base ho0) hb); have n6_ := Aside0.mk (Kd.R_lower (Kd.R_new' ho0 (Kd.R_lt (by (with_reducible repeat (first | apply Kd.R_alloc | apply Kd.R_drewN | apply Kd.R_drew)); exact HO248.out))) (below_size (by repeat (first | (with_reducible first | exact HB.out | apply below_alloc | apply pw_below_drewN | apply below_drew1) | exact HB.out)))); have n7_ := Aside0.mk (below_step (by repeat (first | (with_reducible first | exact HB.out | apply below_alloc | apply pw_below_drewN | apply below_drew1) | exact HB.out)) hb); clear HO248; clear HO251; clear HO255; clear HO259; clear HO263; clear HO267; clear HB; have HO248 := n0_; have HO251 := n1_; have HO255 := n2_; have HO259 := n3_; have HO263 := n4_; have HO267 := n5_; have HO272 := n6_; have HB := n7_; clear n0_ n1_ n2_ n3_ n4_ n5_ n6_ n7_; (try clear hb); (try clear hb2); (try clear hk); (try clear hi); (try clear ho0); obtain ⟨Ao47, co47, eo47⟩ := Kd.V_slice HO255.out; subst eo47; obtain ⟨Ao48, co48, eo48⟩ := Kd.V_slice HO259.out; subst eo48) | (go_at_call 29; (with_reducible refine (files_Same.calls _ _ t253 _ _ t257 true _ ?side1 ?side2 ?side3 ?side4 A30.out).mono ?_); (case side1 => repeat (first | exact (Kd.V_reads' HO255.out).2.2 | (with_reducible refine Kd.C_alloc ?_ _) | (with_reducible refine Kd.C_drewN ?_ _) | (with_reducible refine Kd.C_drew ?_))); (case side2 => exact (Kd.V_reads' HO255.out).2.1); (case side3 => repeat (first | exact (Kd.V_reads' HO259.out).2.2 | (with_reducible refine Kd.C_alloc ?_ _) | (with_reducible refine Kd.C_drewN ?_ _) | (with_reducible refine Kd.C_drew ?_))); (case side4 => exact (Kd.V_reads' HO259.out).2.1); rintro e w49 ⟨rfl, hb⟩; have n0_ := Aside0.mk (Kd.R_below (by (with_reducible repeat (first | apply Kd.R_alloc | apply Kd.R_drewN | apply Kd.R_drew)); exact HO248.out) hb); have n1_ := Aside0.mk (Kd.V_below (by (with_reducible repeat (first | apply Kd.V_alloc | apply Kd.V_drewN | apply Kd.V_drew)); exact HO251.out) hb); have n2_ := Aside0.mk (Kd.V_below (by (with_reducible repeat (first | apply Kd.V_alloc | apply Kd.V_drewN | apply Kd.V_drew)); exact HO255.out) hb); have n3_ := Aside0.mk (Kd.V_below (by (with_reducible repeat (first | apply Kd.V_alloc | apply Kd.V_drewN | apply Kd.V_drew)); exact HO259.out) hb); have n4_ := Aside0.mk (Kd.V_below (by (with_reducible repeat (first | apply Kd.V_alloc | apply Kd.V_drewN | apply Kd.V_drew)); exact HO263.out) hb); have n5_ := Aside0.mk (Kd.V_below (by (with_reducible repeat (first | apply Kd.V_alloc | apply Kd.V_drewN | apply Kd.V_drew)); exact HO267.out) hb); have n6_ := Aside0.mk (Kd.R_below (by (with_reducible repeat (first | apply Kd.R_alloc | apply Kd.R_drewN | apply Kd.R_drew)); exact HO272.out) hb); have n7_ := Aside0.mk (below_step (by repeat (first | (with_reducible first | exact HB.out | apply below_alloc | apply pw_below_drewN | apply below_drew1) | exact HB.out)) hb); clear HO248; clear HO251; clear HO255; clear HO259; clear HO263; clear HO267; clear HO272; clear HB; have HO248 := n0_; have HO251 := n1_; have HO255 := n2_; have HO259 := n3_; have HO263 := n4_; have HO267 := n5_; have HO272 := n6_; have HB := n7_; clear n0_ n1_ n2_ n3_ n4_ n5_ n6_ n7_; (try clear hb); (try clear hb2); (try clear hk); (try clear hi); obtain ⟨Ao50, co50, eo50⟩ := Kd.V_slice HO263.out; subst eo50) | (go_at_call 29; (with_reducible refine (files_Same.calls _ _ t261 _ _ l0 true _ ?side1 ?side2 ?side3 ?side4 A32.out).mono ?_); (case side1 => repeat (first | exact (Kd.V_reads' HO263.out).2.2 | (with_reducible refine Kd.C_alloc ?_ _) | (with_reducible refine Kd.C_drewN ?_ _) | (with_reducible refine Kd.C_drew ?_))); (case side2 => exact (Kd.V_reads' HO263.out).2.1); (case side3 => repeat (first | exact (Kd.C_below HR0.out HB.out) | (with_reducible refine Kd.C_alloc ?_ _) | (with_reducible refine Kd.C_drewN ?_ _) | (with_reducible refine Kd.C_drew ?_))); (case side4 => exact HC0.out); rintro e w51 ⟨rfl, hb⟩; have n0_ := Aside0.mk (Kd.R_below (by (with_reducible repeat (first | apply Kd.R_alloc | apply Kd.R_drewN | apply Kd.R_drew)); exact HO248.out) hb); have n1_ := Aside0.mk (Kd.V_below (by (with_reducible repeat (first | apply Kd.V_alloc | apply Kd.V_drewN | apply Kd.V_drew)); exact HO251.out) hb); have n2_ := Aside0.mk (Kd.V_below (by (with_reducible repeat (first | apply Kd.V_alloc | apply Kd.V_drewN | apply Kd.V_drew)); exact HO255.out) hb); have n3_ := Aside0.mk (Kd.V_below (by (with_reducible repeat (first | apply Kd.V_alloc | apply Kd.V_drewN | apply Kd.V_drew)); exact HO259.out) hb); have n4_ := Aside0.mk (Kd.V_below (by (with_reducible repeat (first | apply Kd.V_alloc | apply Kd.V_drewN | apply Kd.V_drew)); exact HO263.out) hb); have n5_ := Aside0.mk (Kd.V_below (by (with_reducible repeat (first | apply Kd.V_alloc | apply Kd.V_drewN | apply Kd.V_drew)); exact HO267.out) hb); have n6_ := Aside0.mk (Kd.R_below (by (with_reducible repeat (first | apply Kd.R_alloc | apply Kd.R_drewN | apply Kd.R_drew)); exact HO272.out) hb); have n7_ := Aside0.mk (below_step (by repeat (first | (with_reducible first | exact HB.out | apply below_alloc | apply pw_below_drewN | apply below_drew1) | exact HB.out)) hb); clear HO248; clear HO251; clear HO255; clear HO259; clear HO263; clear HO267; clear HO272; clear HB; have HO248 := n0_; have HO251 := n1_; have HO255 := n2_; have HO259 := n3_; have HO263 := n4_; have HO267 := n5_; have HO272 := n6_; have HB := n7_; clear n0_ n1_ n2_ n3_ n4_ n5_ n6_ n7_; (try clear hb); (try clear hb2); (try clear hk); (try clear hi); (first | have hcv52 := own_string (P := Try.prog) Try.underlying23 Try.underlying5 Try.underlying9 (Kd.own_of_R HO272.out) | have hcv52 := conv_V (P := Try.prog) Try.underlying23 Try.underlying5 Try.underlying9 HO272.out); (first | have hcv52b := fun n_ : Nat => own_string (P := Try.prog) Try.underlying23 Try.underlying5 Try.underlying9 (Kd.own_of_R (Kd.R_drewN HO272.out n_)) | have hcv52b := fun n_ : Nat => conv_V (P := Try.prog) Try.underlying23 Try.underlying5 Try.underlying9 (Kd.V_drewN HO272.out n_)); (try simp only [World.drewN_drewN] at hcv52b); (have hcv53 := Kd.C_string (P := Try.prog) (A := A1) (c := c1) Try.underlying23 Try.underlying5 Try.underlying9 (Kd.C_below HR1.out HB.out)); (have hcv53b := fun n_ : Nat => Kd.C_string (P := Try.prog) (A := A1) (c := c1) Try.underlying23 Try.underlying5 Try.underlying9 (Kd.C_drewN (Kd.C_below HR1.out HB.out) n_)); (try simp only [World.drewN_drewN] at hcv53b)))
                    go_ret
                    exact ⟨by first | rfl | (simp [errW_none, errW_some] <;> rfl) | (simp [*, errW_none, errW_some] <;> rfl), by repeat (first | (with_reducible first | exact HB.out | apply below_alloc | apply pw_below_drewN | apply below_drew1) | exact HB.out)⟩
                  · replace c33 := Bool.eq_false_iff.mpr c33
                    subst c33
                    have H1 : (none) = some r := by rw [if_neg (show ¬ (false = true) by decide)] at H; exact H
                    clear H
                    have H := H1
                    clear H1
                    exact absurd H (by simp)
                · replace c31 := Bool.eq_false_iff.mpr c31
                  subst c31
                  have H1 : (none) = some r := by rw [if_neg (show ¬ (false = true) by decide)] at H; exact H
                  clear H
                  have H := H1
                  clear H1
                  exact absurd H (by simp)
              · rw [if_neg c29] at H
                exact absurd H (by simp)
            · replace c28 := Bool.eq_false_iff.mpr c28
              subst c28
              have H1 : (none) = some r := by rw [if_neg (show ¬ (false = true) by decide)] at H; exact H
              clear H
              have H := H1
              clear H1
              exact absurd H (by simp)
          · rw [if_neg c21] at H
            exact absurd H (by simp)
        · rw [if_neg c20] at H
          exact absurd H (by simp)

end Go.Proofs.Ytcgeioingikeeaa.P
