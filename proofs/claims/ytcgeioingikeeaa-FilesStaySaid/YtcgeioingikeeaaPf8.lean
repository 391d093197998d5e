/- Written by a program of this seat (wip/tools/stage.py) out of the translation: what each function of this text returns, where its plain form returns. Lean checks it. -/
import Derived.Test.YtcgeioingikeeaaP0
import Derived.Test.YtcgeioingikeeaaPf16
import Derived.Test.YtcgeioingikeeaaPf21
import Derived.Test.YtcgeioingikeeaaPf27
import Derived.Test.YtcgeioingikeeaaH1
import Derived.Test.YtcgeioingikeeaaH3
import Derived.Test.YtcgeioingikeeaaS
namespace Go.Proofs.Ytcgeioingikeeaa.P
open Go.RowKit Go.Proofs.YtcgeioingikeeaaW.PrintWords Go.Proofs.YtcgeioingikeeaaW.PrintLast Go.Proofs.YtcgeioingikeeaaW.PrintMore
attribute [local go_sem] max2_int min2_int max_two min_two max_three min_three max_four min_four   -- for this text's walks alone
attribute [local go_sem] str_geq str_gtr str_leq
set_option linter.unusedVariables false
set_option linter.unusedSimpArgs false

/-! ### gambrellaw17_FilesMove: function 8 -/
def gambrellaw17_FilesMove.j0 : Nat → List (S38) → ByteArray → ByteArray → Bool → Bool → Option (Bool)
  | 0, _, _, _, _, _ => none
  | k + 1, x0, x1, x2, x7, x38 => if x38 = true then (some x7) else ((files_Move.f x0 x1 x2).bind fun bt373 => ((files_Get.f x0 x1).bind fun bt377 => (if (bt373.2 != bt377.2) = true then (none) else (if bt373.2 = true then ((files_Get.f bt373.1 x2).bind fun bt382 => ((files_Get.f bt373.1 x1).bind fun bt386 => ((files_Get.f x0 x2).bind fun bt390 => ((files_Move.f bt373.1 x2 x1).bind fun bt394 => (if x7 = true then (if bt382.2 = true then (if (strOfNums bt382.1).toList = (strOfNums bt377.1).toList then (if (bt386.2 == (x1.toList == x2.toList)) = true then (if bt394.2 = true then (if bt390.2 = true then (some true) else ((files_Same.f bt394.1 x0).bind fun t398 => (some t398))) else (none)) else (none)) else (none)) else (none)) else (none)))))) else (if x7 = true then ((files_Same.f bt373.1 x0).bind fun t381 => (some t381)) else (none))))))
def gambrellaw17_FilesMove.f (k : Nat) (l0 : List (S38)) (a1 : ByteArray) (a2 : ByteArray) : Option (Bool) := (gambrellaw17_awake.f).bind fun t370 => ((gambrelref17_Few.f k l0).bind fun t371 => (if t371 = true then ((files_May.f k l0).bind fun t372 => (if t372 = true then (if (a1.size : Int) > 60 then (gambrellaw17_FilesMove.j0 k l0 a1 a2 t370 true) else (gambrellaw17_FilesMove.j0 k l0 a1 a2 t370 (decide ((a2.size : Int) > 60)))) else (gambrellaw17_FilesMove.j0 k l0 a1 a2 t370 true))) else (gambrellaw17_FilesMove.j0 k l0 a1 a2 t370 true)))
theorem gambrellaw17_FilesMove.mono_l : ∀ k, (∀ y0 y1 y2 y3 y4, LeO (gambrellaw17_FilesMove.j0 k y0 y1 y2 y3 y4) (gambrellaw17_FilesMove.j0 (k + 1) y0 y1 y2 y3 y4))
  | 0 => fun _ _ _ _ _ r h => by simp [gambrellaw17_FilesMove.j0] at h
  | k + 1 => by
    have ih0 := gambrellaw17_FilesMove.mono_l k
    · intro y0 y1 y2 y3 y4
      unfold gambrellaw17_FilesMove.j0
      repeat' first
      | (with_reducible exact ih0 _ _ _ _ _)
      | (with_reducible exact files_May.mono _ _)
      | (with_reducible exact gambrelref17_Few.mono _ _)
      | (with_reducible exact LeO.refl _)
      | (with_reducible exact LeO.none _)
      | (with_reducible refine LeO.ite ?_ ?_)
      | (with_reducible refine LeO.bind ?_ (fun _ => ?_))
      | exact ih0 _ _ _ _ _
      | exact files_May.mono _ _
      | exact gambrelref17_Few.mono _ _
      | exact LeO.none _
      | refine LeO.ite ?_ ?_
      | refine LeO.bind ?_ (fun _ => ?_)
theorem gambrellaw17_FilesMove.mono : ∀ a0 a1 a2 k, LeO (gambrellaw17_FilesMove.f k a0 a1 a2) (gambrellaw17_FilesMove.f (k + 1) a0 a1 a2) := by
  intro a0 a1 a2 k
  have ih0 := gambrellaw17_FilesMove.mono_l k
  unfold gambrellaw17_FilesMove.f
  repeat' first
      | (with_reducible exact ih0 _ _ _ _ _)
      | (with_reducible exact files_May.mono _ _)
      | (with_reducible exact gambrelref17_Few.mono _ _)
      | (with_reducible exact LeO.refl _)
      | (with_reducible exact LeO.none _)
      | (with_reducible refine LeO.ite ?_ ?_)
      | (with_reducible refine LeO.bind ?_ (fun _ => ?_))
      | exact ih0 _ _ _ _ _
      | exact files_May.mono _ _
      | exact gambrelref17_Few.mono _ _
      | exact LeO.none _
      | refine LeO.ite ?_ ?_
      | refine LeO.bind ?_ (fun _ => ?_)
set_option maxHeartbeats 8000000 in
set_option maxRecDepth 100000 in
theorem gambrellaw17_FilesMove.calls (k : Nat) (A0 : Option Addr) (c0 : Nat) (l0 : List (S38)) (a1 : ByteArray) (a2 : ByteArray) (r : Bool) (w : World) (hr0 : Kd.C k38 w A0 l0.length l0) (hc0 : l0.length ≤ c0) (h : gambrellaw17_FilesMove.f k l0 a1 a2 = some r) :
    Calls Try.prog 8 #[.slice A0 l0.length c0, .string a1, .string a2] w fun e w' => e = .returned (.bool r) ∧ Below w.heap.size w w' := by
  have HR0 := Aside0.mk hr0
  have HC0 := Aside0.mk hc0
  clear hr0 hc0
  have HB := Aside0.mk (Below.refl w.heap.size w)
  have H : ((gambrellaw17_awake.f).bind fun t370 => ((gambrelref17_Few.f k l0).bind fun t371 => (if t371 = true then ((files_May.f k l0).bind fun t372 => (if t372 = true then (if (a1.size : Int) > 60 then (gambrellaw17_FilesMove.j0 k l0 a1 a2 t370 true) else (gambrellaw17_FilesMove.j0 k l0 a1 a2 t370 (decide ((a2.size : Int) > 60)))) else (gambrellaw17_FilesMove.j0 k l0 a1 a2 t370 true))) else (gambrellaw17_FilesMove.j0 k l0 a1 a2 t370 true)))) = some r := h
  clear h
  replace H := Option.bind_eq_some_iff.mp H
  obtain ⟨t370, A40, H⟩ := H
  replace H : ((gambrelref17_Few.f k l0).bind fun t371 => (if t371 = true then ((files_May.f k l0).bind fun t372 => (if t372 = true then (if (a1.size : Int) > 60 then (gambrellaw17_FilesMove.j0 k l0 a1 a2 t370 true) else (gambrellaw17_FilesMove.j0 k l0 a1 a2 t370 (decide ((a2.size : Int) > 60)))) else (gambrellaw17_FilesMove.j0 k l0 a1 a2 t370 true))) else (gambrellaw17_FilesMove.j0 k l0 a1 a2 t370 true))) = some r := H
  have A4 := Aside0.mk A40
  clear A40
  have HC5 := Aside0.mk H
  clear H
  go_enter Try.func8, Try.ntmps8
  go_upto_region 2 with (first | ((with_reducible refine gate_callee (f := 15) rfl ?_); refine goesL_ (some 20) rfl rfl Try.func15 (by kernel_rfl) rfl #[] rfl (by (try simp only [List.map_toArray, List.map_cons, List.map_nil]); first | done | rfl | (simp only [List.length_drop, List.length_take]; rfl)) ?_; (with_reducible refine (gambrellaw17_awake.calls  t370 _ A4.out).mono ?_); rintro e w6 ⟨rfl, hb⟩; refine ⟨_, rfl, ?_⟩; have n0_ := Aside0.mk (below_step (by repeat (first | (with_reducible first | exact HB.out | apply below_alloc | apply pw_below_drewN | apply below_drew1) | exact HB.out)) hb); clear HB; have HB := n0_; clear n0_; (try clear hb); (try clear hb2); (try clear hk); (try clear hi)))
  (try simp only [Act.put, List.setIfInBounds_toArray, List.set_cons_zero, List.set_cons_succ])
  go_cut [38] (fun v38 wc => ∃ (kq : Nat) (x38_4 : Bool), v38 = .bool x38_4 ∧ Aside0 (gambrellaw17_FilesMove.j0 kq l0 a1 a2 t370 x38_4 = some r) ∧ Aside0 (kq ≤ k) ∧ Aside0 (Below w.heap.size w wc))
  case first =>
    have H := HC5.out
    clear HC5
    replace H := Option.bind_eq_some_iff.mp H
    obtain ⟨t371, A70, H⟩ := H
    replace H : (if t371 = true then ((files_May.f k l0).bind fun t372 => (if t372 = true then (if (a1.size : Int) > 60 then (gambrellaw17_FilesMove.j0 k l0 a1 a2 t370 true) else (gambrellaw17_FilesMove.j0 k l0 a1 a2 t370 (decide ((a2.size : Int) > 60)))) else (gambrellaw17_FilesMove.j0 k l0 a1 a2 t370 true))) else (gambrellaw17_FilesMove.j0 k l0 a1 a2 t370 true)) = some r := H
    have A7 := Aside0.mk A70
    clear A70
    by_cases c8 : t371 = true
    · subst c8
      have H1 : ((files_May.f k l0).bind fun t372 => (if t372 = true then (if (a1.size : Int) > 60 then (gambrellaw17_FilesMove.j0 k l0 a1 a2 t370 true) else (gambrellaw17_FilesMove.j0 k l0 a1 a2 t370 (decide ((a2.size : Int) > 60)))) else (gambrellaw17_FilesMove.j0 k l0 a1 a2 t370 true))) = some r := by rw [if_pos rfl] at H; exact H
      clear H
      have H := H1
      clear H1
      replace H := Option.bind_eq_some_iff.mp H
      obtain ⟨t372, A90, H⟩ := H
      replace H : (if t372 = true then (if (a1.size : Int) > 60 then (gambrellaw17_FilesMove.j0 k l0 a1 a2 t370 true) else (gambrellaw17_FilesMove.j0 k l0 a1 a2 t370 (decide ((a2.size : Int) > 60)))) else (gambrellaw17_FilesMove.j0 k l0 a1 a2 t370 true)) = some r := H
      have A9 := Aside0.mk A90
      clear A90
      by_cases c10 : t372 = true
      · subst c10
        have H1 : (if (a1.size : Int) > 60 then (gambrellaw17_FilesMove.j0 k l0 a1 a2 t370 true) else (gambrellaw17_FilesMove.j0 k l0 a1 a2 t370 (decide ((a2.size : Int) > 60)))) = some r := by rw [if_pos rfl] at H; exact H
        clear H
        have H := H1
        clear H1
        by_cases c11 : (a1.size : Int) > 60
        · rw [if_pos c11] at H
          have c11b0 : decide (60 < (a1.size : Int)) = true := decide_eq_true c11
          have c11b1 : decide (60 < a1.size) = true := decide_eq_true (by omega)
          clear c11
          (first | rw [c11b0] | (simp only [i64_w, i32_w]; rw [c11b0]) | skip)
          have H' := Aside0.mk H
          clear H
          go_wp2_with (first | ((with_reducible refine gate_callee (f := 16) rfl ?_); refine goesL_ (some 22) rfl rfl Try.func16 (by kernel_rfl) rfl #[.slice A0 l0.length c0] rfl (by (try simp only [List.map_toArray, List.map_cons, List.map_nil]); first | done | rfl | (simp only [List.length_drop, List.length_take]; rfl)) ?_; (with_reducible refine (gambrelref17_Few.calls k _ _ l0 true _ ?side1 ?side2 A7.out).mono ?_); (case side1 => repeat (first | exact (Kd.C_below HR0.out HB.out) | (with_reducible refine Kd.C_alloc ?_ _) | (with_reducible refine Kd.C_drewN ?_ _) | (with_reducible refine Kd.C_drew ?_))); (case side2 => exact HC0.out); rintro e w' ⟨rfl, ⟨nd, rfl⟩⟩; refine ⟨_, rfl, ?_⟩) | (go_at_call 27; (with_reducible refine (files_May.calls k _ _ l0 true _ ?side1 ?side2 A9.out).mono ?_); (case side1 => repeat (first | exact (Kd.C_below HR0.out (by repeat (first | (with_reducible first | exact HB.out | apply below_alloc | apply pw_below_drewN | apply below_drew1) | exact HB.out))) | (with_reducible refine Kd.C_alloc ?_ _) | (with_reducible refine Kd.C_drewN ?_ _) | (with_reducible refine Kd.C_drew ?_))); (case side2 => exact HC0.out); rintro e w12 ⟨rfl, hb⟩; have n0_ := Aside0.mk (below_step (by repeat (first | (with_reducible first | exact HB.out | apply below_alloc | apply pw_below_drewN | apply below_drew1) | exact HB.out)) hb); clear HB; have HB := n0_; clear n0_; (try clear hb); (try clear hb2); (try clear hk); (try clear hi)))
          go_meet
          case rel => exact ⟨_, (true), (by first | rfl | (simp; done) | (simp [*]; done)), H', ⟨by first | omega | exact Nat.le_refl _⟩, ⟨by repeat (first | (with_reducible first | exact HB.out | apply below_alloc | apply pw_below_drewN | apply below_drew1) | exact HB.out)⟩⟩
        · rw [if_neg c11] at H
          have c11b0 : decide (60 < (a1.size : Int)) = false := decide_eq_false c11
          have c11b1 : decide (60 < a1.size) = false := decide_eq_false (by omega)
          clear c11
          (first | rw [c11b0] | (simp only [i64_w, i32_w]; rw [c11b0]) | skip)
          have H' := Aside0.mk H
          clear H
          go_wp2_with (first | ((with_reducible refine gate_callee (f := 16) rfl ?_); refine goesL_ (some 22) rfl rfl Try.func16 (by kernel_rfl) rfl #[.slice A0 l0.length c0] rfl (by (try simp only [List.map_toArray, List.map_cons, List.map_nil]); first | done | rfl | (simp only [List.length_drop, List.length_take]; rfl)) ?_; (with_reducible refine (gambrelref17_Few.calls k _ _ l0 true _ ?side1 ?side2 A7.out).mono ?_); (case side1 => repeat (first | exact (Kd.C_below HR0.out HB.out) | (with_reducible refine Kd.C_alloc ?_ _) | (with_reducible refine Kd.C_drewN ?_ _) | (with_reducible refine Kd.C_drew ?_))); (case side2 => exact HC0.out); rintro e w' ⟨rfl, ⟨nd, rfl⟩⟩; refine ⟨_, rfl, ?_⟩) | (go_at_call 27; (with_reducible refine (files_May.calls k _ _ l0 true _ ?side1 ?side2 A9.out).mono ?_); (case side1 => repeat (first | exact (Kd.C_below HR0.out (by repeat (first | (with_reducible first | exact HB.out | apply below_alloc | apply pw_below_drewN | apply below_drew1) | exact HB.out))) | (with_reducible refine Kd.C_alloc ?_ _) | (with_reducible refine Kd.C_drewN ?_ _) | (with_reducible refine Kd.C_drew ?_))); (case side2 => exact HC0.out); rintro e w13 ⟨rfl, hb⟩; have n0_ := Aside0.mk (below_step (by repeat (first | (with_reducible first | exact HB.out | apply below_alloc | apply pw_below_drewN | apply below_drew1) | exact HB.out)) hb); clear HB; have HB := n0_; clear n0_; (try clear hb); (try clear hb2); (try clear hk); (try clear hi)))
          go_meet
          case rel => exact ⟨_, (decide ((a2.size : Int) > 60)), (by first | rfl | (simp; done) | (simp [*]; done)), H', ⟨by first | omega | exact Nat.le_refl _⟩, ⟨by repeat (first | (with_reducible first | exact HB.out | apply below_alloc | apply pw_below_drewN | apply below_drew1) | exact HB.out)⟩⟩
      · replace c10 := Bool.eq_false_iff.mpr c10
        subst c10
        have H1 : (gambrellaw17_FilesMove.j0 k l0 a1 a2 t370 true) = some r := by rw [if_neg (show ¬ (false = true) by decide)] at H; exact H
        clear H
        have H := H1
        clear H1
        have H' := Aside0.mk H
        clear H
        go_wp2_with (first | ((with_reducible refine gate_callee (f := 16) rfl ?_); refine goesL_ (some 22) rfl rfl Try.func16 (by kernel_rfl) rfl #[.slice A0 l0.length c0] rfl (by (try simp only [List.map_toArray, List.map_cons, List.map_nil]); first | done | rfl | (simp only [List.length_drop, List.length_take]; rfl)) ?_; (with_reducible refine (gambrelref17_Few.calls k _ _ l0 true _ ?side1 ?side2 A7.out).mono ?_); (case side1 => repeat (first | exact (Kd.C_below HR0.out HB.out) | (with_reducible refine Kd.C_alloc ?_ _) | (with_reducible refine Kd.C_drewN ?_ _) | (with_reducible refine Kd.C_drew ?_))); (case side2 => exact HC0.out); rintro e w' ⟨rfl, ⟨nd, rfl⟩⟩; refine ⟨_, rfl, ?_⟩) | (go_at_call 27; (with_reducible refine (files_May.calls k _ _ l0 false _ ?side1 ?side2 A9.out).mono ?_); (case side1 => repeat (first | exact (Kd.C_below HR0.out (by repeat (first | (with_reducible first | exact HB.out | apply below_alloc | apply pw_below_drewN | apply below_drew1) | exact HB.out))) | (with_reducible refine Kd.C_alloc ?_ _) | (with_reducible refine Kd.C_drewN ?_ _) | (with_reducible refine Kd.C_drew ?_))); (case side2 => exact HC0.out); rintro e w14 ⟨rfl, hb⟩; have n0_ := Aside0.mk (below_step (by repeat (first | (with_reducible first | exact HB.out | apply below_alloc | apply pw_below_drewN | apply below_drew1) | exact HB.out)) hb); clear HB; have HB := n0_; clear n0_; (try clear hb); (try clear hb2); (try clear hk); (try clear hi)))
        go_meet
        case rel => exact ⟨_, (true), (by first | rfl | (simp; done) | (simp [*]; done)), H', ⟨by first | omega | exact Nat.le_refl _⟩, ⟨by repeat (first | (with_reducible first | exact HB.out | apply below_alloc | apply pw_below_drewN | apply below_drew1) | exact HB.out)⟩⟩
    · replace c8 := Bool.eq_false_iff.mpr c8
      subst c8
      have H1 : (gambrellaw17_FilesMove.j0 k l0 a1 a2 t370 true) = some r := by rw [if_neg (show ¬ (false = true) by decide)] at H; exact H
      clear H
      have H := H1
      clear H1
      have H' := Aside0.mk H
      clear H
      go_wp2_with (first | ((with_reducible refine gate_callee (f := 16) rfl ?_); refine goesL_ (some 22) rfl rfl Try.func16 (by kernel_rfl) rfl #[.slice A0 l0.length c0] rfl (by (try simp only [List.map_toArray, List.map_cons, List.map_nil]); first | done | rfl | (simp only [List.length_drop, List.length_take]; rfl)) ?_; (with_reducible refine (gambrelref17_Few.calls k _ _ l0 false _ ?side1 ?side2 A7.out).mono ?_); (case side1 => repeat (first | exact (Kd.C_below HR0.out HB.out) | (with_reducible refine Kd.C_alloc ?_ _) | (with_reducible refine Kd.C_drewN ?_ _) | (with_reducible refine Kd.C_drew ?_))); (case side2 => exact HC0.out); rintro e w' ⟨rfl, ⟨nd, rfl⟩⟩; refine ⟨_, rfl, ?_⟩))
      go_meet
      case rel => exact ⟨_, (true), (by first | rfl | (simp; done) | (simp [*]; done)), H', ⟨by first | omega | exact Nat.le_refl _⟩, ⟨by repeat (first | (with_reducible first | exact HB.out | apply below_alloc | apply pw_below_drewN | apply below_drew1) | exact HB.out)⟩⟩
  case rest =>
    clear HC5
    try clear c1
    try clear p2
    try clear c8
    try clear c10
    try clear c11
    try clear c11b0
    try clear c11b1
    obtain ⟨kq, x38_4, rfl, HA, HJ4, HB⟩ := hcut
    cases kq with
    | zero => exact absurd HA.out (by simp [gambrellaw17_FilesMove.j0])
    | succ kj4 =>
      have H := HA.out
      clear HA
      simp only [gambrellaw17_FilesMove.j0] at H
      by_cases c15 : x38_4 = true
      · subst c15
        have H1 : (some t370) = some r := by rw [if_pos rfl] at H; exact H
        clear H
        have H := H1
        clear H1
        obtain rfl := Option.some.inj H
        go_wp2
        go_ret
        exact ⟨by first | rfl | (simp [errW_none, errW_some] <;> rfl) | (simp [*, errW_none, errW_some] <;> rfl), by repeat (first | (with_reducible first | exact HB.out | apply below_alloc | apply pw_below_drewN | apply below_drew1) | exact HB.out)⟩
      · replace c15 := Bool.eq_false_iff.mpr c15
        subst c15
        have H1 : ((files_Move.f l0 a1 a2).bind fun bt373 => ((files_Get.f l0 a1).bind fun bt377 => (if (bt373.2 != bt377.2) = true then (none) else (if bt373.2 = true then ((files_Get.f bt373.1 a2).bind fun bt382 => ((files_Get.f bt373.1 a1).bind fun bt386 => ((files_Get.f l0 a2).bind fun bt390 => ((files_Move.f bt373.1 a2 a1).bind fun bt394 => (if t370 = true then (if bt382.2 = true then (if (strOfNums bt382.1).toList = (strOfNums bt377.1).toList then (if (bt386.2 == (a1.toList == a2.toList)) = true then (if bt394.2 = true then (if bt390.2 = true then (some true) else ((files_Same.f bt394.1 l0).bind fun t398 => (some t398))) else (none)) else (none)) else (none)) else (none)) else (none)))))) else (if t370 = true then ((files_Same.f bt373.1 l0).bind fun t381 => (some t381)) else (none)))))) = some r := by rw [if_neg (show ¬ (false = true) by decide)] at H; exact H
        clear H
        have H := H1
        clear H1
        replace H := Option.bind_eq_some_iff.mp H
        obtain ⟨⟨t373, t376⟩, A160, H⟩ := H
        replace H : ((files_Get.f l0 a1).bind fun bt377 => (if (t376 != bt377.2) = true then (none) else (if t376 = true then ((files_Get.f t373 a2).bind fun bt382 => ((files_Get.f t373 a1).bind fun bt386 => ((files_Get.f l0 a2).bind fun bt390 => ((files_Move.f t373 a2 a1).bind fun bt394 => (if t370 = true then (if bt382.2 = true then (if (strOfNums bt382.1).toList = (strOfNums bt377.1).toList then (if (bt386.2 == (a1.toList == a2.toList)) = true then (if bt394.2 = true then (if bt390.2 = true then (some true) else ((files_Same.f bt394.1 l0).bind fun t398 => (some t398))) else (none)) else (none)) else (none)) else (none)) else (none)))))) else (if t370 = true then ((files_Same.f t373 l0).bind fun t381 => (some t381)) else (none))))) = some r := H
        have A16 := Aside0.mk A160
        clear A160
        replace H := Option.bind_eq_some_iff.mp H
        obtain ⟨⟨t377, t378⟩, A170, H⟩ := H
        replace H : (if (t376 != t378) = true then (none) else (if t376 = true then ((files_Get.f t373 a2).bind fun bt382 => ((files_Get.f t373 a1).bind fun bt386 => ((files_Get.f l0 a2).bind fun bt390 => ((files_Move.f t373 a2 a1).bind fun bt394 => (if t370 = true then (if bt382.2 = true then (if (strOfNums bt382.1).toList = (strOfNums t377).toList then (if (bt386.2 == (a1.toList == a2.toList)) = true then (if bt394.2 = true then (if bt390.2 = true then (some true) else ((files_Same.f bt394.1 l0).bind fun t398 => (some t398))) else (none)) else (none)) else (none)) else (none)) else (none)))))) else (if t370 = true then ((files_Same.f t373 l0).bind fun t381 => (some t381)) else (none)))) = some r := H
        have A17 := Aside0.mk A170
        clear A170
        by_cases c18 : (t376 != t378) = true
        · rw [if_pos c18] at H
          exact absurd H (by simp)
        · rw [if_neg c18] at H
          have c18b0 : (t376 != t378) = false := by simpa using c18
          (try (have c18b1 : decide (t376 = t378) = true := by simpa using c18))
          (try (have c18b2 : (t376 == t378) = true := by simpa using c18))
          clear c18
          by_cases c19 : t376 = true
          · subst c19
            have H1 : ((files_Get.f t373 a2).bind fun bt382 => ((files_Get.f t373 a1).bind fun bt386 => ((files_Get.f l0 a2).bind fun bt390 => ((files_Move.f t373 a2 a1).bind fun bt394 => (if t370 = true then (if bt382.2 = true then (if (strOfNums bt382.1).toList = (strOfNums t377).toList then (if (bt386.2 == (a1.toList == a2.toList)) = true then (if bt394.2 = true then (if bt390.2 = true then (some true) else ((files_Same.f bt394.1 l0).bind fun t398 => (some t398))) else (none)) else (none)) else (none)) else (none)) else (none)))))) = some r := by rw [if_pos rfl] at H; exact H
            clear H
            have H := H1
            clear H1
            replace H := Option.bind_eq_some_iff.mp H
            obtain ⟨⟨t382, t383⟩, A200, H⟩ := H
            replace H : ((files_Get.f t373 a1).bind fun bt386 => ((files_Get.f l0 a2).bind fun bt390 => ((files_Move.f t373 a2 a1).bind fun bt394 => (if t370 = true then (if t383 = true then (if (strOfNums t382).toList = (strOfNums t377).toList then (if (bt386.2 == (a1.toList == a2.toList)) = true then (if bt394.2 = true then (if bt390.2 = true then (some true) else ((files_Same.f bt394.1 l0).bind fun t398 => (some t398))) else (none)) else (none)) else (none)) else (none)) else (none))))) = some r := H
            have A20 := Aside0.mk A200
            clear A200
            replace H := Option.bind_eq_some_iff.mp H
            obtain ⟨⟨t386, t387⟩, A210, H⟩ := H
            replace H : ((files_Get.f l0 a2).bind fun bt390 => ((files_Move.f t373 a2 a1).bind fun bt394 => (if t370 = true then (if t383 = true then (if (strOfNums t382).toList = (strOfNums t377).toList then (if (t387 == (a1.toList == a2.toList)) = true then (if bt394.2 = true then (if bt390.2 = true then (some true) else ((files_Same.f bt394.1 l0).bind fun t398 => (some t398))) else (none)) else (none)) else (none)) else (none)) else (none)))) = some r := H
            have A21 := Aside0.mk A210
            clear A210
            replace H := Option.bind_eq_some_iff.mp H
            obtain ⟨⟨t390, t391⟩, A220, H⟩ := H
            replace H : ((files_Move.f t373 a2 a1).bind fun bt394 => (if t370 = true then (if t383 = true then (if (strOfNums t382).toList = (strOfNums t377).toList then (if (t387 == (a1.toList == a2.toList)) = true then (if bt394.2 = true then (if t391 = true then (some true) else ((files_Same.f bt394.1 l0).bind fun t398 => (some t398))) else (none)) else (none)) else (none)) else (none)) else (none))) = some r := H
            have A22 := Aside0.mk A220
            clear A220
            replace H := Option.bind_eq_some_iff.mp H
            obtain ⟨⟨t394, t397⟩, A230, H⟩ := H
            replace H : (if t370 = true then (if t383 = true then (if (strOfNums t382).toList = (strOfNums t377).toList then (if (t387 == (a1.toList == a2.toList)) = true then (if t397 = true then (if t391 = true then (some true) else ((files_Same.f t394 l0).bind fun t398 => (some t398))) else (none)) else (none)) else (none)) else (none)) else (none)) = some r := H
            have A23 := Aside0.mk A230
            clear A230
            by_cases c24 : t370 = true
            · subst c24
              have H1 : (if t383 = true then (if (strOfNums t382).toList = (strOfNums t377).toList then (if (t387 == (a1.toList == a2.toList)) = true then (if t397 = true then (if t391 = true then (some true) else ((files_Same.f t394 l0).bind fun t398 => (some t398))) else (none)) else (none)) else (none)) else (none)) = some r := by rw [if_pos rfl] at H; exact H
              clear H
              have H := H1
              clear H1
              by_cases c25 : t383 = true
              · subst c25
                have H1 : (if (strOfNums t382).toList = (strOfNums t377).toList then (if (t387 == (a1.toList == a2.toList)) = true then (if t397 = true then (if t391 = true then (some true) else ((files_Same.f t394 l0).bind fun t398 => (some t398))) else (none)) else (none)) else (none)) = some r := by rw [if_pos rfl] at H; exact H
                clear H
                have H := H1
                clear H1
                by_cases c26 : (strOfNums t382).toList = (strOfNums t377).toList
                · rw [if_pos c26] at H
                  have c26b0 : ((strOfNums t382).toList == (strOfNums t377).toList) = true := beq_iff_eq.mpr c26
                  have c26b1 : ((strOfNums t382).toList != (strOfNums t377).toList) = false := bne_eq_false_iff_eq.mpr c26
                  clear c26
                  by_cases c27 : (t387 == (a1.toList == a2.toList)) = true
                  · rw [if_pos c27] at H
                    have c27b0 : (t387 == (a1.toList == a2.toList)) = true := c27
                    (try (have c27b1 : decide (t387 = (a1.toList == a2.toList)) = true := by simpa using c27))
                    (try (have c27b2 : (t387 == (a1.toList == a2.toList)) = true := by simpa using c27))
                    clear c27
                    by_cases c28 : t397 = true
                    · subst c28
                      have H1 : (if t391 = true then (some true) else ((files_Same.f t394 l0).bind fun t398 => (some t398))) = some r := by rw [if_pos rfl] at H; exact H
                      clear H
                      have H := H1
                      clear H1
                      by_cases c29 : t391 = true
                      · subst c29
                        have H1 : (some true) = some r := by rw [if_pos rfl] at H; exact H
                        clear H
                        have H := H1
                        clear H1
                        obtain rfl := Option.some.inj H
                        go_wp2_with (first | ((with_reducible refine gate_callee (f := 21) rfl ?_); refine goesL_ (some 44) rfl rfl Try.func21 (by kernel_rfl) rfl #[.slice A0 l0.length c0, .string a1, .string a2] rfl (by (try simp only [List.map_toArray, List.map_cons, List.map_nil]); first | done | rfl | (simp only [List.length_drop, List.length_take]; rfl)) ?_; (with_reducible refine (files_Move.calls (fun k_ => k_ < w.heap.size) _ _ l0 a1 a2 t373 true _ ?side1 A16.out).mono ?_); (case side1 => exact Kd.V_mk HC0.out (Kd.F_below (Kd.C_F k38_heap HR0.out) (by repeat (first | (with_reducible first | exact HB.out | apply below_alloc | apply pw_below_drewN | apply below_drew1) | exact HB.out)))); rintro e w30 ⟨v374, rfl, ho0, hb⟩; refine ⟨_, rfl, ?_⟩; have n0_ := Aside0.mk (Kd.V_lower (Kd.V_mono (ok' := fun k_ => True) ho0 (fun k_ hk_ => trivial)) (below_size (by repeat (first | (with_reducible first | exact HB.out | apply below_alloc | apply pw_below_drewN | apply below_drew1) | exact HB.out)))); have n1_ := Aside0.mk (below_step (by repeat (first | (with_reducible first | exact HB.out | apply below_alloc | apply pw_below_drewN | apply below_drew1) | exact HB.out)) hb); clear HB; have HO375 := n0_; have HB := n1_; clear n0_ n1_; (try clear hb); (try clear hb2); (try clear hk); (try clear hi); (try clear ho0)) | ((with_reducible refine gate_callee (f := 28) rfl ?_); refine goesL_ (some 50) rfl rfl Try.func28 (by kernel_rfl) rfl #[.slice A0 l0.length c0, .string a1] rfl (by (try simp only [List.map_toArray, List.map_cons, List.map_nil]); first | done | rfl | (simp only [List.length_drop, List.length_take]; rfl)) ?_; (with_reducible refine (files_Get.calls _ _ l0 a1 t377 t378 _ ?side1 ?side2 A17.out).mono ?_); (case side1 => repeat (first | exact (Kd.C_below HR0.out HB.out) | (with_reducible refine Kd.C_alloc ?_ _) | (with_reducible refine Kd.C_drewN ?_ _) | (with_reducible refine Kd.C_drew ?_))); (case side2 => exact HC0.out); rintro e w31 ⟨v379, rfl, ho0, hb⟩; refine ⟨_, rfl, ?_⟩; have n0_ := Aside0.mk (Kd.V_elder' (by (with_reducible repeat (first | apply Kd.V_alloc | apply Kd.V_drewN | apply Kd.V_drew)); exact HO375.out) (Kd.R_base ho0) hb); have n1_ := Aside0.mk (Kd.R_lower ho0 (below_size (by repeat (first | (with_reducible first | exact HB.out | apply below_alloc | apply pw_below_drewN | apply below_drew1) | exact HB.out)))); have n2_ := Aside0.mk (below_step (by repeat (first | (with_reducible first | exact HB.out | apply below_alloc | apply pw_below_drewN | apply below_drew1) | exact HB.out)) hb); clear HO375; clear HB; have HO375 := n0_; have HO380 := n1_; have HB := n2_; clear n0_ n1_ n2_; (try clear hb); (try clear hb2); (try clear hk); (try clear hi); (try clear ho0); obtain ⟨Ao32, co32, eo32⟩ := Kd.V_slice HO375.out; subst eo32) | ((with_reducible refine gate_callee (f := 28) rfl ?_); refine goesL_ (some 67) rfl rfl Try.func28 (by kernel_rfl) rfl #[.slice Ao32 t373.length co32, .string a2] rfl (by (try simp only [List.map_toArray, List.map_cons, List.map_nil]); first | done | rfl | (simp only [List.length_drop, List.length_take]; rfl)) ?_; (with_reducible refine (files_Get.calls _ _ t373 a2 t382 true _ ?side1 ?side2 A20.out).mono ?_); (case side1 => repeat (first | exact (Kd.V_reads' HO375.out).2.2 | (with_reducible refine Kd.C_alloc ?_ _) | (with_reducible refine Kd.C_drewN ?_ _) | (with_reducible refine Kd.C_drew ?_))); (case side2 => exact (Kd.V_reads' HO375.out).2.1); rintro e w33 ⟨v384, rfl, ho0, hb⟩; refine ⟨_, rfl, ?_⟩; have n0_ := Aside0.mk (Kd.V_elder' (by (with_reducible repeat (first | apply Kd.V_alloc | apply Kd.V_drewN | apply Kd.V_drew)); exact HO375.out) (Kd.R_base ho0) hb); have n1_ := Aside0.mk (Kd.R_elder' (by (with_reducible repeat (first | apply Kd.R_alloc | apply Kd.R_drewN | apply Kd.R_drew)); exact HO380.out) (Kd.R_base ho0) hb); have n2_ := Aside0.mk (Kd.R_lower (Kd.R_new' ho0 (Kd.R_lt (by (with_reducible repeat (first | apply Kd.R_alloc | apply Kd.R_drewN | apply Kd.R_drew)); exact HO380.out))) (below_size (by repeat (first | (with_reducible first | exact HB.out | apply below_alloc | apply pw_below_drewN | apply below_drew1) | exact HB.out)))); have n3_ := Aside0.mk (below_step (by repeat (first | (with_reducible first | exact HB.out | apply below_alloc | apply pw_below_drewN | apply below_drew1) | exact HB.out)) hb); clear HO375; clear HO380; clear HB; have HO375 := n0_; have HO380 := n1_; have HO385 := n2_; have HB := n3_; clear n0_ n1_ n2_ n3_; (try clear hb); (try clear hb2); (try clear hk); (try clear hi); (try clear ho0)) | ((with_reducible refine gate_callee (f := 28) rfl ?_); refine goesL_ (some 73) rfl rfl Try.func28 (by kernel_rfl) rfl #[.slice Ao32 t373.length co32, .string a1] rfl (by (try simp only [List.map_toArray, List.map_cons, List.map_nil]); first | done | rfl | (simp only [List.length_drop, List.length_take]; rfl)) ?_; (with_reducible refine (files_Get.calls _ _ t373 a1 t386 t387 _ ?side1 ?side2 A21.out).mono ?_); (case side1 => repeat (first | exact (Kd.V_reads' HO375.out).2.2 | (with_reducible refine Kd.C_alloc ?_ _) | (with_reducible refine Kd.C_drewN ?_ _) | (with_reducible refine Kd.C_drew ?_))); (case side2 => exact (Kd.V_reads' HO375.out).2.1); rintro e w34 ⟨v388, rfl, ho0, hb⟩; refine ⟨_, rfl, ?_⟩; have n0_ := Aside0.mk (Kd.V_elder' (by (with_reducible repeat (first | apply Kd.V_alloc | apply Kd.V_drewN | apply Kd.V_drew)); exact HO375.out) (Kd.R_base ho0) hb); have n1_ := Aside0.mk (Kd.R_elder' (by (with_reducible repeat (first | apply Kd.R_alloc | apply Kd.R_drewN | apply Kd.R_drew)); exact HO380.out) (Kd.R_base ho0) hb); have n2_ := Aside0.mk (Kd.R_elder' (by (with_reducible repeat (first | apply Kd.R_alloc | apply Kd.R_drewN | apply Kd.R_drew)); exact HO385.out) (Kd.R_base ho0) hb); have n3_ := Aside0.mk (Kd.R_lower (Kd.R_new' (Kd.R_new' ho0 (Kd.R_lt (by (with_reducible repeat (first | apply Kd.R_alloc | apply Kd.R_drewN | apply Kd.R_drew)); exact HO380.out))) (Kd.R_lt (by (with_reducible repeat (first | apply Kd.R_alloc | apply Kd.R_drewN | apply Kd.R_drew)); exact HO385.out))) (below_size (by repeat (first | (with_reducible first | exact HB.out | apply below_alloc | apply pw_below_drewN | apply below_drew1) | exact HB.out)))); have n4_ := Aside0.mk (below_step (by repeat (first | (with_reducible first | exact HB.out | apply below_alloc | apply pw_below_drewN | apply below_drew1) | exact HB.out)) hb); clear HO375; clear HO380; clear HO385; clear HB; have HO375 := n0_; have HO380 := n1_; have HO385 := n2_; have HO389 := n3_; have HB := n4_; clear n0_ n1_ n2_ n3_ n4_; (try clear hb); (try clear hb2); (try clear hk); (try clear hi); (try clear ho0)) | ((with_reducible refine gate_callee (f := 28) rfl ?_); refine goesL_ (some 79) rfl rfl Try.func28 (by kernel_rfl) rfl #[.slice A0 l0.length c0, .string a2] rfl (by (try simp only [List.map_toArray, List.map_cons, List.map_nil]); first | done | rfl | (simp only [List.length_drop, List.length_take]; rfl)) ?_; (with_reducible refine (files_Get.calls _ _ l0 a2 t390 true _ ?side1 ?side2 A22.out).mono ?_); (case side1 => repeat (first | exact (Kd.C_below HR0.out HB.out) | (with_reducible refine Kd.C_alloc ?_ _) | (with_reducible refine Kd.C_drewN ?_ _) | (with_reducible refine Kd.C_drew ?_))); (case side2 => exact HC0.out); rintro e w35 ⟨v392, rfl, ho0, hb⟩; refine ⟨_, rfl, ?_⟩; have n0_ := Aside0.mk (Kd.V_elder' (by (with_reducible repeat (first | apply Kd.V_alloc | apply Kd.V_drewN | apply Kd.V_drew)); exact HO375.out) (Kd.R_base ho0) hb); have n1_ := Aside0.mk (Kd.R_elder' (by (with_reducible repeat (first | apply Kd.R_alloc | apply Kd.R_drewN | apply Kd.R_drew)); exact HO380.out) (Kd.R_base ho0) hb); have n2_ := Aside0.mk (Kd.R_elder' (by (with_reducible repeat (first | apply Kd.R_alloc | apply Kd.R_drewN | apply Kd.R_drew)); exact HO385.out) (Kd.R_base ho0) hb); have n3_ := Aside0.mk (Kd.R_elder' (by (with_reducible repeat (first | apply Kd.R_alloc | apply Kd.R_drewN | apply Kd.R_drew)); exact HO389.out) (Kd.R_base ho0) hb); have n4_ := Aside0.mk (Kd.R_lower (Kd.R_new' (Kd.R_new' (Kd.R_new' ho0 (Kd.R_lt (by (with_reducible repeat (first | apply Kd.R_alloc | apply Kd.R_drewN | apply Kd.R_drew)); exact HO380.out))) (Kd.R_lt (by (with_reducible repeat (first | apply Kd.R_alloc | apply Kd.R_drewN | apply Kd.R_drew)); exact HO385.out))) (Kd.R_lt (by (with_reducible repeat (first | apply Kd.R_alloc | apply Kd.R_drewN | apply Kd.R_drew)); exact HO389.out))) (below_size (by repeat (first | (with_reducible first | exact HB.out | apply below_alloc | apply pw_below_drewN | apply below_drew1) | exact HB.out)))); have n5_ := Aside0.mk (below_step (by repeat (first | (with_reducible first | exact HB.out | apply below_alloc | apply pw_below_drewN | apply below_drew1) | exact HB.out)) hb); clear HO375; clear HO380; clear HO385; clear HO389; clear HB; have HO375 := n0_; have HO380 := n1_; have HO385 := n2_; have HO389 := n3_; have HO393 := n4_; have HB := n5_; clear n0_ n1_ n2_ n3_ n4_ n5_; (try clear hb); (try clear hb2); (try clear hk); (try clear hi); (try clear ho0)) | ((with_reducible refine gate_callee (f := 21) rfl ?_); refine goesL_ (some 86) rfl rfl Try.func21 (by kernel_rfl) rfl #[.slice Ao32 t373.length co32, .string a2, .string a1] rfl (by (try simp only [List.map_toArray, List.map_cons, List.map_nil]); first | done | rfl | (simp only [List.length_drop, List.length_take]; rfl)) ?_; (with_reducible refine (files_Move.calls (fun k_ => ((((True ∧ some k_ ≠ (v379 : Value).ownBlock) ∧ some k_ ≠ (v384 : Value).ownBlock) ∧ some k_ ≠ (v388 : Value).ownBlock) ∧ some k_ ≠ (v392 : Value).ownBlock)) _ _ t373 a2 a1 t394 true _ ?side1 A23.out).mono ?_); (case side1 => exact HO375.out); rintro e w36 ⟨v395, rfl, ho0, hb⟩; refine ⟨_, rfl, ?_⟩; have n0_ := Aside0.mk (Kd.V_below (by (with_reducible repeat (first | apply Kd.V_alloc | apply Kd.V_drewN | apply Kd.V_drew)); exact HO375.out) hb); have n1_ := Aside0.mk (Kd.R_below (by (with_reducible repeat (first | apply Kd.R_alloc | apply Kd.R_drewN | apply Kd.R_drew)); exact HO380.out) hb); have n2_ := Aside0.mk (Kd.R_below (by (with_reducible repeat (first | apply Kd.R_alloc | apply Kd.R_drewN | apply Kd.R_drew)); exact HO385.out) hb); have n3_ := Aside0.mk (Kd.R_below (by (with_reducible repeat (first | apply Kd.R_alloc | apply Kd.R_drewN | apply Kd.R_drew)); exact HO389.out) hb); have n4_ := Aside0.mk (Kd.R_below (by (with_reducible repeat (first | apply Kd.R_alloc | apply Kd.R_drewN | apply Kd.R_drew)); exact HO393.out) hb); have n5_ := Aside0.mk (Kd.V_lower (Kd.V_mono (ok' := fun k_ => some k_ ≠ (v379 : Value).ownBlock ∧ some k_ ≠ (v384 : Value).ownBlock ∧ some k_ ≠ (v388 : Value).ownBlock ∧ some k_ ≠ (v392 : Value).ownBlock) ho0 (fun k_ hk_ => ⟨Or.elim hk_ (fun hs_ => hs_.1.1.1.2) (fun hn_ => (Kd.fresh' (Kd.R_lt (by (with_reducible repeat (first | apply Kd.R_alloc | apply Kd.R_drewN | apply Kd.R_drew)); exact HO380.out)) k_ hn_)), Or.elim hk_ (fun hs_ => hs_.1.1.2) (fun hn_ => (Kd.fresh' (Kd.R_lt (by (with_reducible repeat (first | apply Kd.R_alloc | apply Kd.R_drewN | apply Kd.R_drew)); exact HO385.out)) k_ hn_)), Or.elim hk_ (fun hs_ => hs_.1.2) (fun hn_ => (Kd.fresh' (Kd.R_lt (by (with_reducible repeat (first | apply Kd.R_alloc | apply Kd.R_drewN | apply Kd.R_drew)); exact HO389.out)) k_ hn_)), Or.elim hk_ (fun hs_ => hs_.2) (fun hn_ => (Kd.fresh' (Kd.R_lt (by (with_reducible repeat (first | apply Kd.R_alloc | apply Kd.R_drewN | apply Kd.R_drew)); exact HO393.out)) k_ hn_))⟩)) (below_size (by repeat (first | (with_reducible first | exact HB.out | apply below_alloc | apply pw_below_drewN | apply below_drew1) | exact HB.out)))); have n6_ := Aside0.mk (below_step (by repeat (first | (with_reducible first | exact HB.out | apply below_alloc | apply pw_below_drewN | apply below_drew1) | exact HB.out)) hb); clear HO375; clear HO380; clear HO385; clear HO389; clear HO393; clear HB; have HO375 := n0_; have HO380 := n1_; have HO385 := n2_; have HO389 := n3_; have HO393 := n4_; have HO396 := n5_; have HB := n6_; clear n0_ n1_ n2_ n3_ n4_ n5_ n6_; (try clear hb); (try clear hb2); (try clear hk); (try clear hi); (try clear ho0); (first | have hcv37 := own_string (P := Try.prog) Try.underlying23 Try.underlying5 Try.underlying9 (Kd.own_of_R HO385.out) | have hcv37 := conv_V (P := Try.prog) Try.underlying23 Try.underlying5 Try.underlying9 HO385.out); (first | have hcv37b := fun n_ : Nat => own_string (P := Try.prog) Try.underlying23 Try.underlying5 Try.underlying9 (Kd.own_of_R (Kd.R_drewN HO385.out n_)) | have hcv37b := fun n_ : Nat => conv_V (P := Try.prog) Try.underlying23 Try.underlying5 Try.underlying9 (Kd.V_drewN HO385.out n_)); (try simp only [World.drewN_drewN] at hcv37b); (first | have hcv38 := own_string (P := Try.prog) Try.underlying23 Try.underlying5 Try.underlying9 (Kd.own_of_R HO380.out) | have hcv38 := conv_V (P := Try.prog) Try.underlying23 Try.underlying5 Try.underlying9 HO380.out); (first | have hcv38b := fun n_ : Nat => own_string (P := Try.prog) Try.underlying23 Try.underlying5 Try.underlying9 (Kd.own_of_R (Kd.R_drewN HO380.out n_)) | have hcv38b := fun n_ : Nat => conv_V (P := Try.prog) Try.underlying23 Try.underlying5 Try.underlying9 (Kd.V_drewN HO380.out n_)); (try simp only [World.drewN_drewN] at hcv38b)))
                        go_ret
                        exact ⟨by first | rfl | (simp [errW_none, errW_some] <;> rfl) | (simp [*, errW_none, errW_some] <;> rfl), by repeat (first | (with_reducible first | exact HB.out | apply below_alloc | apply pw_below_drewN | apply below_drew1) | exact HB.out)⟩
                      · replace c29 := Bool.eq_false_iff.mpr c29
                        subst c29
                        have H1 : ((files_Same.f t394 l0).bind fun t398 => (some t398)) = some r := by rw [if_neg (show ¬ (false = true) by decide)] at H; exact H
                        clear H
                        have H := H1
                        clear H1
                        replace H := Option.bind_eq_some_iff.mp H
                        obtain ⟨t398, A390, H⟩ := H
                        replace H : (some t398) = some r := H
                        have A39 := Aside0.mk A390
                        clear A390
                        obtain rfl := Option.some.inj H
                        go_wp2_with (first | ((with_reducible refine gate_callee (f := 21) rfl ?_); refine goesL_ (some 44) rfl rfl Try.func21 (by kernel_rfl) rfl #[.slice A0 l0.length c0, .string a1, .string a2] rfl (by (try simp only [List.map_toArray, List.map_cons, List.map_nil]); first | done | rfl | (simp only [List.length_drop, List.length_take]; rfl)) ?_; (with_reducible refine (files_Move.calls (fun k_ => k_ < w.heap.size) _ _ l0 a1 a2 t373 true _ ?side1 A16.out).mono ?_); (case side1 => exact Kd.V_mk HC0.out (Kd.F_below (Kd.C_F k38_heap HR0.out) (by repeat (first | (with_reducible first | exact HB.out | apply below_alloc | apply pw_below_drewN | apply below_drew1) | exact HB.out)))); rintro e w40 ⟨v374, rfl, ho0, hb⟩; refine ⟨_, rfl, ?_⟩; have n0_ := Aside0.mk (Kd.V_lower (Kd.V_mono (ok' := fun k_ => True) ho0 (fun k_ hk_ => trivial)) (below_size (by repeat (first | (with_reducible first | exact HB.out | apply below_alloc | apply pw_below_drewN | apply below_drew1) | exact HB.out)))); have n1_ := Aside0.mk (below_step (by repeat (first | (with_reducible first | exact HB.out | apply below_alloc | apply pw_below_drewN | apply below_drew1) | exact HB.out)) hb); clear HB; have HO375 := n0_; have HB := n1_; clear n0_ n1_; (try clear hb); (try clear hb2); (try clear hk); (try clear hi); (try clear ho0)) | ((with_reducible refine gate_callee (f := 28) rfl ?_); refine goesL_ (some 50) rfl rfl Try.func28 (by kernel_rfl) rfl #[.slice A0 l0.length c0, .string a1] rfl (by (try simp only [List.map_toArray, List.map_cons, List.map_nil]); first | done | rfl | (simp only [List.length_drop, List.length_take]; rfl)) ?_; (with_reducible refine (files_Get.calls _ _ l0 a1 t377 t378 _ ?side1 ?side2 A17.out).mono ?_); (case side1 => repeat (first | exact (Kd.C_below HR0.out HB.out) | (with_reducible refine Kd.C_alloc ?_ _) | (with_reducible refine Kd.C_drewN ?_ _) | (with_reducible refine Kd.C_drew ?_))); (case side2 => exact HC0.out); rintro e w41 ⟨v379, rfl, ho0, hb⟩; refine ⟨_, rfl, ?_⟩; have n0_ := Aside0.mk (Kd.V_elder' (by (with_reducible repeat (first | apply Kd.V_alloc | apply Kd.V_drewN | apply Kd.V_drew)); exact HO375.out) (Kd.R_base ho0) hb); have n1_ := Aside0.mk (Kd.R_lower ho0 (below_size (by repeat (first | (with_reducible first | exact HB.out | apply below_alloc | apply pw_below_drewN | apply below_drew1) | exact HB.out)))); have n2_ := Aside0.mk (below_step (by repeat (first | (with_reducible first | exact HB.out | apply below_alloc | apply pw_below_drewN | apply below_drew1) | exact HB.out)) hb); clear HO375; clear HB; have HO375 := n0_; have HO380 := n1_; have HB := n2_; clear n0_ n1_ n2_; (try clear hb); (try clear hb2); (try clear hk); (try clear hi); (try clear ho0); obtain ⟨Ao42, co42, eo42⟩ := Kd.V_slice HO375.out; subst eo42) | ((with_reducible refine gate_callee (f := 28) rfl ?_); refine goesL_ (some 67) rfl rfl Try.func28 (by kernel_rfl) rfl #[.slice Ao42 t373.length co42, .string a2] rfl (by (try simp only [List.map_toArray, List.map_cons, List.map_nil]); first | done | rfl | (simp only [List.length_drop, List.length_take]; rfl)) ?_; (with_reducible refine (files_Get.calls _ _ t373 a2 t382 true _ ?side1 ?side2 A20.out).mono ?_); (case side1 => repeat (first | exact (Kd.V_reads' HO375.out).2.2 | (with_reducible refine Kd.C_alloc ?_ _) | (with_reducible refine Kd.C_drewN ?_ _) | (with_reducible refine Kd.C_drew ?_))); (case side2 => exact (Kd.V_reads' HO375.out).2.1); rintro e w43 ⟨v384, rfl, ho0, hb⟩; refine ⟨_, rfl, ?_⟩; have n0_ := Aside0.mk (Kd.V_elder' (by (with_reducible repeat (first | apply Kd.V_alloc | apply Kd.V_drewN | apply Kd.V_drew)); exact HO375.out) (Kd.R_base ho0) hb); have n1_ := Aside0.mk (Kd.R_elder' (by (with_reducible repeat (first | apply Kd.R_alloc | apply Kd.R_drewN | apply Kd.R_drew)); exact HO380.out) (Kd.R_base ho0) hb); have n2_ := Aside0.mk (Kd.R_lower (Kd.R_new' ho0 (Kd.R_lt (by (with_reducible repeat (first | apply Kd.R_alloc | apply Kd.R_drewN | apply Kd.R_drew)); exact HO380.out))) (below_size (by repeat (first | (with_reducible first | exact HB.out | apply below_alloc | apply pw_below_drewN | apply below_drew1) | exact HB.out)))); have n3_ := Aside0.mk (below_step (by repeat (first | (with_reducible first | exact HB.out | apply below_alloc | apply pw_below_drewN | apply below_drew1) | exact HB.out)) hb); clear HO375; clear HO380; clear HB; have HO375 := n0_; have HO380 := n1_; have HO385 := n2_; have HB := n3_; clear n0_ n1_ n2_ n3_; (try clear hb); (try clear hb2); (try clear hk); (try clear hi); (try clear ho0)) | ((with_reducible refine gate_callee (f := 28) rfl ?_); refine goesL_ (some 73) rfl rfl Try.func28 (by kernel_rfl) rfl #[.slice Ao42 t373.length co42, .string a1] rfl (by (try simp only [List.map_toArray, List.map_cons, List.map_nil]); first | done | rfl | (simp only [List.length_drop, List.length_take]; rfl)) ?_; (with_reducible refine (files_Get.calls _ _ t373 a1 t386 t387 _ ?side1 ?side2 A21.out).mono ?_); (case side1 => repeat (first | exact (Kd.V_reads' HO375.out).2.2 | (with_reducible refine Kd.C_alloc ?_ _) | (with_reducible refine Kd.C_drewN ?_ _) | (with_reducible refine Kd.C_drew ?_))); (case side2 => exact (Kd.V_reads' HO375.out).2.1); rintro e w44 ⟨v388, rfl, ho0, hb⟩; refine ⟨_, rfl, ?_⟩; have n0_ := Aside0.mk (Kd.V_elder' (by (with_reducible repeat (first | apply Kd.V_alloc | apply Kd.V_drewN | apply Kd.V_drew)); exact HO375.out) (Kd.R_base ho0) hb); have n1_ := Aside0.mk (Kd.R_elder' (by (with_reducible repeat (first | apply Kd.R_alloc | apply Kd.R_drewN | apply Kd.R_drew)); exact HO380.out) (Kd.R_base ho0) hb); have n2_ := Aside0.mk (Kd.R_elder' (by (with_reducible repeat (first | apply Kd.R_alloc | apply Kd.R_drewN | apply Kd.R_drew)); exact HO385.out) (Kd.R_base ho0) hb); have n3_ := Aside0.mk (Kd.R_lower (Kd.R_new' (Kd.R_new' ho0 (Kd.R_lt (by (with_reducible repeat (first | apply Kd.R_alloc | apply Kd.R_drewN | apply Kd.R_drew)); exact HO380.out))) (Kd.R_lt (by (with_reducible repeat (first | apply Kd.R_alloc | apply Kd.R_drewN | apply Kd.R_drew)); exact HO385.out))) (below_size (by repeat (first | (with_reducible first | exact HB.out | apply below_alloc | apply pw_below_drewN | apply below_drew1) | exact HB.out)))); have n4_ := Aside0.mk (below_step (by repeat (first | (with_reducible first | exact HB.out | apply below_alloc | apply pw_below_drewN | apply below_drew1) | exact HB.out)) hb); clear HO375; clear HO380; clear HO385; clear HB; have HO375 := n0_; have HO380 := n1_; have HO385 := n2_; have HO389 := n3_; have HB := n4_; clear n0_ n1_ n2_ n3_ n4_; (try clear hb); (try clear hb2); (try clear hk); (try clear hi); (try clear ho0)) | ((with_reducible refine gate_callee (f := 28) rfl ?_); refine goesL_ (some 79) rfl rfl Try.func28 (by kernel_rfl) rfl #[.slice A0 l0.length c0, .string a2] rfl (by (try simp only [List.map_toArray, List.map_cons, List.map_nil]); first | done | rfl | (simp only [List.length_drop, List.length_take]; rfl)) ?_; (with_reducible refine (files_Get.calls _ _ l0 a2 t390 false _ ?side1 ?side2 A22.out).mono ?_); (case side1 => repeat (first | exact (Kd.C_below HR0.out HB.out) | (with_reducible refine Kd.C_alloc ?_ _) | (with_reducible refine Kd.C_drewN ?_ _) | (with_reducible refine Kd.C_drew ?_))); (case side2 => exact HC0.out); rintro e w45 ⟨v392, rfl, ho0, hb⟩; refine ⟨_, rfl, ?_⟩; have n0_ := Aside0.mk (Kd.V_elder' (by (with_reducible repeat (first | apply Kd.V_alloc | apply Kd.V_drewN | apply Kd.V_drew)); exact HO375.out) (Kd.R_base ho0) hb); have n1_ := Aside0.mk (Kd.R_elder' (by (with_reducible repeat (first | apply Kd.R_alloc | apply Kd.R_drewN | apply Kd.R_drew)); exact HO380.out) (Kd.R_base ho0) hb); have n2_ := Aside0.mk (Kd.R_elder' (by (with_reducible repeat (first | apply Kd.R_alloc | apply Kd.R_drewN | apply Kd.R_drew)); exact HO385.out) (Kd.R_base ho0) hb); have n3_ := Aside0.mk (Kd.R_elder' (by (with_reducible repeat (first | apply Kd.R_alloc | apply Kd.R_drewN | apply Kd.R_drew)); exact HO389.out) (Kd.R_base ho0) hb); have n4_ := Aside0.mk (Kd.R_lower (Kd.R_new' (Kd.R_new' (Kd.R_new' ho0 (Kd.R_lt (by (with_reducible repeat (first | apply Kd.R_alloc | apply Kd.R_drewN | apply Kd.R_drew)); exact HO380.out))) (Kd.R_lt (by (with_reducible repeat (first | apply Kd.R_alloc | apply Kd.R_drewN | apply Kd.R_drew)); exact HO385.out))) (Kd.R_lt (by (with_reducible repeat (first | apply Kd.R_alloc | apply Kd.R_drewN | apply Kd.R_drew)); exact HO389.out))) (below_size (by repeat (first | (with_reducible first | exact HB.out | apply below_alloc | apply pw_below_drewN | apply below_drew1) | exact HB.out)))); have n5_ := Aside0.mk (below_step (by repeat (first | (with_reducible first | exact HB.out | apply below_alloc | apply pw_below_drewN | apply below_drew1) | exact HB.out)) hb); clear HO375; clear HO380; clear HO385; clear HO389; clear HB; have HO375 := n0_; have HO380 := n1_; have HO385 := n2_; have HO389 := n3_; have HO393 := n4_; have HB := n5_; clear n0_ n1_ n2_ n3_ n4_ n5_; (try clear hb); (try clear hb2); (try clear hk); (try clear hi); (try clear ho0)) | ((with_reducible refine gate_callee (f := 21) rfl ?_); refine goesL_ (some 86) rfl rfl Try.func21 (by kernel_rfl) rfl #[.slice Ao42 t373.length co42, .string a2, .string a1] rfl (by (try simp only [List.map_toArray, List.map_cons, List.map_nil]); first | done | rfl | (simp only [List.length_drop, List.length_take]; rfl)) ?_; (with_reducible refine (files_Move.calls (fun k_ => ((((True ∧ some k_ ≠ (v379 : Value).ownBlock) ∧ some k_ ≠ (v384 : Value).ownBlock) ∧ some k_ ≠ (v388 : Value).ownBlock) ∧ some k_ ≠ (v392 : Value).ownBlock)) _ _ t373 a2 a1 t394 true _ ?side1 A23.out).mono ?_); (case side1 => exact HO375.out); rintro e w46 ⟨v395, rfl, ho0, hb⟩; refine ⟨_, rfl, ?_⟩; have n0_ := Aside0.mk (Kd.V_below (by (with_reducible repeat (first | apply Kd.V_alloc | apply Kd.V_drewN | apply Kd.V_drew)); exact HO375.out) hb); have n1_ := Aside0.mk (Kd.R_below (by (with_reducible repeat (first | apply Kd.R_alloc | apply Kd.R_drewN | apply Kd.R_drew)); exact HO380.out) hb); have n2_ := Aside0.mk (Kd.R_below (by (with_reducible repeat (first | apply Kd.R_alloc | apply Kd.R_drewN | apply Kd.R_drew)); exact HO385.out) hb); have n3_ := Aside0.mk (Kd.R_below (by (with_reducible repeat (first | apply Kd.R_alloc | apply Kd.R_drewN | apply Kd.R_drew)); exact HO389.out) hb); have n4_ := Aside0.mk (Kd.R_below (by (with_reducible repeat (first | apply Kd.R_alloc | apply Kd.R_drewN | apply Kd.R_drew)); exact HO393.out) hb); have n5_ := Aside0.mk (Kd.V_lower (Kd.V_mono (ok' := fun k_ => some k_ ≠ (v379 : Value).ownBlock ∧ some k_ ≠ (v384 : Value).ownBlock ∧ some k_ ≠ (v388 : Value).ownBlock ∧ some k_ ≠ (v392 : Value).ownBlock) ho0 (fun k_ hk_ => ⟨Or.elim hk_ (fun hs_ => hs_.1.1.1.2) (fun hn_ => (Kd.fresh' (Kd.R_lt (by (with_reducible repeat (first | apply Kd.R_alloc | apply Kd.R_drewN | apply Kd.R_drew)); exact HO380.out)) k_ hn_)), Or.elim hk_ (fun hs_ => hs_.1.1.2) (fun hn_ => (Kd.fresh' (Kd.R_lt (by (with_reducible repeat (first | apply Kd.R_alloc | apply Kd.R_drewN | apply Kd.R_drew)); exact HO385.out)) k_ hn_)), Or.elim hk_ (fun hs_ => hs_.1.2) (fun hn_ => (Kd.fresh' (Kd.R_lt (by (with_reducible repeat (first | apply Kd.R_alloc | apply Kd.R_drewN | apply Kd.R_drew)); exact HO389.out)) k_ hn_)), Or.elim hk_ (fun hs_ => hs_.2) (fun hn_ => (Kd.fresh' (Kd.R_lt (by (with_reducible repeat (first | apply Kd.R_alloc | apply Kd.R_drewN | apply Kd.R_drew)); exact HO393.out)) k_ hn_))⟩)) (below_size (by repeat (first | (with_reducible first | exact HB.out | apply below_alloc | apply pw_below_drewN | apply below_drew1) | exact HB.out)))); have n6_ := Aside0.mk (below_step (by repeat (first | (with_reducible first | exact HB.out | apply below_alloc | apply pw_below_drewN | apply below_drew1) | exact HB.out)) hb); clear HO375; clear HO380; clear HO385; clear HO389; clear HO393; clear HB; have HO375 := n0_; have HO380 := n1_; have HO385 := n2_; have HO389 := n3_; have HO393 := n4_; have HO396 := n5_; have HB := n6_; clear n0_ n1_ n2_ n3_ n4_ n5_ n6_; (try clear hb); (try clear hb2); (try clear hk); (try clear hi); (try clear ho0); (first | have hcv47 := own_string (P := Try.prog) Try.underlying23 Try.underlying5 Try.underlying9 (Kd.own_of_R HO385.out) | have hcv47 := conv_V (P := Try.prog) Try.underlying23 Try.underlying5 Try.underlying9 HO385.out); (first | have hcv47b := fun n_ : Nat => own_string (P := Try.prog) Try.underlying23 Try.underlying5 Try.underlying9 (Kd.own_of_R (Kd.R_drewN HO385.out n_)) | have hcv47b := fun n_ : Nat => conv_V (P := Try.prog) Try.underlying23 Try.underlying5 Try.underlying9 (Kd.V_drewN HO385.out n_)); (try simp only [World.drewN_drewN] at hcv47b); (first | have hcv48 := own_string (P := Try.prog) Try.underlying23 Try.underlying5 Try.underlying9 (Kd.own_of_R HO380.out) | have hcv48 := conv_V (P := Try.prog) Try.underlying23 Try.underlying5 Try.underlying9 HO380.out); (first | have hcv48b := fun n_ : Nat => own_string (P := Try.prog) Try.underlying23 Try.underlying5 Try.underlying9 (Kd.own_of_R (Kd.R_drewN HO380.out n_)) | have hcv48b := fun n_ : Nat => conv_V (P := Try.prog) Try.underlying23 Try.underlying5 Try.underlying9 (Kd.V_drewN HO380.out n_)); (try simp only [World.drewN_drewN] at hcv48b); obtain ⟨Ao49, co49, eo49⟩ := Kd.V_slice HO396.out; subst eo49) | (go_at_call 29; (with_reducible refine (files_Same.calls _ _ t394 _ _ l0 t398 _ ?side1 ?side2 ?side3 ?side4 A39.out).mono ?_); (case side1 => repeat (first | exact (Kd.V_reads' HO396.out).2.2 | (with_reducible refine Kd.C_alloc ?_ _) | (with_reducible refine Kd.C_drewN ?_ _) | (with_reducible refine Kd.C_drew ?_))); (case side2 => exact (Kd.V_reads' HO396.out).2.1); (case side3 => repeat (first | exact (Kd.C_below HR0.out HB.out) | (with_reducible refine Kd.C_alloc ?_ _) | (with_reducible refine Kd.C_drewN ?_ _) | (with_reducible refine Kd.C_drew ?_))); (case side4 => exact HC0.out); rintro e w50 ⟨rfl, hb⟩; have n0_ := Aside0.mk (Kd.V_below (by (with_reducible repeat (first | apply Kd.V_alloc | apply Kd.V_drewN | apply Kd.V_drew)); exact HO375.out) hb); have n1_ := Aside0.mk (Kd.R_below (by (with_reducible repeat (first | apply Kd.R_alloc | apply Kd.R_drewN | apply Kd.R_drew)); exact HO380.out) hb); have n2_ := Aside0.mk (Kd.R_below (by (with_reducible repeat (first | apply Kd.R_alloc | apply Kd.R_drewN | apply Kd.R_drew)); exact HO385.out) hb); have n3_ := Aside0.mk (Kd.R_below (by (with_reducible repeat (first | apply Kd.R_alloc | apply Kd.R_drewN | apply Kd.R_drew)); exact HO389.out) hb); have n4_ := Aside0.mk (Kd.R_below (by (with_reducible repeat (first | apply Kd.R_alloc | apply Kd.R_drewN | apply Kd.R_drew)); exact HO393.out) hb); have n5_ := Aside0.mk (Kd.V_below (by (with_reducible repeat (first | apply Kd.V_alloc | apply Kd.V_drewN | apply Kd.V_drew)); exact HO396.out) hb); have n6_ := Aside0.mk (below_step (by repeat (first | (with_reducible first | exact HB.out | apply below_alloc | apply pw_below_drewN | apply below_drew1) | exact HB.out)) hb); clear HO375; clear HO380; clear HO385; clear HO389; clear HO393; clear HO396; clear HB; have HO375 := n0_; have HO380 := n1_; have HO385 := n2_; have HO389 := n3_; have HO393 := n4_; have HO396 := n5_; have HB := n6_; clear n0_ n1_ n2_ n3_ n4_ n5_ n6_; (try clear hb); (try clear hb2); (try clear hk); (try clear hi)))
                        go_ret
                        exact ⟨by first | rfl | (simp [errW_none, errW_some] <;> rfl) | (simp [*, errW_none, errW_some] <;> rfl), by repeat (first | (with_reducible first | exact HB.out | apply below_alloc | apply pw_below_drewN | apply below_drew1) | exact HB.out)⟩
                    · replace c28 := Bool.eq_false_iff.mpr c28
                      subst c28
                      have H1 : (none) = some r := by rw [if_neg (show ¬ (false = true) by decide)] at H; exact H
                      clear H
                      have H := H1
                      clear H1
                      exact absurd H (by simp)
                  · rw [if_neg c27] at H
                    exact absurd H (by simp)
                · rw [if_neg c26] at H
                  exact absurd H (by simp)
              · replace c25 := Bool.eq_false_iff.mpr c25
                subst c25
                have H1 : (none) = some r := by rw [if_neg (show ¬ (false = true) by decide)] at H; exact H
                clear H
                have H := H1
                clear H1
                exact absurd H (by simp)
            · replace c24 := Bool.eq_false_iff.mpr c24
              subst c24
              have H1 : (none) = some r := by rw [if_neg (show ¬ (false = true) by decide)] at H; exact H
              clear H
              have H := H1
              clear H1
              exact absurd H (by simp)
          · replace c19 := Bool.eq_false_iff.mpr c19
            subst c19
            have H1 : (if t370 = true then ((files_Same.f t373 l0).bind fun t381 => (some t381)) else (none)) = some r := by rw [if_neg (show ¬ (false = true) by decide)] at H; exact H
            clear H
            have H := H1
            clear H1
            by_cases c51 : t370 = true
            · subst c51
              have H1 : ((files_Same.f t373 l0).bind fun t381 => (some t381)) = some r := by rw [if_pos rfl] at H; exact H
              clear H
              have H := H1
              clear H1
              replace H := Option.bind_eq_some_iff.mp H
              obtain ⟨t381, A520, H⟩ := H
              replace H : (some t381) = some r := H
              have A52 := Aside0.mk A520
              clear A520
              obtain rfl := Option.some.inj H
              go_wp2_with (first | ((with_reducible refine gate_callee (f := 21) rfl ?_); refine goesL_ (some 44) rfl rfl Try.func21 (by kernel_rfl) rfl #[.slice A0 l0.length c0, .string a1, .string a2] rfl (by (try simp only [List.map_toArray, List.map_cons, List.map_nil]); first | done | rfl | (simp only [List.length_drop, List.length_take]; rfl)) ?_; (with_reducible refine (files_Move.calls (fun k_ => k_ < w.heap.size) _ _ l0 a1 a2 t373 false _ ?side1 A16.out).mono ?_); (case side1 => exact Kd.V_mk HC0.out (Kd.F_below (Kd.C_F k38_heap HR0.out) (by repeat (first | (with_reducible first | exact HB.out | apply below_alloc | apply pw_below_drewN | apply below_drew1) | exact HB.out)))); rintro e w53 ⟨v374, rfl, ho0, hb⟩; refine ⟨_, rfl, ?_⟩; have n0_ := Aside0.mk (Kd.V_lower (Kd.V_mono (ok' := fun k_ => True) ho0 (fun k_ hk_ => trivial)) (below_size (by repeat (first | (with_reducible first | exact HB.out | apply below_alloc | apply pw_below_drewN | apply below_drew1) | exact HB.out)))); have n1_ := Aside0.mk (below_step (by repeat (first | (with_reducible first | exact HB.out | apply below_alloc | apply pw_below_drewN | apply below_drew1) | exact HB.out)) hb); clear HB; have HO375 := n0_; have HB := n1_; clear n0_ n1_; (try clear hb); (try clear hb2); (try clear hk); (try clear hi); (try clear ho0)) | ((with_reducible refine gate_callee (f := 28) rfl ?_); refine goesL_ (some 50) rfl rfl Try.func28 (by kernel_rfl) rfl #[.slice A0 l0.length c0, .string a1] rfl (by (try simp only [List.map_toArray, List.map_cons, List.map_nil]); first | done | rfl | (simp only [List.length_drop, List.length_take]; rfl)) ?_; (with_reducible refine (files_Get.calls _ _ l0 a1 t377 t378 _ ?side1 ?side2 A17.out).mono ?_); (case side1 => repeat (first | exact (Kd.C_below HR0.out HB.out) | (with_reducible refine Kd.C_alloc ?_ _) | (with_reducible refine Kd.C_drewN ?_ _) | (with_reducible refine Kd.C_drew ?_))); (case side2 => exact HC0.out); rintro e w54 ⟨v379, rfl, ho0, hb⟩; refine ⟨_, rfl, ?_⟩; have n0_ := Aside0.mk (Kd.V_elder' (by (with_reducible repeat (first | apply Kd.V_alloc | apply Kd.V_drewN | apply Kd.V_drew)); exact HO375.out) (Kd.R_base ho0) hb); have n1_ := Aside0.mk (Kd.R_lower ho0 (below_size (by repeat (first | (with_reducible first | exact HB.out | apply below_alloc | apply pw_below_drewN | apply below_drew1) | exact HB.out)))); have n2_ := Aside0.mk (below_step (by repeat (first | (with_reducible first | exact HB.out | apply below_alloc | apply pw_below_drewN | apply below_drew1) | exact HB.out)) hb); clear HO375; clear HB; have HO375 := n0_; have HO380 := n1_; have HB := n2_; clear n0_ n1_ n2_; (try clear hb); (try clear hb2); (try clear hk); (try clear hi); (try clear ho0); obtain ⟨Ao55, co55, eo55⟩ := Kd.V_slice HO375.out; subst eo55) | (go_at_call 29; (with_reducible refine (files_Same.calls _ _ t373 _ _ l0 t381 _ ?side1 ?side2 ?side3 ?side4 A52.out).mono ?_); (case side1 => repeat (first | exact (Kd.V_reads' HO375.out).2.2 | (with_reducible refine Kd.C_alloc ?_ _) | (with_reducible refine Kd.C_drewN ?_ _) | (with_reducible refine Kd.C_drew ?_))); (case side2 => exact (Kd.V_reads' HO375.out).2.1); (case side3 => repeat (first | exact (Kd.C_below HR0.out HB.out) | (with_reducible refine Kd.C_alloc ?_ _) | (with_reducible refine Kd.C_drewN ?_ _) | (with_reducible refine Kd.C_drew ?_))); (case side4 => exact HC0.out); rintro e w56 ⟨rfl, hb⟩; have n0_ := Aside0.mk (Kd.V_below (by (with_reducible repeat (first | apply Kd.V_alloc | apply Kd.V_drewN | apply Kd.V_drew)); exact HO375.out) hb); have n1_ := Aside0.mk (Kd.R_below (by (with_reducible repeat (first | apply Kd.R_alloc | apply Kd.R_drewN | apply Kd.R_drew)); exact HO380.out) hb); have n2_ := Aside0.mk (below_step (by repeat (first | (with_reducible first | exact HB.out | apply below_alloc | apply pw_below_drewN | apply below_drew1) | exact HB.out)) hb); clear HO375; clear HO380; clear HB; have HO375 := n0_; have HO380 := n1_; have HB := n2_; clear n0_ n1_ n2_; (try clear hb); (try clear hb2); (try clear hk); (try clear hi)))
              go_ret
              exact ⟨by first | rfl | (simp [errW_none, errW_some] <;> rfl) | (simp [*, errW_none, errW_some] <;> rfl), by repeat (first | (with_reducible first | exact HB.out | apply below_alloc | apply pw_below_drewN | apply below_drew1) | exact HB.out)⟩
            · replace c51 := Bool.eq_false_iff.mpr c51
              subst c51
              have H1 : (none) = some r := by rw [if_neg (show ¬ (false = true) by decide)] at H; exact H
              clear H
              have H := H1
              clear H1
              exact absurd H (by simp)

end Go.Proofs.Ytcgeioingikeeaa.P
