/- Written by a program of this seat (wip/tools/stage.py) out of the translation: what each function of this text returns, where its plain form returns. Lean checks it. -/
import Derived.Test.YtcgeioingikeeaaP0
import Derived.Test.YtcgeioingikeeaaPf16
import Derived.Test.YtcgeioingikeeaaPf30
import Derived.Test.YtcgeioingikeeaaPf20
import Derived.Test.YtcgeioingikeeaaPf27
import Derived.Test.YtcgeioingikeeaaPf31
import Derived.Test.YtcgeioingikeeaaPf32
import Derived.Test.YtcgeioingikeeaaPf33
import Derived.Test.YtcgeioingikeeaaPf34
import Derived.Test.YtcgeioingikeeaaPf35
import Derived.Test.YtcgeioingikeeaaPf36
import Derived.Test.YtcgeioingikeeaaH1
import Derived.Test.YtcgeioingikeeaaH3
import Derived.Test.YtcgeioingikeeaaS
namespace Go.Proofs.Ytcgeioingikeeaa.P
open Go.RowKit Go.Proofs.YtcgeioingikeeaaW.PrintWords Go.Proofs.YtcgeioingikeeaaW.PrintLast Go.Proofs.YtcgeioingikeeaaW.PrintMore
attribute [local go_sem] max2_int min2_int max_two min_two max_three min_three max_four min_four   -- for this text's walks alone
attribute [local go_sem] str_geq str_gtr str_leq
set_option linter.unusedVariables false
set_option linter.unusedSimpArgs false

/-! ### gambrellaw17_FilesTell: function 6 -/
def gambrellaw17_FilesTell.j0 : Nat → List (S38) → List (S38) → ByteArray → Bool → Bool → Option (Bool)
  | 0, _, _, _, _, _ => none
  | k + 1, x0, x1, x2, x7, x25 => if x25 = true then (some x7) else ((files_Get.f x0 x2).bind fun bt297 => ((gambrelref17_Get.f k x0 x2).bind fun bt301 => (if x7 = true then ((files_May.f k x0).bind fun t305 => ((gambrelref17_May.f k x0).bind fun t306 => (if (t305 == t306) = true then (if (strOfNums bt297.1).toList = (strOfNums bt301.1).toList then (if (bt297.2 == bt301.2) = true then ((files_Names.f k x0).bind fun t307 => ((gambrelref17_Names.f k x0).bind fun t310 => ((gambrelref15_Strings.f k t307 t310).bind fun t313 => (if t313 = true then ((files_Size.f k x0).bind fun t314 => ((gambrelref17_Size.f k x0).bind fun t315 => (if t314 = t315 then ((files_Same.f x0 x1).bind fun t316 => ((gambrelref17_Same.f k x0 x1).bind fun t317 => (some (t316 == t317)))) else (none)))) else (none))))) else (none)) else (none)) else (none)))) else (none))))
def gambrellaw17_FilesTell.f (k : Nat) (l0 : List (S38)) (l1 : List (S38)) (a2 : ByteArray) : Option (Bool) := (gambrellaw17_awake.f).bind fun t294 => ((gambrelref17_Few.f k l0).bind fun t295 => (if t295 = true then ((gambrelref17_Few.f k l1).bind fun t296 => (if t296 = true then (gambrellaw17_FilesTell.j0 k l0 l1 a2 t294 (decide ((a2.size : Int) > 60))) else (gambrellaw17_FilesTell.j0 k l0 l1 a2 t294 true))) else (gambrellaw17_FilesTell.j0 k l0 l1 a2 t294 true)))
theorem gambrellaw17_FilesTell.mono_l : ∀ k, (∀ y0 y1 y2 y3 y4, LeO (gambrellaw17_FilesTell.j0 k y0 y1 y2 y3 y4) (gambrellaw17_FilesTell.j0 (k + 1) y0 y1 y2 y3 y4))
  | 0 => fun _ _ _ _ _ r h => by simp [gambrellaw17_FilesTell.j0] at h
  | k + 1 => by
    have ih0 := gambrellaw17_FilesTell.mono_l k
    · intro y0 y1 y2 y3 y4
      unfold gambrellaw17_FilesTell.j0
      repeat' first
      | (with_reducible exact ih0 _ _ _ _ _)
      | (with_reducible exact files_May.mono _ _)
      | (with_reducible exact files_Names.mono _ _)
      | (with_reducible exact files_Size.mono _ _)
      | (with_reducible exact gambrelref15_Strings.mono _ _ _)
      | (with_reducible exact gambrelref17_Few.mono _ _)
      | (with_reducible exact gambrelref17_Get.mono _ _ _)
      | (with_reducible exact gambrelref17_May.mono _ _)
      | (with_reducible exact gambrelref17_Names.mono _ _)
      | (with_reducible exact gambrelref17_Same.mono _ _ _)
      | (with_reducible exact gambrelref17_Size.mono _ _)
      | (with_reducible exact LeO.refl _)
      | (with_reducible exact LeO.none _)
      | (with_reducible refine LeO.ite ?_ ?_)
      | (with_reducible refine LeO.bind ?_ (fun _ => ?_))
      | exact ih0 _ _ _ _ _
      | exact files_May.mono _ _
      | exact files_Names.mono _ _
      | exact files_Size.mono _ _
      | exact gambrelref15_Strings.mono _ _ _
      | exact gambrelref17_Few.mono _ _
      | exact gambrelref17_Get.mono _ _ _
      | exact gambrelref17_May.mono _ _
      | exact gambrelref17_Names.mono _ _
      | exact gambrelref17_Same.mono _ _ _
      | exact gambrelref17_Size.mono _ _
      | exact LeO.none _
      | refine LeO.ite ?_ ?_
      | refine LeO.bind ?_ (fun _ => ?_)
theorem gambrellaw17_FilesTell.mono : ∀ a0 a1 a2 k, LeO (gambrellaw17_FilesTell.f k a0 a1 a2) (gambrellaw17_FilesTell.f (k + 1) a0 a1 a2) := by
  intro a0 a1 a2 k
  have ih0 := gambrellaw17_FilesTell.mono_l k
  unfold gambrellaw17_FilesTell.f
  repeat' first
      | (with_reducible exact ih0 _ _ _ _ _)
      | (with_reducible exact files_May.mono _ _)
      | (with_reducible exact files_Names.mono _ _)
      | (with_reducible exact files_Size.mono _ _)
      | (with_reducible exact gambrelref15_Strings.mono _ _ _)
      | (with_reducible exact gambrelref17_Few.mono _ _)
      | (with_reducible exact gambrelref17_Get.mono _ _ _)
      | (with_reducible exact gambrelref17_May.mono _ _)
      | (with_reducible exact gambrelref17_Names.mono _ _)
      | (with_reducible exact gambrelref17_Same.mono _ _ _)
      | (with_reducible exact gambrelref17_Size.mono _ _)
      | (with_reducible exact LeO.refl _)
      | (with_reducible exact LeO.none _)
      | (with_reducible refine LeO.ite ?_ ?_)
      | (with_reducible refine LeO.bind ?_ (fun _ => ?_))
      | exact ih0 _ _ _ _ _
      | exact files_May.mono _ _
      | exact files_Names.mono _ _
      | exact files_Size.mono _ _
      | exact gambrelref15_Strings.mono _ _ _
      | exact gambrelref17_Few.mono _ _
      | exact gambrelref17_Get.mono _ _ _
      | exact gambrelref17_May.mono _ _
      | exact gambrelref17_Names.mono _ _
      | exact gambrelref17_Same.mono _ _ _
      | exact gambrelref17_Size.mono _ _
      | exact LeO.none _
      | refine LeO.ite ?_ ?_
      | refine LeO.bind ?_ (fun _ => ?_)
set_option maxHeartbeats 8000000 in
set_option maxRecDepth 100000 in
theorem gambrellaw17_FilesTell.calls (k : Nat) (A0 : Option Addr) (c0 : Nat) (l0 : List (S38)) (A1 : Option Addr) (c1 : Nat) (l1 : List (S38)) (a2 : ByteArray) (r : Bool) (w : World) (hr0 : Kd.C k38 w A0 l0.length l0) (hc0 : l0.length ≤ c0) (hr1 : Kd.C k38 w A1 l1.length l1) (hc1 : l1.length ≤ c1) (h : gambrellaw17_FilesTell.f k l0 l1 a2 = some r) :
    Calls Try.prog 6 #[.slice A0 l0.length c0, .slice A1 l1.length c1, .string a2] w fun e w' => e = .returned (.bool r) ∧ Below w.heap.size w w' := by
  have HR0 := Aside0.mk hr0
  have HC0 := Aside0.mk hc0
  clear hr0 hc0
  have HR1 := Aside0.mk hr1
  have HC1 := Aside0.mk hc1
  clear hr1 hc1
  have HB := Aside0.mk (Below.refl w.heap.size w)
  have H : ((gambrellaw17_awake.f).bind fun t294 => ((gambrelref17_Few.f k l0).bind fun t295 => (if t295 = true then ((gambrelref17_Few.f k l1).bind fun t296 => (if t296 = true then (gambrellaw17_FilesTell.j0 k l0 l1 a2 t294 (decide ((a2.size : Int) > 60))) else (gambrellaw17_FilesTell.j0 k l0 l1 a2 t294 true))) else (gambrellaw17_FilesTell.j0 k l0 l1 a2 t294 true)))) = some r := h
  clear h
  replace H := Option.bind_eq_some_iff.mp H
  obtain ⟨t294, A40, H⟩ := H
  replace H : ((gambrelref17_Few.f k l0).bind fun t295 => (if t295 = true then ((gambrelref17_Few.f k l1).bind fun t296 => (if t296 = true then (gambrellaw17_FilesTell.j0 k l0 l1 a2 t294 (decide ((a2.size : Int) > 60))) else (gambrellaw17_FilesTell.j0 k l0 l1 a2 t294 true))) else (gambrellaw17_FilesTell.j0 k l0 l1 a2 t294 true))) = some r := H
  have A4 := Aside0.mk A40
  clear A40
  have HC5 := Aside0.mk H
  clear H
  go_enter Try.func6, Try.ntmps6
  go_upto_region 2 with (first | ((with_reducible refine gate_callee (f := 15) rfl ?_); refine goesL_ (some 12) rfl rfl Try.func15 (by kernel_rfl) rfl #[] rfl (by (try simp only [List.map_toArray, List.map_cons, List.map_nil]); first | done | rfl | (simp only [List.length_drop, List.length_take]; rfl)) ?_; (with_reducible refine (gambrellaw17_awake.calls  t294 _ A4.out).mono ?_); rintro e w6 ⟨rfl, hb⟩; refine ⟨_, rfl, ?_⟩; have n0_ := Aside0.mk (below_step (by repeat (first | (with_reducible first | exact HB.out | apply below_alloc | apply pw_below_drewN | apply below_drew1) | exact HB.out)) hb); clear HB; have HB := n0_; clear n0_; (try clear hb); (try clear hb2); (try clear hk); (try clear hi)))
  (try simp only [Act.put, List.setIfInBounds_toArray, List.set_cons_zero, List.set_cons_succ])
  go_cut [25] (fun v25 wc => ∃ (kq : Nat) (x25_4 : Bool), v25 = .bool x25_4 ∧ Aside0 (gambrellaw17_FilesTell.j0 kq l0 l1 a2 t294 x25_4 = some r) ∧ Aside0 (kq ≤ k) ∧ Aside0 (Below w.heap.size w wc))
  case first =>
    have H := HC5.out
    clear HC5
    replace H := Option.bind_eq_some_iff.mp H
    obtain ⟨t295, A70, H⟩ := H
    replace H : (if t295 = true then ((gambrelref17_Few.f k l1).bind fun t296 => (if t296 = true then (gambrellaw17_FilesTell.j0 k l0 l1 a2 t294 (decide ((a2.size : Int) > 60))) else (gambrellaw17_FilesTell.j0 k l0 l1 a2 t294 true))) else (gambrellaw17_FilesTell.j0 k l0 l1 a2 t294 true)) = some r := H
    have A7 := Aside0.mk A70
    clear A70
    by_cases c8 : t295 = true
    · subst c8
      have H1 : ((gambrelref17_Few.f k l1).bind fun t296 => (if t296 = true then (gambrellaw17_FilesTell.j0 k l0 l1 a2 t294 (decide ((a2.size : Int) > 60))) else (gambrellaw17_FilesTell.j0 k l0 l1 a2 t294 true))) = some r := by rw [if_pos rfl] at H; exact H
      clear H
      have H := H1
      clear H1
      replace H := Option.bind_eq_some_iff.mp H
      obtain ⟨t296, A90, H⟩ := H
      replace H : (if t296 = true then (gambrellaw17_FilesTell.j0 k l0 l1 a2 t294 (decide ((a2.size : Int) > 60))) else (gambrellaw17_FilesTell.j0 k l0 l1 a2 t294 true)) = some r := H
      have A9 := Aside0.mk A90
      clear A90
      by_cases c10 : t296 = true
      · subst c10
        have H1 : (gambrellaw17_FilesTell.j0 k l0 l1 a2 t294 (decide ((a2.size : Int) > 60))) = some r := by rw [if_pos rfl] at H; exact H
        clear H
        have H := H1
        clear H1
        have H' := Aside0.mk H
        clear H
        go_wp2_with (first | ((with_reducible refine gate_callee (f := 16) rfl ?_); refine goesL_ (some 14) rfl rfl Try.func16 (by kernel_rfl) rfl #[.slice A0 l0.length c0] rfl (by (try simp only [List.map_toArray, List.map_cons, List.map_nil]); first | done | rfl | (simp only [List.length_drop, List.length_take]; rfl)) ?_; (with_reducible refine (gambrelref17_Few.calls k _ _ l0 true _ ?side1 ?side2 A7.out).mono ?_); (case side1 => repeat (first | exact (Kd.C_below HR0.out HB.out) | (with_reducible refine Kd.C_alloc ?_ _) | (with_reducible refine Kd.C_drewN ?_ _) | (with_reducible refine Kd.C_drew ?_))); (case side2 => exact HC0.out); rintro e w' ⟨rfl, ⟨nd, rfl⟩⟩; refine ⟨_, rfl, ?_⟩) | (go_at_call 16; (with_reducible refine (gambrelref17_Few.calls k _ _ l1 true _ ?side1 ?side2 A9.out).mono ?_); (case side1 => repeat (first | exact (Kd.C_below HR1.out (by repeat (first | (with_reducible first | exact HB.out | apply below_alloc | apply pw_below_drewN | apply below_drew1) | exact HB.out))) | (with_reducible refine Kd.C_alloc ?_ _) | (with_reducible refine Kd.C_drewN ?_ _) | (with_reducible refine Kd.C_drew ?_))); (case side2 => exact HC1.out); rintro e w' ⟨rfl, ⟨nd, rfl⟩⟩))
        go_meet
        case rel => exact ⟨_, (decide ((a2.size : Int) > 60)), (by first | rfl | (simp; done) | (simp [*]; done)), H', ⟨by first | omega | exact Nat.le_refl _⟩, ⟨by repeat (first | (with_reducible first | exact HB.out | apply below_alloc | apply pw_below_drewN | apply below_drew1) | exact HB.out)⟩⟩
      · replace c10 := Bool.eq_false_iff.mpr c10
        subst c10
        have H1 : (gambrellaw17_FilesTell.j0 k l0 l1 a2 t294 true) = some r := by rw [if_neg (show ¬ (false = true) by decide)] at H; exact H
        clear H
        have H := H1
        clear H1
        have H' := Aside0.mk H
        clear H
        go_wp2_with (first | ((with_reducible refine gate_callee (f := 16) rfl ?_); refine goesL_ (some 14) rfl rfl Try.func16 (by kernel_rfl) rfl #[.slice A0 l0.length c0] rfl (by (try simp only [List.map_toArray, List.map_cons, List.map_nil]); first | done | rfl | (simp only [List.length_drop, List.length_take]; rfl)) ?_; (with_reducible refine (gambrelref17_Few.calls k _ _ l0 true _ ?side1 ?side2 A7.out).mono ?_); (case side1 => repeat (first | exact (Kd.C_below HR0.out HB.out) | (with_reducible refine Kd.C_alloc ?_ _) | (with_reducible refine Kd.C_drewN ?_ _) | (with_reducible refine Kd.C_drew ?_))); (case side2 => exact HC0.out); rintro e w' ⟨rfl, ⟨nd, rfl⟩⟩; refine ⟨_, rfl, ?_⟩) | (go_at_call 16; (with_reducible refine (gambrelref17_Few.calls k _ _ l1 false _ ?side1 ?side2 A9.out).mono ?_); (case side1 => repeat (first | exact (Kd.C_below HR1.out (by repeat (first | (with_reducible first | exact HB.out | apply below_alloc | apply pw_below_drewN | apply below_drew1) | exact HB.out))) | (with_reducible refine Kd.C_alloc ?_ _) | (with_reducible refine Kd.C_drewN ?_ _) | (with_reducible refine Kd.C_drew ?_))); (case side2 => exact HC1.out); rintro e w' ⟨rfl, ⟨nd, rfl⟩⟩))
        go_meet
        case rel => exact ⟨_, (true), (by first | rfl | (simp; done) | (simp [*]; done)), H', ⟨by first | omega | exact Nat.le_refl _⟩, ⟨by repeat (first | (with_reducible first | exact HB.out | apply below_alloc | apply pw_below_drewN | apply below_drew1) | exact HB.out)⟩⟩
    · replace c8 := Bool.eq_false_iff.mpr c8
      subst c8
      have H1 : (gambrellaw17_FilesTell.j0 k l0 l1 a2 t294 true) = some r := by rw [if_neg (show ¬ (false = true) by decide)] at H; exact H
      clear H
      have H := H1
      clear H1
      have H' := Aside0.mk H
      clear H
      go_wp2_with (first | ((with_reducible refine gate_callee (f := 16) rfl ?_); refine goesL_ (some 14) rfl rfl Try.func16 (by kernel_rfl) rfl #[.slice A0 l0.length c0] rfl (by (try simp only [List.map_toArray, List.map_cons, List.map_nil]); first | done | rfl | (simp only [List.length_drop, List.length_take]; rfl)) ?_; (with_reducible refine (gambrelref17_Few.calls k _ _ l0 false _ ?side1 ?side2 A7.out).mono ?_); (case side1 => repeat (first | exact (Kd.C_below HR0.out HB.out) | (with_reducible refine Kd.C_alloc ?_ _) | (with_reducible refine Kd.C_drewN ?_ _) | (with_reducible refine Kd.C_drew ?_))); (case side2 => exact HC0.out); rintro e w' ⟨rfl, ⟨nd, rfl⟩⟩; refine ⟨_, rfl, ?_⟩))
      go_meet
      case rel => exact ⟨_, (true), (by first | rfl | (simp; done) | (simp [*]; done)), H', ⟨by first | omega | exact Nat.le_refl _⟩, ⟨by repeat (first | (with_reducible first | exact HB.out | apply below_alloc | apply pw_below_drewN | apply below_drew1) | exact HB.out)⟩⟩
  case rest =>
    clear HC5
    try clear c1
    try clear p2
    try clear c6
    try clear c8
    try clear c10
    obtain ⟨kq, x25_4, rfl, HA, HJ4, HB⟩ := hcut
    cases kq with
    | zero => exact absurd HA.out (by simp [gambrellaw17_FilesTell.j0])
    | succ kj4 =>
      have H := HA.out
      clear HA
      simp only [gambrellaw17_FilesTell.j0] at H
      by_cases c11 : x25_4 = true
      · subst c11
        have H1 : (some t294) = some r := by rw [if_pos rfl] at H; exact H
        clear H
        have H := H1
        clear H1
        obtain rfl := Option.some.inj H
        go_wp2
        go_ret
        exact ⟨by first | rfl | (simp [errW_none, errW_some] <;> rfl) | (simp [*, errW_none, errW_some] <;> rfl), by repeat (first | (with_reducible first | exact HB.out | apply below_alloc | apply pw_below_drewN | apply below_drew1) | exact HB.out)⟩
      · replace c11 := Bool.eq_false_iff.mpr c11
        subst c11
        have H1 : ((files_Get.f l0 a2).bind fun bt297 => ((gambrelref17_Get.f kj4 l0 a2).bind fun bt301 => (if t294 = true then ((files_May.f kj4 l0).bind fun t305 => ((gambrelref17_May.f kj4 l0).bind fun t306 => (if (t305 == t306) = true then (if (strOfNums bt297.1).toList = (strOfNums bt301.1).toList then (if (bt297.2 == bt301.2) = true then ((files_Names.f kj4 l0).bind fun t307 => ((gambrelref17_Names.f kj4 l0).bind fun t310 => ((gambrelref15_Strings.f kj4 t307 t310).bind fun t313 => (if t313 = true then ((files_Size.f kj4 l0).bind fun t314 => ((gambrelref17_Size.f kj4 l0).bind fun t315 => (if t314 = t315 then ((files_Same.f l0 l1).bind fun t316 => ((gambrelref17_Same.f kj4 l0 l1).bind fun t317 => (some (t316 == t317)))) else (none)))) else (none))))) else (none)) else (none)) else (none)))) else (none)))) = some r := by rw [if_neg (show ¬ (false = true) by decide)] at H; exact H
        clear H
        have H := H1
        clear H1
        replace H := Option.bind_eq_some_iff.mp H
        obtain ⟨⟨t297, t298⟩, A120, H⟩ := H
        replace H : ((gambrelref17_Get.f kj4 l0 a2).bind fun bt301 => (if t294 = true then ((files_May.f kj4 l0).bind fun t305 => ((gambrelref17_May.f kj4 l0).bind fun t306 => (if (t305 == t306) = true then (if (strOfNums t297).toList = (strOfNums bt301.1).toList then (if (t298 == bt301.2) = true then ((files_Names.f kj4 l0).bind fun t307 => ((gambrelref17_Names.f kj4 l0).bind fun t310 => ((gambrelref15_Strings.f kj4 t307 t310).bind fun t313 => (if t313 = true then ((files_Size.f kj4 l0).bind fun t314 => ((gambrelref17_Size.f kj4 l0).bind fun t315 => (if t314 = t315 then ((files_Same.f l0 l1).bind fun t316 => ((gambrelref17_Same.f kj4 l0 l1).bind fun t317 => (some (t316 == t317)))) else (none)))) else (none))))) else (none)) else (none)) else (none)))) else (none))) = some r := H
        have A12 := Aside0.mk A120
        clear A120
        replace H := Option.bind_eq_some_iff.mp H
        obtain ⟨⟨t301, t304⟩, A130, H⟩ := H
        replace H : (if t294 = true then ((files_May.f kj4 l0).bind fun t305 => ((gambrelref17_May.f kj4 l0).bind fun t306 => (if (t305 == t306) = true then (if (strOfNums t297).toList = (strOfNums t301).toList then (if (t298 == t304) = true then ((files_Names.f kj4 l0).bind fun t307 => ((gambrelref17_Names.f kj4 l0).bind fun t310 => ((gambrelref15_Strings.f kj4 t307 t310).bind fun t313 => (if t313 = true then ((files_Size.f kj4 l0).bind fun t314 => ((gambrelref17_Size.f kj4 l0).bind fun t315 => (if t314 = t315 then ((files_Same.f l0 l1).bind fun t316 => ((gambrelref17_Same.f kj4 l0 l1).bind fun t317 => (some (t316 == t317)))) else (none)))) else (none))))) else (none)) else (none)) else (none)))) else (none)) = some r := H
        have A13 := Aside0.mk A130
        clear A130
        by_cases c14 : t294 = true
        · subst c14
          have H1 : ((files_May.f kj4 l0).bind fun t305 => ((gambrelref17_May.f kj4 l0).bind fun t306 => (if (t305 == t306) = true then (if (strOfNums t297).toList = (strOfNums t301).toList then (if (t298 == t304) = true then ((files_Names.f kj4 l0).bind fun t307 => ((gambrelref17_Names.f kj4 l0).bind fun t310 => ((gambrelref15_Strings.f kj4 t307 t310).bind fun t313 => (if t313 = true then ((files_Size.f kj4 l0).bind fun t314 => ((gambrelref17_Size.f kj4 l0).bind fun t315 => (if t314 = t315 then ((files_Same.f l0 l1).bind fun t316 => ((gambrelref17_Same.f kj4 l0 l1).bind fun t317 => (some (t316 == t317)))) else (none)))) else (none))))) else (none)) else (none)) else (none)))) = some r := by rw [if_pos rfl] at H; exact H
          clear H
          have H := H1
          clear H1
          replace H := Option.bind_eq_some_iff.mp H
          obtain ⟨t305, A150, H⟩ := H
          replace H : ((gambrelref17_May.f kj4 l0).bind fun t306 => (if (t305 == t306) = true then (if (strOfNums t297).toList = (strOfNums t301).toList then (if (t298 == t304) = true then ((files_Names.f kj4 l0).bind fun t307 => ((gambrelref17_Names.f kj4 l0).bind fun t310 => ((gambrelref15_Strings.f kj4 t307 t310).bind fun t313 => (if t313 = true then ((files_Size.f kj4 l0).bind fun t314 => ((gambrelref17_Size.f kj4 l0).bind fun t315 => (if t314 = t315 then ((files_Same.f l0 l1).bind fun t316 => ((gambrelref17_Same.f kj4 l0 l1).bind fun t317 => (some (t316 == t317)))) else (none)))) else (none))))) else (none)) else (none)) else (none))) = some r := H
          have A15 := Aside0.mk A150
          clear A150
          replace H := Option.bind_eq_some_iff.mp H
          obtain ⟨t306, A160, H⟩ := H
          replace H : (if (t305 == t306) = true then (if (strOfNums t297).toList = (strOfNums t301).toList then (if (t298 == t304) = true then ((files_Names.f kj4 l0).bind fun t307 => ((gambrelref17_Names.f kj4 l0).bind fun t310 => ((gambrelref15_Strings.f kj4 t307 t310).bind fun t313 => (if t313 = true then ((files_Size.f kj4 l0).bind fun t314 => ((gambrelref17_Size.f kj4 l0).bind fun t315 => (if t314 = t315 then ((files_Same.f l0 l1).bind fun t316 => ((gambrelref17_Same.f kj4 l0 l1).bind fun t317 => (some (t316 == t317)))) else (none)))) else (none))))) else (none)) else (none)) else (none)) = some r := H
          have A16 := Aside0.mk A160
          clear A160
          by_cases c17 : (t305 == t306) = true
          · rw [if_pos c17] at H
            have c17b0 : (t305 == t306) = true := c17
            (try (have c17b1 : decide (t305 = t306) = true := by simpa using c17))
            (try (have c17b2 : (t305 == t306) = true := by simpa using c17))
            clear c17
            by_cases c18 : (strOfNums t297).toList = (strOfNums t301).toList
            · rw [if_pos c18] at H
              have c18b0 : ((strOfNums t297).toList == (strOfNums t301).toList) = true := beq_iff_eq.mpr c18
              have c18b1 : ((strOfNums t297).toList != (strOfNums t301).toList) = false := bne_eq_false_iff_eq.mpr c18
              clear c18
              by_cases c19 : (t298 == t304) = true
              · rw [if_pos c19] at H
                have c19b0 : (t298 == t304) = true := c19
                (try (have c19b1 : decide (t298 = t304) = true := by simpa using c19))
                (try (have c19b2 : (t298 == t304) = true := by simpa using c19))
                clear c19
                replace H := Option.bind_eq_some_iff.mp H
                obtain ⟨t307, A200, H⟩ := H
                replace H : ((gambrelref17_Names.f kj4 l0).bind fun t310 => ((gambrelref15_Strings.f kj4 t307 t310).bind fun t313 => (if t313 = true then ((files_Size.f kj4 l0).bind fun t314 => ((gambrelref17_Size.f kj4 l0).bind fun t315 => (if t314 = t315 then ((files_Same.f l0 l1).bind fun t316 => ((gambrelref17_Same.f kj4 l0 l1).bind fun t317 => (some (t316 == t317)))) else (none)))) else (none)))) = some r := H
                have A20 := Aside0.mk A200
                clear A200
                replace H := Option.bind_eq_some_iff.mp H
                obtain ⟨t310, A210, H⟩ := H
                replace H : ((gambrelref15_Strings.f kj4 t307 t310).bind fun t313 => (if t313 = true then ((files_Size.f kj4 l0).bind fun t314 => ((gambrelref17_Size.f kj4 l0).bind fun t315 => (if t314 = t315 then ((files_Same.f l0 l1).bind fun t316 => ((gambrelref17_Same.f kj4 l0 l1).bind fun t317 => (some (t316 == t317)))) else (none)))) else (none))) = some r := H
                have A21 := Aside0.mk A210
                clear A210
                replace H := Option.bind_eq_some_iff.mp H
                obtain ⟨t313, A220, H⟩ := H
                replace H : (if t313 = true then ((files_Size.f kj4 l0).bind fun t314 => ((gambrelref17_Size.f kj4 l0).bind fun t315 => (if t314 = t315 then ((files_Same.f l0 l1).bind fun t316 => ((gambrelref17_Same.f kj4 l0 l1).bind fun t317 => (some (t316 == t317)))) else (none)))) else (none)) = some r := H
                have A22 := Aside0.mk A220
                clear A220
                by_cases c23 : t313 = true
                · subst c23
                  have H1 : ((files_Size.f kj4 l0).bind fun t314 => ((gambrelref17_Size.f kj4 l0).bind fun t315 => (if t314 = t315 then ((files_Same.f l0 l1).bind fun t316 => ((gambrelref17_Same.f kj4 l0 l1).bind fun t317 => (some (t316 == t317)))) else (none)))) = some r := by rw [if_pos rfl] at H; exact H
                  clear H
                  have H := H1
                  clear H1
                  replace H := Option.bind_eq_some_iff.mp H
                  obtain ⟨t314, A240, H⟩ := H
                  replace H : ((gambrelref17_Size.f kj4 l0).bind fun t315 => (if t314 = t315 then ((files_Same.f l0 l1).bind fun t316 => ((gambrelref17_Same.f kj4 l0 l1).bind fun t317 => (some (t316 == t317)))) else (none))) = some r := H
                  have A24 := Aside0.mk A240
                  clear A240
                  replace H := Option.bind_eq_some_iff.mp H
                  obtain ⟨t315, A250, H⟩ := H
                  replace H : (if t314 = t315 then ((files_Same.f l0 l1).bind fun t316 => ((gambrelref17_Same.f kj4 l0 l1).bind fun t317 => (some (t316 == t317)))) else (none)) = some r := H
                  have A25 := Aside0.mk A250
                  clear A250
                  by_cases c26 : t314 = t315
                  · rw [if_pos c26] at H
                    have c26b0 : (t314 == t315) = true := beq_iff_eq.mpr c26
                    have c26b1 : (t314 != t315) = false := bne_eq_false_iff_eq.mpr c26
                    clear c26
                    replace H := Option.bind_eq_some_iff.mp H
                    obtain ⟨t316, A270, H⟩ := H
                    replace H : ((gambrelref17_Same.f kj4 l0 l1).bind fun t317 => (some (t316 == t317))) = some r := H
                    have A27 := Aside0.mk A270
                    clear A270
                    replace H := Option.bind_eq_some_iff.mp H
                    obtain ⟨t317, A280, H⟩ := H
                    replace H : (some (t316 == t317)) = some r := H
                    have A28 := Aside0.mk A280
                    clear A280
                    obtain rfl := Option.some.inj H
                    go_wp2_with (first | ((with_reducible refine gate_callee (f := 28) rfl ?_); refine goesL_ (some 30) rfl rfl Try.func28 (by kernel_rfl) rfl #[.slice A0 l0.length c0, .string a2] rfl (by (try simp only [List.map_toArray, List.map_cons, List.map_nil]); first | done | rfl | (simp only [List.length_drop, List.length_take]; rfl)) ?_; (with_reducible refine (files_Get.calls _ _ l0 a2 t297 t298 _ ?side1 ?side2 A12.out).mono ?_); (case side1 => repeat (first | exact (Kd.C_below HR0.out HB.out) | (with_reducible refine Kd.C_alloc ?_ _) | (with_reducible refine Kd.C_drewN ?_ _) | (with_reducible refine Kd.C_drew ?_))); (case side2 => exact HC0.out); rintro e w29 ⟨v299, rfl, ho0, hb⟩; refine ⟨_, rfl, ?_⟩; have n0_ := Aside0.mk (Kd.R_lower ho0 (below_size (by repeat (first | (with_reducible first | exact HB.out | apply below_alloc | apply pw_below_drewN | apply below_drew1) | exact HB.out)))); have n1_ := Aside0.mk (below_step (by repeat (first | (with_reducible first | exact HB.out | apply below_alloc | apply pw_below_drewN | apply below_drew1) | exact HB.out)) hb); clear HB; have HO300 := n0_; have HB := n1_; clear n0_ n1_; (try clear hb); (try clear hb2); (try clear hk); (try clear hi); (try clear ho0)) | ((with_reducible refine gate_callee (f := 30) rfl ?_); refine goesL_ (some 36) rfl rfl Try.func30 (by kernel_rfl) rfl #[.slice A0 l0.length c0, .string a2] rfl (by (try simp only [List.map_toArray, List.map_cons, List.map_nil]); first | done | rfl | (simp only [List.length_drop, List.length_take]; rfl)) ?_; (with_reducible refine (gambrelref17_Get.calls kj4 (fun k_ => k_ < w.heap.size) _ _ l0 a2 t301 t304 _ ?side1 A13.out).mono ?_); (case side1 => exact Kd.V_mk HC0.out (Kd.F_below (Kd.C_F k38_heap HR0.out) (by repeat (first | (with_reducible first | exact HB.out | apply below_alloc | apply pw_below_drewN | apply below_drew1) | exact HB.out)))); rintro e w30 ⟨v302, rfl, ho0, hb⟩; refine ⟨_, rfl, ?_⟩; have n0_ := Aside0.mk (Kd.R_below (by (with_reducible repeat (first | apply Kd.R_alloc | apply Kd.R_drewN | apply Kd.R_drew)); exact HO300.out) hb); have n1_ := Aside0.mk (Kd.V_lower (Kd.V_mono (ok' := fun k_ => some k_ ≠ (v299 : Value).ownBlock) ho0 (fun k_ hk_ => Or.elim hk_ (fun hs_ => fun e_ => Nat.not_le.2 hs_ (Kd.R_base HO300.out k_ e_.symm)) (fun hn_ => (Kd.fresh' (Kd.R_lt (by (with_reducible repeat (first | apply Kd.R_alloc | apply Kd.R_drewN | apply Kd.R_drew)); exact HO300.out)) k_ hn_)))) (below_size (by repeat (first | (with_reducible first | exact HB.out | apply below_alloc | apply pw_below_drewN | apply below_drew1) | exact HB.out)))); have n2_ := Aside0.mk (below_step (by repeat (first | (with_reducible first | exact HB.out | apply below_alloc | apply pw_below_drewN | apply below_drew1) | exact HB.out)) hb); clear HO300; clear HB; have HO300 := n0_; have HO303 := n1_; have HB := n2_; clear n0_ n1_ n2_; (try clear hb); (try clear hb2); (try clear hk); (try clear hi); (try clear ho0)) | (go_at_call 27; (with_reducible refine (files_May.calls kj4 _ _ l0 t305 _ ?side1 ?side2 A15.out).mono ?_); (case side1 => repeat (first | exact (Kd.C_below HR0.out HB.out) | (with_reducible refine Kd.C_alloc ?_ _) | (with_reducible refine Kd.C_drewN ?_ _) | (with_reducible refine Kd.C_drew ?_))); (case side2 => exact HC0.out); rintro e w31 ⟨rfl, hb⟩; have n0_ := Aside0.mk (Kd.R_below (by (with_reducible repeat (first | apply Kd.R_alloc | apply Kd.R_drewN | apply Kd.R_drew)); exact HO300.out) hb); have n1_ := Aside0.mk (Kd.V_below (by (with_reducible repeat (first | apply Kd.V_alloc | apply Kd.V_drewN | apply Kd.V_drew)); exact HO303.out) hb); have n2_ := Aside0.mk (below_step (by repeat (first | (with_reducible first | exact HB.out | apply below_alloc | apply pw_below_drewN | apply below_drew1) | exact HB.out)) hb); clear HO300; clear HO303; clear HB; have HO300 := n0_; have HO303 := n1_; have HB := n2_; clear n0_ n1_ n2_; (try clear hb); (try clear hb2); (try clear hk); (try clear hi)) | (go_at_call 31; (with_reducible refine (gambrelref17_May.calls kj4 _ _ l0 t306 _ ?side1 ?side2 A16.out).mono ?_); (case side1 => repeat (first | exact (Kd.C_below HR0.out HB.out) | (with_reducible refine Kd.C_alloc ?_ _) | (with_reducible refine Kd.C_drewN ?_ _) | (with_reducible refine Kd.C_drew ?_))); (case side2 => exact HC0.out); rintro e w' ⟨rfl, ⟨nd, rfl⟩⟩; (first | have hcv32 := own_string (P := Try.prog) Try.underlying23 Try.underlying5 Try.underlying9 (Kd.own_of_R HO300.out) | have hcv32 := conv_V (P := Try.prog) Try.underlying23 Try.underlying5 Try.underlying9 HO300.out); (first | have hcv32b := fun n_ : Nat => own_string (P := Try.prog) Try.underlying23 Try.underlying5 Try.underlying9 (Kd.own_of_R (Kd.R_drewN HO300.out n_)) | have hcv32b := fun n_ : Nat => conv_V (P := Try.prog) Try.underlying23 Try.underlying5 Try.underlying9 (Kd.V_drewN HO300.out n_)); (try simp only [World.drewN_drewN] at hcv32b); (first | have hcv33 := own_string (P := Try.prog) Try.underlying23 Try.underlying5 Try.underlying9 (Kd.own_of_R HO303.out) | have hcv33 := conv_V (P := Try.prog) Try.underlying23 Try.underlying5 Try.underlying9 HO303.out); (first | have hcv33b := fun n_ : Nat => own_string (P := Try.prog) Try.underlying23 Try.underlying5 Try.underlying9 (Kd.own_of_R (Kd.R_drewN HO303.out n_)) | have hcv33b := fun n_ : Nat => conv_V (P := Try.prog) Try.underlying23 Try.underlying5 Try.underlying9 (Kd.V_drewN HO303.out n_)); (try simp only [World.drewN_drewN] at hcv33b)) | (go_at_call 33; (with_reducible refine (files_Names.calls kj4 _ _ l0 t307 _ ?side1 ?side2 A20.out).mono ?_); (case side1 => repeat (first | exact (Kd.C_below HR0.out (by repeat (first | (with_reducible first | exact HB.out | apply below_alloc | apply pw_below_drewN | apply below_drew1) | exact HB.out))) | (with_reducible refine Kd.C_alloc ?_ _) | (with_reducible refine Kd.C_drewN ?_ _) | (with_reducible refine Kd.C_drew ?_))); (case side2 => exact HC0.out); rintro e w34 ⟨v308, rfl, ho0, hb⟩; have n0_ := Aside0.mk (Kd.R_below (by (with_reducible repeat (first | apply Kd.R_alloc | apply Kd.R_drewN | apply Kd.R_drew)); exact HO300.out) hb); have n1_ := Aside0.mk (Kd.V_elder' (by (with_reducible repeat (first | apply Kd.V_alloc | apply Kd.V_drewN | apply Kd.V_drew)); exact HO303.out) (Kd.R_base ho0) hb); have n2_ := Aside0.mk (Kd.R_lower ho0 (below_size (by repeat (first | (with_reducible first | exact HB.out | apply below_alloc | apply pw_below_drewN | apply below_drew1) | exact HB.out)))); have n3_ := Aside0.mk (below_step (by repeat (first | (with_reducible first | exact HB.out | apply below_alloc | apply pw_below_drewN | apply below_drew1) | exact HB.out)) hb); clear HO300; clear HO303; clear HB; have HO300 := n0_; have HO303 := n1_; have HO309 := n2_; have HB := n3_; clear n0_ n1_ n2_ n3_; (try clear hb); (try clear hb2); (try clear hk); (try clear hi); (try clear ho0)) | (go_at_call 34; (with_reducible refine (gambrelref17_Names.calls kj4 _ _ l0 t310 _ ?side1 ?side2 A21.out).mono ?_); (case side1 => repeat (first | exact (Kd.C_below HR0.out HB.out) | (with_reducible refine Kd.C_alloc ?_ _) | (with_reducible refine Kd.C_drewN ?_ _) | (with_reducible refine Kd.C_drew ?_))); (case side2 => exact HC0.out); rintro e w35 ⟨v311, rfl, ho0, hb⟩; have n0_ := Aside0.mk (Kd.R_below (by (with_reducible repeat (first | apply Kd.R_alloc | apply Kd.R_drewN | apply Kd.R_drew)); exact HO300.out) hb); have n1_ := Aside0.mk (Kd.V_elder' (by (with_reducible repeat (first | apply Kd.V_alloc | apply Kd.V_drewN | apply Kd.V_drew)); exact HO303.out) (Kd.R_base ho0) hb); have n2_ := Aside0.mk (Kd.R_elder' (by (with_reducible repeat (first | apply Kd.R_alloc | apply Kd.R_drewN | apply Kd.R_drew)); exact HO309.out) (Kd.R_base ho0) hb); have n3_ := Aside0.mk (Kd.R_lower (Kd.R_new' ho0 (Kd.R_lt (by (with_reducible repeat (first | apply Kd.R_alloc | apply Kd.R_drewN | apply Kd.R_drew)); exact HO309.out))) (below_size (by repeat (first | (with_reducible first | exact HB.out | apply below_alloc | apply pw_below_drewN | apply below_drew1) | exact HB.out)))); have n4_ := Aside0.mk (below_step (by repeat (first | (with_reducible first | exact HB.out | apply below_alloc | apply pw_below_drewN | apply below_drew1) | exact HB.out)) hb); clear HO300; clear HO303; clear HO309; clear HB; have HO300 := n0_; have HO303 := n1_; have HO309 := n2_; have HO312 := n3_; have HB := n4_; clear n0_ n1_ n2_ n3_ n4_; (try clear hb); (try clear hb2); (try clear hk); (try clear hi); (try clear ho0); obtain ⟨Ao36, co36, eo36⟩ := Kd.R_slice HO309.out; subst eo36; obtain ⟨Ao37, co37, eo37⟩ := Kd.R_slice HO312.out; subst eo37) | (go_at_call 32; (with_reducible refine (gambrelref15_Strings.calls kj4 _ _ t307 _ _ t310 true _ ?side1 ?side2 ?side3 ?side4 A22.out).mono ?_); (case side1 => repeat (first | exact (Kd.R_reads' HO309.out).2.2 | (with_reducible refine Kd.C_alloc ?_ _) | (with_reducible refine Kd.C_drewN ?_ _) | (with_reducible refine Kd.C_drew ?_))); (case side2 => exact (Kd.R_reads' HO309.out).2.1); (case side3 => repeat (first | exact (Kd.R_reads' HO312.out).2.2 | (with_reducible refine Kd.C_alloc ?_ _) | (with_reducible refine Kd.C_drewN ?_ _) | (with_reducible refine Kd.C_drew ?_))); (case side4 => exact (Kd.R_reads' HO312.out).2.1); rintro e w' ⟨rfl, ⟨nd, rfl⟩⟩) | (go_at_call 35; (with_reducible refine (files_Size.calls kj4 _ _ l0 t314 _ ?side1 ?side2 A24.out).mono ?_); (case side1 => repeat (first | exact (Kd.C_below HR0.out (by repeat (first | (with_reducible first | exact HB.out | apply below_alloc | apply pw_below_drewN | apply below_drew1) | exact HB.out))) | (with_reducible refine Kd.C_alloc ?_ _) | (with_reducible refine Kd.C_drewN ?_ _) | (with_reducible refine Kd.C_drew ?_))); (case side2 => exact HC0.out); rintro e w38 ⟨rfl, hb⟩; have n0_ := Aside0.mk (Kd.R_below (by (with_reducible repeat (first | apply Kd.R_alloc | apply Kd.R_drewN | apply Kd.R_drew)); exact HO300.out) hb); have n1_ := Aside0.mk (Kd.V_below (by (with_reducible repeat (first | apply Kd.V_alloc | apply Kd.V_drewN | apply Kd.V_drew)); exact HO303.out) hb); have n2_ := Aside0.mk (Kd.R_below (by (with_reducible repeat (first | apply Kd.R_alloc | apply Kd.R_drewN | apply Kd.R_drew)); exact HO309.out) hb); have n3_ := Aside0.mk (Kd.R_below (by (with_reducible repeat (first | apply Kd.R_alloc | apply Kd.R_drewN | apply Kd.R_drew)); exact HO312.out) hb); have n4_ := Aside0.mk (below_step (by repeat (first | (with_reducible first | exact HB.out | apply below_alloc | apply pw_below_drewN | apply below_drew1) | exact HB.out)) hb); clear HO300; clear HO303; clear HO309; clear HO312; clear HB; have HO300 := n0_; have HO303 := n1_; have HO309 := n2_; have HO312 := n3_; have HB := n4_; clear n0_ n1_ n2_ n3_ n4_; (try clear hb); (try clear hb2); (try clear hk); (try clear hi)) | (go_at_call 36; (with_reducible refine (gambrelref17_Size.calls kj4 _ _ l0 t315 _ ?side1 ?side2 A25.out).mono ?_); (case side1 => repeat (first | exact (Kd.C_below HR0.out HB.out) | (with_reducible refine Kd.C_alloc ?_ _) | (with_reducible refine Kd.C_drewN ?_ _) | (with_reducible refine Kd.C_drew ?_))); (case side2 => exact HC0.out); rintro e w' ⟨rfl, ⟨nd, rfl⟩⟩) | (go_at_call 29; (with_reducible refine (files_Same.calls _ _ l0 _ _ l1 t316 _ ?side1 ?side2 ?side3 ?side4 A27.out).mono ?_); (case side1 => repeat (first | exact (Kd.C_below HR0.out (by repeat (first | (with_reducible first | exact HB.out | apply below_alloc | apply pw_below_drewN | apply below_drew1) | exact HB.out))) | (with_reducible refine Kd.C_alloc ?_ _) | (with_reducible refine Kd.C_drewN ?_ _) | (with_reducible refine Kd.C_drew ?_))); (case side2 => exact HC0.out); (case side3 => repeat (first | exact (Kd.C_below HR1.out (by repeat (first | (with_reducible first | exact HB.out | apply below_alloc | apply pw_below_drewN | apply below_drew1) | exact HB.out))) | (with_reducible refine Kd.C_alloc ?_ _) | (with_reducible refine Kd.C_drewN ?_ _) | (with_reducible refine Kd.C_drew ?_))); (case side4 => exact HC1.out); rintro e w39 ⟨rfl, hb⟩; have n0_ := Aside0.mk (Kd.R_below (by (with_reducible repeat (first | apply Kd.R_alloc | apply Kd.R_drewN | apply Kd.R_drew)); exact HO300.out) hb); have n1_ := Aside0.mk (Kd.V_below (by (with_reducible repeat (first | apply Kd.V_alloc | apply Kd.V_drewN | apply Kd.V_drew)); exact HO303.out) hb); have n2_ := Aside0.mk (Kd.R_below (by (with_reducible repeat (first | apply Kd.R_alloc | apply Kd.R_drewN | apply Kd.R_drew)); exact HO309.out) hb); have n3_ := Aside0.mk (Kd.R_below (by (with_reducible repeat (first | apply Kd.R_alloc | apply Kd.R_drewN | apply Kd.R_drew)); exact HO312.out) hb); have n4_ := Aside0.mk (below_step (by repeat (first | (with_reducible first | exact HB.out | apply below_alloc | apply pw_below_drewN | apply below_drew1) | exact HB.out)) hb); clear HO300; clear HO303; clear HO309; clear HO312; clear HB; have HO300 := n0_; have HO303 := n1_; have HO309 := n2_; have HO312 := n3_; have HB := n4_; clear n0_ n1_ n2_ n3_ n4_; (try clear hb); (try clear hb2); (try clear hk); (try clear hi)) | (go_at_call 20; (with_reducible refine (gambrelref17_Same.calls kj4 _ _ l0 _ _ l1 t317 _ ?side1 ?side2 ?side3 ?side4 A28.out).mono ?_); (case side1 => repeat (first | exact (Kd.C_below HR0.out HB.out) | (with_reducible refine Kd.C_alloc ?_ _) | (with_reducible refine Kd.C_drewN ?_ _) | (with_reducible refine Kd.C_drew ?_))); (case side2 => exact HC0.out); (case side3 => repeat (first | exact (Kd.C_below HR1.out HB.out) | (with_reducible refine Kd.C_alloc ?_ _) | (with_reducible refine Kd.C_drewN ?_ _) | (with_reducible refine Kd.C_drew ?_))); (case side4 => exact HC1.out); rintro e w' ⟨rfl, ⟨nd, rfl⟩⟩))
                    go_ret
                    exact ⟨by first | rfl | (simp [errW_none, errW_some] <;> rfl) | (simp [*, errW_none, errW_some] <;> rfl), by repeat (first | (with_reducible first | exact HB.out | apply below_alloc | apply pw_below_drewN | apply below_drew1) | exact HB.out)⟩
                  · rw [if_neg c26] at H
                    exact absurd H (by simp)
                · replace c23 := Bool.eq_false_iff.mpr c23
                  subst c23
                  have H1 : (none) = some r := by rw [if_neg (show ¬ (false = true) by decide)] at H; exact H
                  clear H
                  have H := H1
                  clear H1
                  exact absurd H (by simp)
              · rw [if_neg c19] at H
                exact absurd H (by simp)
            · rw [if_neg c18] at H
              exact absurd H (by simp)
          · rw [if_neg c17] at H
            exact absurd H (by simp)
        · replace c14 := Bool.eq_false_iff.mpr c14
          subst c14
          have H1 : (none) = some r := by rw [if_neg (show ¬ (false = true) by decide)] at H; exact H
          clear H
          have H := H1
          clear H1
          exact absurd H (by simp)

end Go.Proofs.Ytcgeioingikeeaa.P
