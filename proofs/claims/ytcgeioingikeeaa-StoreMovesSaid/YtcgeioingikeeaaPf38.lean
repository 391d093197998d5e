/- Written by a program of this seat (wip/tools/stage.py) out of the translation: what each function of this text returns, where its plain form returns. Lean checks it. -/
import Derived.Test.YtcgeioingikeeaaP0
namespace Go.Proofs.Ytcgeioingikeeaa.P
open Go.RowKit Go.Proofs.YtcgeioingikeeaaW.PrintWords Go.Proofs.YtcgeioingikeeaaW.PrintLast Go.Proofs.YtcgeioingikeeaaW.PrintMore
attribute [local go_sem] max2_int min2_int max_two min_two max_three min_three max_four min_four   -- for this text's walks alone
set_option linter.unusedVariables false
set_option linter.unusedSimpArgs false

/-! ### gambrelref18_Few: function 38 -/
mutual
def gambrelref18_Few.l0 : Nat → List (S76) → Int → Option (Bool)
  | 0, _, _ => none
  | k + 1, x0, x3 => if x3 < (x0.length : Int) then (gambrelref18_Few.j1 k x0 x3 (decide (x3 < 21))) else (gambrelref18_Few.j1 k x0 x3 false)
def gambrelref18_Few.j1 : Nat → List (S76) → Int → Bool → Option (Bool)
  | 0, _, _, _ => none
  | k + 1, x0, x3, x12 => if x12 = true then (if 0 ≤ x3 then (if x3 < (x0.length : Int) then (if ((rd_T76 x0 x3).f0) < 1 then (some false) else (if ((rd_T76 x0 x3).f0) > 8 then (some false) else (if (((rd_T76 x0 x3).f1.f0).size : Int) > 60 then (some false) else (if (((rd_T76 x0 x3).f1.f3).length : Int) > 300 then (some false) else (if (((rd_T76 x0 x3).f2).size : Int) > 60 then (some false) else (if (((rd_T76 x0 x3).f3).size : Int) > 60 then (some false) else (if (((rd_T76 x0 x3).f4).length : Int) > 20 then (some false) else (gambrelref18_Few.l0 k x0 (wrap64 (x3 + 1)))))))))) else (none)) else (none)) else (some (decide ((x0.length : Int) ≤ 20)))
end
def gambrelref18_Few.f (k : Nat) (l0 : List (S76)) : Option (Bool) := gambrelref18_Few.l0 k l0 0
theorem gambrelref18_Few.mono_l : ∀ k, (∀ y0 y1, LeO (gambrelref18_Few.l0 k y0 y1) (gambrelref18_Few.l0 (k + 1) y0 y1)) ∧ (∀ y0 y1 y2, LeO (gambrelref18_Few.j1 k y0 y1 y2) (gambrelref18_Few.j1 (k + 1) y0 y1 y2))
  | 0 => ⟨fun _ _ r h => by simp [gambrelref18_Few.l0] at h, fun _ _ _ r h => by simp [gambrelref18_Few.j1] at h⟩
  | k + 1 => by
    obtain ⟨ih0, ih1⟩ := gambrelref18_Few.mono_l k
    refine ⟨?_, ?_⟩
    · intro y0 y1
      unfold gambrelref18_Few.l0
      repeat' first
      | (with_reducible exact ih0 _ _)
      | (with_reducible exact ih1 _ _ _)
      | (with_reducible exact LeO.refl _)
      | (with_reducible exact LeO.none _)
      | (with_reducible refine LeO.ite ?_ ?_)
      | (with_reducible refine LeO.bind ?_ (fun _ => ?_))
      | exact ih0 _ _
      | exact ih1 _ _ _
      | exact LeO.none _
      | refine LeO.ite ?_ ?_
      | refine LeO.bind ?_ (fun _ => ?_)
    · intro y0 y1 y2
      unfold gambrelref18_Few.j1
      repeat' first
      | (with_reducible exact ih0 _ _)
      | (with_reducible exact ih1 _ _ _)
      | (with_reducible exact LeO.refl _)
      | (with_reducible exact LeO.none _)
      | (with_reducible refine LeO.ite ?_ ?_)
      | (with_reducible refine LeO.bind ?_ (fun _ => ?_))
      | exact ih0 _ _
      | exact ih1 _ _ _
      | exact LeO.none _
      | refine LeO.ite ?_ ?_
      | refine LeO.bind ?_ (fun _ => ?_)
theorem gambrelref18_Few.mono : ∀ a0 k, LeO (gambrelref18_Few.f k a0) (gambrelref18_Few.f (k + 1) a0) := by
  intro a0 k
  obtain ⟨ih0, ih1⟩ := gambrelref18_Few.mono_l k
  unfold gambrelref18_Few.f
  repeat' first
      | (with_reducible exact ih0 _ _)
      | (with_reducible exact ih1 _ _ _)
      | (with_reducible exact LeO.refl _)
      | (with_reducible exact LeO.none _)
      | (with_reducible refine LeO.ite ?_ ?_)
      | (with_reducible refine LeO.bind ?_ (fun _ => ?_))
      | exact ih0 _ _
      | exact ih1 _ _ _
      | exact LeO.none _
      | refine LeO.ite ?_ ?_
      | refine LeO.bind ?_ (fun _ => ?_)
set_option maxHeartbeats 8000000 in
set_option maxRecDepth 100000 in
theorem gambrelref18_Few.calls (k : Nat) (A0 : Option Addr) (c0 : Nat) (l0 : List (S76)) (r : Bool) (w : World) (hr0 : Kd.C k76 w A0 l0.length l0) (hc0 : l0.length ≤ c0) (h : gambrelref18_Few.f k l0 = some r) :
    Calls Try.prog 38 #[.slice A0 l0.length c0] w fun e w' => e = .returned (.bool r) ∧ Below w.heap.size w w' := by
  have hu76 := Try.underlying76
  have HR0 := Aside0.mk hr0
  have HC0 := Aside0.mk hc0
  clear hr0 hc0
  have HB := Aside0.mk (Below.refl w.heap.size w)
  have H : (gambrelref18_Few.l0 k l0 0) = some r := h
  clear h
  have H' := Aside0.mk H
  clear H
  go_enter Try.func38, Try.ntmps38
  go_wp2
  go_loopg [3] k (fun kq v3 w' => ∃ (x3_1 : Int), v3 = .int .i64 x3_1 ∧ Aside0 (gambrelref18_Few.l0 kq l0 x3_1 = some r) ∧ Aside0 (kq ≤ k) ∧ Aside0 (Below w.heap.size w w'))
  case atStart => exact ⟨(0), (by first | rfl | (simp; done) | (simp [*]; done)), H', ⟨Nat.le_refl _⟩, ⟨by repeat (first | (with_reducible first | exact HB.out | apply below_alloc | apply pw_below_drewN | apply below_drew1) | exact HB.out)⟩⟩
  case round =>
    clear H'
    obtain ⟨x3_1, rfl, HA, HK1, HB⟩ := hrel
    cases gk with
    | zero => exact absurd HA.out (by simp [gambrelref18_Few.l0])
    | succ k1 =>
      have H := HA.out
      clear HA
      simp only [gambrelref18_Few.l0] at H
      have HC2 := Aside0.mk H
      clear H
      go_upto_region 2 with (fail)
      go_cut [12] (fun v12 wc => ∃ (kq : Nat) (x12_1 : Bool), v12 = .bool x12_1 ∧ Aside0 (gambrelref18_Few.j1 kq l0 x3_1 x12_1 = some r) ∧ Aside0 (kq ≤ k1) ∧ Aside0 (Below w.heap.size w wc))
      case first =>
        have H := HC2.out
        clear HC2
        by_cases c3 : x3_1 < (l0.length : Int)
        · rw [if_pos c3] at H
          have c3b0 : decide (x3_1 < (l0.length : Int)) = true := decide_eq_true c3
          clear c3
          (first | rw [c3b0] | (simp only [i64_w, i32_w]; rw [c3b0]) | skip)
          have H' := Aside0.mk H
          clear H
          go_wp2
          go_meet
          case rel => exact ⟨_, (decide (x3_1 < 21)), (by first | rfl | (simp; done) | (simp [*]; done)), H', ⟨by have := HK1.out; first | omega | exact Nat.le_refl _⟩, ⟨by repeat (first | (with_reducible first | exact HB.out | apply below_alloc | apply pw_below_drewN | apply below_drew1) | exact HB.out)⟩⟩
        · rw [if_neg c3] at H
          have c3b0 : decide (x3_1 < (l0.length : Int)) = false := decide_eq_false c3
          clear c3
          (first | rw [c3b0] | (simp only [i64_w, i32_w]; rw [c3b0]) | skip)
          have H' := Aside0.mk H
          clear H
          go_wp2
          go_meet
          case rel => exact ⟨_, (false), (by first | rfl | (simp; done) | (simp [*]; done)), H', ⟨by have := HK1.out; first | omega | exact Nat.le_refl _⟩, ⟨by repeat (first | (with_reducible first | exact HB.out | apply below_alloc | apply pw_below_drewN | apply below_drew1) | exact HB.out)⟩⟩
      case rest =>
        clear HC2
        try clear p2
        try clear c3
        try clear c3b0
        obtain ⟨kq, x12_1, rfl, HA, HJ1, HB⟩ := hcut
        cases kq with
        | zero => exact absurd HA.out (by simp [gambrelref18_Few.j1])
        | succ kj1 =>
          have H := HA.out
          clear HA
          simp only [gambrelref18_Few.j1] at H
          by_cases c4 : x12_1 = true
          · subst c4
            have H1 : (if 0 ≤ x3_1 then (if x3_1 < (l0.length : Int) then (if ((rd_T76 l0 x3_1).f0) < 1 then (some false) else (if ((rd_T76 l0 x3_1).f0) > 8 then (some false) else (if (((rd_T76 l0 x3_1).f1.f0).size : Int) > 60 then (some false) else (if (((rd_T76 l0 x3_1).f1.f3).length : Int) > 300 then (some false) else (if (((rd_T76 l0 x3_1).f2).size : Int) > 60 then (some false) else (if (((rd_T76 l0 x3_1).f3).size : Int) > 60 then (some false) else (if (((rd_T76 l0 x3_1).f4).length : Int) > 20 then (some false) else (gambrelref18_Few.l0 kj1 l0 (wrap64 (x3_1 + 1)))))))))) else (none)) else (none)) = some r := by rw [if_pos rfl] at H; exact H
            clear H
            have H := H1
            clear H1
            by_cases c5 : 0 ≤ x3_1
            · rw [if_pos c5] at H
              have c5b0 : decide (0 ≤ x3_1) = true := decide_eq_true c5
              clear c5
              by_cases c6 : x3_1 < (l0.length : Int)
              · rw [if_pos c6] at H
                have c6b0 : decide (x3_1 < (l0.length : Int)) = true := decide_eq_true c6
                clear c6
                by_cases c7 : ((rd_T76 l0 x3_1).f0) < 1
                · rw [if_pos c7] at H
                  have c7b0 : decide (((rd_T76 l0 x3_1).f0) < 1) = true := decide_eq_true c7
                  clear c7
                  obtain rfl := Option.some.inj H
                  have p587 : 0 ≤ (x3_1 : Int) := of_decide_eq_true (by first | (with_reducible assumption) | assumption)
                  have q587 : x3_1 < (l0.length : Int) := of_decide_eq_true (by first | (with_reducible assumption) | assumption)
                  obtain ⟨ad587, A587_4, c587_4, A587_7, c587_7, e587, hx587_0, hx587_1, hx587_2, hx587_3, hx587_4, hx587_5, hx587_6, hx587_7, hx587_8, hl587_4, hi587_4, hl587_7, hi587_7⟩ := at_T76 HR0.out x3_1 p587 q587
                  cases e587
                  replace hx587_0 := (HB.out.cell (World.block_lt_of_cell? w _ hx587_0)).trans hx587_0
                  replace hx587_1 := (HB.out.cell (World.block_lt_of_cell? w _ hx587_1)).trans hx587_1
                  replace hx587_2 := (HB.out.cell (World.block_lt_of_cell? w _ hx587_2)).trans hx587_2
                  replace hx587_3 := (HB.out.cell (World.block_lt_of_cell? w _ hx587_3)).trans hx587_3
                  replace hx587_4 := (HB.out.cell (World.block_lt_of_cell? w _ hx587_4)).trans hx587_4
                  replace hx587_5 := (HB.out.cell (World.block_lt_of_cell? w _ hx587_5)).trans hx587_5
                  replace hx587_6 := (HB.out.cell (World.block_lt_of_cell? w _ hx587_6)).trans hx587_6
                  replace hx587_7 := (HB.out.cell (World.block_lt_of_cell? w _ hx587_7)).trans hx587_7
                  replace hx587_8 := (HB.out.cell (World.block_lt_of_cell? w _ hx587_8)).trans hx587_8
                  have HR587_4 := Aside0.mk hi587_4
                  have HC587_4 := Aside0.mk hl587_4
                  clear hi587_4 hl587_4
                  have HR587_7 := Aside0.mk hi587_7
                  have HC587_7 := Aside0.mk hl587_7
                  clear hi587_7 hl587_7
                  replace p587 := eq_true p587
                  replace q587 := eq_true q587
                  go_wp2_with (first | ((with_reducible refine gate_dst (N := 4) rfl ?_); (try (refine gate_guard (by rfl) ?_; dsimp only)); refine box_event ?hg (N := 4) ?hd (cs := #[.int .i64 0, .string (⟨#[]⟩ : ByteArray), .int .i64 0, .int .i64 0, .slice none 0 0, .string (⟨#[]⟩ : ByteArray), .string (⟨#[]⟩ : ByteArray), .slice none 0 0, .int .i64 0]) (t := 76) ?hr ?_; (case hd => rfl); (case hg => rfl); (case hr => first | (go_simp; done) | (go_simp; rfl)); intro gb588 hg w8 hbox hb; have n0_ := Aside0.mk (below_step (by repeat (first | (with_reducible first | exact HB.out | apply below_alloc | apply pw_below_drewN | apply below_drew1) | exact HB.out)) hb); have n1_ := Aside0.mk (hbox); have n2_ := Aside0.mk ((by rw [hg]; exact (below_size (by repeat (first | (with_reducible first | exact HB.out | apply below_alloc | apply pw_below_drewN | apply below_drew1) | exact HB.out))) : w.heap.size ≤ gb588)); have n3_ := Aside0.mk ((by rw [hg]; exact (below_size (by repeat (first | (with_reducible first | exact HB.out | apply below_alloc | apply pw_below_drewN | apply below_drew1) | exact HB.out))) : w.heap.size ≤ gb588)); clear HB; have HB := n0_; have BK588 := n1_; have GW588 := n2_; have GE588 := n3_; clear n0_ n1_ n2_ n3_; clear hb hbox hg; have hcz9_0 : w8.cell? ⟨gb588, 0, none⟩ = some (.int .i64 0) := (blk_cell BK588.out 0).trans rfl; have hcz9_1 : w8.cell? ⟨gb588, 1, none⟩ = some (.string (⟨#[]⟩ : ByteArray)) := (blk_cell BK588.out 1).trans rfl; have hcz9_2 : w8.cell? ⟨gb588, 2, none⟩ = some (.int .i64 0) := (blk_cell BK588.out 2).trans rfl; have hcz9_3 : w8.cell? ⟨gb588, 3, none⟩ = some (.int .i64 0) := (blk_cell BK588.out 3).trans rfl; have hcz9_4 : w8.cell? ⟨gb588, 4, none⟩ = some (.slice none 0 0) := (blk_cell BK588.out 4).trans rfl; have hcz9_5 : w8.cell? ⟨gb588, 5, none⟩ = some (.string (⟨#[]⟩ : ByteArray)) := (blk_cell BK588.out 5).trans rfl; have hcz9_6 : w8.cell? ⟨gb588, 6, none⟩ = some (.string (⟨#[]⟩ : ByteArray)) := (blk_cell BK588.out 6).trans rfl; have hcz9_7 : w8.cell? ⟨gb588, 7, none⟩ = some (.slice none 0 0) := (blk_cell BK588.out 7).trans rfl; have hcz9_8 : w8.cell? ⟨gb588, 8, none⟩ = some (.int .i64 0) := (blk_cell BK588.out 8).trans rfl; have hfz9_0 := blk_frozen BK588.out 0; have hfz9_1 := blk_frozen BK588.out 1; have hfz9_2 := blk_frozen BK588.out 2; have hfz9_3 := blk_frozen BK588.out 3; have hfz9_4 := blk_frozen BK588.out 4; have hfz9_5 := blk_frozen BK588.out 5; have hfz9_6 := blk_frozen BK588.out 6; have hfz9_7 := blk_frozen BK588.out 7; have hfz9_8 := blk_frozen BK588.out 8))
                  go_ret
                  exact ⟨by first | rfl | (simp [errW_none, errW_some] <;> rfl) | (simp [*, errW_none, errW_some] <;> rfl), by repeat (first | (with_reducible first | exact HB.out | apply below_alloc | apply pw_below_drewN | apply below_drew1 | refine below_set ?_ GE588.out) | exact HB.out)⟩
                · rw [if_neg c7] at H
                  have c7b0 : decide (((rd_T76 l0 x3_1).f0) < 1) = false := decide_eq_false c7
                  clear c7
                  by_cases c10 : ((rd_T76 l0 x3_1).f0) > 8
                  · rw [if_pos c10] at H
                    have c10b0 : decide (8 < ((rd_T76 l0 x3_1).f0)) = true := decide_eq_true c10
                    clear c10
                    obtain rfl := Option.some.inj H
                    have p587 : 0 ≤ (x3_1 : Int) := of_decide_eq_true (by first | (with_reducible assumption) | assumption)
                    have q587 : x3_1 < (l0.length : Int) := of_decide_eq_true (by first | (with_reducible assumption) | assumption)
                    obtain ⟨ad587, A587_4, c587_4, A587_7, c587_7, e587, hx587_0, hx587_1, hx587_2, hx587_3, hx587_4, hx587_5, hx587_6, hx587_7, hx587_8, hl587_4, hi587_4, hl587_7, hi587_7⟩ := at_T76 HR0.out x3_1 p587 q587
                    cases e587
                    replace hx587_0 := (HB.out.cell (World.block_lt_of_cell? w _ hx587_0)).trans hx587_0
                    replace hx587_1 := (HB.out.cell (World.block_lt_of_cell? w _ hx587_1)).trans hx587_1
                    replace hx587_2 := (HB.out.cell (World.block_lt_of_cell? w _ hx587_2)).trans hx587_2
                    replace hx587_3 := (HB.out.cell (World.block_lt_of_cell? w _ hx587_3)).trans hx587_3
                    replace hx587_4 := (HB.out.cell (World.block_lt_of_cell? w _ hx587_4)).trans hx587_4
                    replace hx587_5 := (HB.out.cell (World.block_lt_of_cell? w _ hx587_5)).trans hx587_5
                    replace hx587_6 := (HB.out.cell (World.block_lt_of_cell? w _ hx587_6)).trans hx587_6
                    replace hx587_7 := (HB.out.cell (World.block_lt_of_cell? w _ hx587_7)).trans hx587_7
                    replace hx587_8 := (HB.out.cell (World.block_lt_of_cell? w _ hx587_8)).trans hx587_8
                    have HR587_4 := Aside0.mk hi587_4
                    have HC587_4 := Aside0.mk hl587_4
                    clear hi587_4 hl587_4
                    have HR587_7 := Aside0.mk hi587_7
                    have HC587_7 := Aside0.mk hl587_7
                    clear hi587_7 hl587_7
                    replace p587 := eq_true p587
                    replace q587 := eq_true q587
                    go_wp2_with (first | ((with_reducible refine gate_dst (N := 4) rfl ?_); (try (refine gate_guard (by rfl) ?_; dsimp only)); refine box_event ?hg (N := 4) ?hd (cs := #[.int .i64 0, .string (⟨#[]⟩ : ByteArray), .int .i64 0, .int .i64 0, .slice none 0 0, .string (⟨#[]⟩ : ByteArray), .string (⟨#[]⟩ : ByteArray), .slice none 0 0, .int .i64 0]) (t := 76) ?hr ?_; (case hd => rfl); (case hg => rfl); (case hr => first | (go_simp; done) | (go_simp; rfl)); intro gb588 hg w11 hbox hb; have n0_ := Aside0.mk (below_step (by repeat (first | (with_reducible first | exact HB.out | apply below_alloc | apply pw_below_drewN | apply below_drew1) | exact HB.out)) hb); have n1_ := Aside0.mk (hbox); have n2_ := Aside0.mk ((by rw [hg]; exact (below_size (by repeat (first | (with_reducible first | exact HB.out | apply below_alloc | apply pw_below_drewN | apply below_drew1) | exact HB.out))) : w.heap.size ≤ gb588)); have n3_ := Aside0.mk ((by rw [hg]; exact (below_size (by repeat (first | (with_reducible first | exact HB.out | apply below_alloc | apply pw_below_drewN | apply below_drew1) | exact HB.out))) : w.heap.size ≤ gb588)); clear HB; have HB := n0_; have BK588 := n1_; have GW588 := n2_; have GE588 := n3_; clear n0_ n1_ n2_ n3_; clear hb hbox hg; have hcz12_0 : w11.cell? ⟨gb588, 0, none⟩ = some (.int .i64 0) := (blk_cell BK588.out 0).trans rfl; have hcz12_1 : w11.cell? ⟨gb588, 1, none⟩ = some (.string (⟨#[]⟩ : ByteArray)) := (blk_cell BK588.out 1).trans rfl; have hcz12_2 : w11.cell? ⟨gb588, 2, none⟩ = some (.int .i64 0) := (blk_cell BK588.out 2).trans rfl; have hcz12_3 : w11.cell? ⟨gb588, 3, none⟩ = some (.int .i64 0) := (blk_cell BK588.out 3).trans rfl; have hcz12_4 : w11.cell? ⟨gb588, 4, none⟩ = some (.slice none 0 0) := (blk_cell BK588.out 4).trans rfl; have hcz12_5 : w11.cell? ⟨gb588, 5, none⟩ = some (.string (⟨#[]⟩ : ByteArray)) := (blk_cell BK588.out 5).trans rfl; have hcz12_6 : w11.cell? ⟨gb588, 6, none⟩ = some (.string (⟨#[]⟩ : ByteArray)) := (blk_cell BK588.out 6).trans rfl; have hcz12_7 : w11.cell? ⟨gb588, 7, none⟩ = some (.slice none 0 0) := (blk_cell BK588.out 7).trans rfl; have hcz12_8 : w11.cell? ⟨gb588, 8, none⟩ = some (.int .i64 0) := (blk_cell BK588.out 8).trans rfl; have hfz12_0 := blk_frozen BK588.out 0; have hfz12_1 := blk_frozen BK588.out 1; have hfz12_2 := blk_frozen BK588.out 2; have hfz12_3 := blk_frozen BK588.out 3; have hfz12_4 := blk_frozen BK588.out 4; have hfz12_5 := blk_frozen BK588.out 5; have hfz12_6 := blk_frozen BK588.out 6; have hfz12_7 := blk_frozen BK588.out 7; have hfz12_8 := blk_frozen BK588.out 8))
                    go_ret
                    exact ⟨by first | rfl | (simp [errW_none, errW_some] <;> rfl) | (simp [*, errW_none, errW_some] <;> rfl), by repeat (first | (with_reducible first | exact HB.out | apply below_alloc | apply pw_below_drewN | apply below_drew1 | refine below_set ?_ GE588.out) | exact HB.out)⟩
                  · rw [if_neg c10] at H
                    have c10b0 : decide (8 < ((rd_T76 l0 x3_1).f0)) = false := decide_eq_false c10
                    clear c10
                    by_cases c13 : (((rd_T76 l0 x3_1).f1.f0).size : Int) > 60
                    · rw [if_pos c13] at H
                      have c13b0 : decide (60 < (((rd_T76 l0 x3_1).f1.f0).size : Int)) = true := decide_eq_true c13
                      have c13b1 : decide (60 < ((rd_T76 l0 x3_1).f1.f0).size) = true := decide_eq_true (by omega)
                      clear c13
                      obtain rfl := Option.some.inj H
                      have p587 : 0 ≤ (x3_1 : Int) := of_decide_eq_true (by first | (with_reducible assumption) | assumption)
                      have q587 : x3_1 < (l0.length : Int) := of_decide_eq_true (by first | (with_reducible assumption) | assumption)
                      obtain ⟨ad587, A587_4, c587_4, A587_7, c587_7, e587, hx587_0, hx587_1, hx587_2, hx587_3, hx587_4, hx587_5, hx587_6, hx587_7, hx587_8, hl587_4, hi587_4, hl587_7, hi587_7⟩ := at_T76 HR0.out x3_1 p587 q587
                      cases e587
                      replace hx587_0 := (HB.out.cell (World.block_lt_of_cell? w _ hx587_0)).trans hx587_0
                      replace hx587_1 := (HB.out.cell (World.block_lt_of_cell? w _ hx587_1)).trans hx587_1
                      replace hx587_2 := (HB.out.cell (World.block_lt_of_cell? w _ hx587_2)).trans hx587_2
                      replace hx587_3 := (HB.out.cell (World.block_lt_of_cell? w _ hx587_3)).trans hx587_3
                      replace hx587_4 := (HB.out.cell (World.block_lt_of_cell? w _ hx587_4)).trans hx587_4
                      replace hx587_5 := (HB.out.cell (World.block_lt_of_cell? w _ hx587_5)).trans hx587_5
                      replace hx587_6 := (HB.out.cell (World.block_lt_of_cell? w _ hx587_6)).trans hx587_6
                      replace hx587_7 := (HB.out.cell (World.block_lt_of_cell? w _ hx587_7)).trans hx587_7
                      replace hx587_8 := (HB.out.cell (World.block_lt_of_cell? w _ hx587_8)).trans hx587_8
                      have HR587_4 := Aside0.mk hi587_4
                      have HC587_4 := Aside0.mk hl587_4
                      clear hi587_4 hl587_4
                      have HR587_7 := Aside0.mk hi587_7
                      have HC587_7 := Aside0.mk hl587_7
                      clear hi587_7 hl587_7
                      replace p587 := eq_true p587
                      replace q587 := eq_true q587
                      go_wp2_with (first | ((with_reducible refine gate_dst (N := 4) rfl ?_); (try (refine gate_guard (by rfl) ?_; dsimp only)); refine box_event ?hg (N := 4) ?hd (cs := #[.int .i64 0, .string (⟨#[]⟩ : ByteArray), .int .i64 0, .int .i64 0, .slice none 0 0, .string (⟨#[]⟩ : ByteArray), .string (⟨#[]⟩ : ByteArray), .slice none 0 0, .int .i64 0]) (t := 76) ?hr ?_; (case hd => rfl); (case hg => rfl); (case hr => first | (go_simp; done) | (go_simp; rfl)); intro gb588 hg w14 hbox hb; have n0_ := Aside0.mk (below_step (by repeat (first | (with_reducible first | exact HB.out | apply below_alloc | apply pw_below_drewN | apply below_drew1) | exact HB.out)) hb); have n1_ := Aside0.mk (hbox); have n2_ := Aside0.mk ((by rw [hg]; exact (below_size (by repeat (first | (with_reducible first | exact HB.out | apply below_alloc | apply pw_below_drewN | apply below_drew1) | exact HB.out))) : w.heap.size ≤ gb588)); have n3_ := Aside0.mk ((by rw [hg]; exact (below_size (by repeat (first | (with_reducible first | exact HB.out | apply below_alloc | apply pw_below_drewN | apply below_drew1) | exact HB.out))) : w.heap.size ≤ gb588)); clear HB; have HB := n0_; have BK588 := n1_; have GW588 := n2_; have GE588 := n3_; clear n0_ n1_ n2_ n3_; clear hb hbox hg; have hcz15_0 : w14.cell? ⟨gb588, 0, none⟩ = some (.int .i64 0) := (blk_cell BK588.out 0).trans rfl; have hcz15_1 : w14.cell? ⟨gb588, 1, none⟩ = some (.string (⟨#[]⟩ : ByteArray)) := (blk_cell BK588.out 1).trans rfl; have hcz15_2 : w14.cell? ⟨gb588, 2, none⟩ = some (.int .i64 0) := (blk_cell BK588.out 2).trans rfl; have hcz15_3 : w14.cell? ⟨gb588, 3, none⟩ = some (.int .i64 0) := (blk_cell BK588.out 3).trans rfl; have hcz15_4 : w14.cell? ⟨gb588, 4, none⟩ = some (.slice none 0 0) := (blk_cell BK588.out 4).trans rfl; have hcz15_5 : w14.cell? ⟨gb588, 5, none⟩ = some (.string (⟨#[]⟩ : ByteArray)) := (blk_cell BK588.out 5).trans rfl; have hcz15_6 : w14.cell? ⟨gb588, 6, none⟩ = some (.string (⟨#[]⟩ : ByteArray)) := (blk_cell BK588.out 6).trans rfl; have hcz15_7 : w14.cell? ⟨gb588, 7, none⟩ = some (.slice none 0 0) := (blk_cell BK588.out 7).trans rfl; have hcz15_8 : w14.cell? ⟨gb588, 8, none⟩ = some (.int .i64 0) := (blk_cell BK588.out 8).trans rfl; have hfz15_0 := blk_frozen BK588.out 0; have hfz15_1 := blk_frozen BK588.out 1; have hfz15_2 := blk_frozen BK588.out 2; have hfz15_3 := blk_frozen BK588.out 3; have hfz15_4 := blk_frozen BK588.out 4; have hfz15_5 := blk_frozen BK588.out 5; have hfz15_6 := blk_frozen BK588.out 6; have hfz15_7 := blk_frozen BK588.out 7; have hfz15_8 := blk_frozen BK588.out 8))
                      go_ret
                      exact ⟨by first | rfl | (simp [errW_none, errW_some] <;> rfl) | (simp [*, errW_none, errW_some] <;> rfl), by repeat (first | (with_reducible first | exact HB.out | apply below_alloc | apply pw_below_drewN | apply below_drew1 | refine below_set ?_ GE588.out) | exact HB.out)⟩
                    · rw [if_neg c13] at H
                      have c13b0 : decide (60 < (((rd_T76 l0 x3_1).f1.f0).size : Int)) = false := decide_eq_false c13
                      have c13b1 : decide (60 < ((rd_T76 l0 x3_1).f1.f0).size) = false := decide_eq_false (by omega)
                      clear c13
                      by_cases c16 : (((rd_T76 l0 x3_1).f1.f3).length : Int) > 300
                      · rw [if_pos c16] at H
                        have c16b0 : decide (300 < (((rd_T76 l0 x3_1).f1.f3).length : Int)) = true := decide_eq_true c16
                        have c16b1 : decide (300 < ((rd_T76 l0 x3_1).f1.f3).length) = true := decide_eq_true (by omega)
                        clear c16
                        obtain rfl := Option.some.inj H
                        have p587 : 0 ≤ (x3_1 : Int) := of_decide_eq_true (by first | (with_reducible assumption) | assumption)
                        have q587 : x3_1 < (l0.length : Int) := of_decide_eq_true (by first | (with_reducible assumption) | assumption)
                        obtain ⟨ad587, A587_4, c587_4, A587_7, c587_7, e587, hx587_0, hx587_1, hx587_2, hx587_3, hx587_4, hx587_5, hx587_6, hx587_7, hx587_8, hl587_4, hi587_4, hl587_7, hi587_7⟩ := at_T76 HR0.out x3_1 p587 q587
                        cases e587
                        replace hx587_0 := (HB.out.cell (World.block_lt_of_cell? w _ hx587_0)).trans hx587_0
                        replace hx587_1 := (HB.out.cell (World.block_lt_of_cell? w _ hx587_1)).trans hx587_1
                        replace hx587_2 := (HB.out.cell (World.block_lt_of_cell? w _ hx587_2)).trans hx587_2
                        replace hx587_3 := (HB.out.cell (World.block_lt_of_cell? w _ hx587_3)).trans hx587_3
                        replace hx587_4 := (HB.out.cell (World.block_lt_of_cell? w _ hx587_4)).trans hx587_4
                        replace hx587_5 := (HB.out.cell (World.block_lt_of_cell? w _ hx587_5)).trans hx587_5
                        replace hx587_6 := (HB.out.cell (World.block_lt_of_cell? w _ hx587_6)).trans hx587_6
                        replace hx587_7 := (HB.out.cell (World.block_lt_of_cell? w _ hx587_7)).trans hx587_7
                        replace hx587_8 := (HB.out.cell (World.block_lt_of_cell? w _ hx587_8)).trans hx587_8
                        have HR587_4 := Aside0.mk hi587_4
                        have HC587_4 := Aside0.mk hl587_4
                        clear hi587_4 hl587_4
                        have HR587_7 := Aside0.mk hi587_7
                        have HC587_7 := Aside0.mk hl587_7
                        clear hi587_7 hl587_7
                        replace p587 := eq_true p587
                        replace q587 := eq_true q587
                        go_wp2_with (first | ((with_reducible refine gate_dst (N := 4) rfl ?_); (try (refine gate_guard (by rfl) ?_; dsimp only)); refine box_event ?hg (N := 4) ?hd (cs := #[.int .i64 0, .string (⟨#[]⟩ : ByteArray), .int .i64 0, .int .i64 0, .slice none 0 0, .string (⟨#[]⟩ : ByteArray), .string (⟨#[]⟩ : ByteArray), .slice none 0 0, .int .i64 0]) (t := 76) ?hr ?_; (case hd => rfl); (case hg => rfl); (case hr => first | (go_simp; done) | (go_simp; rfl)); intro gb588 hg w17 hbox hb; have n0_ := Aside0.mk (below_step (by repeat (first | (with_reducible first | exact HB.out | apply below_alloc | apply pw_below_drewN | apply below_drew1) | exact HB.out)) hb); have n1_ := Aside0.mk (hbox); have n2_ := Aside0.mk ((by rw [hg]; exact (below_size (by repeat (first | (with_reducible first | exact HB.out | apply below_alloc | apply pw_below_drewN | apply below_drew1) | exact HB.out))) : w.heap.size ≤ gb588)); have n3_ := Aside0.mk ((by rw [hg]; exact (below_size (by repeat (first | (with_reducible first | exact HB.out | apply below_alloc | apply pw_below_drewN | apply below_drew1) | exact HB.out))) : w.heap.size ≤ gb588)); clear HB; have HB := n0_; have BK588 := n1_; have GW588 := n2_; have GE588 := n3_; clear n0_ n1_ n2_ n3_; clear hb hbox hg; have hcz18_0 : w17.cell? ⟨gb588, 0, none⟩ = some (.int .i64 0) := (blk_cell BK588.out 0).trans rfl; have hcz18_1 : w17.cell? ⟨gb588, 1, none⟩ = some (.string (⟨#[]⟩ : ByteArray)) := (blk_cell BK588.out 1).trans rfl; have hcz18_2 : w17.cell? ⟨gb588, 2, none⟩ = some (.int .i64 0) := (blk_cell BK588.out 2).trans rfl; have hcz18_3 : w17.cell? ⟨gb588, 3, none⟩ = some (.int .i64 0) := (blk_cell BK588.out 3).trans rfl; have hcz18_4 : w17.cell? ⟨gb588, 4, none⟩ = some (.slice none 0 0) := (blk_cell BK588.out 4).trans rfl; have hcz18_5 : w17.cell? ⟨gb588, 5, none⟩ = some (.string (⟨#[]⟩ : ByteArray)) := (blk_cell BK588.out 5).trans rfl; have hcz18_6 : w17.cell? ⟨gb588, 6, none⟩ = some (.string (⟨#[]⟩ : ByteArray)) := (blk_cell BK588.out 6).trans rfl; have hcz18_7 : w17.cell? ⟨gb588, 7, none⟩ = some (.slice none 0 0) := (blk_cell BK588.out 7).trans rfl; have hcz18_8 : w17.cell? ⟨gb588, 8, none⟩ = some (.int .i64 0) := (blk_cell BK588.out 8).trans rfl; have hfz18_0 := blk_frozen BK588.out 0; have hfz18_1 := blk_frozen BK588.out 1; have hfz18_2 := blk_frozen BK588.out 2; have hfz18_3 := blk_frozen BK588.out 3; have hfz18_4 := blk_frozen BK588.out 4; have hfz18_5 := blk_frozen BK588.out 5; have hfz18_6 := blk_frozen BK588.out 6; have hfz18_7 := blk_frozen BK588.out 7; have hfz18_8 := blk_frozen BK588.out 8))
                        go_ret
                        exact ⟨by first | rfl | (simp [errW_none, errW_some] <;> rfl) | (simp [*, errW_none, errW_some] <;> rfl), by repeat (first | (with_reducible first | exact HB.out | apply below_alloc | apply pw_below_drewN | apply below_drew1 | refine below_set ?_ GE588.out) | exact HB.out)⟩
                      · rw [if_neg c16] at H
                        have c16b0 : decide (300 < (((rd_T76 l0 x3_1).f1.f3).length : Int)) = false := decide_eq_false c16
                        have c16b1 : decide (300 < ((rd_T76 l0 x3_1).f1.f3).length) = false := decide_eq_false (by omega)
                        clear c16
                        by_cases c19 : (((rd_T76 l0 x3_1).f2).size : Int) > 60
                        · rw [if_pos c19] at H
                          have c19b0 : decide (60 < (((rd_T76 l0 x3_1).f2).size : Int)) = true := decide_eq_true c19
                          have c19b1 : decide (60 < ((rd_T76 l0 x3_1).f2).size) = true := decide_eq_true (by omega)
                          clear c19
                          obtain rfl := Option.some.inj H
                          have p587 : 0 ≤ (x3_1 : Int) := of_decide_eq_true (by first | (with_reducible assumption) | assumption)
                          have q587 : x3_1 < (l0.length : Int) := of_decide_eq_true (by first | (with_reducible assumption) | assumption)
                          obtain ⟨ad587, A587_4, c587_4, A587_7, c587_7, e587, hx587_0, hx587_1, hx587_2, hx587_3, hx587_4, hx587_5, hx587_6, hx587_7, hx587_8, hl587_4, hi587_4, hl587_7, hi587_7⟩ := at_T76 HR0.out x3_1 p587 q587
                          cases e587
                          replace hx587_0 := (HB.out.cell (World.block_lt_of_cell? w _ hx587_0)).trans hx587_0
                          replace hx587_1 := (HB.out.cell (World.block_lt_of_cell? w _ hx587_1)).trans hx587_1
                          replace hx587_2 := (HB.out.cell (World.block_lt_of_cell? w _ hx587_2)).trans hx587_2
                          replace hx587_3 := (HB.out.cell (World.block_lt_of_cell? w _ hx587_3)).trans hx587_3
                          replace hx587_4 := (HB.out.cell (World.block_lt_of_cell? w _ hx587_4)).trans hx587_4
                          replace hx587_5 := (HB.out.cell (World.block_lt_of_cell? w _ hx587_5)).trans hx587_5
                          replace hx587_6 := (HB.out.cell (World.block_lt_of_cell? w _ hx587_6)).trans hx587_6
                          replace hx587_7 := (HB.out.cell (World.block_lt_of_cell? w _ hx587_7)).trans hx587_7
                          replace hx587_8 := (HB.out.cell (World.block_lt_of_cell? w _ hx587_8)).trans hx587_8
                          have HR587_4 := Aside0.mk hi587_4
                          have HC587_4 := Aside0.mk hl587_4
                          clear hi587_4 hl587_4
                          have HR587_7 := Aside0.mk hi587_7
                          have HC587_7 := Aside0.mk hl587_7
                          clear hi587_7 hl587_7
                          replace p587 := eq_true p587
                          replace q587 := eq_true q587
                          go_wp2_with (first | ((with_reducible refine gate_dst (N := 4) rfl ?_); (try (refine gate_guard (by rfl) ?_; dsimp only)); refine box_event ?hg (N := 4) ?hd (cs := #[.int .i64 0, .string (⟨#[]⟩ : ByteArray), .int .i64 0, .int .i64 0, .slice none 0 0, .string (⟨#[]⟩ : ByteArray), .string (⟨#[]⟩ : ByteArray), .slice none 0 0, .int .i64 0]) (t := 76) ?hr ?_; (case hd => rfl); (case hg => rfl); (case hr => first | (go_simp; done) | (go_simp; rfl)); intro gb588 hg w20 hbox hb; have n0_ := Aside0.mk (below_step (by repeat (first | (with_reducible first | exact HB.out | apply below_alloc | apply pw_below_drewN | apply below_drew1) | exact HB.out)) hb); have n1_ := Aside0.mk (hbox); have n2_ := Aside0.mk ((by rw [hg]; exact (below_size (by repeat (first | (with_reducible first | exact HB.out | apply below_alloc | apply pw_below_drewN | apply below_drew1) | exact HB.out))) : w.heap.size ≤ gb588)); have n3_ := Aside0.mk ((by rw [hg]; exact (below_size (by repeat (first | (with_reducible first | exact HB.out | apply below_alloc | apply pw_below_drewN | apply below_drew1) | exact HB.out))) : w.heap.size ≤ gb588)); clear HB; have HB := n0_; have BK588 := n1_; have GW588 := n2_; have GE588 := n3_; clear n0_ n1_ n2_ n3_; clear hb hbox hg; have hcz21_0 : w20.cell? ⟨gb588, 0, none⟩ = some (.int .i64 0) := (blk_cell BK588.out 0).trans rfl; have hcz21_1 : w20.cell? ⟨gb588, 1, none⟩ = some (.string (⟨#[]⟩ : ByteArray)) := (blk_cell BK588.out 1).trans rfl; have hcz21_2 : w20.cell? ⟨gb588, 2, none⟩ = some (.int .i64 0) := (blk_cell BK588.out 2).trans rfl; have hcz21_3 : w20.cell? ⟨gb588, 3, none⟩ = some (.int .i64 0) := (blk_cell BK588.out 3).trans rfl; have hcz21_4 : w20.cell? ⟨gb588, 4, none⟩ = some (.slice none 0 0) := (blk_cell BK588.out 4).trans rfl; have hcz21_5 : w20.cell? ⟨gb588, 5, none⟩ = some (.string (⟨#[]⟩ : ByteArray)) := (blk_cell BK588.out 5).trans rfl; have hcz21_6 : w20.cell? ⟨gb588, 6, none⟩ = some (.string (⟨#[]⟩ : ByteArray)) := (blk_cell BK588.out 6).trans rfl; have hcz21_7 : w20.cell? ⟨gb588, 7, none⟩ = some (.slice none 0 0) := (blk_cell BK588.out 7).trans rfl; have hcz21_8 : w20.cell? ⟨gb588, 8, none⟩ = some (.int .i64 0) := (blk_cell BK588.out 8).trans rfl; have hfz21_0 := blk_frozen BK588.out 0; have hfz21_1 := blk_frozen BK588.out 1; have hfz21_2 := blk_frozen BK588.out 2; have hfz21_3 := blk_frozen BK588.out 3; have hfz21_4 := blk_frozen BK588.out 4; have hfz21_5 := blk_frozen BK588.out 5; have hfz21_6 := blk_frozen BK588.out 6; have hfz21_7 := blk_frozen BK588.out 7; have hfz21_8 := blk_frozen BK588.out 8))
                          go_ret
                          exact ⟨by first | rfl | (simp [errW_none, errW_some] <;> rfl) | (simp [*, errW_none, errW_some] <;> rfl), by repeat (first | (with_reducible first | exact HB.out | apply below_alloc | apply pw_below_drewN | apply below_drew1 | refine below_set ?_ GE588.out) | exact HB.out)⟩
                        · rw [if_neg c19] at H
                          have c19b0 : decide (60 < (((rd_T76 l0 x3_1).f2).size : Int)) = false := decide_eq_false c19
                          have c19b1 : decide (60 < ((rd_T76 l0 x3_1).f2).size) = false := decide_eq_false (by omega)
                          clear c19
                          by_cases c22 : (((rd_T76 l0 x3_1).f3).size : Int) > 60
                          · rw [if_pos c22] at H
                            have c22b0 : decide (60 < (((rd_T76 l0 x3_1).f3).size : Int)) = true := decide_eq_true c22
                            have c22b1 : decide (60 < ((rd_T76 l0 x3_1).f3).size) = true := decide_eq_true (by omega)
                            clear c22
                            obtain rfl := Option.some.inj H
                            have p587 : 0 ≤ (x3_1 : Int) := of_decide_eq_true (by first | (with_reducible assumption) | assumption)
                            have q587 : x3_1 < (l0.length : Int) := of_decide_eq_true (by first | (with_reducible assumption) | assumption)
                            obtain ⟨ad587, A587_4, c587_4, A587_7, c587_7, e587, hx587_0, hx587_1, hx587_2, hx587_3, hx587_4, hx587_5, hx587_6, hx587_7, hx587_8, hl587_4, hi587_4, hl587_7, hi587_7⟩ := at_T76 HR0.out x3_1 p587 q587
                            cases e587
                            replace hx587_0 := (HB.out.cell (World.block_lt_of_cell? w _ hx587_0)).trans hx587_0
                            replace hx587_1 := (HB.out.cell (World.block_lt_of_cell? w _ hx587_1)).trans hx587_1
                            replace hx587_2 := (HB.out.cell (World.block_lt_of_cell? w _ hx587_2)).trans hx587_2
                            replace hx587_3 := (HB.out.cell (World.block_lt_of_cell? w _ hx587_3)).trans hx587_3
                            replace hx587_4 := (HB.out.cell (World.block_lt_of_cell? w _ hx587_4)).trans hx587_4
                            replace hx587_5 := (HB.out.cell (World.block_lt_of_cell? w _ hx587_5)).trans hx587_5
                            replace hx587_6 := (HB.out.cell (World.block_lt_of_cell? w _ hx587_6)).trans hx587_6
                            replace hx587_7 := (HB.out.cell (World.block_lt_of_cell? w _ hx587_7)).trans hx587_7
                            replace hx587_8 := (HB.out.cell (World.block_lt_of_cell? w _ hx587_8)).trans hx587_8
                            have HR587_4 := Aside0.mk hi587_4
                            have HC587_4 := Aside0.mk hl587_4
                            clear hi587_4 hl587_4
                            have HR587_7 := Aside0.mk hi587_7
                            have HC587_7 := Aside0.mk hl587_7
                            clear hi587_7 hl587_7
                            replace p587 := eq_true p587
                            replace q587 := eq_true q587
                            go_wp2_with (first | ((with_reducible refine gate_dst (N := 4) rfl ?_); (try (refine gate_guard (by rfl) ?_; dsimp only)); refine box_event ?hg (N := 4) ?hd (cs := #[.int .i64 0, .string (⟨#[]⟩ : ByteArray), .int .i64 0, .int .i64 0, .slice none 0 0, .string (⟨#[]⟩ : ByteArray), .string (⟨#[]⟩ : ByteArray), .slice none 0 0, .int .i64 0]) (t := 76) ?hr ?_; (case hd => rfl); (case hg => rfl); (case hr => first | (go_simp; done) | (go_simp; rfl)); intro gb588 hg w23 hbox hb; have n0_ := Aside0.mk (below_step (by repeat (first | (with_reducible first | exact HB.out | apply below_alloc | apply pw_below_drewN | apply below_drew1) | exact HB.out)) hb); have n1_ := Aside0.mk (hbox); have n2_ := Aside0.mk ((by rw [hg]; exact (below_size (by repeat (first | (with_reducible first | exact HB.out | apply below_alloc | apply pw_below_drewN | apply below_drew1) | exact HB.out))) : w.heap.size ≤ gb588)); have n3_ := Aside0.mk ((by rw [hg]; exact (below_size (by repeat (first | (with_reducible first | exact HB.out | apply below_alloc | apply pw_below_drewN | apply below_drew1) | exact HB.out))) : w.heap.size ≤ gb588)); clear HB; have HB := n0_; have BK588 := n1_; have GW588 := n2_; have GE588 := n3_; clear n0_ n1_ n2_ n3_; clear hb hbox hg; have hcz24_0 : w23.cell? ⟨gb588, 0, none⟩ = some (.int .i64 0) := (blk_cell BK588.out 0).trans rfl; have hcz24_1 : w23.cell? ⟨gb588, 1, none⟩ = some (.string (⟨#[]⟩ : ByteArray)) := (blk_cell BK588.out 1).trans rfl; have hcz24_2 : w23.cell? ⟨gb588, 2, none⟩ = some (.int .i64 0) := (blk_cell BK588.out 2).trans rfl; have hcz24_3 : w23.cell? ⟨gb588, 3, none⟩ = some (.int .i64 0) := (blk_cell BK588.out 3).trans rfl; have hcz24_4 : w23.cell? ⟨gb588, 4, none⟩ = some (.slice none 0 0) := (blk_cell BK588.out 4).trans rfl; have hcz24_5 : w23.cell? ⟨gb588, 5, none⟩ = some (.string (⟨#[]⟩ : ByteArray)) := (blk_cell BK588.out 5).trans rfl; have hcz24_6 : w23.cell? ⟨gb588, 6, none⟩ = some (.string (⟨#[]⟩ : ByteArray)) := (blk_cell BK588.out 6).trans rfl; have hcz24_7 : w23.cell? ⟨gb588, 7, none⟩ = some (.slice none 0 0) := (blk_cell BK588.out 7).trans rfl; have hcz24_8 : w23.cell? ⟨gb588, 8, none⟩ = some (.int .i64 0) := (blk_cell BK588.out 8).trans rfl; have hfz24_0 := blk_frozen BK588.out 0; have hfz24_1 := blk_frozen BK588.out 1; have hfz24_2 := blk_frozen BK588.out 2; have hfz24_3 := blk_frozen BK588.out 3; have hfz24_4 := blk_frozen BK588.out 4; have hfz24_5 := blk_frozen BK588.out 5; have hfz24_6 := blk_frozen BK588.out 6; have hfz24_7 := blk_frozen BK588.out 7; have hfz24_8 := blk_frozen BK588.out 8))
                            go_ret
                            exact ⟨by first | rfl | (simp [errW_none, errW_some] <;> rfl) | (simp [*, errW_none, errW_some] <;> rfl), by repeat (first | (with_reducible first | exact HB.out | apply below_alloc | apply pw_below_drewN | apply below_drew1 | refine below_set ?_ GE588.out) | exact HB.out)⟩
                          · rw [if_neg c22] at H
                            have c22b0 : decide (60 < (((rd_T76 l0 x3_1).f3).size : Int)) = false := decide_eq_false c22
                            have c22b1 : decide (60 < ((rd_T76 l0 x3_1).f3).size) = false := decide_eq_false (by omega)
                            clear c22
                            by_cases c25 : (((rd_T76 l0 x3_1).f4).length : Int) > 20
                            · rw [if_pos c25] at H
                              have c25b0 : decide (20 < (((rd_T76 l0 x3_1).f4).length : Int)) = true := decide_eq_true c25
                              have c25b1 : decide (20 < ((rd_T76 l0 x3_1).f4).length) = true := decide_eq_true (by omega)
                              clear c25
                              obtain rfl := Option.some.inj H
                              have p587 : 0 ≤ (x3_1 : Int) := of_decide_eq_true (by first | (with_reducible assumption) | assumption)
                              have q587 : x3_1 < (l0.length : Int) := of_decide_eq_true (by first | (with_reducible assumption) | assumption)
                              obtain ⟨ad587, A587_4, c587_4, A587_7, c587_7, e587, hx587_0, hx587_1, hx587_2, hx587_3, hx587_4, hx587_5, hx587_6, hx587_7, hx587_8, hl587_4, hi587_4, hl587_7, hi587_7⟩ := at_T76 HR0.out x3_1 p587 q587
                              cases e587
                              replace hx587_0 := (HB.out.cell (World.block_lt_of_cell? w _ hx587_0)).trans hx587_0
                              replace hx587_1 := (HB.out.cell (World.block_lt_of_cell? w _ hx587_1)).trans hx587_1
                              replace hx587_2 := (HB.out.cell (World.block_lt_of_cell? w _ hx587_2)).trans hx587_2
                              replace hx587_3 := (HB.out.cell (World.block_lt_of_cell? w _ hx587_3)).trans hx587_3
                              replace hx587_4 := (HB.out.cell (World.block_lt_of_cell? w _ hx587_4)).trans hx587_4
                              replace hx587_5 := (HB.out.cell (World.block_lt_of_cell? w _ hx587_5)).trans hx587_5
                              replace hx587_6 := (HB.out.cell (World.block_lt_of_cell? w _ hx587_6)).trans hx587_6
                              replace hx587_7 := (HB.out.cell (World.block_lt_of_cell? w _ hx587_7)).trans hx587_7
                              replace hx587_8 := (HB.out.cell (World.block_lt_of_cell? w _ hx587_8)).trans hx587_8
                              have HR587_4 := Aside0.mk hi587_4
                              have HC587_4 := Aside0.mk hl587_4
                              clear hi587_4 hl587_4
                              have HR587_7 := Aside0.mk hi587_7
                              have HC587_7 := Aside0.mk hl587_7
                              clear hi587_7 hl587_7
                              replace p587 := eq_true p587
                              replace q587 := eq_true q587
                              go_wp2_with (first | ((with_reducible refine gate_dst (N := 4) rfl ?_); (try (refine gate_guard (by rfl) ?_; dsimp only)); refine box_event ?hg (N := 4) ?hd (cs := #[.int .i64 0, .string (⟨#[]⟩ : ByteArray), .int .i64 0, .int .i64 0, .slice none 0 0, .string (⟨#[]⟩ : ByteArray), .string (⟨#[]⟩ : ByteArray), .slice none 0 0, .int .i64 0]) (t := 76) ?hr ?_; (case hd => rfl); (case hg => rfl); (case hr => first | (go_simp; done) | (go_simp; rfl)); intro gb588 hg w26 hbox hb; have n0_ := Aside0.mk (below_step (by repeat (first | (with_reducible first | exact HB.out | apply below_alloc | apply pw_below_drewN | apply below_drew1) | exact HB.out)) hb); have n1_ := Aside0.mk (hbox); have n2_ := Aside0.mk ((by rw [hg]; exact (below_size (by repeat (first | (with_reducible first | exact HB.out | apply below_alloc | apply pw_below_drewN | apply below_drew1) | exact HB.out))) : w.heap.size ≤ gb588)); have n3_ := Aside0.mk ((by rw [hg]; exact (below_size (by repeat (first | (with_reducible first | exact HB.out | apply below_alloc | apply pw_below_drewN | apply below_drew1) | exact HB.out))) : w.heap.size ≤ gb588)); clear HB; have HB := n0_; have BK588 := n1_; have GW588 := n2_; have GE588 := n3_; clear n0_ n1_ n2_ n3_; clear hb hbox hg; have hcz27_0 : w26.cell? ⟨gb588, 0, none⟩ = some (.int .i64 0) := (blk_cell BK588.out 0).trans rfl; have hcz27_1 : w26.cell? ⟨gb588, 1, none⟩ = some (.string (⟨#[]⟩ : ByteArray)) := (blk_cell BK588.out 1).trans rfl; have hcz27_2 : w26.cell? ⟨gb588, 2, none⟩ = some (.int .i64 0) := (blk_cell BK588.out 2).trans rfl; have hcz27_3 : w26.cell? ⟨gb588, 3, none⟩ = some (.int .i64 0) := (blk_cell BK588.out 3).trans rfl; have hcz27_4 : w26.cell? ⟨gb588, 4, none⟩ = some (.slice none 0 0) := (blk_cell BK588.out 4).trans rfl; have hcz27_5 : w26.cell? ⟨gb588, 5, none⟩ = some (.string (⟨#[]⟩ : ByteArray)) := (blk_cell BK588.out 5).trans rfl; have hcz27_6 : w26.cell? ⟨gb588, 6, none⟩ = some (.string (⟨#[]⟩ : ByteArray)) := (blk_cell BK588.out 6).trans rfl; have hcz27_7 : w26.cell? ⟨gb588, 7, none⟩ = some (.slice none 0 0) := (blk_cell BK588.out 7).trans rfl; have hcz27_8 : w26.cell? ⟨gb588, 8, none⟩ = some (.int .i64 0) := (blk_cell BK588.out 8).trans rfl; have hfz27_0 := blk_frozen BK588.out 0; have hfz27_1 := blk_frozen BK588.out 1; have hfz27_2 := blk_frozen BK588.out 2; have hfz27_3 := blk_frozen BK588.out 3; have hfz27_4 := blk_frozen BK588.out 4; have hfz27_5 := blk_frozen BK588.out 5; have hfz27_6 := blk_frozen BK588.out 6; have hfz27_7 := blk_frozen BK588.out 7; have hfz27_8 := blk_frozen BK588.out 8))
                              go_ret
                              exact ⟨by first | rfl | (simp [errW_none, errW_some] <;> rfl) | (simp [*, errW_none, errW_some] <;> rfl), by repeat (first | (with_reducible first | exact HB.out | apply below_alloc | apply pw_below_drewN | apply below_drew1 | refine below_set ?_ GE588.out) | exact HB.out)⟩
                            · rw [if_neg c25] at H
                              have c25b0 : decide (20 < (((rd_T76 l0 x3_1).f4).length : Int)) = false := decide_eq_false c25
                              have c25b1 : decide (20 < ((rd_T76 l0 x3_1).f4).length) = false := decide_eq_false (by omega)
                              clear c25
                              have H' := Aside0.mk H
                              clear H
                              have p587 : 0 ≤ (x3_1 : Int) := of_decide_eq_true (by first | (with_reducible assumption) | assumption)
                              have q587 : x3_1 < (l0.length : Int) := of_decide_eq_true (by first | (with_reducible assumption) | assumption)
                              obtain ⟨ad587, A587_4, c587_4, A587_7, c587_7, e587, hx587_0, hx587_1, hx587_2, hx587_3, hx587_4, hx587_5, hx587_6, hx587_7, hx587_8, hl587_4, hi587_4, hl587_7, hi587_7⟩ := at_T76 HR0.out x3_1 p587 q587
                              cases e587
                              replace hx587_0 := (HB.out.cell (World.block_lt_of_cell? w _ hx587_0)).trans hx587_0
                              replace hx587_1 := (HB.out.cell (World.block_lt_of_cell? w _ hx587_1)).trans hx587_1
                              replace hx587_2 := (HB.out.cell (World.block_lt_of_cell? w _ hx587_2)).trans hx587_2
                              replace hx587_3 := (HB.out.cell (World.block_lt_of_cell? w _ hx587_3)).trans hx587_3
                              replace hx587_4 := (HB.out.cell (World.block_lt_of_cell? w _ hx587_4)).trans hx587_4
                              replace hx587_5 := (HB.out.cell (World.block_lt_of_cell? w _ hx587_5)).trans hx587_5
                              replace hx587_6 := (HB.out.cell (World.block_lt_of_cell? w _ hx587_6)).trans hx587_6
                              replace hx587_7 := (HB.out.cell (World.block_lt_of_cell? w _ hx587_7)).trans hx587_7
                              replace hx587_8 := (HB.out.cell (World.block_lt_of_cell? w _ hx587_8)).trans hx587_8
                              have HR587_4 := Aside0.mk hi587_4
                              have HC587_4 := Aside0.mk hl587_4
                              clear hi587_4 hl587_4
                              have HR587_7 := Aside0.mk hi587_7
                              have HC587_7 := Aside0.mk hl587_7
                              clear hi587_7 hl587_7
                              replace p587 := eq_true p587
                              replace q587 := eq_true q587
                              go_wp2_with (first | ((with_reducible refine gate_dst (N := 4) rfl ?_); (try (refine gate_guard (by rfl) ?_; dsimp only)); refine box_event ?hg (N := 4) ?hd (cs := #[.int .i64 0, .string (⟨#[]⟩ : ByteArray), .int .i64 0, .int .i64 0, .slice none 0 0, .string (⟨#[]⟩ : ByteArray), .string (⟨#[]⟩ : ByteArray), .slice none 0 0, .int .i64 0]) (t := 76) ?hr ?_; (case hd => rfl); (case hg => rfl); (case hr => first | (go_simp; done) | (go_simp; rfl)); intro gb588 hg w28 hbox hb; have n0_ := Aside0.mk (below_step (by repeat (first | (with_reducible first | exact HB.out | apply below_alloc | apply pw_below_drewN | apply below_drew1) | exact HB.out)) hb); have n1_ := Aside0.mk (hbox); have n2_ := Aside0.mk ((by rw [hg]; exact (below_size (by repeat (first | (with_reducible first | exact HB.out | apply below_alloc | apply pw_below_drewN | apply below_drew1) | exact HB.out))) : w.heap.size ≤ gb588)); have n3_ := Aside0.mk ((by rw [hg]; exact (below_size (by repeat (first | (with_reducible first | exact HB.out | apply below_alloc | apply pw_below_drewN | apply below_drew1) | exact HB.out))) : w.heap.size ≤ gb588)); clear HB; have HB := n0_; have BK588 := n1_; have GW588 := n2_; have GE588 := n3_; clear n0_ n1_ n2_ n3_; clear hb hbox hg; have hcz29_0 : w28.cell? ⟨gb588, 0, none⟩ = some (.int .i64 0) := (blk_cell BK588.out 0).trans rfl; have hcz29_1 : w28.cell? ⟨gb588, 1, none⟩ = some (.string (⟨#[]⟩ : ByteArray)) := (blk_cell BK588.out 1).trans rfl; have hcz29_2 : w28.cell? ⟨gb588, 2, none⟩ = some (.int .i64 0) := (blk_cell BK588.out 2).trans rfl; have hcz29_3 : w28.cell? ⟨gb588, 3, none⟩ = some (.int .i64 0) := (blk_cell BK588.out 3).trans rfl; have hcz29_4 : w28.cell? ⟨gb588, 4, none⟩ = some (.slice none 0 0) := (blk_cell BK588.out 4).trans rfl; have hcz29_5 : w28.cell? ⟨gb588, 5, none⟩ = some (.string (⟨#[]⟩ : ByteArray)) := (blk_cell BK588.out 5).trans rfl; have hcz29_6 : w28.cell? ⟨gb588, 6, none⟩ = some (.string (⟨#[]⟩ : ByteArray)) := (blk_cell BK588.out 6).trans rfl; have hcz29_7 : w28.cell? ⟨gb588, 7, none⟩ = some (.slice none 0 0) := (blk_cell BK588.out 7).trans rfl; have hcz29_8 : w28.cell? ⟨gb588, 8, none⟩ = some (.int .i64 0) := (blk_cell BK588.out 8).trans rfl; have hfz29_0 := blk_frozen BK588.out 0; have hfz29_1 := blk_frozen BK588.out 1; have hfz29_2 := blk_frozen BK588.out 2; have hfz29_3 := blk_frozen BK588.out 3; have hfz29_4 := blk_frozen BK588.out 4; have hfz29_5 := blk_frozen BK588.out 5; have hfz29_6 := blk_frozen BK588.out 6; have hfz29_7 := blk_frozen BK588.out 7; have hfz29_8 := blk_frozen BK588.out 8))
                              go_roundg kj1
                              case measure => have := HK1.out; have := HJ1.out; omega
                              case rel => exact ⟨(wrap64 (x3_1 + 1)), (by first | rfl | (simp; done) | (simp [*]; done)), H', ⟨by have := HK1.out; have := HJ1.out; omega⟩, ⟨by repeat (first | (with_reducible first | exact HB.out | apply below_alloc | apply pw_below_drewN | apply below_drew1 | refine below_set ?_ GE588.out) | exact HB.out)⟩⟩
              · rw [if_neg c6] at H
                exact absurd H (by simp)
            · rw [if_neg c5] at H
              exact absurd H (by simp)
          · replace c4 := Bool.eq_false_iff.mpr c4
            subst c4
            have H1 : (some (decide ((l0.length : Int) ≤ 20))) = some r := by rw [if_neg (show ¬ (false = true) by decide)] at H; exact H
            clear H
            have H := H1
            clear H1
            obtain rfl := Option.some.inj H
            go_wp2
            go_ret
            exact ⟨by first | rfl | (simp [errW_none, errW_some] <;> rfl) | (simp [*, errW_none, errW_some] <;> rfl), by repeat (first | (with_reducible first | exact HB.out | apply below_alloc | apply pw_below_drewN | apply below_drew1) | exact HB.out)⟩

end Go.Proofs.Ytcgeioingikeeaa.P
