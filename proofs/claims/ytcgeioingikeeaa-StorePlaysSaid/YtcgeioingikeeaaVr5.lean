/- Cut out of this seat's own texts and of the words that the kit's print laid for it, by a program of this seat (wip/tools/shake.py): what the claim needs of them. -/
import Derived.Test.YtcgeioingikeeaaVr4
import Derived.Laws.StructEq
import Derived.Deep.QuietTactic
import Derived.BigQuiet
open Go.RowKit Go.Proofs.YtcgeioingikeeaaW.PrintWords Go.Proofs.YtcgeioingikeeaaW.PrintLast Go.Proofs.YtcgeioingikeeaaW.PrintMore
set_option linter.unusedSimpArgs false
set_option linter.unusedVariables false
set_option maxHeartbeats 16000000
set_option maxRecDepth 100000
namespace Go.Proofs.Ytcgeioingikeeaa.P
section
attribute [local go_sem] Axk Axr Az3 Az7 Axj Axi Axz Axy
mutual
def Aqh.l0 : Nat → List (S76) → Int → Option (Bool)
 | 0, _, _ => none
 | k + 1, x0, x3 => if x3 < (x0.length : Int) then (Aqh.j1 k x0 x3 (decide (x3 < 21))) else (Aqh.j1 k x0 x3 false)
def Aqh.j1 : Nat → List (S76) → Int → Bool → Option (Bool)
 | 0, _, _, _ => none
 | k + 1, x0, x3, x12 => if x12 = true then (if 0 ≤ x3 then (if x3 < (x0.length : Int) then (if ((Ax6 x0 x3).f0) < 1 then (some false) else (if ((Ax6 x0 x3).f0) > 8 then (some false) else (if (((Ax6 x0 x3).f1.f0).size : Int) > 60 then (some false) else (if (((Ax6 x0 x3).f1.f3).length : Int) > 300 then (some false) else (if (((Ax6 x0 x3).f2).size : Int) > 60 then (some false) else (if (((Ax6 x0 x3).f3).size : Int) > 60 then (some false) else (if (((Ax6 x0 x3).f4).length : Int) > 20 then (some false) else (Aqh.l0 k x0 (wrap64 (x3 + 1)))))))))) else (none)) else (none)) else (some (decide ((x0.length : Int) ≤ 20)))
end
def Aqh.f (k : Nat) (l0 : List (S76)) : Option (Bool) := Aqh.l0 k l0 0
theorem Aqh.calls (k : Nat) (A0 : Option Addr) (c0 : Nat) (l0 : List (S76)) (r : Bool) (w : World) (hr0 : Kd.C k76 w A0 l0.length l0) (hc0 : l0.length ≤ c0) (h : Aqh.f k l0 = some r) :
 Calls Try.prog 38 #[.slice A0 l0.length c0] w fun e w' => e = .returned (.bool r) ∧ Below w.heap.size w w' := by
 have hu76 := Try.underlying76
 have HR0 := Bvh hr0
 have HC0 := Bvh hc0
 clear hr0 hc0
 have HB := Bvh (Below.refl w.heap.size w)
 have H : (Aqh.l0 k l0 0) = some r := h
 clear h
 have H' := Bvh H
 clear H
 go_enter Try.func38, Try.ntmps38
 go_wp2
 go_loopg [3] k (fun kq v3 w' => ∃ (x3_1 : Int), v3 = .int .i64 x3_1 ∧ Aside0 (Aqh.l0 kq l0 x3_1 = some r) ∧ Aside0 (kq ≤ k) ∧ Aside0 (Below w.heap.size w w'))
 case atStart => exact ⟨(0), rfl, H', ⟨Nat.le_refl _⟩, HB⟩
 case round =>
  clear H'
  obtain ⟨x3_1, rfl, HA, HK1, HB⟩ := hrel
  cases gk with
  | zero => exact absurd HA.out (by simp [Aqh.l0])
  | succ k1 =>
    have H := HA.out
    clear HA
    simp only [Aqh.l0] at H
    have HC2 := Bvh H
    clear H
    go_upto_region 2 with (fail)
    go_cut [12] (fun v12 wc => ∃ (kq : Nat) (x12_1 : Bool), v12 = .bool x12_1 ∧ Aside0 (Aqh.j1 kq l0 x3_1 x12_1 = some r) ∧ Aside0 (kq ≤ k1) ∧ Aside0 (Below w.heap.size w wc))
    case first =>
     have H := HC2.out
     clear HC2
     by_cases c3 : x3_1 < (l0.length : Int)
     · rw [if_pos c3] at H
       have c3b0 : decide (x3_1 < (l0.length : Int)) = true := decide_eq_true c3
       clear c3
       have H' := Bvh H
       clear H
       go_wp2
       go_meet
       case rel => exact ⟨_, (decide (x3_1 < 21)), rfl, H', ⟨by have := HK1.out; omega⟩, HB⟩
     · rw [if_neg c3] at H
       have c3b0 : decide (x3_1 < (l0.length : Int)) = false := decide_eq_false c3
       clear c3
       have H' := Bvh H
       clear H
       go_wp2
       go_meet
       case rel => exact ⟨_, (false), rfl, H', ⟨by have := HK1.out; omega⟩, HB⟩
    case rest =>
     clear HC2
     obtain ⟨kq, x12_1, rfl, HA, HJ1, HB⟩ := hcut
     cases kq with
     | zero => exact absurd HA.out (by simp [Aqh.j1])
     | succ kj1 =>
       have H := HA.out
       clear HA
       simp only [Aqh.j1] at H
       by_cases c4 : x12_1 = true
       · subst c4
         have H1 : (if 0 ≤ x3_1 then (if x3_1 < (l0.length : Int) then (if ((Ax6 l0 x3_1).f0) < 1 then (some false) else (if ((Ax6 l0 x3_1).f0) > 8 then (some false) else (if (((Ax6 l0 x3_1).f1.f0).size : Int) > 60 then (some false) else (if (((Ax6 l0 x3_1).f1.f3).length : Int) > 300 then (some false) else (if (((Ax6 l0 x3_1).f2).size : Int) > 60 then (some false) else (if (((Ax6 l0 x3_1).f3).size : Int) > 60 then (some false) else (if (((Ax6 l0 x3_1).f4).length : Int) > 20 then (some false) else (Aqh.l0 kj1 l0 (wrap64 (x3_1 + 1)))))))))) else (none)) else (none)) = some r := by rw [if_pos rfl] at H; exact H
         clear H
         have H := H1
         clear H1
         by_cases c5 : 0 ≤ x3_1
         · rw [if_pos c5] at H
           have c5b0 : decide (0 ≤ x3_1) = true := decide_eq_true c5
           clear c5
           by_cases c6 : x3_1 < (l0.length : Int)
           · rw [if_pos c6] at H
             have c6b0 : decide (x3_1 < (l0.length : Int)) = true := decide_eq_true c6
             clear c6
             by_cases c7 : ((Ax6 l0 x3_1).f0) < 1
             · rw [if_pos c7] at H
               have c7b0 : decide (((Ax6 l0 x3_1).f0) < 1) = true := decide_eq_true c7
               clear c7
               obtain rfl := Option.some.inj H
               have p587 : 0 ≤ (x3_1 : Int) := of_decide_eq_true (by first | (with_reducible assumption) | assumption)
               have q587 : x3_1 < (l0.length : Int) := of_decide_eq_true (by first | (with_reducible assumption) | assumption)
               obtain ⟨ad587, A587_4, c587_4, A587_7, c587_7, e587, hx587_0, hx587_1, hx587_2, hx587_3, hx587_4, hx587_5, hx587_6, hx587_7, hx587_8, hl587_4, hi587_4, hl587_7, hi587_7⟩ := Avh HR0.out x3_1 p587 q587
               cases e587
               replace hx587_0 := (HB.out.cell (World.block_lt_of_cell? w _ hx587_0)).trans hx587_0
               replace hx587_1 := (HB.out.cell (World.block_lt_of_cell? w _ hx587_1)).trans hx587_1
               replace hx587_2 := (HB.out.cell (World.block_lt_of_cell? w _ hx587_2)).trans hx587_2
               replace hx587_3 := (HB.out.cell (World.block_lt_of_cell? w _ hx587_3)).trans hx587_3
               replace hx587_4 := (HB.out.cell (World.block_lt_of_cell? w _ hx587_4)).trans hx587_4
               replace hx587_5 := (HB.out.cell (World.block_lt_of_cell? w _ hx587_5)).trans hx587_5
               replace hx587_6 := (HB.out.cell (World.block_lt_of_cell? w _ hx587_6)).trans hx587_6
               replace hx587_7 := (HB.out.cell (World.block_lt_of_cell? w _ hx587_7)).trans hx587_7
               replace hx587_8 := (HB.out.cell (World.block_lt_of_cell? w _ hx587_8)).trans hx587_8
               have HR587_4 := Bvh hi587_4
               have HC587_4 := Bvh hl587_4
               clear hi587_4 hl587_4
               have HR587_7 := Bvh hi587_7
               have HC587_7 := Bvh hl587_7
               clear hi587_7 hl587_7
               replace p587 := eq_true p587
               replace q587 := eq_true q587
               go_wp2_with (first | ((with_reducible refine Ax1 (N := 4) rfl ?_); refine Axd ?hg (N := 4) ?hd (cs := #[.int .i64 0, .string (⟨#[]⟩ : ByteArray), .int .i64 0, .int .i64 0, .slice none 0 0, .string (⟨#[]⟩ : ByteArray), .string (⟨#[]⟩ : ByteArray), .slice none 0 0, .int .i64 0]) (t := 76) ?hr ?_; (case hd => rfl); (case hg => rfl); (case hr => (go_simp; rfl)); intro gb588 hg w8 hbox hb; have n0_ := Bvh (Aq1 HB.out hb); have n1_ := Bvh (hbox); have n2_ := Bvh ((by rw [hg]; exact (Aqb HB.out) : w.heap.size ≤ gb588)); have n3_ := Bvh ((by rw [hg]; exact (Aqb HB.out) : w.heap.size ≤ gb588)); clear HB; have HB := n0_; have BK588 := n1_; have GW588 := n2_; have GE588 := n3_; clear n0_ n1_ n2_ n3_; clear hb hbox hg; have hcz9_0 : w8.cell? ⟨gb588, 0, none⟩ = some (.int .i64 0) := (Aq3 BK588.out 0).trans rfl; have hcz9_1 : w8.cell? ⟨gb588, 1, none⟩ = some (.string (⟨#[]⟩ : ByteArray)) := (Aq3 BK588.out 1).trans rfl; have hcz9_2 : w8.cell? ⟨gb588, 2, none⟩ = some (.int .i64 0) := (Aq3 BK588.out 2).trans rfl; have hcz9_3 : w8.cell? ⟨gb588, 3, none⟩ = some (.int .i64 0) := (Aq3 BK588.out 3).trans rfl; have hcz9_4 : w8.cell? ⟨gb588, 4, none⟩ = some (.slice none 0 0) := (Aq3 BK588.out 4).trans rfl; have hcz9_5 : w8.cell? ⟨gb588, 5, none⟩ = some (.string (⟨#[]⟩ : ByteArray)) := (Aq3 BK588.out 5).trans rfl; have hcz9_6 : w8.cell? ⟨gb588, 6, none⟩ = some (.string (⟨#[]⟩ : ByteArray)) := (Aq3 BK588.out 6).trans rfl; have hcz9_7 : w8.cell? ⟨gb588, 7, none⟩ = some (.slice none 0 0) := (Aq3 BK588.out 7).trans rfl; have hcz9_8 : w8.cell? ⟨gb588, 8, none⟩ = some (.int .i64 0) := (Aq3 BK588.out 8).trans rfl; have hfz9_0 := Aq2 BK588.out 0; have hfz9_1 := Aq2 BK588.out 1; have hfz9_2 := Aq2 BK588.out 2; have hfz9_3 := Aq2 BK588.out 3; have hfz9_4 := Aq2 BK588.out 4; have hfz9_5 := Aq2 BK588.out 5; have hfz9_6 := Aq2 BK588.out 6; have hfz9_7 := Aq2 BK588.out 7; have hfz9_8 := Aq2 BK588.out 8))
               go_ret
               exact ⟨by first | rfl | (simp [Aqj, Aqi] <;> rfl) | (simp [*, Aqj, Aqi] <;> rfl), by repeat (first | (with_reducible first | exact HB.out | apply Aq4 | apply Aq7 | apply Aq5 | refine Ax2 ?_ GE588.out) | exact HB.out)⟩
             · rw [if_neg c7] at H
               have c7b0 : decide (((Ax6 l0 x3_1).f0) < 1) = false := decide_eq_false c7
               clear c7
               by_cases c10 : ((Ax6 l0 x3_1).f0) > 8
               · rw [if_pos c10] at H
                 have c10b0 : decide (8 < ((Ax6 l0 x3_1).f0)) = true := decide_eq_true c10
                 clear c10
                 obtain rfl := Option.some.inj H
                 have p587 : 0 ≤ (x3_1 : Int) := of_decide_eq_true (by first | (with_reducible assumption) | assumption)
                 have q587 : x3_1 < (l0.length : Int) := of_decide_eq_true (by first | (with_reducible assumption) | assumption)
                 obtain ⟨ad587, A587_4, c587_4, A587_7, c587_7, e587, hx587_0, hx587_1, hx587_2, hx587_3, hx587_4, hx587_5, hx587_6, hx587_7, hx587_8, hl587_4, hi587_4, hl587_7, hi587_7⟩ := Avh HR0.out x3_1 p587 q587
                 cases e587
                 replace hx587_0 := (HB.out.cell (World.block_lt_of_cell? w _ hx587_0)).trans hx587_0
                 replace hx587_1 := (HB.out.cell (World.block_lt_of_cell? w _ hx587_1)).trans hx587_1
                 replace hx587_2 := (HB.out.cell (World.block_lt_of_cell? w _ hx587_2)).trans hx587_2
                 replace hx587_3 := (HB.out.cell (World.block_lt_of_cell? w _ hx587_3)).trans hx587_3
                 replace hx587_4 := (HB.out.cell (World.block_lt_of_cell? w _ hx587_4)).trans hx587_4
                 replace hx587_5 := (HB.out.cell (World.block_lt_of_cell? w _ hx587_5)).trans hx587_5
                 replace hx587_6 := (HB.out.cell (World.block_lt_of_cell? w _ hx587_6)).trans hx587_6
                 replace hx587_7 := (HB.out.cell (World.block_lt_of_cell? w _ hx587_7)).trans hx587_7
                 replace hx587_8 := (HB.out.cell (World.block_lt_of_cell? w _ hx587_8)).trans hx587_8
                 have HR587_4 := Bvh hi587_4
                 have HC587_4 := Bvh hl587_4
                 clear hi587_4 hl587_4
                 have HR587_7 := Bvh hi587_7
                 have HC587_7 := Bvh hl587_7
                 clear hi587_7 hl587_7
                 replace p587 := eq_true p587
                 replace q587 := eq_true q587
                 go_wp2_with (first | ((with_reducible refine Ax1 (N := 4) rfl ?_); refine Axd ?hg (N := 4) ?hd (cs := #[.int .i64 0, .string (⟨#[]⟩ : ByteArray), .int .i64 0, .int .i64 0, .slice none 0 0, .string (⟨#[]⟩ : ByteArray), .string (⟨#[]⟩ : ByteArray), .slice none 0 0, .int .i64 0]) (t := 76) ?hr ?_; (case hd => rfl); (case hg => rfl); (case hr => (go_simp; rfl)); intro gb588 hg w11 hbox hb; have n0_ := Bvh (Aq1 HB.out hb); have n1_ := Bvh (hbox); have n2_ := Bvh ((by rw [hg]; exact (Aqb HB.out) : w.heap.size ≤ gb588)); have n3_ := Bvh ((by rw [hg]; exact (Aqb HB.out) : w.heap.size ≤ gb588)); clear HB; have HB := n0_; have BK588 := n1_; have GW588 := n2_; have GE588 := n3_; clear n0_ n1_ n2_ n3_; clear hb hbox hg; have hcz12_0 : w11.cell? ⟨gb588, 0, none⟩ = some (.int .i64 0) := (Aq3 BK588.out 0).trans rfl; have hcz12_1 : w11.cell? ⟨gb588, 1, none⟩ = some (.string (⟨#[]⟩ : ByteArray)) := (Aq3 BK588.out 1).trans rfl; have hcz12_2 : w11.cell? ⟨gb588, 2, none⟩ = some (.int .i64 0) := (Aq3 BK588.out 2).trans rfl; have hcz12_3 : w11.cell? ⟨gb588, 3, none⟩ = some (.int .i64 0) := (Aq3 BK588.out 3).trans rfl; have hcz12_4 : w11.cell? ⟨gb588, 4, none⟩ = some (.slice none 0 0) := (Aq3 BK588.out 4).trans rfl; have hcz12_5 : w11.cell? ⟨gb588, 5, none⟩ = some (.string (⟨#[]⟩ : ByteArray)) := (Aq3 BK588.out 5).trans rfl; have hcz12_6 : w11.cell? ⟨gb588, 6, none⟩ = some (.string (⟨#[]⟩ : ByteArray)) := (Aq3 BK588.out 6).trans rfl; have hcz12_7 : w11.cell? ⟨gb588, 7, none⟩ = some (.slice none 0 0) := (Aq3 BK588.out 7).trans rfl; have hcz12_8 : w11.cell? ⟨gb588, 8, none⟩ = some (.int .i64 0) := (Aq3 BK588.out 8).trans rfl; have hfz12_0 := Aq2 BK588.out 0; have hfz12_1 := Aq2 BK588.out 1; have hfz12_2 := Aq2 BK588.out 2; have hfz12_3 := Aq2 BK588.out 3; have hfz12_4 := Aq2 BK588.out 4; have hfz12_5 := Aq2 BK588.out 5; have hfz12_6 := Aq2 BK588.out 6; have hfz12_7 := Aq2 BK588.out 7; have hfz12_8 := Aq2 BK588.out 8))
                 go_ret
                 exact ⟨by first | rfl | (simp [Aqj, Aqi] <;> rfl) | (simp [*, Aqj, Aqi] <;> rfl), by repeat (first | (with_reducible first | exact HB.out | apply Aq4 | apply Aq7 | apply Aq5 | refine Ax2 ?_ GE588.out) | exact HB.out)⟩
               · rw [if_neg c10] at H
                 have c10b0 : decide (8 < ((Ax6 l0 x3_1).f0)) = false := decide_eq_false c10
                 clear c10
                 by_cases c13 : (((Ax6 l0 x3_1).f1.f0).size : Int) > 60
                 · rw [if_pos c13] at H
                   have c13b0 : decide (60 < (((Ax6 l0 x3_1).f1.f0).size : Int)) = true := decide_eq_true c13
                   have c13b1 : decide (60 < ((Ax6 l0 x3_1).f1.f0).size) = true := decide_eq_true (by omega)
                   clear c13
                   obtain rfl := Option.some.inj H
                   have p587 : 0 ≤ (x3_1 : Int) := of_decide_eq_true (by first | (with_reducible assumption) | assumption)
                   have q587 : x3_1 < (l0.length : Int) := of_decide_eq_true (by first | (with_reducible assumption) | assumption)
                   obtain ⟨ad587, A587_4, c587_4, A587_7, c587_7, e587, hx587_0, hx587_1, hx587_2, hx587_3, hx587_4, hx587_5, hx587_6, hx587_7, hx587_8, hl587_4, hi587_4, hl587_7, hi587_7⟩ := Avh HR0.out x3_1 p587 q587
                   cases e587
                   replace hx587_0 := (HB.out.cell (World.block_lt_of_cell? w _ hx587_0)).trans hx587_0
                   replace hx587_1 := (HB.out.cell (World.block_lt_of_cell? w _ hx587_1)).trans hx587_1
                   replace hx587_2 := (HB.out.cell (World.block_lt_of_cell? w _ hx587_2)).trans hx587_2
                   replace hx587_3 := (HB.out.cell (World.block_lt_of_cell? w _ hx587_3)).trans hx587_3
                   replace hx587_4 := (HB.out.cell (World.block_lt_of_cell? w _ hx587_4)).trans hx587_4
                   replace hx587_5 := (HB.out.cell (World.block_lt_of_cell? w _ hx587_5)).trans hx587_5
                   replace hx587_6 := (HB.out.cell (World.block_lt_of_cell? w _ hx587_6)).trans hx587_6
                   replace hx587_7 := (HB.out.cell (World.block_lt_of_cell? w _ hx587_7)).trans hx587_7
                   replace hx587_8 := (HB.out.cell (World.block_lt_of_cell? w _ hx587_8)).trans hx587_8
                   have HR587_4 := Bvh hi587_4
                   have HC587_4 := Bvh hl587_4
                   clear hi587_4 hl587_4
                   have HR587_7 := Bvh hi587_7
                   have HC587_7 := Bvh hl587_7
                   clear hi587_7 hl587_7
                   replace p587 := eq_true p587
                   replace q587 := eq_true q587
                   go_wp2_with (first | ((with_reducible refine Ax1 (N := 4) rfl ?_); refine Axd ?hg (N := 4) ?hd (cs := #[.int .i64 0, .string (⟨#[]⟩ : ByteArray), .int .i64 0, .int .i64 0, .slice none 0 0, .string (⟨#[]⟩ : ByteArray), .string (⟨#[]⟩ : ByteArray), .slice none 0 0, .int .i64 0]) (t := 76) ?hr ?_; (case hd => rfl); (case hg => rfl); (case hr => (go_simp; rfl)); intro gb588 hg w14 hbox hb; have n0_ := Bvh (Aq1 HB.out hb); have n1_ := Bvh (hbox); have n2_ := Bvh ((by rw [hg]; exact (Aqb HB.out) : w.heap.size ≤ gb588)); have n3_ := Bvh ((by rw [hg]; exact (Aqb HB.out) : w.heap.size ≤ gb588)); clear HB; have HB := n0_; have BK588 := n1_; have GW588 := n2_; have GE588 := n3_; clear n0_ n1_ n2_ n3_; clear hb hbox hg; have hcz15_0 : w14.cell? ⟨gb588, 0, none⟩ = some (.int .i64 0) := (Aq3 BK588.out 0).trans rfl; have hcz15_1 : w14.cell? ⟨gb588, 1, none⟩ = some (.string (⟨#[]⟩ : ByteArray)) := (Aq3 BK588.out 1).trans rfl; have hcz15_2 : w14.cell? ⟨gb588, 2, none⟩ = some (.int .i64 0) := (Aq3 BK588.out 2).trans rfl; have hcz15_3 : w14.cell? ⟨gb588, 3, none⟩ = some (.int .i64 0) := (Aq3 BK588.out 3).trans rfl; have hcz15_4 : w14.cell? ⟨gb588, 4, none⟩ = some (.slice none 0 0) := (Aq3 BK588.out 4).trans rfl; have hcz15_5 : w14.cell? ⟨gb588, 5, none⟩ = some (.string (⟨#[]⟩ : ByteArray)) := (Aq3 BK588.out 5).trans rfl; have hcz15_6 : w14.cell? ⟨gb588, 6, none⟩ = some (.string (⟨#[]⟩ : ByteArray)) := (Aq3 BK588.out 6).trans rfl; have hcz15_7 : w14.cell? ⟨gb588, 7, none⟩ = some (.slice none 0 0) := (Aq3 BK588.out 7).trans rfl; have hcz15_8 : w14.cell? ⟨gb588, 8, none⟩ = some (.int .i64 0) := (Aq3 BK588.out 8).trans rfl; have hfz15_0 := Aq2 BK588.out 0; have hfz15_1 := Aq2 BK588.out 1; have hfz15_2 := Aq2 BK588.out 2; have hfz15_3 := Aq2 BK588.out 3; have hfz15_4 := Aq2 BK588.out 4; have hfz15_5 := Aq2 BK588.out 5; have hfz15_6 := Aq2 BK588.out 6; have hfz15_7 := Aq2 BK588.out 7; have hfz15_8 := Aq2 BK588.out 8))
                   go_ret
                   exact ⟨by first | rfl | (simp [Aqj, Aqi] <;> rfl) | (simp [*, Aqj, Aqi] <;> rfl), by repeat (first | (with_reducible first | exact HB.out | apply Aq4 | apply Aq7 | apply Aq5 | refine Ax2 ?_ GE588.out) | exact HB.out)⟩
                 · rw [if_neg c13] at H
                   have c13b0 : decide (60 < (((Ax6 l0 x3_1).f1.f0).size : Int)) = false := decide_eq_false c13
                   have c13b1 : decide (60 < ((Ax6 l0 x3_1).f1.f0).size) = false := decide_eq_false (by omega)
                   clear c13
                   by_cases c16 : (((Ax6 l0 x3_1).f1.f3).length : Int) > 300
                   · rw [if_pos c16] at H
                     have c16b0 : decide (300 < (((Ax6 l0 x3_1).f1.f3).length : Int)) = true := decide_eq_true c16
                     have c16b1 : decide (300 < ((Ax6 l0 x3_1).f1.f3).length) = true := decide_eq_true (by omega)
                     clear c16
                     obtain rfl := Option.some.inj H
                     have p587 : 0 ≤ (x3_1 : Int) := of_decide_eq_true (by first | (with_reducible assumption) | assumption)
                     have q587 : x3_1 < (l0.length : Int) := of_decide_eq_true (by first | (with_reducible assumption) | assumption)
                     obtain ⟨ad587, A587_4, c587_4, A587_7, c587_7, e587, hx587_0, hx587_1, hx587_2, hx587_3, hx587_4, hx587_5, hx587_6, hx587_7, hx587_8, hl587_4, hi587_4, hl587_7, hi587_7⟩ := Avh HR0.out x3_1 p587 q587
                     cases e587
                     replace hx587_0 := (HB.out.cell (World.block_lt_of_cell? w _ hx587_0)).trans hx587_0
                     replace hx587_1 := (HB.out.cell (World.block_lt_of_cell? w _ hx587_1)).trans hx587_1
                     replace hx587_2 := (HB.out.cell (World.block_lt_of_cell? w _ hx587_2)).trans hx587_2
                     replace hx587_3 := (HB.out.cell (World.block_lt_of_cell? w _ hx587_3)).trans hx587_3
                     replace hx587_4 := (HB.out.cell (World.block_lt_of_cell? w _ hx587_4)).trans hx587_4
                     replace hx587_5 := (HB.out.cell (World.block_lt_of_cell? w _ hx587_5)).trans hx587_5
                     replace hx587_6 := (HB.out.cell (World.block_lt_of_cell? w _ hx587_6)).trans hx587_6
                     replace hx587_7 := (HB.out.cell (World.block_lt_of_cell? w _ hx587_7)).trans hx587_7
                     replace hx587_8 := (HB.out.cell (World.block_lt_of_cell? w _ hx587_8)).trans hx587_8
                     have HR587_4 := Bvh hi587_4
                     have HC587_4 := Bvh hl587_4
                     clear hi587_4 hl587_4
                     have HR587_7 := Bvh hi587_7
                     have HC587_7 := Bvh hl587_7
                     clear hi587_7 hl587_7
                     replace p587 := eq_true p587
                     replace q587 := eq_true q587
                     go_wp2_with (first | ((with_reducible refine Ax1 (N := 4) rfl ?_); refine Axd ?hg (N := 4) ?hd (cs := #[.int .i64 0, .string (⟨#[]⟩ : ByteArray), .int .i64 0, .int .i64 0, .slice none 0 0, .string (⟨#[]⟩ : ByteArray), .string (⟨#[]⟩ : ByteArray), .slice none 0 0, .int .i64 0]) (t := 76) ?hr ?_; (case hd => rfl); (case hg => rfl); (case hr => (go_simp; rfl)); intro gb588 hg w17 hbox hb; have n0_ := Bvh (Aq1 HB.out hb); have n1_ := Bvh (hbox); have n2_ := Bvh ((by rw [hg]; exact (Aqb HB.out) : w.heap.size ≤ gb588)); have n3_ := Bvh ((by rw [hg]; exact (Aqb HB.out) : w.heap.size ≤ gb588)); clear HB; have HB := n0_; have BK588 := n1_; have GW588 := n2_; have GE588 := n3_; clear n0_ n1_ n2_ n3_; clear hb hbox hg; have hcz18_0 : w17.cell? ⟨gb588, 0, none⟩ = some (.int .i64 0) := (Aq3 BK588.out 0).trans rfl; have hcz18_1 : w17.cell? ⟨gb588, 1, none⟩ = some (.string (⟨#[]⟩ : ByteArray)) := (Aq3 BK588.out 1).trans rfl; have hcz18_2 : w17.cell? ⟨gb588, 2, none⟩ = some (.int .i64 0) := (Aq3 BK588.out 2).trans rfl; have hcz18_3 : w17.cell? ⟨gb588, 3, none⟩ = some (.int .i64 0) := (Aq3 BK588.out 3).trans rfl; have hcz18_4 : w17.cell? ⟨gb588, 4, none⟩ = some (.slice none 0 0) := (Aq3 BK588.out 4).trans rfl; have hcz18_5 : w17.cell? ⟨gb588, 5, none⟩ = some (.string (⟨#[]⟩ : ByteArray)) := (Aq3 BK588.out 5).trans rfl; have hcz18_6 : w17.cell? ⟨gb588, 6, none⟩ = some (.string (⟨#[]⟩ : ByteArray)) := (Aq3 BK588.out 6).trans rfl; have hcz18_7 : w17.cell? ⟨gb588, 7, none⟩ = some (.slice none 0 0) := (Aq3 BK588.out 7).trans rfl; have hcz18_8 : w17.cell? ⟨gb588, 8, none⟩ = some (.int .i64 0) := (Aq3 BK588.out 8).trans rfl; have hfz18_0 := Aq2 BK588.out 0; have hfz18_1 := Aq2 BK588.out 1; have hfz18_2 := Aq2 BK588.out 2; have hfz18_3 := Aq2 BK588.out 3; have hfz18_4 := Aq2 BK588.out 4; have hfz18_5 := Aq2 BK588.out 5; have hfz18_6 := Aq2 BK588.out 6; have hfz18_7 := Aq2 BK588.out 7; have hfz18_8 := Aq2 BK588.out 8))
                     go_ret
                     exact ⟨by first | rfl | (simp [Aqj, Aqi] <;> rfl) | (simp [*, Aqj, Aqi] <;> rfl), by repeat (first | (with_reducible first | exact HB.out | apply Aq4 | apply Aq7 | apply Aq5 | refine Ax2 ?_ GE588.out) | exact HB.out)⟩
                   · rw [if_neg c16] at H
                     have c16b0 : decide (300 < (((Ax6 l0 x3_1).f1.f3).length : Int)) = false := decide_eq_false c16
                     have c16b1 : decide (300 < ((Ax6 l0 x3_1).f1.f3).length) = false := decide_eq_false (by omega)
                     clear c16
                     by_cases c19 : (((Ax6 l0 x3_1).f2).size : Int) > 60
                     · rw [if_pos c19] at H
                       have c19b0 : decide (60 < (((Ax6 l0 x3_1).f2).size : Int)) = true := decide_eq_true c19
                       have c19b1 : decide (60 < ((Ax6 l0 x3_1).f2).size) = true := decide_eq_true (by omega)
                       clear c19
                       obtain rfl := Option.some.inj H
                       have p587 : 0 ≤ (x3_1 : Int) := of_decide_eq_true (by first | (with_reducible assumption) | assumption)
                       have q587 : x3_1 < (l0.length : Int) := of_decide_eq_true (by first | (with_reducible assumption) | assumption)
                       obtain ⟨ad587, A587_4, c587_4, A587_7, c587_7, e587, hx587_0, hx587_1, hx587_2, hx587_3, hx587_4, hx587_5, hx587_6, hx587_7, hx587_8, hl587_4, hi587_4, hl587_7, hi587_7⟩ := Avh HR0.out x3_1 p587 q587
                       cases e587
                       replace hx587_0 := (HB.out.cell (World.block_lt_of_cell? w _ hx587_0)).trans hx587_0
                       replace hx587_1 := (HB.out.cell (World.block_lt_of_cell? w _ hx587_1)).trans hx587_1
                       replace hx587_2 := (HB.out.cell (World.block_lt_of_cell? w _ hx587_2)).trans hx587_2
                       replace hx587_3 := (HB.out.cell (World.block_lt_of_cell? w _ hx587_3)).trans hx587_3
                       replace hx587_4 := (HB.out.cell (World.block_lt_of_cell? w _ hx587_4)).trans hx587_4
                       replace hx587_5 := (HB.out.cell (World.block_lt_of_cell? w _ hx587_5)).trans hx587_5
                       replace hx587_6 := (HB.out.cell (World.block_lt_of_cell? w _ hx587_6)).trans hx587_6
                       replace hx587_7 := (HB.out.cell (World.block_lt_of_cell? w _ hx587_7)).trans hx587_7
                       replace hx587_8 := (HB.out.cell (World.block_lt_of_cell? w _ hx587_8)).trans hx587_8
                       have HR587_4 := Bvh hi587_4
                       have HC587_4 := Bvh hl587_4
                       clear hi587_4 hl587_4
                       have HR587_7 := Bvh hi587_7
                       have HC587_7 := Bvh hl587_7
                       clear hi587_7 hl587_7
                       replace p587 := eq_true p587
                       replace q587 := eq_true q587
                       go_wp2_with (first | ((with_reducible refine Ax1 (N := 4) rfl ?_); refine Axd ?hg (N := 4) ?hd (cs := #[.int .i64 0, .string (⟨#[]⟩ : ByteArray), .int .i64 0, .int .i64 0, .slice none 0 0, .string (⟨#[]⟩ : ByteArray), .string (⟨#[]⟩ : ByteArray), .slice none 0 0, .int .i64 0]) (t := 76) ?hr ?_; (case hd => rfl); (case hg => rfl); (case hr => (go_simp; rfl)); intro gb588 hg w20 hbox hb; have n0_ := Bvh (Aq1 HB.out hb); have n1_ := Bvh (hbox); have n2_ := Bvh ((by rw [hg]; exact (Aqb HB.out) : w.heap.size ≤ gb588)); have n3_ := Bvh ((by rw [hg]; exact (Aqb HB.out) : w.heap.size ≤ gb588)); clear HB; have HB := n0_; have BK588 := n1_; have GW588 := n2_; have GE588 := n3_; clear n0_ n1_ n2_ n3_; clear hb hbox hg; have hcz21_0 : w20.cell? ⟨gb588, 0, none⟩ = some (.int .i64 0) := (Aq3 BK588.out 0).trans rfl; have hcz21_1 : w20.cell? ⟨gb588, 1, none⟩ = some (.string (⟨#[]⟩ : ByteArray)) := (Aq3 BK588.out 1).trans rfl; have hcz21_2 : w20.cell? ⟨gb588, 2, none⟩ = some (.int .i64 0) := (Aq3 BK588.out 2).trans rfl; have hcz21_3 : w20.cell? ⟨gb588, 3, none⟩ = some (.int .i64 0) := (Aq3 BK588.out 3).trans rfl; have hcz21_4 : w20.cell? ⟨gb588, 4, none⟩ = some (.slice none 0 0) := (Aq3 BK588.out 4).trans rfl; have hcz21_5 : w20.cell? ⟨gb588, 5, none⟩ = some (.string (⟨#[]⟩ : ByteArray)) := (Aq3 BK588.out 5).trans rfl; have hcz21_6 : w20.cell? ⟨gb588, 6, none⟩ = some (.string (⟨#[]⟩ : ByteArray)) := (Aq3 BK588.out 6).trans rfl; have hcz21_7 : w20.cell? ⟨gb588, 7, none⟩ = some (.slice none 0 0) := (Aq3 BK588.out 7).trans rfl; have hcz21_8 : w20.cell? ⟨gb588, 8, none⟩ = some (.int .i64 0) := (Aq3 BK588.out 8).trans rfl; have hfz21_0 := Aq2 BK588.out 0; have hfz21_1 := Aq2 BK588.out 1; have hfz21_2 := Aq2 BK588.out 2; have hfz21_3 := Aq2 BK588.out 3; have hfz21_4 := Aq2 BK588.out 4; have hfz21_5 := Aq2 BK588.out 5; have hfz21_6 := Aq2 BK588.out 6; have hfz21_7 := Aq2 BK588.out 7; have hfz21_8 := Aq2 BK588.out 8))
                       go_ret
                       exact ⟨by first | rfl | (simp [Aqj, Aqi] <;> rfl) | (simp [*, Aqj, Aqi] <;> rfl), by repeat (first | (with_reducible first | exact HB.out | apply Aq4 | apply Aq7 | apply Aq5 | refine Ax2 ?_ GE588.out) | exact HB.out)⟩
                     · rw [if_neg c19] at H
                       have c19b0 : decide (60 < (((Ax6 l0 x3_1).f2).size : Int)) = false := decide_eq_false c19
                       have c19b1 : decide (60 < ((Ax6 l0 x3_1).f2).size) = false := decide_eq_false (by omega)
                       clear c19
                       by_cases c22 : (((Ax6 l0 x3_1).f3).size : Int) > 60
                       · rw [if_pos c22] at H
                         have c22b0 : decide (60 < (((Ax6 l0 x3_1).f3).size : Int)) = true := decide_eq_true c22
                         have c22b1 : decide (60 < ((Ax6 l0 x3_1).f3).size) = true := decide_eq_true (by omega)
                         clear c22
                         obtain rfl := Option.some.inj H
                         have p587 : 0 ≤ (x3_1 : Int) := of_decide_eq_true (by first | (with_reducible assumption) | assumption)
                         have q587 : x3_1 < (l0.length : Int) := of_decide_eq_true (by first | (with_reducible assumption) | assumption)
                         obtain ⟨ad587, A587_4, c587_4, A587_7, c587_7, e587, hx587_0, hx587_1, hx587_2, hx587_3, hx587_4, hx587_5, hx587_6, hx587_7, hx587_8, hl587_4, hi587_4, hl587_7, hi587_7⟩ := Avh HR0.out x3_1 p587 q587
                         cases e587
                         replace hx587_0 := (HB.out.cell (World.block_lt_of_cell? w _ hx587_0)).trans hx587_0
                         replace hx587_1 := (HB.out.cell (World.block_lt_of_cell? w _ hx587_1)).trans hx587_1
                         replace hx587_2 := (HB.out.cell (World.block_lt_of_cell? w _ hx587_2)).trans hx587_2
                         replace hx587_3 := (HB.out.cell (World.block_lt_of_cell? w _ hx587_3)).trans hx587_3
                         replace hx587_4 := (HB.out.cell (World.block_lt_of_cell? w _ hx587_4)).trans hx587_4
                         replace hx587_5 := (HB.out.cell (World.block_lt_of_cell? w _ hx587_5)).trans hx587_5
                         replace hx587_6 := (HB.out.cell (World.block_lt_of_cell? w _ hx587_6)).trans hx587_6
                         replace hx587_7 := (HB.out.cell (World.block_lt_of_cell? w _ hx587_7)).trans hx587_7
                         replace hx587_8 := (HB.out.cell (World.block_lt_of_cell? w _ hx587_8)).trans hx587_8
                         have HR587_4 := Bvh hi587_4
                         have HC587_4 := Bvh hl587_4
                         clear hi587_4 hl587_4
                         have HR587_7 := Bvh hi587_7
                         have HC587_7 := Bvh hl587_7
                         clear hi587_7 hl587_7
                         replace p587 := eq_true p587
                         replace q587 := eq_true q587
                         go_wp2_with (first | ((with_reducible refine Ax1 (N := 4) rfl ?_); refine Axd ?hg (N := 4) ?hd (cs := #[.int .i64 0, .string (⟨#[]⟩ : ByteArray), .int .i64 0, .int .i64 0, .slice none 0 0, .string (⟨#[]⟩ : ByteArray), .string (⟨#[]⟩ : ByteArray), .slice none 0 0, .int .i64 0]) (t := 76) ?hr ?_; (case hd => rfl); (case hg => rfl); (case hr => (go_simp; rfl)); intro gb588 hg w23 hbox hb; have n0_ := Bvh (Aq1 HB.out hb); have n1_ := Bvh (hbox); have n2_ := Bvh ((by rw [hg]; exact (Aqb HB.out) : w.heap.size ≤ gb588)); have n3_ := Bvh ((by rw [hg]; exact (Aqb HB.out) : w.heap.size ≤ gb588)); clear HB; have HB := n0_; have BK588 := n1_; have GW588 := n2_; have GE588 := n3_; clear n0_ n1_ n2_ n3_; clear hb hbox hg; have hcz24_0 : w23.cell? ⟨gb588, 0, none⟩ = some (.int .i64 0) := (Aq3 BK588.out 0).trans rfl; have hcz24_1 : w23.cell? ⟨gb588, 1, none⟩ = some (.string (⟨#[]⟩ : ByteArray)) := (Aq3 BK588.out 1).trans rfl; have hcz24_2 : w23.cell? ⟨gb588, 2, none⟩ = some (.int .i64 0) := (Aq3 BK588.out 2).trans rfl; have hcz24_3 : w23.cell? ⟨gb588, 3, none⟩ = some (.int .i64 0) := (Aq3 BK588.out 3).trans rfl; have hcz24_4 : w23.cell? ⟨gb588, 4, none⟩ = some (.slice none 0 0) := (Aq3 BK588.out 4).trans rfl; have hcz24_5 : w23.cell? ⟨gb588, 5, none⟩ = some (.string (⟨#[]⟩ : ByteArray)) := (Aq3 BK588.out 5).trans rfl; have hcz24_6 : w23.cell? ⟨gb588, 6, none⟩ = some (.string (⟨#[]⟩ : ByteArray)) := (Aq3 BK588.out 6).trans rfl; have hcz24_7 : w23.cell? ⟨gb588, 7, none⟩ = some (.slice none 0 0) := (Aq3 BK588.out 7).trans rfl; have hcz24_8 : w23.cell? ⟨gb588, 8, none⟩ = some (.int .i64 0) := (Aq3 BK588.out 8).trans rfl; have hfz24_0 := Aq2 BK588.out 0; have hfz24_1 := Aq2 BK588.out 1; have hfz24_2 := Aq2 BK588.out 2; have hfz24_3 := Aq2 BK588.out 3; have hfz24_4 := Aq2 BK588.out 4; have hfz24_5 := Aq2 BK588.out 5; have hfz24_6 := Aq2 BK588.out 6; have hfz24_7 := Aq2 BK588.out 7; have hfz24_8 := Aq2 BK588.out 8))
                         go_ret
                         exact ⟨by first | rfl | (simp [Aqj, Aqi] <;> rfl) | (simp [*, Aqj, Aqi] <;> rfl), by repeat (first | (with_reducible first | exact HB.out | apply Aq4 | apply Aq7 | apply Aq5 | refine Ax2 ?_ GE588.out) | exact HB.out)⟩
                       · rw [if_neg c22] at H
                         have c22b0 : decide (60 < (((Ax6 l0 x3_1).f3).size : Int)) = false := decide_eq_false c22
                         have c22b1 : decide (60 < ((Ax6 l0 x3_1).f3).size) = false := decide_eq_false (by omega)
                         clear c22
                         by_cases c25 : (((Ax6 l0 x3_1).f4).length : Int) > 20
                         · rw [if_pos c25] at H
                           have c25b0 : decide (20 < (((Ax6 l0 x3_1).f4).length : Int)) = true := decide_eq_true c25
                           have c25b1 : decide (20 < ((Ax6 l0 x3_1).f4).length) = true := decide_eq_true (by omega)
                           clear c25
                           obtain rfl := Option.some.inj H
                           have p587 : 0 ≤ (x3_1 : Int) := of_decide_eq_true (by first | (with_reducible assumption) | assumption)
                           have q587 : x3_1 < (l0.length : Int) := of_decide_eq_true (by first | (with_reducible assumption) | assumption)
                           obtain ⟨ad587, A587_4, c587_4, A587_7, c587_7, e587, hx587_0, hx587_1, hx587_2, hx587_3, hx587_4, hx587_5, hx587_6, hx587_7, hx587_8, hl587_4, hi587_4, hl587_7, hi587_7⟩ := Avh HR0.out x3_1 p587 q587
                           cases e587
                           replace hx587_0 := (HB.out.cell (World.block_lt_of_cell? w _ hx587_0)).trans hx587_0
                           replace hx587_1 := (HB.out.cell (World.block_lt_of_cell? w _ hx587_1)).trans hx587_1
                           replace hx587_2 := (HB.out.cell (World.block_lt_of_cell? w _ hx587_2)).trans hx587_2
                           replace hx587_3 := (HB.out.cell (World.block_lt_of_cell? w _ hx587_3)).trans hx587_3
                           replace hx587_4 := (HB.out.cell (World.block_lt_of_cell? w _ hx587_4)).trans hx587_4
                           replace hx587_5 := (HB.out.cell (World.block_lt_of_cell? w _ hx587_5)).trans hx587_5
                           replace hx587_6 := (HB.out.cell (World.block_lt_of_cell? w _ hx587_6)).trans hx587_6
                           replace hx587_7 := (HB.out.cell (World.block_lt_of_cell? w _ hx587_7)).trans hx587_7
                           replace hx587_8 := (HB.out.cell (World.block_lt_of_cell? w _ hx587_8)).trans hx587_8
                           have HR587_4 := Bvh hi587_4
                           have HC587_4 := Bvh hl587_4
                           clear hi587_4 hl587_4
                           have HR587_7 := Bvh hi587_7
                           have HC587_7 := Bvh hl587_7
                           clear hi587_7 hl587_7
                           replace p587 := eq_true p587
                           replace q587 := eq_true q587
                           go_wp2_with (first | ((with_reducible refine Ax1 (N := 4) rfl ?_); refine Axd ?hg (N := 4) ?hd (cs := #[.int .i64 0, .string (⟨#[]⟩ : ByteArray), .int .i64 0, .int .i64 0, .slice none 0 0, .string (⟨#[]⟩ : ByteArray), .string (⟨#[]⟩ : ByteArray), .slice none 0 0, .int .i64 0]) (t := 76) ?hr ?_; (case hd => rfl); (case hg => rfl); (case hr => (go_simp; rfl)); intro gb588 hg w26 hbox hb; have n0_ := Bvh (Aq1 HB.out hb); have n1_ := Bvh (hbox); have n2_ := Bvh ((by rw [hg]; exact (Aqb HB.out) : w.heap.size ≤ gb588)); have n3_ := Bvh ((by rw [hg]; exact (Aqb HB.out) : w.heap.size ≤ gb588)); clear HB; have HB := n0_; have BK588 := n1_; have GW588 := n2_; have GE588 := n3_; clear n0_ n1_ n2_ n3_; clear hb hbox hg; have hcz27_0 : w26.cell? ⟨gb588, 0, none⟩ = some (.int .i64 0) := (Aq3 BK588.out 0).trans rfl; have hcz27_1 : w26.cell? ⟨gb588, 1, none⟩ = some (.string (⟨#[]⟩ : ByteArray)) := (Aq3 BK588.out 1).trans rfl; have hcz27_2 : w26.cell? ⟨gb588, 2, none⟩ = some (.int .i64 0) := (Aq3 BK588.out 2).trans rfl; have hcz27_3 : w26.cell? ⟨gb588, 3, none⟩ = some (.int .i64 0) := (Aq3 BK588.out 3).trans rfl; have hcz27_4 : w26.cell? ⟨gb588, 4, none⟩ = some (.slice none 0 0) := (Aq3 BK588.out 4).trans rfl; have hcz27_5 : w26.cell? ⟨gb588, 5, none⟩ = some (.string (⟨#[]⟩ : ByteArray)) := (Aq3 BK588.out 5).trans rfl; have hcz27_6 : w26.cell? ⟨gb588, 6, none⟩ = some (.string (⟨#[]⟩ : ByteArray)) := (Aq3 BK588.out 6).trans rfl; have hcz27_7 : w26.cell? ⟨gb588, 7, none⟩ = some (.slice none 0 0) := (Aq3 BK588.out 7).trans rfl; have hcz27_8 : w26.cell? ⟨gb588, 8, none⟩ = some (.int .i64 0) := (Aq3 BK588.out 8).trans rfl; have hfz27_0 := Aq2 BK588.out 0; have hfz27_1 := Aq2 BK588.out 1; have hfz27_2 := Aq2 BK588.out 2; have hfz27_3 := Aq2 BK588.out 3; have hfz27_4 := Aq2 BK588.out 4; have hfz27_5 := Aq2 BK588.out 5; have hfz27_6 := Aq2 BK588.out 6; have hfz27_7 := Aq2 BK588.out 7; have hfz27_8 := Aq2 BK588.out 8))
                           go_ret
                           exact ⟨by first | rfl | (simp [Aqj, Aqi] <;> rfl) | (simp [*, Aqj, Aqi] <;> rfl), by repeat (first | (with_reducible first | exact HB.out | apply Aq4 | apply Aq7 | apply Aq5 | refine Ax2 ?_ GE588.out) | exact HB.out)⟩
                         · rw [if_neg c25] at H
                           have c25b0 : decide (20 < (((Ax6 l0 x3_1).f4).length : Int)) = false := decide_eq_false c25
                           have c25b1 : decide (20 < ((Ax6 l0 x3_1).f4).length) = false := decide_eq_false (by omega)
                           clear c25
                           have H' := Bvh H
                           clear H
                           have p587 : 0 ≤ (x3_1 : Int) := of_decide_eq_true (by first | (with_reducible assumption) | assumption)
                           have q587 : x3_1 < (l0.length : Int) := of_decide_eq_true (by first | (with_reducible assumption) | assumption)
                           obtain ⟨ad587, A587_4, c587_4, A587_7, c587_7, e587, hx587_0, hx587_1, hx587_2, hx587_3, hx587_4, hx587_5, hx587_6, hx587_7, hx587_8, hl587_4, hi587_4, hl587_7, hi587_7⟩ := Avh HR0.out x3_1 p587 q587
                           cases e587
                           replace hx587_0 := (HB.out.cell (World.block_lt_of_cell? w _ hx587_0)).trans hx587_0
                           replace hx587_1 := (HB.out.cell (World.block_lt_of_cell? w _ hx587_1)).trans hx587_1
                           replace hx587_2 := (HB.out.cell (World.block_lt_of_cell? w _ hx587_2)).trans hx587_2
                           replace hx587_3 := (HB.out.cell (World.block_lt_of_cell? w _ hx587_3)).trans hx587_3
                           replace hx587_4 := (HB.out.cell (World.block_lt_of_cell? w _ hx587_4)).trans hx587_4
                           replace hx587_5 := (HB.out.cell (World.block_lt_of_cell? w _ hx587_5)).trans hx587_5
                           replace hx587_6 := (HB.out.cell (World.block_lt_of_cell? w _ hx587_6)).trans hx587_6
                           replace hx587_7 := (HB.out.cell (World.block_lt_of_cell? w _ hx587_7)).trans hx587_7
                           replace hx587_8 := (HB.out.cell (World.block_lt_of_cell? w _ hx587_8)).trans hx587_8
                           have HR587_4 := Bvh hi587_4
                           have HC587_4 := Bvh hl587_4
                           clear hi587_4 hl587_4
                           have HR587_7 := Bvh hi587_7
                           have HC587_7 := Bvh hl587_7
                           clear hi587_7 hl587_7
                           replace p587 := eq_true p587
                           replace q587 := eq_true q587
                           go_wp2_with (first | ((with_reducible refine Ax1 (N := 4) rfl ?_); refine Axd ?hg (N := 4) ?hd (cs := #[.int .i64 0, .string (⟨#[]⟩ : ByteArray), .int .i64 0, .int .i64 0, .slice none 0 0, .string (⟨#[]⟩ : ByteArray), .string (⟨#[]⟩ : ByteArray), .slice none 0 0, .int .i64 0]) (t := 76) ?hr ?_; (case hd => rfl); (case hg => rfl); (case hr => (go_simp; rfl)); intro gb588 hg w28 hbox hb; have n0_ := Bvh (Aq1 HB.out hb); have n1_ := Bvh (hbox); have n2_ := Bvh ((by rw [hg]; exact (Aqb HB.out) : w.heap.size ≤ gb588)); have n3_ := Bvh ((by rw [hg]; exact (Aqb HB.out) : w.heap.size ≤ gb588)); clear HB; have HB := n0_; have BK588 := n1_; have GW588 := n2_; have GE588 := n3_; clear n0_ n1_ n2_ n3_; clear hb hbox hg; have hcz29_0 : w28.cell? ⟨gb588, 0, none⟩ = some (.int .i64 0) := (Aq3 BK588.out 0).trans rfl; have hcz29_1 : w28.cell? ⟨gb588, 1, none⟩ = some (.string (⟨#[]⟩ : ByteArray)) := (Aq3 BK588.out 1).trans rfl; have hcz29_2 : w28.cell? ⟨gb588, 2, none⟩ = some (.int .i64 0) := (Aq3 BK588.out 2).trans rfl; have hcz29_3 : w28.cell? ⟨gb588, 3, none⟩ = some (.int .i64 0) := (Aq3 BK588.out 3).trans rfl; have hcz29_4 : w28.cell? ⟨gb588, 4, none⟩ = some (.slice none 0 0) := (Aq3 BK588.out 4).trans rfl; have hcz29_5 : w28.cell? ⟨gb588, 5, none⟩ = some (.string (⟨#[]⟩ : ByteArray)) := (Aq3 BK588.out 5).trans rfl; have hcz29_6 : w28.cell? ⟨gb588, 6, none⟩ = some (.string (⟨#[]⟩ : ByteArray)) := (Aq3 BK588.out 6).trans rfl; have hcz29_7 : w28.cell? ⟨gb588, 7, none⟩ = some (.slice none 0 0) := (Aq3 BK588.out 7).trans rfl; have hcz29_8 : w28.cell? ⟨gb588, 8, none⟩ = some (.int .i64 0) := (Aq3 BK588.out 8).trans rfl; have hfz29_0 := Aq2 BK588.out 0; have hfz29_1 := Aq2 BK588.out 1; have hfz29_2 := Aq2 BK588.out 2; have hfz29_3 := Aq2 BK588.out 3; have hfz29_4 := Aq2 BK588.out 4; have hfz29_5 := Aq2 BK588.out 5; have hfz29_6 := Aq2 BK588.out 6; have hfz29_7 := Aq2 BK588.out 7; have hfz29_8 := Aq2 BK588.out 8))
                           go_roundg kj1
                           case measure => have := HK1.out; have := HJ1.out; omega
                           case rel => exact ⟨(wrap64 (x3_1 + 1)), (by first | rfl | (simp; done) | (simp [*]; done)), H', ⟨by have := HK1.out; have := HJ1.out; omega⟩, ⟨by repeat (first | (with_reducible first | exact HB.out | apply Aq4 | apply Aq7 | apply Aq5 | refine Ax2 ?_ GE588.out) | exact HB.out)⟩⟩
           · rw [if_neg c6] at H
             exact absurd H (by simp)
         · rw [if_neg c5] at H
           exact absurd H (by simp)
       · replace c4 := Bool.eq_false_iff.mpr c4
         subst c4
         have H1 : (some (decide ((l0.length : Int) ≤ 20))) = some r := by rw [if_neg (show ¬ (false = true) by decide)] at H; exact H
         clear H
         have H := H1
         clear H1
         obtain rfl := Option.some.inj H
         go_wp2
         go_ret
         exact ⟨by first | rfl | (simp [Aqj, Aqi] <;> rfl) | (simp [*, Aqj, Aqi] <;> rfl), by exact HB.out⟩
end
section
theorem Bk9 (l : List S76) (j : Nat) (h : j < l.length) : Ax6 l (j : Int) = l[j] := by simp [Ax6, h, List.getD]
theorem fewD_l (l : List S76) : ∀ m i : Nat, i + m = 21 → i ≤ l.length → (∀ j : Nat, j < i → okD (Ax6 l j)) → ∃ k b, Aqh.l0 k l i = some b ∧ (b = true → l.length ≤ 20 ∧ ∀ j : Nat, j < l.length → okD (Ax6 l j))
 | 0, i, hi, hl, hs => by
   refine ⟨2, decide ((l.length : Int) ≤ 20), ?_, fun h => ?_⟩
   · obtain rfl : i = 21 := by omega
     simp [Aqh.l0, Aqh.j1]
   · have := of_decide_eq_true h
     omega
 | m + 1, i, hi, hl, hs => by
   by_cases h : i < l.length
   · by_cases hb : okD (Ax6 l (i : Int))
     · obtain ⟨k, b, h3, h4⟩ := fewD_l l m (i + 1) (by omega) (by omega) (fun j hj => by
        by_cases e : j = i
        · subst e; exact hb
        · exact hs j (by omega))
       refine ⟨k + 2, b, ?_, h4⟩
       have h1 := hb.k1
       have h2 := hb.k8
       have h5 := hb.nm
       have h6 := hb.w
       have h7 := hb.na
       have h8 := hb.nb
       have h9 := hb.nums
       unfold Aqh.l0
       rw [if_pos (by omega), show decide ((i : Int) < 21) = true from decide_eq_true (by omega)]
       unfold Aqh.j1
       rw [if_pos rfl, if_pos (by omega), if_pos (by omega), if_neg (by omega), if_neg (by omega), if_neg (by omega), if_neg (by omega), if_neg (by omega), if_neg (by omega), if_neg (by omega), Az5 i (by omega)]
       exact h3
     · refine ⟨2, false, ?_, fun h => by cases h⟩
       unfold Aqh.l0
       rw [if_pos (by omega), show decide ((i : Int) < 21) = true from decide_eq_true (by omega)]
       unfold Aqh.j1
       rw [if_pos rfl, if_pos (by omega), if_pos (by omega)]
       split
       · rfl
       split
       · rfl
       split
       · rfl
       split
       · rfl
       split
       · rfl
       split
       · rfl
       split
       · rfl
       exact absurd ⟨by omega, by omega, by omega, by omega, by omega, by omega, by omega⟩ hb
   · refine ⟨2, decide ((l.length : Int) ≤ 20), ?_, fun h => ⟨by have := of_decide_eq_true h; omega, fun j hj => hs j (by omega)⟩⟩
     unfold Aqh.l0
     rw [if_neg (by omega)]
     simp [Aqh.j1]
theorem fewD (l : List S76) : ∃ k b, Aqh.f k l = some b ∧ (b = true → l.length ≤ 20 ∧ ∀ d ∈ l, okD d) := by
 obtain ⟨k, b, h1, h2⟩ := fewD_l l 21 0 (by omega) (by omega) (fun j hj => by omega)
 refine ⟨k, b, h1, fun hb => ⟨(h2 hb).1, fun d hd => ?_⟩⟩
 obtain ⟨j, hj, rfl⟩ := List.getElem_of_mem hd
 rw [← Bk9 l j hj]
 exact (h2 hb).2 j hj
section
variable {w : World}
theorem do_at {B : Nat → Prop} {g : Nat} {s : SSt} {w0 : World} {n : Nat} (d : S76) (A4 : Option Addr) (c4 : Nat) (A7 : Option Addr) (c7 : Nat) (hr : Rep B g s w) (hi : Inv n s) (hn : n ≤ 999) (hB : Up B w.heap.size) (hd : okD d) (hb0 : ∀ k, k < w0.heap.size → w.heap[k]? = w0.heap[k]?) (hg : w0.heap.size ≤ g)
 (hC4 : (Kd.int .u8).C w0 A4 d.f1.f3.length d.f1.f3) (hc4 : d.f1.f3.length ≤ c4) (hC7 : (Kd.int .i64).C w0 A7 d.f4.length d.f4) (hw7 : ∀ n ∈ d.f4, (Lit.int .i64 n).wf = true) :
 Calls Try.prog 48 #[.pointer (some ⟨g, 0, none⟩), .agg #[.int .i64 d.f0, .string d.f1.f0, .int .i64 d.f1.f1, .int .i64 d.f1.f2, .slice A4 d.f1.f3.length c4, .string d.f2, .string d.f3, .slice A7 d.f4.length c7, .int .i64 d.f5]] w fun e w' => ∃ y z, e = .returned (.agg #[.int .i64 (doS s d).2.1, y, z]) ∧ (Kd.int .u8).R 5 w' w.heap.size (fun _ => True) y (doS s d).2.2.1 ∧ Kd.string.R 9 w' w.heap.size (fun _ => True) z (doS s d).2.2.2 ∧ Rep B g (doS s d).1 w' ∧ BelS B w w' :=
 do_real d A4 c4 A7 c7 hr (hi.fit (by omega)) (hi.fitA hn) hB (Kd.F_mono (Kd.F_step (Kd.C_F (Kd.heap_int .u8) hC4) fun k hk _ => hb0 k hk) fun k hk => by omega) hc4 (Kd.F_mono (Kd.F_step (Kd.C_F (Kd.heap_int .i64) hC7) fun k hk _ => hb0 k hk) fun k hk => by omega) (by have := hd.w; omega) (by have := hd.nums; omega) hw7 hd.k1 hd.k8
end
end
section
section
variable {w : World}
def VarD (w : World) (b : Nat) (d : S76) (A4 : Option Addr) (c4 : Nat) (A7 : Option Addr) (c7 : Nat) : Prop := w.heap[b]? = some (.cells #[.int .i64 d.f0, .string d.f1.f0, .int .i64 d.f1.f1, .int .i64 d.f1.f2, .slice A4 d.f1.f3.length c4, .string d.f2, .string d.f3, .slice A7 d.f4.length c7, .int .i64 d.f5] 76 (0, 0))
theorem VarD.cell {b : Nat} {d : S76} {A4 : Option Addr} {c4 : Nat} {A7 : Option Addr} {c7 : Nat} (h : VarD w b d A4 c4 A7 c7) : w.cell? ⟨b, 0, none⟩ = some (.int .i64 d.f0) ∧ w.cell? ⟨b, 1, none⟩ = some (.string d.f1.f0) ∧ w.cell? ⟨b, 2, none⟩ = some (.int .i64 d.f1.f1) ∧ w.cell? ⟨b, 3, none⟩ = some (.int .i64 d.f1.f2) ∧ w.cell? ⟨b, 4, none⟩ = some (.slice A4 d.f1.f3.length c4) ∧ w.cell? ⟨b, 5, none⟩ = some (.string d.f2) ∧ w.cell? ⟨b, 6, none⟩ = some (.string d.f3) ∧ w.cell? ⟨b, 7, none⟩ = some (.slice A7 d.f4.length c7) ∧ w.cell? ⟨b, 8, none⟩ = some (.int .i64 d.f5) := by
 refine ⟨?_, ?_, ?_, ?_, ?_, ?_, ?_, ?_, ?_⟩ <;> (rw [cell_of_row w b _ _ 76 (0, 0) h]; rfl)
theorem VarD.below {w1 : World} {b : Nat} {d : S76} {A4 : Option Addr} {c4 : Nat} {A7 : Option Addr} {c7 : Nat} (h : VarD w b d A4 c4 A7 c7) (hb : Below w.heap.size w w1) : VarD w1 b d A4 c4 A7 c7 := Aqn hb h
theorem Bq5 (l : List S38) (hl : l.length ≤ 1000000) : ∀ m i : Nat, i + m = l.length → ∃ k, Aqy.l0 k l l i = some true
 | 0, i, hi => ⟨1, by rw [Aqy.l0, if_neg (by omega)]⟩
 | m + 1, i, hi => by
   obtain ⟨k, hk⟩ := Bq5 l hl m (i + 1) (by omega)
   exact ⟨k + 1, by rw [Aqy.l0, if_pos (by omega), if_pos (by omega), if_pos (by omega), if_pos rfl, if_pos rfl, Az5 i (by omega), hk]⟩
theorem Bk7 (l : List S38) (hl : l.length ≤ 1000000) : ∃ k, Aqy.f k l l = some true := by
 obtain ⟨k, hk⟩ := Bq5 l hl l.length 0 (by omega)
 exact ⟨k, by unfold Aqy.f; rw [if_pos rfl]; exact hk⟩
theorem Bq6 {A0 : Option Addr} {c0 : Nat} {A1 : Option Addr} {c1 : Nat} {e0 e1 b0 b1 : Nat} {ok0 ok1 : Nat → Prop} (l : List S38) (hl : l.length ≤ 1000000) (h0 : Kd.V k38 e0 w b0 ok0 (.slice A0 l.length c0) l) (h1 : Kd.V k38 e1 w b1 ok1 (.slice A1 l.length c1) l) :
 Calls Try.prog 20 #[.slice A0 l.length c0, .slice A1 l.length c1] w fun e w' => e = .returned (.bool true) ∧ Below w.heap.size w w' := by
 obtain ⟨k, hk⟩ := Bk7 l hl
 obtain ⟨_, hc0, hC0⟩ := Kd.V_reads' h0
 obtain ⟨_, hc1, hC1⟩ := Kd.V_reads' h1
 refine (Aqy.calls k A0 c0 l A1 c1 l true w hC0 hc0 hC1 hc1 hk).mono ?_
 rintro e w' ⟨he, hd⟩
 exact ⟨he, hd.below⟩
end
end
section
section
variable {w : World} {B : Nat → Prop} {g : Nat} {s : SSt}
theorem files_at {F : List S38} (h : Rep B g s w) (hf : Fit s) (hF : Aq8 s = F) :
 Calls Try.prog 42 #[.pointer (some ⟨g, 0, none⟩)] w fun e w' => ∃ A c, e = .returned (.slice A F.length c) ∧ Kd.V k38 38 w' 0 (fun k => w.heap.size ≤ k) (.slice A F.length c) F ∧ Below w.heap.size w w' := by
 subst hF
 refine (Az4 h hf).mono ?_
 rintro e w' ⟨v, rfl, hv, hb⟩
 obtain ⟨A, c, rfl⟩ := Kd.V_slice hv
 exact ⟨A, c, rfl, Azn hv, hb⟩
theorem safe_at {F : List S38} (h : Rep B g s w) (hf : Fit s) (hF : s.safe = F) :
 Calls Try.prog 45 #[.pointer (some ⟨g, 0, none⟩)] w fun e w' => ∃ A c, e = .returned (.slice A F.length c) ∧ Kd.V k38 38 w' 0 (fun k => w.heap.size ≤ k) (.slice A F.length c) F ∧ Below w.heap.size w w' := by
 subst hF
 refine (Bq7 h (by have := hf.len; omega) hf.safe).mono ?_
 rintro e w' ⟨v, rfl, hv, hb⟩
 obtain ⟨A, c, rfl⟩ := Az1 hv
 exact ⟨A, c, rfl, Azn (Kd.V_mono (O_V hv) fun k hk => hk.elim id id), hb⟩
theorem VarT.cells {b : Nat} {x y z : Value} (h : VarT w b x y z) : w.cell? ⟨b, 0, none⟩ = some x ∧ w.cell? ⟨b, 1, none⟩ = some y ∧ w.cell? ⟨b, 2, none⟩ = some z := by
 refine ⟨?_, ?_, ?_⟩ <;> (rw [cell_of_row w b _ _ 73 (0, 0) h]; rfl)
theorem VarT.below {w1 : World} {b : Nat} {x y z : Value} (h : VarT w b x y z) (hb : Below w.heap.size w w1) : VarT w1 b x y z := Aqn hb h
end
end
section
attribute [local go_sem] Axk Axr Az3 Az7 Axj Axi Axz Axy
def Aqa.l0 : Nat → List (S38) → ByteArray → List (S38) → Int → Option ((List (S38)))
 | 0, _, _, _, _ => none
 | k + 1, x0, x1, x5, x6 => if x6 < (x0.length : Int) then (if 0 ≤ x6 then (if ((Aqf x0 x6).f0).toList = x1.toList then (Aqa.l0 k x0 x1 x5 (wrap64 (x6 + 1))) else (if x5.length < 3518437208883 then (Aqa.l0 k x0 x1 (x5 ++ [(⟨(Aqf x0 x6).f0, (Aqf x0 x6).f1⟩ : S38)]) (wrap64 (x6 + 1))) else (none))) else (none)) else (some x5)
def Aqa.f (k : Nat) (l0 : List (S38)) (a1 : ByteArray) : Option ((List (S38))) := Aqa.l0 k l0 a1 ([] : List (S38)) 0
theorem Aqa.mono_l : ∀ k, (∀ y0 y1 y2 y3, LeO (Aqa.l0 k y0 y1 y2 y3) (Aqa.l0 (k + 1) y0 y1 y2 y3))
 | 0 => fun _ _ _ _ r h => by simp [Aqa.l0] at h
 | k + 1 => by
   have ih0 := Aqa.mono_l k
   · intro y0 y1 y2 y3
     unfold Aqa.l0
     repeat' first
     | (with_reducible exact ih0 _ _ _ _)
     | (with_reducible exact LeO.refl _)
     | (with_reducible exact LeO.none _)
     | (with_reducible refine LeO.ite ?_ ?_)
     | (with_reducible refine LeO.bind ?_ (fun _ => ?_))
     | exact ih0 _ _ _ _
     | exact LeO.none _
     | refine LeO.ite ?_ ?_
     | refine LeO.bind ?_ (fun _ => ?_)
theorem Aqa.mono : ∀ a0 a1 k, LeO (Aqa.f k a0 a1) (Aqa.f (k + 1) a0 a1) := by
 intro a0 a1 k
 have ih0 := Aqa.mono_l k
 unfold Aqa.f
 repeat' first
  | (with_reducible exact ih0 _ _ _ _)
  | (with_reducible exact LeO.refl _)
  | (with_reducible exact LeO.none _)
  | (with_reducible refine LeO.ite ?_ ?_)
  | (with_reducible refine LeO.bind ?_ (fun _ => ?_))
  | exact ih0 _ _ _ _
  | exact LeO.none _
  | refine LeO.ite ?_ ?_
  | refine LeO.bind ?_ (fun _ => ?_)
theorem Aqa.calls (k : Nat) (P0_ : Nat → Prop) (A0 : Option Addr) (c0 : Nat) (l0 : List (S38)) (a1 : ByteArray) (r : List (S38)) (w : World) (hs0 : Kd.V k38 38 w w.heap.size (fun k_ => P0_ k_) (.slice A0 l0.length c0) l0) (h : Aqa.f k l0 a1 = some r) :
 Calls Try.prog 26 #[.slice A0 l0.length c0, .string a1] w fun e w' => ∃ v0_ : Value, e = .returned (v0_) ∧ Kd.N k38 38 w' w.heap.size (fun k_ => (P0_ k_ ∨ w.heap.size ≤ k_)) v0_ r ∧ Below w.heap.size w w' := by
 have hu38 := Try.underlying38
 have HO0 := Bvh (show Kd.V k38 38 w w.heap.size (fun k_ => (P0_ k_ ∨ w.heap.size ≤ k_)) (.slice A0 l0.length c0) l0 from Kd.V_mono hs0 (fun k_ hk => .inl hk))
 have HB := Bvh (Below.refl w.heap.size w)
 have H : (Aqa.l0 k l0 a1 ([] : List (S38)) 0) = some r := h
 clear h
 have H' := Bvh H
 clear H
 go_enter Try.func26, Try.ntmps26
 go_wp2
 go_loopg [5, 6] k (fun kq v5 v6 w' => ∃ (x5_1 : List (S38)) (x6_1 : Int), v6 = .int .i64 x6_1 ∧ Aside0 (Aqa.l0 kq l0 a1 x5_1 x6_1 = some r) ∧ Aside0 (kq ≤ k) ∧ Aside0 (Kd.V k38 38 w' w.heap.size (fun k_ => (P0_ k_ ∨ w.heap.size ≤ k_) ∧ some k_ ≠ (v5 : Value).ownBlock) (.slice A0 l0.length c0) l0) ∧ Aside0 (Kd.N k38 38 w' w.heap.size (fun k_ => (P0_ k_ ∨ w.heap.size ≤ k_)) v5 x5_1) ∧ Aside0 (Below w.heap.size w w'))
 case atStart => exact ⟨(([] : List (S38))), (0), rfl, H', ⟨Nat.le_refl _⟩, ⟨by exact Kd.V_mono HO0.out (fun _ hk => ⟨hk, (by simp [Value.ownBlock])⟩)⟩, ⟨by first | exact Kd.S_nil _ _ _ _ _ | exact Kd.N_nil _ _ _ _ _ | exact Kd.V_nil _ _ _ _ _ | exact Kd.Q_nil _ _ _ _ _ | exact Kd.R_nil _ _ _ _ _⟩, HB⟩
 case round =>
  clear H'
  obtain ⟨x5_1, x6_1, rfl, HA, HK1, HO_0, HO_5, HB⟩ := hrel
  cases gk with
  | zero => exact absurd HA.out (by simp [Aqa.l0])
  | succ k1 =>
    have H := HA.out
    clear HA
    simp only [Aqa.l0] at H
    by_cases c3 : x6_1 < (l0.length : Int)
    · rw [if_pos c3] at H
      have c3b0 : decide (x6_1 < (l0.length : Int)) = true := decide_eq_true c3
      clear c3
      by_cases c4 : 0 ≤ x6_1
      · rw [if_pos c4] at H
        have c4b0 : decide (0 ≤ x6_1) = true := decide_eq_true c4
        clear c4
        by_cases c5 : ((Aqf l0 x6_1).f0).toList = a1.toList
        · rw [if_pos c5] at H
          have c5b0 : (((Aqf l0 x6_1).f0).toList == a1.toList) = true := beq_iff_eq.mpr c5
          have c5b1 : (((Aqf l0 x6_1).f0).toList != a1.toList) = false := bne_eq_false_iff_eq.mpr c5
          clear c5
          have H' := Bvh H
          clear H
          have p105 : 0 ≤ (x6_1 : Int) := of_decide_eq_true (by first | (with_reducible assumption) | assumption)
          have q105 : x6_1 < (l0.length : Int) := of_decide_eq_true (by first | (with_reducible assumption) | assumption)
          obtain ⟨ad105, A105_1, c105_1, e105, hx105_0, hx105_1, hl105_1, hi105_1⟩ := Azf (Kd.V_reads' HO_0.out).2.2 x6_1 p105 q105
          cases e105
          obtain ⟨ce105, hce105, hMe105, hcc105⟩ := Kd.V_get HO_0.out z38 x6_1 p105 (by first | exact q105 | exact of_decide_eq_true (by first | (with_reducible assumption) | assumption) | (have e_ := (Kd.V_reads' HO_0.out).1; omega))
          obtain ⟨ua105_1, uc105_1, rfl, ul105_1, ge105_1⟩ := Azv hMe105
          have hv105_1 := hcc105 1 _ rfl
          rw [Ax3 _ _ 1 (by omega)] at hv105_1
          replace hv105_1 := Option.some.inj (hv105_1.symm.trans hx105_1)
          injection hv105_1 with hva_ hvn_ hvc_
          rw [hva_] at ge105_1
          rw [hvc_] at ul105_1
          have HL105_1 := Bvh (show Kd.V (Kd.int .u8) 5 _ w.heap.size _ _ ((Aqf l0 x6_1).f1) from Kd.V_mk ul105_1 ge105_1)
          clear hva_ hvn_ hvc_ ge105_1 ul105_1
          clear hcc105 hce105
          have HR105_1 := Bvh hi105_1
          have HC105_1 := Bvh hl105_1
          clear hi105_1 hl105_1
          replace p105 := eq_true p105
          replace q105 := eq_true q105
          go_wp2
          go_roundg k1
          case measure => have := HK1.out; omega
          case rel => exact ⟨(x5_1), (wrap64 (x6_1 + 1)), rfl, H', ⟨by have := HK1.out; omega⟩, HO_0, ⟨by (with_reducible repeat (first | apply Kd.N_alloc | apply Kd.N_drewN | apply Kd.N_drew)); exact HO_5.out⟩, HB⟩
        · rw [if_neg c5] at H
          have c5b0 : (((Aqf l0 x6_1).f0).toList == a1.toList) = false := beq_eq_false_iff_ne.mpr c5
          have c5b1 : (((Aqf l0 x6_1).f0).toList != a1.toList) = true := bne_iff_ne.mpr c5
          by_cases c6 : x5_1.length < 3518437208883
          · rw [if_pos c6] at H
            have LMc6 := Bvh c6
            clear c6
            obtain ⟨y107, hy107⟩ : ∃ y_ : List (S38), y_ = (x5_1 ++ [(⟨(Aqf l0 x6_1).f0, (Aqf l0 x6_1).f1⟩ : S38)]) := ⟨_, rfl⟩
            replace H : (Aqa.l0 k1 l0 a1 y107 (wrap64 (x6_1 + 1))) = some r := by first | (rw [hy107]; with_reducible exact H) | (have H2_ := (Option.bind_some _ _).symm.trans H; rw [hy107]; with_reducible exact H2_) | (have H2_ := (Option.bind_some _ _).symm.trans H; with_reducible exact H2_) | with_reducible exact H | (rw [hy107]; exact H) | exact H
            have Ny107 := Bvh hy107
            clear hy107
            have H' := Bvh H
            clear H
            have p105 : 0 ≤ (x6_1 : Int) := of_decide_eq_true (by first | (with_reducible assumption) | assumption)
            have q105 : x6_1 < (l0.length : Int) := of_decide_eq_true (by first | (with_reducible assumption) | assumption)
            obtain ⟨ad105, A105_1, c105_1, e105, hx105_0, hx105_1, hl105_1, hi105_1⟩ := Azf (Kd.V_reads' HO_0.out).2.2 x6_1 p105 q105
            cases e105
            obtain ⟨ce105, hce105, hMe105, hcc105⟩ := Kd.V_get HO_0.out z38 x6_1 p105 (by first | exact q105 | exact of_decide_eq_true (by first | (with_reducible assumption) | assumption) | (have e_ := (Kd.V_reads' HO_0.out).1; omega))
            obtain ⟨ua105_1, uc105_1, rfl, ul105_1, ge105_1⟩ := Azv hMe105
            have hv105_1 := hcc105 1 _ rfl
            rw [Ax3 _ _ 1 (by omega)] at hv105_1
            replace hv105_1 := Option.some.inj (hv105_1.symm.trans hx105_1)
            injection hv105_1 with hva_ hvn_ hvc_
            rw [hva_] at ge105_1
            rw [hvc_] at ul105_1
            have HL105_1 := Bvh (show Kd.V (Kd.int .u8) 5 _ w.heap.size _ _ ((Aqf l0 x6_1).f1) from Kd.V_mk ul105_1 ge105_1)
            clear hva_ hvn_ hvc_ ge105_1 ul105_1
            clear hcc105 hce105
            have HR105_1 := Bvh hi105_1
            have HC105_1 := Bvh hl105_1
            clear hi105_1 hl105_1
            replace p105 := eq_true p105
            replace q105 := eq_true q105
            have p106 : 0 ≤ (x6_1 : Int) := of_decide_eq_true (by first | (with_reducible assumption) | assumption)
            have q106 : x6_1 < (l0.length : Int) := of_decide_eq_true (by first | (with_reducible assumption) | assumption)
            obtain ⟨ad106, A106_1, c106_1, e106, hx106_0, hx106_1, hl106_1, hi106_1⟩ := Azf (Kd.V_reads' HO_0.out).2.2 x6_1 p106 q106
            obtain rfl : ad105 = ad106 := (by injection e106)
            obtain ⟨ce106, hce106, hMe106, hcc106⟩ := Kd.V_get HO_0.out z38 x6_1 p106 (by first | exact q106 | exact of_decide_eq_true (by first | (with_reducible assumption) | assumption) | (have e_ := (Kd.V_reads' HO_0.out).1; omega))
            obtain ⟨ua106_1, uc106_1, rfl, ul106_1, ge106_1⟩ := Azv hMe106
            have hv106_1 := hcc106 1 _ rfl
            rw [Ax3 _ _ 1 (by omega)] at hv106_1
            replace hv106_1 := Option.some.inj (hv106_1.symm.trans hx106_1)
            injection hv106_1 with hva_ hvn_ hvc_
            rw [hva_] at ge106_1
            rw [hvc_] at ul106_1
            have HL106_1 := Bvh (show Kd.V (Kd.int .u8) 5 _ w.heap.size _ _ ((Aqf l0 x6_1).f1) from Kd.V_mk ul106_1 ge106_1)
            clear hva_ hvn_ hvc_ ge106_1 ul106_1
            clear hcc106 hce106
            have HR106_1 := Bvh hi106_1
            have HC106_1 := Bvh hl106_1
            clear hi106_1 hl106_1
            replace p106 := eq_true p106
            replace q106 := eq_true q106
            have ea_ := Option.some.inj (hx105_1.symm.trans hx106_1)
            injection ea_ with ea_ en_ ec_
            subst ea_
            subst ec_
            clear en_
            go_wp2_with (first | ((with_reducible refine Axc (b := .append) (xs := #[.tmp 20, .tmp 25]) rfl ?_); at_builtin; refine Kd.N_append k38 (w0 := w) w.heap.size rfl (.tmp 20) (.tmp 25) 22 38 (.agg #[(.string ⟨#[]⟩), (.slice none 0 0)]) 40 rfl Try.underlying22 Aki rfl (by decide) (by omega) u5 x5_1 (⟨(Aqf l0 x6_1).f0, (Aqf l0 x6_1).f1⟩ : S38) [.string ((Aqf l0 x6_1).f0), .slice A105_1 ((Aqf l0 x6_1).f1).length c105_1] (fun k_ => (P0_ k_ ∨ w.heap.size ≤ k_)) (fun k_ => ((fun k_ => (P0_ k_ ∨ w.heap.size ≤ k_))) k_ ∧ some k_ ≠ (u5 : Value).ownBlock) rfl rfl ?aP (fun _ hk => hk) ?aF ?aO ?aB ?aS ?aL ?_; (case aP => exact (Akh _ _ (⟨(Aqf l0 x6_1).f0, (Aqf l0 x6_1).f1⟩ : S38) (Kd.V_reads' (Kd.V_mono (ok' := (fun k_ => ((fun k_ => (P0_ k_ ∨ w.heap.size ≤ k_))) k_ ∧ some k_ ≠ (u5 : Value).ownBlock)) (HL106_1.out) (fun k_ hk => ⟨hk.1, hk.2⟩))).2.1 (Kd.V_F (Kd.V_mono (ok' := (fun k_ => ((fun k_ => (P0_ k_ ∨ w.heap.size ≤ k_))) k_ ∧ some k_ ≠ (u5 : Value).ownBlock)) (HL106_1.out) (fun k_ hk => ⟨hk.1, hk.2⟩))))); (case aB => exact HB.out); (case aF => exact (fun k_ hk => (.inr (Nat.le_trans (Aqb HB.out) hk)))); (case aO => exact (by (with_reducible repeat (first | apply Kd.N_alloc | apply Kd.N_drewN | apply Kd.N_drew)); exact HO_5.out)); (case aS => exact (Aqb HB.out)); (case aL => have := LMc6.out; omega); intro v108 w7 ho hb hg hat; rw [← Ny107.out] at ho; have n0_ := Bvh (Kd.V_afterv (ok := (fun k_ => (P0_ k_ ∨ w.heap.size ≤ k_))) HO_0.out hg hat); have n1_ := Bvh (Kd.V_afterv (ok := (fun k_ => (P0_ k_ ∨ w.heap.size ≤ k_))) HL105_1.out hg hat); have n2_ := Bvh (Kd.V_afterv (ok := (fun k_ => (P0_ k_ ∨ w.heap.size ≤ k_))) HL106_1.out hg hat); have n3_ := Bvh (hb); have n4_ := Bvh (ho); clear HO_0; clear HL105_1; clear HL106_1; clear HB; clear HO_5; have HO_0 := n0_; have HL105_1 := n1_; have HL106_1 := n2_; have HB := n3_; have HO109 := n4_; clear n0_ n1_ n2_ n3_ n4_; clear ho hb hg hat))
            go_roundg k1
            case measure => have := HK1.out; omega
            case rel => exact ⟨(y107), (wrap64 (x6_1 + 1)), rfl, H', ⟨by have := HK1.out; omega⟩, HO_0, ⟨by (with_reducible repeat (first | apply Kd.N_alloc | apply Kd.N_drewN | apply Kd.N_drew)); exact HO109.out⟩, HB⟩
          · rw [if_neg c6] at H
            exact absurd H (by simp)
      · rw [if_neg c4] at H
        exact absurd H (by simp)
    · rw [if_neg c3] at H
      have c3b0 : decide (x6_1 < (l0.length : Int)) = false := decide_eq_false c3
      clear c3
      obtain rfl := Option.some.inj H
      go_wp2
      go_ret
      exact ⟨_, by first | rfl | (simp [Aqj, Aqi] <;> rfl) | (simp [*, Aqj, Aqi] <;> rfl), by (with_reducible repeat (first | apply Kd.N_alloc | apply Kd.N_drewN | apply Kd.N_drew)); exact HO_5.out, by exact HB.out⟩
end
section
attribute [local go_sem] Axk Axr Az3 Az7 Axj Axi Axz Axy
attribute [local go_sem] Bxv Bxu Bxt
def Aq6.l0 : Nat → ByteArray → List Int → List (S38) → List (S38) → Bool → Int → Option ((List (S38)))
 | 0, _, _, _, _, _, _ => none
 | k + 1, x1, x2, x7, x8, x9, x10 => if x10 < (x7.length : Int) then (if x9 = true then (if 0 ≤ x10 then (if x8.length < 3518437208883 then (Aq6.l0 k x1 x2 x7 (x8 ++ [(⟨(Aqf x7 x10).f0, (Aqf x7 x10).f1⟩ : S38)]) x9 (wrap64 (x10 + 1))) else (none)) else (none)) else (if 0 ≤ x10 then (if (Op.bytesLess x1.toList (((Aqf x7 x10).f0).toList)) = true then (if x8.length < 3518437208883 then ((some (x8 ++ [(⟨x1, x2⟩ : S38)] : List (S38))).bind fun y118 => (if y118.length < 3518437208883 then (Aq6.l0 k x1 x2 x7 (y118 ++ [(⟨(Aqf x7 x10).f0, (Aqf x7 x10).f1⟩ : S38)]) true (wrap64 (x10 + 1))) else (none))) else (none)) else (if x8.length < 3518437208883 then (Aq6.l0 k x1 x2 x7 (x8 ++ [(⟨(Aqf x7 x10).f0, (Aqf x7 x10).f1⟩ : S38)]) x9 (wrap64 (x10 + 1))) else (none))) else (none))) else (if x9 = true then (some x8) else (if x8.length < 3518437208883 then (some (x8 ++ [(⟨x1, x2⟩ : S38)])) else (none)))
def Aq6.f (k : Nat) (l0 : List (S38)) (a1 : ByteArray) (l2 : List Int) : Option ((List (S38))) := (Aqa.f k l0 a1).bind fun t110 => (Aq6.l0 k a1 l2 t110 ([] : List (S38)) false 0)
theorem Aq6.mono_l : ∀ k, (∀ y0 y1 y2 y3 y4 y5, LeO (Aq6.l0 k y0 y1 y2 y3 y4 y5) (Aq6.l0 (k + 1) y0 y1 y2 y3 y4 y5))
 | 0 => fun _ _ _ _ _ _ r h => by simp [Aq6.l0] at h
 | k + 1 => by
   have ih0 := Aq6.mono_l k
   · intro y0 y1 y2 y3 y4 y5
     unfold Aq6.l0
     repeat' first
     | (with_reducible exact ih0 _ _ _ _ _ _)
     | (with_reducible exact Aqa.mono _ _ _)
     | (with_reducible exact LeO.refl _)
     | (with_reducible exact LeO.none _)
     | (with_reducible refine LeO.ite ?_ ?_)
     | (with_reducible refine LeO.bind ?_ (fun _ => ?_))
     | exact ih0 _ _ _ _ _ _
     | exact Aqa.mono _ _ _
     | exact LeO.none _
     | refine LeO.ite ?_ ?_
     | refine LeO.bind ?_ (fun _ => ?_)
theorem Aq6.mono : ∀ a0 a1 a2 k, LeO (Aq6.f k a0 a1 a2) (Aq6.f (k + 1) a0 a1 a2) := by
 intro a0 a1 a2 k
 have ih0 := Aq6.mono_l k
 unfold Aq6.f
 repeat' first
  | (with_reducible exact ih0 _ _ _ _ _ _)
  | (with_reducible exact Aqa.mono _ _ _)
  | (with_reducible exact LeO.refl _)
  | (with_reducible exact LeO.none _)
  | (with_reducible refine LeO.ite ?_ ?_)
  | (with_reducible refine LeO.bind ?_ (fun _ => ?_))
  | exact ih0 _ _ _ _ _ _
  | exact Aqa.mono _ _ _
  | exact LeO.none _
  | refine LeO.ite ?_ ?_
  | refine LeO.bind ?_ (fun _ => ?_)
theorem Aq6.calls (k : Nat) (P0_ : Nat → Prop) (A0 : Option Addr) (c0 : Nat) (l0 : List (S38)) (a1 : ByteArray) (P2_ : Nat → Prop) (A2 : Option Addr) (c2 : Nat) (l2 : List Int) (r : List (S38)) (w : World) (hs0 : Kd.V k38 38 w w.heap.size (fun k_ => P0_ k_) (.slice A0 l0.length c0) l0) (hs2 : Kd.V (Kd.int .u8) 5 w w.heap.size (fun k_ => P2_ k_) (.slice A2 l2.length c2) l2) (h : Aq6.f k l0 a1 l2 = some r) :
 Calls Try.prog 24 #[.slice A0 l0.length c0, .string a1, .slice A2 l2.length c2] w fun e w' => ∃ v0_ : Value, e = .returned (v0_) ∧ Kd.N k38 38 w' w.heap.size (fun k_ => ((P0_ k_ ∨ P2_ k_) ∨ w.heap.size ≤ k_)) v0_ r ∧ Below w.heap.size w w' := by
 have hu38 := Try.underlying38
 have HO0 := Bvh (show Kd.V k38 38 w w.heap.size (fun k_ => ((P0_ k_ ∨ P2_ k_) ∨ w.heap.size ≤ k_)) (.slice A0 l0.length c0) l0 from Kd.V_mono hs0 (fun k_ hk => .inl (.inl hk)))
 have HO2 := Bvh (show Kd.V (Kd.int .u8) 5 w w.heap.size (fun k_ => ((P0_ k_ ∨ P2_ k_) ∨ w.heap.size ≤ k_)) (.slice A2 l2.length c2) l2 from Kd.V_mono hs2 (fun k_ hk => .inl (.inr hk)))
 have HB := Bvh (Below.refl w.heap.size w)
 have H : ((Aqa.f k l0 a1).bind fun t110 => (Aq6.l0 k a1 l2 t110 ([] : List (S38)) false 0)) = some r := h
 clear h
 replace H := Option.bind_eq_some_iff.mp H
 obtain ⟨t110, A40, H⟩ := H
 replace H : (Aq6.l0 k a1 l2 t110 ([] : List (S38)) false 0) = some r := H
 have A4 := Bvh A40
 clear A40
 have H' := Bvh H
 clear H
 go_enter Try.func24, Try.ntmps24
 go_wp2_with (first | ((with_reducible refine Axm (f := 26) rfl ?_); refine Ajq (some 13) rfl rfl Try.func26 (by kernel_rfl) rfl #[.slice A0 l0.length c0, .string a1] rfl (by (try simp only [List.map_toArray, List.map_cons, List.map_nil]); first | done | rfl | (simp only [List.length_drop, List.length_take]; rfl)) ?_; (with_reducible refine (Aqa.calls k (fun k_ => ((P0_ k_ ∨ P2_ k_) ∨ w.heap.size ≤ k_)) _ _ l0 a1 t110 _ ?side1 A4.out).mono ?_); (case side1 => exact HO0.out); rintro e w5 ⟨v111, rfl, ho0, hb⟩; refine ⟨_, rfl, ?_⟩; have n0_ := Bvh (Kd.V_elder' HO0.out (Kd.N_base ho0) hb); have n1_ := Bvh (Kd.V_elder' HO2.out (Kd.N_base ho0) hb); have n2_ := Bvh (Kd.N_lower (Kd.N_mono (ok' := fun k_ => ((P0_ k_ ∨ P2_ k_) ∨ w.heap.size ≤ k_)) ho0 (fun k_ hk_ => Or.elim hk_ (fun hs_ => hs_) (fun hn_ => (.inr (Nat.le_trans (Aqb HB.out) hn_))))) (Aqb HB.out)); have n3_ := Bvh (Aq1 HB.out hb); clear HO0; clear HO2; clear HB; have HO0 := n0_; have HO2 := n1_; have HO112 := n2_; have HB := n3_; clear n0_ n1_ n2_ n3_; (try clear hb); (try clear hb2); (try clear hk); (try clear hi); (try clear ho0)))
 go_loopg [8, 9, 10] k (fun kq v8 v9 v10 w' => ∃ (x8_1 : List (S38)) (x9_1 : Bool) (x10_1 : Int), v9 = .bool x9_1 ∧ v10 = .int .i64 x10_1 ∧ Aside0 (Aq6.l0 kq a1 l2 t110 x8_1 x9_1 x10_1 = some r) ∧ Aside0 (kq ≤ k) ∧ Aside0 (Kd.V (Kd.int .u8) 5 w' w.heap.size (fun k_ => ((P0_ k_ ∨ P2_ k_) ∨ w.heap.size ≤ k_) ∧ some k_ ≠ (v111 : Value).ownBlock ∧ some k_ ≠ (v8 : Value).ownBlock) (.slice A2 l2.length c2) l2) ∧ Aside0 (Kd.N k38 38 w' w.heap.size (fun k_ => ((P0_ k_ ∨ P2_ k_) ∨ w.heap.size ≤ k_) ∧ some k_ ≠ (v8 : Value).ownBlock) v111 t110) ∧ Aside0 (Kd.N k38 38 w' w.heap.size (fun k_ => ((P0_ k_ ∨ P2_ k_) ∨ w.heap.size ≤ k_) ∧ some k_ ≠ (v111 : Value).ownBlock) v8 x8_1) ∧ Aside0 (Below w.heap.size w w'))
 case atStart => exact ⟨(([] : List (S38))), (false), (0), rfl, rfl, H', ⟨Nat.le_refl _⟩, ⟨by exact Kd.V_mono HO2.out (fun _ hk => ⟨hk.1, ⟨hk.2, (by simp [Value.ownBlock])⟩⟩)⟩, ⟨by (with_reducible repeat (first | apply Kd.N_alloc | apply Kd.N_drewN | apply Kd.N_drew)); exact Kd.N_mono HO112.out (fun _ hk => ⟨hk, (by simp [Value.ownBlock])⟩)⟩, ⟨by first | exact Kd.S_nil _ _ _ _ _ | exact Kd.N_nil _ _ _ _ _ | exact Kd.V_nil _ _ _ _ _ | exact Kd.Q_nil _ _ _ _ _ | exact Kd.R_nil _ _ _ _ _⟩, HB⟩
 case round =>
  clear H'
  obtain ⟨x8_1, x9_1, x10_1, rfl, rfl, HA, HK1, HO_2, HO_7, HO_8, HB⟩ := hrel
  cases gk with
  | zero => exact absurd HA.out (by simp [Aq6.l0])
  | succ k1 =>
    have H := HA.out
    clear HA
    simp only [Aq6.l0] at H
    by_cases c6 : x10_1 < (t110.length : Int)
    · rw [if_pos c6] at H
      have c6b0 : decide (x10_1 < (t110.length : Int)) = true := decide_eq_true c6
      clear c6
      by_cases c7 : x9_1 = true
      · subst c7
        have H1 : (if 0 ≤ x10_1 then (if x8_1.length < 3518437208883 then (Aq6.l0 k1 a1 l2 t110 (x8_1 ++ [(⟨(Aqf t110 x10_1).f0, (Aqf t110 x10_1).f1⟩ : S38)]) true (wrap64 (x10_1 + 1))) else (none)) else (none)) = some r := by rw [if_pos rfl] at H; exact H
        clear H
        have H := H1
        clear H1
        by_cases c8 : 0 ≤ x10_1
        · rw [if_pos c8] at H
          have c8b0 : decide (0 ≤ x10_1) = true := decide_eq_true c8
          clear c8
          by_cases c9 : x8_1.length < 3518437208883
          · rw [if_pos c9] at H
            have LMc9 := Bvh c9
            clear c9
            obtain ⟨y114, hy114⟩ : ∃ y_ : List (S38), y_ = (x8_1 ++ [(⟨(Aqf t110 x10_1).f0, (Aqf t110 x10_1).f1⟩ : S38)]) := ⟨_, rfl⟩
            replace H : (Aq6.l0 k1 a1 l2 t110 y114 true (wrap64 (x10_1 + 1))) = some r := by first | (rw [hy114]; with_reducible exact H) | (have H2_ := (Option.bind_some _ _).symm.trans H; rw [hy114]; with_reducible exact H2_) | (have H2_ := (Option.bind_some _ _).symm.trans H; with_reducible exact H2_) | with_reducible exact H | (rw [hy114]; exact H) | exact H
            have Ny114 := Bvh hy114
            clear hy114
            have H' := Bvh H
            clear H
            obtain ⟨Ao10, co10, eo10⟩ := Kd.N_slice HO_7.out
            subst eo10
            have p113 : 0 ≤ (x10_1 : Int) := of_decide_eq_true (by first | (with_reducible assumption) | assumption)
            have q113 : x10_1 < (t110.length : Int) := of_decide_eq_true (by first | (with_reducible assumption) | assumption)
            obtain ⟨ad113, A113_1, c113_1, e113, hx113_0, hx113_1, hl113_1, hi113_1⟩ := Azf (Kd.N_reads' HO_7.out).2.2 x10_1 p113 q113
            cases e113
            obtain ⟨ce113, hce113, hMe113, hcc113⟩ := Kd.N_get HO_7.out z38 x10_1 p113 (by first | exact q113 | exact of_decide_eq_true (by first | (with_reducible assumption) | assumption) | (have e_ := (Kd.N_reads' HO_7.out).1; omega))
            obtain ⟨ua113_1, uc113_1, rfl, ul113_1, ge113_1⟩ := Azv hMe113
            have hv113_1 := hcc113 1 _ rfl
            rw [Ax3 _ _ 1 (by omega)] at hv113_1
            replace hv113_1 := Option.some.inj (hv113_1.symm.trans hx113_1)
            injection hv113_1 with hva_ hvn_ hvc_
            rw [hva_] at ge113_1
            rw [hvc_] at ul113_1
            have HL113_1 := Bvh (show Kd.V (Kd.int .u8) 5 _ w.heap.size _ _ ((Aqf t110 x10_1).f1) from Kd.V_mk ul113_1 ge113_1)
            clear hva_ hvn_ hvc_ ge113_1 ul113_1
            clear hcc113 hce113
            have HR113_1 := Bvh hi113_1
            have HC113_1 := Bvh hl113_1
            clear hi113_1 hl113_1
            replace p113 := eq_true p113
            replace q113 := eq_true q113
            go_wp2_with (first | ((with_reducible refine Axc (b := .append) (xs := #[.tmp 37, .tmp 42]) rfl ?_); at_builtin; refine Kd.N_append k38 (w0 := w) w.heap.size rfl (.tmp 37) (.tmp 42) 22 38 (.agg #[(.string ⟨#[]⟩), (.slice none 0 0)]) 40 rfl Try.underlying22 Aki rfl (by decide) (by omega) u8 x8_1 (⟨(Aqf t110 x10_1).f0, (Aqf t110 x10_1).f1⟩ : S38) [.string ((Aqf t110 x10_1).f0), .slice A113_1 ((Aqf t110 x10_1).f1).length c113_1] (fun k_ => ((P0_ k_ ∨ P2_ k_) ∨ w.heap.size ≤ k_) ∧ some k_ ≠ (.slice (some ad113) t110.length co10 : Value).ownBlock) (fun k_ => ((fun k_ => ((P0_ k_ ∨ P2_ k_) ∨ w.heap.size ≤ k_) ∧ some k_ ≠ (.slice (some ad113) t110.length co10 : Value).ownBlock)) k_ ∧ some k_ ≠ (u8 : Value).ownBlock) rfl rfl ?aP (fun _ hk => hk) ?aF ?aO ?aB ?aS ?aL ?_; (case aP => exact (Akh _ _ (⟨(Aqf t110 x10_1).f0, (Aqf t110 x10_1).f1⟩ : S38) (Kd.V_reads' (Kd.V_mono (ok' := (fun k_ => ((fun k_ => ((P0_ k_ ∨ P2_ k_) ∨ w.heap.size ≤ k_) ∧ some k_ ≠ (.slice (some ad113) t110.length co10 : Value).ownBlock)) k_ ∧ some k_ ≠ (u8 : Value).ownBlock)) (HL113_1.out) (fun k_ hk => ⟨⟨hk.1.1, hk.2⟩, hk.1.2⟩))).2.1 (Kd.V_F (Kd.V_mono (ok' := (fun k_ => ((fun k_ => ((P0_ k_ ∨ P2_ k_) ∨ w.heap.size ≤ k_) ∧ some k_ ≠ (.slice (some ad113) t110.length co10 : Value).ownBlock)) k_ ∧ some k_ ≠ (u8 : Value).ownBlock)) (HL113_1.out) (fun k_ hk => ⟨⟨hk.1.1, hk.2⟩, hk.1.2⟩))))); (case aB => exact HB.out); (case aF => exact (fun k_ hk => ⟨(.inr (Nat.le_trans (Aqb HB.out) hk)), Kd.fresh' (Kd.N_lt (by (with_reducible repeat (first | apply Kd.N_alloc | apply Kd.N_drewN | apply Kd.N_drew)); exact HO_7.out)) k_ hk⟩)); (case aO => exact (by (with_reducible repeat (first | apply Kd.N_alloc | apply Kd.N_drewN | apply Kd.N_drew)); exact HO_8.out)); (case aS => exact (Aqb HB.out)); (case aL => have := LMc9.out; omega); intro v115 w11 ho hb hg hat; rw [← Ny114.out] at ho; have n0_ := Bvh (Kd.V_afterv (ok := (fun k_ => ((P0_ k_ ∨ P2_ k_) ∨ w.heap.size ≤ k_) ∧ some k_ ≠ (.slice (some ad113) t110.length co10 : Value).ownBlock)) (by exact Kd.V_mono HO_2.out (fun _ hk => ⟨⟨hk.1, hk.2.1⟩, hk.2.2⟩)) hg hat); have n1_ := Bvh (Kd.N_afterv (ok := (fun k_ => ((P0_ k_ ∨ P2_ k_) ∨ w.heap.size ≤ k_))) (by (with_reducible repeat (first | apply Kd.N_alloc | apply Kd.N_drewN | apply Kd.N_drew)); exact HO_7.out) hg hat); have n2_ := Bvh (Kd.V_afterv (ok := (fun k_ => ((P0_ k_ ∨ P2_ k_) ∨ w.heap.size ≤ k_) ∧ some k_ ≠ (.slice (some ad113) t110.length co10 : Value).ownBlock)) (by exact Kd.V_mono HL113_1.out (fun _ hk => ⟨⟨hk.1.1, hk.2⟩, hk.1.2⟩)) hg hat); have n3_ := Bvh (hb); have n4_ := Bvh (ho); clear HO_2; clear HO_7; clear HL113_1; clear HB; clear HO_8; have HO_2 := n0_; have HO_7 := n1_; have HL113_1 := n2_; have HB := n3_; have HO116 := n4_; clear n0_ n1_ n2_ n3_ n4_; clear ho hb hg hat))
            go_roundg k1
            case measure => have := HK1.out; omega
            case rel => exact ⟨(y114), (true), (wrap64 (x10_1 + 1)), rfl, rfl, H', ⟨by have := HK1.out; omega⟩, ⟨by exact Kd.V_mono HO_2.out (fun _ hk => ⟨hk.1.1, ⟨hk.1.2, hk.2⟩⟩)⟩, ⟨by (with_reducible repeat (first | apply Kd.N_alloc | apply Kd.N_drewN | apply Kd.N_drew)); exact HO_7.out⟩, ⟨by (with_reducible repeat (first | apply Kd.N_alloc | apply Kd.N_drewN | apply Kd.N_drew)); exact HO116.out⟩, HB⟩
          · rw [if_neg c9] at H
            exact absurd H (by simp)
        · rw [if_neg c8] at H
          exact absurd H (by simp)
      · replace c7 := Bool.eq_false_iff.mpr c7
        subst c7
        have H1 : (if 0 ≤ x10_1 then (if (Op.bytesLess a1.toList (((Aqf t110 x10_1).f0).toList)) = true then (if x8_1.length < 3518437208883 then ((some (x8_1 ++ [(⟨a1, l2⟩ : S38)] : List (S38))).bind fun y118 => (if y118.length < 3518437208883 then (Aq6.l0 k1 a1 l2 t110 (y118 ++ [(⟨(Aqf t110 x10_1).f0, (Aqf t110 x10_1).f1⟩ : S38)]) true (wrap64 (x10_1 + 1))) else (none))) else (none)) else (if x8_1.length < 3518437208883 then (Aq6.l0 k1 a1 l2 t110 (x8_1 ++ [(⟨(Aqf t110 x10_1).f0, (Aqf t110 x10_1).f1⟩ : S38)]) false (wrap64 (x10_1 + 1))) else (none))) else (none)) = some r := by rw [if_neg (show ¬ (false = true) by decide)] at H; exact H
        clear H
        have H := H1
        clear H1
        by_cases c12 : 0 ≤ x10_1
        · rw [if_pos c12] at H
          have c12b0 : decide (0 ≤ x10_1) = true := decide_eq_true c12
          clear c12
          by_cases c13 : (Op.bytesLess a1.toList (((Aqf t110 x10_1).f0).toList)) = true
          · rw [if_pos c13] at H
            have c13b0 : (Op.bytesLess a1.toList (((Aqf t110 x10_1).f0).toList)) = true := c13
            clear c13
            by_cases c14 : x8_1.length < 3518437208883
            · rw [if_pos c14] at H
              have LMc14 := Bvh c14
              clear c14
              obtain ⟨y118, hy118⟩ : ∃ y_ : List (S38), y_ = (x8_1 ++ [(⟨a1, l2⟩ : S38)]) := ⟨_, rfl⟩
              replace H : (if y118.length < 3518437208883 then (Aq6.l0 k1 a1 l2 t110 (y118 ++ [(⟨(Aqf t110 x10_1).f0, (Aqf t110 x10_1).f1⟩ : S38)]) true (wrap64 (x10_1 + 1))) else (none)) = some r := by first | (rw [hy118]; with_reducible exact H) | (have H2_ := (Option.bind_some _ _).symm.trans H; rw [hy118]; with_reducible exact H2_) | (have H2_ := (Option.bind_some _ _).symm.trans H; with_reducible exact H2_) | with_reducible exact H | (rw [hy118]; exact H) | exact H
              have Ny118 := Bvh hy118
              clear hy118
              by_cases c15 : y118.length < 3518437208883
              · rw [if_pos c15] at H
                have LMc15 := Bvh c15
                clear c15
                obtain ⟨y122, hy122⟩ : ∃ y_ : List (S38), y_ = (y118 ++ [(⟨(Aqf t110 x10_1).f0, (Aqf t110 x10_1).f1⟩ : S38)]) := ⟨_, rfl⟩
                replace H : (Aq6.l0 k1 a1 l2 t110 y122 true (wrap64 (x10_1 + 1))) = some r := by first | (rw [hy122]; with_reducible exact H) | (have H2_ := (Option.bind_some _ _).symm.trans H; rw [hy122]; with_reducible exact H2_) | (have H2_ := (Option.bind_some _ _).symm.trans H; with_reducible exact H2_) | with_reducible exact H | (rw [hy122]; exact H) | exact H
                have Ny122 := Bvh hy122
                clear hy122
                have H' := Bvh H
                clear H
                obtain ⟨Ao16, co16, eo16⟩ := Kd.N_slice HO_7.out
                subst eo16
                have p117 : 0 ≤ (x10_1 : Int) := of_decide_eq_true (by first | (with_reducible assumption) | assumption)
                have q117 : x10_1 < (t110.length : Int) := of_decide_eq_true (by first | (with_reducible assumption) | assumption)
                obtain ⟨ad117, A117_1, c117_1, e117, hx117_0, hx117_1, hl117_1, hi117_1⟩ := Azf (Kd.N_reads' HO_7.out).2.2 x10_1 p117 q117
                cases e117
                obtain ⟨ce117, hce117, hMe117, hcc117⟩ := Kd.N_get HO_7.out z38 x10_1 p117 (by first | exact q117 | exact of_decide_eq_true (by first | (with_reducible assumption) | assumption) | (have e_ := (Kd.N_reads' HO_7.out).1; omega))
                obtain ⟨ua117_1, uc117_1, rfl, ul117_1, ge117_1⟩ := Azv hMe117
                have hv117_1 := hcc117 1 _ rfl
                rw [Ax3 _ _ 1 (by omega)] at hv117_1
                replace hv117_1 := Option.some.inj (hv117_1.symm.trans hx117_1)
                injection hv117_1 with hva_ hvn_ hvc_
                rw [hva_] at ge117_1
                rw [hvc_] at ul117_1
                have HL117_1 := Bvh (show Kd.V (Kd.int .u8) 5 _ w.heap.size _ _ ((Aqf t110 x10_1).f1) from Kd.V_mk ul117_1 ge117_1)
                clear hva_ hvn_ hvc_ ge117_1 ul117_1
                clear hcc117 hce117
                have HR117_1 := Bvh hi117_1
                have HC117_1 := Bvh hl117_1
                clear hi117_1 hl117_1
                replace p117 := eq_true p117
                replace q117 := eq_true q117
                go_wp2_with (first | ((with_reducible refine Axc (b := .append) (xs := #[.tmp 31, .tmp 35]) rfl ?_); at_builtin; refine Kd.N_append k38 (w0 := w) w.heap.size rfl (.tmp 31) (.tmp 35) 22 38 (.agg #[(.string ⟨#[]⟩), (.slice none 0 0)]) 40 rfl Try.underlying22 Aki rfl (by decide) (by omega) u8 x8_1 (⟨a1, l2⟩ : S38) [.string a1, .slice A2 l2.length c2] (fun k_ => ((P0_ k_ ∨ P2_ k_) ∨ w.heap.size ≤ k_) ∧ some k_ ≠ (.slice (some ad117) t110.length co16 : Value).ownBlock) (fun k_ => ((fun k_ => ((P0_ k_ ∨ P2_ k_) ∨ w.heap.size ≤ k_) ∧ some k_ ≠ (.slice (some ad117) t110.length co16 : Value).ownBlock)) k_ ∧ some k_ ≠ (u8 : Value).ownBlock) rfl rfl ?aP (fun _ hk => hk) ?aF ?aO ?aB ?aS ?aL ?_; (case aP => exact (Akh _ _ (⟨a1, l2⟩ : S38) (Kd.V_reads' (Kd.V_mono (ok' := (fun k_ => ((fun k_ => ((P0_ k_ ∨ P2_ k_) ∨ w.heap.size ≤ k_) ∧ some k_ ≠ (.slice (some ad117) t110.length co16 : Value).ownBlock)) k_ ∧ some k_ ≠ (u8 : Value).ownBlock)) (HO_2.out) (fun k_ hk => ⟨⟨hk.1, hk.2.1⟩, hk.2.2⟩))).2.1 (Kd.V_F (Kd.V_mono (ok' := (fun k_ => ((fun k_ => ((P0_ k_ ∨ P2_ k_) ∨ w.heap.size ≤ k_) ∧ some k_ ≠ (.slice (some ad117) t110.length co16 : Value).ownBlock)) k_ ∧ some k_ ≠ (u8 : Value).ownBlock)) (HO_2.out) (fun k_ hk => ⟨⟨hk.1, hk.2.1⟩, hk.2.2⟩))))); (case aB => exact HB.out); (case aF => exact (fun k_ hk => ⟨(.inr (Nat.le_trans (Aqb HB.out) hk)), Kd.fresh' (Kd.N_lt (by (with_reducible repeat (first | apply Kd.N_alloc | apply Kd.N_drewN | apply Kd.N_drew)); exact HO_7.out)) k_ hk⟩)); (case aO => exact (by (with_reducible repeat (first | apply Kd.N_alloc | apply Kd.N_drewN | apply Kd.N_drew)); exact HO_8.out)); (case aS => exact (Aqb HB.out)); (case aL => have := LMc14.out; omega); intro v119 w17 ho hb hg hat; rw [← Ny118.out] at ho; have n0_ := Bvh (Kd.V_afterv (ok := (fun k_ => ((P0_ k_ ∨ P2_ k_) ∨ w.heap.size ≤ k_) ∧ some k_ ≠ (.slice (some ad117) t110.length co16 : Value).ownBlock)) (by exact Kd.V_mono HO_2.out (fun _ hk => ⟨⟨hk.1, hk.2.1⟩, hk.2.2⟩)) hg hat); have n1_ := Bvh (Kd.N_afterv (ok := (fun k_ => ((P0_ k_ ∨ P2_ k_) ∨ w.heap.size ≤ k_))) (by (with_reducible repeat (first | apply Kd.N_alloc | apply Kd.N_drewN | apply Kd.N_drew)); exact HO_7.out) hg hat); have n2_ := Bvh (Kd.V_afterv (ok := (fun k_ => ((P0_ k_ ∨ P2_ k_) ∨ w.heap.size ≤ k_) ∧ some k_ ≠ (.slice (some ad117) t110.length co16 : Value).ownBlock)) (by exact Kd.V_mono HL117_1.out (fun _ hk => ⟨⟨hk.1.1, hk.2⟩, hk.1.2⟩)) hg hat); have n3_ := Bvh (hb); have n4_ := Bvh (ho); clear HO_2; clear HO_7; clear HL117_1; clear HB; clear HO_8; have HO_2 := n0_; have HO_7 := n1_; have HL117_1 := n2_; have HB := n3_; have HO120 := n4_; clear n0_ n1_ n2_ n3_ n4_; clear ho hb hg hat; have p121 : 0 ≤ (x10_1 : Int) := of_decide_eq_true (by first | (with_reducible assumption) | assumption); have q121 : x10_1 < (t110.length : Int) := of_decide_eq_true (by first | (with_reducible assumption) | assumption); obtain ⟨ad121, A121_1, c121_1, e121, hx121_0, hx121_1, hl121_1, hi121_1⟩ := Azf (Kd.N_reads' HO_7.out).2.2 x10_1 p121 q121; obtain rfl : ad117 = ad121 := (by injection e121); obtain ⟨ce121, hce121, hMe121, hcc121⟩ := Kd.N_get HO_7.out z38 x10_1 p121 (by first | exact q121 | exact of_decide_eq_true (by first | (with_reducible assumption) | assumption) | (have e_ := (Kd.N_reads' HO_7.out).1; omega)); obtain ⟨ua121_1, uc121_1, rfl, ul121_1, ge121_1⟩ := Azv hMe121; have hv121_1 := hcc121 1 _ rfl; rw [Ax3 _ _ 1 (by omega)] at hv121_1; replace hv121_1 := Option.some.inj (hv121_1.symm.trans hx121_1); injection hv121_1 with hva_ hvn_ hvc_; rw [hva_] at ge121_1; rw [hvc_] at ul121_1; have HL121_1 := Bvh (show Kd.V (Kd.int .u8) 5 _ w.heap.size _ _ ((Aqf t110 x10_1).f1) from Kd.V_mk ul121_1 ge121_1); clear hva_ hvn_ hvc_ ge121_1 ul121_1; clear hcc121 hce121; have HR121_1 := Bvh hi121_1; have HC121_1 := Bvh hl121_1; clear hi121_1 hl121_1; replace p121 := eq_true p121; replace q121 := eq_true q121) | ((with_reducible refine Axc (b := .append) (xs := #[.tmp 37, .tmp 42]) rfl ?_); at_builtin; refine Kd.N_append k38 (w0 := w) w.heap.size rfl (.tmp 37) (.tmp 42) 22 38 (.agg #[(.string ⟨#[]⟩), (.slice none 0 0)]) 40 rfl Try.underlying22 Aki rfl (by decide) (by omega) v119 y118 (⟨(Aqf t110 x10_1).f0, (Aqf t110 x10_1).f1⟩ : S38) [.string ((Aqf t110 x10_1).f0), .slice A121_1 ((Aqf t110 x10_1).f1).length c121_1] (fun k_ => ((P0_ k_ ∨ P2_ k_) ∨ w.heap.size ≤ k_) ∧ some k_ ≠ (.slice (some ad117) t110.length co16 : Value).ownBlock) (fun k_ => ((fun k_ => ((P0_ k_ ∨ P2_ k_) ∨ w.heap.size ≤ k_) ∧ some k_ ≠ (.slice (some ad117) t110.length co16 : Value).ownBlock)) k_ ∧ some k_ ≠ (v119 : Value).ownBlock) rfl rfl ?aP (fun _ hk => hk) ?aF ?aO ?aB ?aS ?aL ?_; (case aP => exact (Akh _ _ (⟨(Aqf t110 x10_1).f0, (Aqf t110 x10_1).f1⟩ : S38) (Kd.V_reads' (Kd.V_mono (ok' := (fun k_ => ((fun k_ => ((P0_ k_ ∨ P2_ k_) ∨ w.heap.size ≤ k_) ∧ some k_ ≠ (.slice (some ad117) t110.length co16 : Value).ownBlock)) k_ ∧ some k_ ≠ (v119 : Value).ownBlock)) (HL121_1.out) (fun k_ hk => ⟨⟨hk.1.1, hk.2⟩, hk.1.2⟩))).2.1 (Kd.V_F (Kd.V_mono (ok' := (fun k_ => ((fun k_ => ((P0_ k_ ∨ P2_ k_) ∨ w.heap.size ≤ k_) ∧ some k_ ≠ (.slice (some ad117) t110.length co16 : Value).ownBlock)) k_ ∧ some k_ ≠ (v119 : Value).ownBlock)) (HL121_1.out) (fun k_ hk => ⟨⟨hk.1.1, hk.2⟩, hk.1.2⟩))))); (case aB => exact HB.out); (case aF => exact (fun k_ hk => ⟨(.inr (Nat.le_trans (Aqb HB.out) hk)), Kd.fresh' (Kd.N_lt (by (with_reducible repeat (first | apply Kd.N_alloc | apply Kd.N_drewN | apply Kd.N_drew)); exact HO_7.out)) k_ hk⟩)); (case aO => exact (by (with_reducible repeat (first | apply Kd.N_alloc | apply Kd.N_drewN | apply Kd.N_drew)); exact HO120.out)); (case aS => exact (Aqb HB.out)); (case aL => have := LMc15.out; omega); intro v123 w18 ho hb hg hat; rw [← Ny122.out] at ho; have n0_ := Bvh (Kd.V_afterv (ok := (fun k_ => ((P0_ k_ ∨ P2_ k_) ∨ w.heap.size ≤ k_) ∧ some k_ ≠ (.slice (some ad117) t110.length co16 : Value).ownBlock)) HO_2.out hg hat); have n1_ := Bvh (Kd.N_afterv (ok := (fun k_ => ((P0_ k_ ∨ P2_ k_) ∨ w.heap.size ≤ k_))) (by (with_reducible repeat (first | apply Kd.N_alloc | apply Kd.N_drewN | apply Kd.N_drew)); exact HO_7.out) hg hat); have n2_ := Bvh (Kd.V_afterv (ok := (fun k_ => ((P0_ k_ ∨ P2_ k_) ∨ w.heap.size ≤ k_) ∧ some k_ ≠ (.slice (some ad117) t110.length co16 : Value).ownBlock)) HL117_1.out hg hat); have n3_ := Bvh (Kd.V_afterv (ok := (fun k_ => ((P0_ k_ ∨ P2_ k_) ∨ w.heap.size ≤ k_) ∧ some k_ ≠ (.slice (some ad117) t110.length co16 : Value).ownBlock)) (by exact Kd.V_mono HL121_1.out (fun _ hk => ⟨⟨hk.1.1, hk.2⟩, hk.1.2⟩)) hg hat); have n4_ := Bvh (hb); have n5_ := Bvh (ho); clear HO_2; clear HO_7; clear HL117_1; clear HL121_1; clear HB; clear HO120; have HO_2 := n0_; have HO_7 := n1_; have HL117_1 := n2_; have HL121_1 := n3_; have HB := n4_; have HO124 := n5_; clear n0_ n1_ n2_ n3_ n4_ n5_; clear ho hb hg hat))
                go_roundg k1
                case measure => have := HK1.out; omega
                case rel => exact ⟨(y122), (true), (wrap64 (x10_1 + 1)), rfl, rfl, H', ⟨by have := HK1.out; omega⟩, ⟨by exact Kd.V_mono HO_2.out (fun _ hk => ⟨hk.1.1, ⟨hk.1.2, hk.2⟩⟩)⟩, ⟨by (with_reducible repeat (first | apply Kd.N_alloc | apply Kd.N_drewN | apply Kd.N_drew)); exact HO_7.out⟩, ⟨by (with_reducible repeat (first | apply Kd.N_alloc | apply Kd.N_drewN | apply Kd.N_drew)); exact HO124.out⟩, HB⟩
              · rw [if_neg c15] at H
                exact absurd H (by simp)
            · rw [if_neg c14] at H
              exact absurd H (by simp)
          · rw [if_neg c13] at H
            have c13b0 : (Op.bytesLess a1.toList (((Aqf t110 x10_1).f0).toList)) = false := by simpa using c13
            clear c13
            by_cases c19 : x8_1.length < 3518437208883
            · rw [if_pos c19] at H
              have LMc19 := Bvh c19
              clear c19
              obtain ⟨y126, hy126⟩ : ∃ y_ : List (S38), y_ = (x8_1 ++ [(⟨(Aqf t110 x10_1).f0, (Aqf t110 x10_1).f1⟩ : S38)]) := ⟨_, rfl⟩
              replace H : (Aq6.l0 k1 a1 l2 t110 y126 false (wrap64 (x10_1 + 1))) = some r := by first | (rw [hy126]; with_reducible exact H) | (have H2_ := (Option.bind_some _ _).symm.trans H; rw [hy126]; with_reducible exact H2_) | (have H2_ := (Option.bind_some _ _).symm.trans H; with_reducible exact H2_) | with_reducible exact H | (rw [hy126]; exact H) | exact H
              have Ny126 := Bvh hy126
              clear hy126
              have H' := Bvh H
              clear H
              obtain ⟨Ao20, co20, eo20⟩ := Kd.N_slice HO_7.out
              subst eo20
              have p117 : 0 ≤ (x10_1 : Int) := of_decide_eq_true (by first | (with_reducible assumption) | assumption)
              have q117 : x10_1 < (t110.length : Int) := of_decide_eq_true (by first | (with_reducible assumption) | assumption)
              obtain ⟨ad117, A117_1, c117_1, e117, hx117_0, hx117_1, hl117_1, hi117_1⟩ := Azf (Kd.N_reads' HO_7.out).2.2 x10_1 p117 q117
              cases e117
              obtain ⟨ce117, hce117, hMe117, hcc117⟩ := Kd.N_get HO_7.out z38 x10_1 p117 (by first | exact q117 | exact of_decide_eq_true (by first | (with_reducible assumption) | assumption) | (have e_ := (Kd.N_reads' HO_7.out).1; omega))
              obtain ⟨ua117_1, uc117_1, rfl, ul117_1, ge117_1⟩ := Azv hMe117
              have hv117_1 := hcc117 1 _ rfl
              rw [Ax3 _ _ 1 (by omega)] at hv117_1
              replace hv117_1 := Option.some.inj (hv117_1.symm.trans hx117_1)
              injection hv117_1 with hva_ hvn_ hvc_
              rw [hva_] at ge117_1
              rw [hvc_] at ul117_1
              have HL117_1 := Bvh (show Kd.V (Kd.int .u8) 5 _ w.heap.size _ _ ((Aqf t110 x10_1).f1) from Kd.V_mk ul117_1 ge117_1)
              clear hva_ hvn_ hvc_ ge117_1 ul117_1
              clear hcc117 hce117
              have HR117_1 := Bvh hi117_1
              have HC117_1 := Bvh hl117_1
              clear hi117_1 hl117_1
              replace p117 := eq_true p117
              replace q117 := eq_true q117
              have p125 : 0 ≤ (x10_1 : Int) := of_decide_eq_true (by first | (with_reducible assumption) | assumption)
              have q125 : x10_1 < (t110.length : Int) := of_decide_eq_true (by first | (with_reducible assumption) | assumption)
              obtain ⟨ad125, A125_1, c125_1, e125, hx125_0, hx125_1, hl125_1, hi125_1⟩ := Azf (Kd.N_reads' HO_7.out).2.2 x10_1 p125 q125
              obtain rfl : ad117 = ad125 := (by injection e125)
              obtain ⟨ce125, hce125, hMe125, hcc125⟩ := Kd.N_get HO_7.out z38 x10_1 p125 (by first | exact q125 | exact of_decide_eq_true (by first | (with_reducible assumption) | assumption) | (have e_ := (Kd.N_reads' HO_7.out).1; omega))
              obtain ⟨ua125_1, uc125_1, rfl, ul125_1, ge125_1⟩ := Azv hMe125
              have hv125_1 := hcc125 1 _ rfl
              rw [Ax3 _ _ 1 (by omega)] at hv125_1
              replace hv125_1 := Option.some.inj (hv125_1.symm.trans hx125_1)
              injection hv125_1 with hva_ hvn_ hvc_
              rw [hva_] at ge125_1
              rw [hvc_] at ul125_1
              have HL125_1 := Bvh (show Kd.V (Kd.int .u8) 5 _ w.heap.size _ _ ((Aqf t110 x10_1).f1) from Kd.V_mk ul125_1 ge125_1)
              clear hva_ hvn_ hvc_ ge125_1 ul125_1
              clear hcc125 hce125
              have HR125_1 := Bvh hi125_1
              have HC125_1 := Bvh hl125_1
              clear hi125_1 hl125_1
              replace p125 := eq_true p125
              replace q125 := eq_true q125
              have ea_ := Option.some.inj (hx117_1.symm.trans hx125_1)
              injection ea_ with ea_ en_ ec_
              subst ea_
              subst ec_
              clear en_
              go_wp2_with (first | ((with_reducible refine Axc (b := .append) (xs := #[.tmp 37, .tmp 42]) rfl ?_); at_builtin; refine Kd.N_append k38 (w0 := w) w.heap.size rfl (.tmp 37) (.tmp 42) 22 38 (.agg #[(.string ⟨#[]⟩), (.slice none 0 0)]) 40 rfl Try.underlying22 Aki rfl (by decide) (by omega) u8 x8_1 (⟨(Aqf t110 x10_1).f0, (Aqf t110 x10_1).f1⟩ : S38) [.string ((Aqf t110 x10_1).f0), .slice A117_1 ((Aqf t110 x10_1).f1).length c117_1] (fun k_ => ((P0_ k_ ∨ P2_ k_) ∨ w.heap.size ≤ k_) ∧ some k_ ≠ (.slice (some ad117) t110.length co20 : Value).ownBlock) (fun k_ => ((fun k_ => ((P0_ k_ ∨ P2_ k_) ∨ w.heap.size ≤ k_) ∧ some k_ ≠ (.slice (some ad117) t110.length co20 : Value).ownBlock)) k_ ∧ some k_ ≠ (u8 : Value).ownBlock) rfl rfl ?aP (fun _ hk => hk) ?aF ?aO ?aB ?aS ?aL ?_; (case aP => exact (Akh _ _ (⟨(Aqf t110 x10_1).f0, (Aqf t110 x10_1).f1⟩ : S38) (Kd.V_reads' (Kd.V_mono (ok' := (fun k_ => ((fun k_ => ((P0_ k_ ∨ P2_ k_) ∨ w.heap.size ≤ k_) ∧ some k_ ≠ (.slice (some ad117) t110.length co20 : Value).ownBlock)) k_ ∧ some k_ ≠ (u8 : Value).ownBlock)) (HL125_1.out) (fun k_ hk => ⟨⟨hk.1.1, hk.2⟩, hk.1.2⟩))).2.1 (Kd.V_F (Kd.V_mono (ok' := (fun k_ => ((fun k_ => ((P0_ k_ ∨ P2_ k_) ∨ w.heap.size ≤ k_) ∧ some k_ ≠ (.slice (some ad117) t110.length co20 : Value).ownBlock)) k_ ∧ some k_ ≠ (u8 : Value).ownBlock)) (HL125_1.out) (fun k_ hk => ⟨⟨hk.1.1, hk.2⟩, hk.1.2⟩))))); (case aB => exact HB.out); (case aF => exact (fun k_ hk => ⟨(.inr (Nat.le_trans (Aqb HB.out) hk)), Kd.fresh' (Kd.N_lt (by (with_reducible repeat (first | apply Kd.N_alloc | apply Kd.N_drewN | apply Kd.N_drew)); exact HO_7.out)) k_ hk⟩)); (case aO => exact (by (with_reducible repeat (first | apply Kd.N_alloc | apply Kd.N_drewN | apply Kd.N_drew)); exact HO_8.out)); (case aS => exact (Aqb HB.out)); (case aL => have := LMc19.out; omega); intro v127 w21 ho hb hg hat; rw [← Ny126.out] at ho; have n0_ := Bvh (Kd.V_afterv (ok := (fun k_ => ((P0_ k_ ∨ P2_ k_) ∨ w.heap.size ≤ k_) ∧ some k_ ≠ (.slice (some ad117) t110.length co20 : Value).ownBlock)) (by exact Kd.V_mono HO_2.out (fun _ hk => ⟨⟨hk.1, hk.2.1⟩, hk.2.2⟩)) hg hat); have n1_ := Bvh (Kd.N_afterv (ok := (fun k_ => ((P0_ k_ ∨ P2_ k_) ∨ w.heap.size ≤ k_))) (by (with_reducible repeat (first | apply Kd.N_alloc | apply Kd.N_drewN | apply Kd.N_drew)); exact HO_7.out) hg hat); have n2_ := Bvh (Kd.V_afterv (ok := (fun k_ => ((P0_ k_ ∨ P2_ k_) ∨ w.heap.size ≤ k_) ∧ some k_ ≠ (.slice (some ad117) t110.length co20 : Value).ownBlock)) (by exact Kd.V_mono HL117_1.out (fun _ hk => ⟨⟨hk.1.1, hk.2⟩, hk.1.2⟩)) hg hat); have n3_ := Bvh (Kd.V_afterv (ok := (fun k_ => ((P0_ k_ ∨ P2_ k_) ∨ w.heap.size ≤ k_) ∧ some k_ ≠ (.slice (some ad117) t110.length co20 : Value).ownBlock)) (by exact Kd.V_mono HL125_1.out (fun _ hk => ⟨⟨hk.1.1, hk.2⟩, hk.1.2⟩)) hg hat); have n4_ := Bvh (hb); have n5_ := Bvh (ho); clear HO_2; clear HO_7; clear HL117_1; clear HL125_1; clear HB; clear HO_8; have HO_2 := n0_; have HO_7 := n1_; have HL117_1 := n2_; have HL125_1 := n3_; have HB := n4_; have HO128 := n5_; clear n0_ n1_ n2_ n3_ n4_ n5_; clear ho hb hg hat))
              go_roundg k1
              case measure => have := HK1.out; omega
              case rel => exact ⟨(y126), (false), (wrap64 (x10_1 + 1)), rfl, rfl, H', ⟨by have := HK1.out; omega⟩, ⟨by exact Kd.V_mono HO_2.out (fun _ hk => ⟨hk.1.1, ⟨hk.1.2, hk.2⟩⟩)⟩, ⟨by (with_reducible repeat (first | apply Kd.N_alloc | apply Kd.N_drewN | apply Kd.N_drew)); exact HO_7.out⟩, ⟨by (with_reducible repeat (first | apply Kd.N_alloc | apply Kd.N_drewN | apply Kd.N_drew)); exact HO128.out⟩, HB⟩
            · rw [if_neg c19] at H
              exact absurd H (by simp)
        · rw [if_neg c12] at H
          exact absurd H (by simp)
    · rw [if_neg c6] at H
      have c6b0 : decide (x10_1 < (t110.length : Int)) = false := decide_eq_false c6
      clear c6
      by_cases c22 : x9_1 = true
      · subst c22
        have H1 : (some x8_1) = some r := by rw [if_pos rfl] at H; exact H
        clear H
        have H := H1
        clear H1
        obtain rfl := Option.some.inj H
        obtain ⟨Ao23, co23, eo23⟩ := Kd.N_slice HO_7.out
        subst eo23
        go_wp2
        go_ret
        exact ⟨_, by first | rfl | (simp [Aqj, Aqi] <;> rfl) | (simp [*, Aqj, Aqi] <;> rfl), by (with_reducible repeat (first | apply Kd.N_alloc | apply Kd.N_drewN | apply Kd.N_drew)); exact Kd.N_mono HO_8.out (fun _ hk => hk.1), by exact HB.out⟩
      · replace c22 := Bool.eq_false_iff.mpr c22
        subst c22
        have H1 : (if x8_1.length < 3518437208883 then (some (x8_1 ++ [(⟨a1, l2⟩ : S38)])) else (none)) = some r := by rw [if_neg (show ¬ (false = true) by decide)] at H; exact H
        clear H
        have H := H1
        clear H1
        by_cases c24 : x8_1.length < 3518437208883
        · rw [if_pos c24] at H
          have LMc24 := Bvh c24
          clear c24
          obtain ⟨y129, hy129⟩ : ∃ y_ : List (S38), y_ = (x8_1 ++ [(⟨a1, l2⟩ : S38)]) := ⟨_, rfl⟩
          replace H : (some y129) = some r := by first | (rw [hy129]; with_reducible exact H) | (have H2_ := (Option.bind_some _ _).symm.trans H; rw [hy129]; with_reducible exact H2_) | (have H2_ := (Option.bind_some _ _).symm.trans H; with_reducible exact H2_) | with_reducible exact H | (rw [hy129]; exact H) | exact H
          have Ny129 := Bvh hy129
          clear hy129
          obtain rfl := Option.some.inj H
          obtain ⟨Ao25, co25, eo25⟩ := Kd.N_slice HO_7.out
          subst eo25
          go_wp2_with (first | ((with_reducible refine Axc (b := .append) (xs := #[.tmp 46, .tmp 50]) rfl ?_); at_builtin; refine Kd.N_append k38 (w0 := w) w.heap.size rfl (.tmp 46) (.tmp 50) 22 38 (.agg #[(.string ⟨#[]⟩), (.slice none 0 0)]) 40 rfl Try.underlying22 Aki rfl (by decide) (by omega) u8 x8_1 (⟨a1, l2⟩ : S38) [.string a1, .slice A2 l2.length c2] (fun k_ => ((P0_ k_ ∨ P2_ k_) ∨ w.heap.size ≤ k_) ∧ some k_ ≠ (.slice Ao25 t110.length co25 : Value).ownBlock) (fun k_ => ((fun k_ => ((P0_ k_ ∨ P2_ k_) ∨ w.heap.size ≤ k_) ∧ some k_ ≠ (.slice Ao25 t110.length co25 : Value).ownBlock)) k_ ∧ some k_ ≠ (u8 : Value).ownBlock) rfl rfl ?aP (fun _ hk => hk) ?aF ?aO ?aB ?aS ?aL ?_; (case aP => exact (Akh _ _ (⟨a1, l2⟩ : S38) (Kd.V_reads' (Kd.V_mono (ok' := (fun k_ => ((fun k_ => ((P0_ k_ ∨ P2_ k_) ∨ w.heap.size ≤ k_) ∧ some k_ ≠ (.slice Ao25 t110.length co25 : Value).ownBlock)) k_ ∧ some k_ ≠ (u8 : Value).ownBlock)) (HO_2.out) (fun k_ hk => ⟨⟨hk.1, hk.2.1⟩, hk.2.2⟩))).2.1 (Kd.V_F (Kd.V_mono (ok' := (fun k_ => ((fun k_ => ((P0_ k_ ∨ P2_ k_) ∨ w.heap.size ≤ k_) ∧ some k_ ≠ (.slice Ao25 t110.length co25 : Value).ownBlock)) k_ ∧ some k_ ≠ (u8 : Value).ownBlock)) (HO_2.out) (fun k_ hk => ⟨⟨hk.1, hk.2.1⟩, hk.2.2⟩))))); (case aB => exact HB.out); (case aF => exact (fun k_ hk => ⟨(.inr (Nat.le_trans (Aqb HB.out) hk)), Kd.fresh' (Kd.N_lt (by (with_reducible repeat (first | apply Kd.N_alloc | apply Kd.N_drewN | apply Kd.N_drew)); exact HO_7.out)) k_ hk⟩)); (case aO => exact (by (with_reducible repeat (first | apply Kd.N_alloc | apply Kd.N_drewN | apply Kd.N_drew)); exact HO_8.out)); (case aS => exact (Aqb HB.out)); (case aL => have := LMc24.out; omega); intro v130 w26 ho hb hg hat; rw [← Ny129.out] at ho; have n0_ := Bvh (Kd.V_afterv (ok := (fun k_ => ((P0_ k_ ∨ P2_ k_) ∨ w.heap.size ≤ k_) ∧ some k_ ≠ (.slice Ao25 t110.length co25 : Value).ownBlock)) (by exact Kd.V_mono HO_2.out (fun _ hk => ⟨⟨hk.1, hk.2.1⟩, hk.2.2⟩)) hg hat); have n1_ := Bvh (Kd.N_afterv (ok := (fun k_ => ((P0_ k_ ∨ P2_ k_) ∨ w.heap.size ≤ k_))) (by (with_reducible repeat (first | apply Kd.N_alloc | apply Kd.N_drewN | apply Kd.N_drew)); exact HO_7.out) hg hat); have n2_ := Bvh (hb); have n3_ := Bvh (ho); clear HO_2; clear HO_7; clear HB; clear HO_8; have HO_2 := n0_; have HO_7 := n1_; have HB := n2_; have HO131 := n3_; clear n0_ n1_ n2_ n3_; clear ho hb hg hat))
          go_ret
          exact ⟨_, by first | rfl | (simp [Aqj, Aqi] <;> rfl) | (simp [*, Aqj, Aqi] <;> rfl), by (with_reducible repeat (first | apply Kd.N_alloc | apply Kd.N_drewN | apply Kd.N_drew)); exact Kd.N_mono HO131.out (fun _ hk => hk.1), by exact HB.out⟩
        · rw [if_neg c24] at H
          exact absurd H (by simp)
end
section
attribute [local go_sem] Axk Axr Az3 Az7 Axj Axi Axz Axy
def Azi.f (k : Nat) (l0 : List (S38)) (a1 : ByteArray) (a2 : ByteArray) : Option ((List (S38)) × Bool) := (Aq9.f k l0 a1).bind fun bt194 => (if bt194.2 = true then ((Aqa.f k l0 a1).bind fun t198 => ((Aqa.f k t198 a2).bind fun t201 => ((Aq6.f k t201 a2 bt194.1).bind fun t204 => (some (t204, true))))) else (some (l0, false)))
theorem Azi.calls (k : Nat) (P0_ : Nat → Prop) (A0 : Option Addr) (c0 : Nat) (l0 : List (S38)) (a1 : ByteArray) (a2 : ByteArray) (r1 : List (S38)) (r2 : Bool) (w : World) (hs0 : Kd.V k38 38 w w.heap.size (fun k_ => P0_ k_) (.slice A0 l0.length c0) l0) (h : Azi.f k l0 a1 a2 = some (r1, r2)) :
 Calls Try.prog 22 #[.slice A0 l0.length c0, .string a1, .string a2] w fun e w' => ∃ v0_ : Value, e = .returned (.tuple #[v0_, .bool r2]) ∧ Kd.V k38 38 w' w.heap.size (fun k_ => (P0_ k_ ∨ w.heap.size ≤ k_)) v0_ r1 ∧ Below w.heap.size w w' := by
 have HO0 := Bvh (show Kd.V k38 38 w w.heap.size (fun k_ => (P0_ k_ ∨ w.heap.size ≤ k_)) (.slice A0 l0.length c0) l0 from Kd.V_mono hs0 (fun k_ hk => .inl hk))
 have HB := Bvh (Below.refl w.heap.size w)
 have H : ((Aq9.f k l0 a1).bind fun bt194 => (if bt194.2 = true then ((Aqa.f k l0 a1).bind fun t198 => ((Aqa.f k t198 a2).bind fun t201 => ((Aq6.f k t201 a2 bt194.1).bind fun t204 => (some (t204, true))))) else (some (l0, false)))) = some (r1, r2) := h
 clear h
 replace H := Option.bind_eq_some_iff.mp H
 obtain ⟨⟨t194, t197⟩, A40, H⟩ := H
 replace H : (if t197 = true then ((Aqa.f k l0 a1).bind fun t198 => ((Aqa.f k t198 a2).bind fun t201 => ((Aq6.f k t201 a2 t194).bind fun t204 => (some (t204, true))))) else (some (l0, false))) = some (r1, r2) := H
 have A4 := Bvh A40
 clear A40
 by_cases c5 : t197 = true
 · subst c5
   have H1 : ((Aqa.f k l0 a1).bind fun t198 => ((Aqa.f k t198 a2).bind fun t201 => ((Aq6.f k t201 a2 t194).bind fun t204 => (some (t204, true))))) = some (r1, r2) := by rw [if_pos rfl] at H; exact H
   clear H
   have H := H1
   clear H1
   replace H := Option.bind_eq_some_iff.mp H
   obtain ⟨t198, A60, H⟩ := H
   replace H : ((Aqa.f k t198 a2).bind fun t201 => ((Aq6.f k t201 a2 t194).bind fun t204 => (some (t204, true)))) = some (r1, r2) := H
   have A6 := Bvh A60
   clear A60
   replace H := Option.bind_eq_some_iff.mp H
   obtain ⟨t201, A70, H⟩ := H
   replace H : ((Aq6.f k t201 a2 t194).bind fun t204 => (some (t204, true))) = some (r1, r2) := H
   have A7 := Bvh A70
   clear A70
   replace H := Option.bind_eq_some_iff.mp H
   obtain ⟨t204, A80, H⟩ := H
   replace H : (some (t204, true)) = some (r1, r2) := H
   have A8 := Bvh A80
   clear A80
   simp only [Option.some.injEq, Prod.mk.injEq] at H
   obtain ⟨rfl, rfl⟩ := H
   go_enter Try.func22, Try.ntmps22
   go_wp2_with (first | ((with_reducible refine Axm (f := 30) rfl ?_); refine Ajq (some 13) rfl rfl Try.func30 (by kernel_rfl) rfl #[.slice A0 l0.length c0, .string a1] rfl (by (try simp only [List.map_toArray, List.map_cons, List.map_nil]); first | done | rfl | (simp only [List.length_drop, List.length_take]; rfl)) ?_; (with_reducible refine (Aq9.calls k (fun k_ => (P0_ k_ ∨ w.heap.size ≤ k_)) _ _ l0 a1 t194 true _ ?side1 A4.out).mono ?_); (case side1 => exact HO0.out); rintro e w9 ⟨v195, rfl, ho0, hb⟩; refine ⟨_, rfl, ?_⟩; have n0_ := Bvh (Kd.V_below HO0.out hb); have n1_ := Bvh (Kd.V_lower (Kd.V_mono (ok' := fun k_ => (P0_ k_ ∨ w.heap.size ≤ k_)) ho0 (fun k_ hk_ => Or.elim hk_ (fun hs_ => hs_) (fun hn_ => (.inr (Nat.le_trans (Aqb HB.out) hn_))))) (Aqb HB.out)); have n2_ := Bvh (Aq1 HB.out hb); clear HO0; clear HB; have HO0 := n0_; have HO196 := n1_; have HB := n2_; clear n0_ n1_ n2_; (try clear hb); (try clear hb2); (try clear hk); (try clear hi); (try clear ho0)) | ((with_reducible refine Axm (f := 26) rfl ?_); refine Ajq (some 21) rfl rfl Try.func26 (by kernel_rfl) rfl #[.slice A0 l0.length c0, .string a1] rfl (by (try simp only [List.map_toArray, List.map_cons, List.map_nil]); first | done | rfl | (simp only [List.length_drop, List.length_take]; rfl)) ?_; (with_reducible refine (Aqa.calls k (fun k_ => (P0_ k_ ∨ w.heap.size ≤ k_)) _ _ l0 a1 t198 _ ?side1 A6.out).mono ?_); (case side1 => exact HO0.out); rintro e w10 ⟨v199, rfl, ho0, hb⟩; refine ⟨_, rfl, ?_⟩; have n0_ := Bvh (Kd.V_elder' HO0.out (Kd.N_base ho0) hb); have n1_ := Bvh (Kd.V_elder' HO196.out (Kd.N_base ho0) hb); have n2_ := Bvh (Kd.N_lower (Kd.N_mono (ok' := fun k_ => (P0_ k_ ∨ w.heap.size ≤ k_)) ho0 (fun k_ hk_ => Or.elim hk_ (fun hs_ => hs_) (fun hn_ => (.inr (Nat.le_trans (Aqb HB.out) hn_))))) (Aqb HB.out)); have n3_ := Bvh (Aq1 HB.out hb); clear HO0; clear HO196; clear HB; have HO0 := n0_; have HO196 := n1_; have HO200 := n2_; have HB := n3_; clear n0_ n1_ n2_ n3_; (try clear hb); (try clear hb2); (try clear hk); (try clear hi); (try clear ho0); obtain ⟨Ao11, co11, eo11⟩ := Kd.N_slice HO200.out; subst eo11) | ((with_reducible refine Axm (f := 26) rfl ?_); refine Ajq (some 23) rfl rfl Try.func26 (by kernel_rfl) rfl #[.slice Ao11 t198.length co11, .string a2] rfl (by (try simp only [List.map_toArray, List.map_cons, List.map_nil]); first | done | rfl | (simp only [List.length_drop, List.length_take]; rfl)) ?_; (with_reducible refine (Aqa.calls k (fun k_ => (P0_ k_ ∨ w.heap.size ≤ k_)) _ _ t198 a2 t201 _ ?side1 A7.out).mono ?_); (case side1 => exact Kd.N_V (HO200.out)); rintro e w12 ⟨v202, rfl, ho0, hb⟩; refine ⟨_, rfl, ?_⟩; have n0_ := Bvh (Kd.V_elder' HO0.out (Kd.N_base ho0) hb); have n1_ := Bvh (Kd.V_elder' HO196.out (Kd.N_base ho0) hb); have n2_ := Bvh (Kd.N_elder' (by (with_reducible repeat (first | apply Kd.N_alloc | apply Kd.N_drewN | apply Kd.N_drew)); exact HO200.out) (Kd.N_base ho0) hb); have n3_ := Bvh (Kd.N_lower (Kd.N_mono (ok' := fun k_ => (P0_ k_ ∨ w.heap.size ≤ k_)) ho0 (fun k_ hk_ => Or.elim hk_ (fun hs_ => hs_) (fun hn_ => (.inr (Nat.le_trans (Aqb HB.out) hn_))))) (Aqb HB.out)); have n4_ := Bvh (Aq1 HB.out hb); clear HO0; clear HO196; clear HO200; clear HB; have HO0 := n0_; have HO196 := n1_; have HO200 := n2_; have HO203 := n3_; have HB := n4_; clear n0_ n1_ n2_ n3_ n4_; (try clear hb); (try clear hb2); (try clear hk); (try clear hi); (try clear ho0); obtain ⟨Ao13, co13, eo13⟩ := Kd.N_slice HO203.out; subst eo13; obtain ⟨Ao14, co14, eo14⟩ := Kd.V_slice HO196.out; subst eo14) | ((with_reducible refine Axm (f := 24) rfl ?_); refine Ajq (some 26) rfl rfl Try.func24 (by kernel_rfl) rfl #[.slice Ao13 t201.length co13, .string a2, .slice Ao14 t194.length co14] rfl (by (try simp only [List.map_toArray, List.map_cons, List.map_nil]); first | done | rfl | (simp only [List.length_drop, List.length_take]; rfl)) ?_; (with_reducible refine (Aq6.calls k (fun k_ => (P0_ k_ ∨ w.heap.size ≤ k_)) _ _ t201 a2 (fun k_ => (((P0_ k_ ∨ w.heap.size ≤ k_) ∧ some k_ ≠ (.slice Ao11 t198.length co11 : Value).ownBlock) ∧ some k_ ≠ (.slice Ao13 t201.length co13 : Value).ownBlock)) _ _ t194 t204 _ ?side1 ?side2 A8.out).mono ?_); (case side1 => exact Kd.N_V (HO203.out)); (case side2 => exact HO196.out); rintro e w15 ⟨v205, rfl, ho0, hb⟩; refine ⟨_, rfl, ?_⟩; have n0_ := Bvh (Kd.V_elder' HO0.out (Kd.N_base ho0) hb); have n1_ := Bvh (Kd.V_elder' HO196.out (Kd.N_base ho0) hb); have n2_ := Bvh (Kd.N_elder' (by (with_reducible repeat (first | apply Kd.N_alloc | apply Kd.N_drewN | apply Kd.N_drew)); exact HO200.out) (Kd.N_base ho0) hb); have n3_ := Bvh (Kd.N_elder' (by (with_reducible repeat (first | apply Kd.N_alloc | apply Kd.N_drewN | apply Kd.N_drew)); exact HO203.out) (Kd.N_base ho0) hb); have n4_ := Bvh (Kd.N_lower (Kd.N_mono (ok' := fun k_ => (P0_ k_ ∨ w.heap.size ≤ k_)) ho0 (fun k_ hk_ => Or.elim hk_ (fun hs_ => Or.elim hs_ (fun hs_ => hs_) (fun hs_ => hs_.1.1)) (fun hn_ => (.inr (Nat.le_trans (Aqb HB.out) hn_))))) (Aqb HB.out)); have n5_ := Bvh (Aq1 HB.out hb); clear HO0; clear HO196; clear HO200; clear HO203; clear HB; have HO0 := n0_; have HO196 := n1_; have HO200 := n2_; have HO203 := n3_; have HO206 := n4_; have HB := n5_; clear n0_ n1_ n2_ n3_ n4_ n5_; (try clear hb); (try clear hb2); (try clear hk); (try clear hi); (try clear ho0)))
   go_ret2
   exact ⟨_, by first | rfl | (simp [Aqj, Aqi] <;> rfl) | (simp [*, Aqj, Aqi] <;> rfl), Kd.N_V (by (with_reducible repeat (first | apply Kd.N_alloc | apply Kd.N_drewN | apply Kd.N_drew)); exact HO206.out), by exact HB.out⟩
 · replace c5 := Bool.eq_false_iff.mpr c5
   subst c5
   have H1 : (some (l0, false)) = some (r1, r2) := by rw [if_neg (show ¬ (false = true) by decide)] at H; exact H
   clear H
   have H := H1
   clear H1
   simp only [Option.some.injEq, Prod.mk.injEq] at H
   obtain ⟨rfl, rfl⟩ := H
   go_enter Try.func22, Try.ntmps22
   go_wp2_with (first | ((with_reducible refine Axm (f := 30) rfl ?_); refine Ajq (some 13) rfl rfl Try.func30 (by kernel_rfl) rfl #[.slice A0 l0.length c0, .string a1] rfl (by (try simp only [List.map_toArray, List.map_cons, List.map_nil]); first | done | rfl | (simp only [List.length_drop, List.length_take]; rfl)) ?_; (with_reducible refine (Aq9.calls k (fun k_ => (P0_ k_ ∨ w.heap.size ≤ k_)) _ _ l0 a1 t194 false _ ?side1 A4.out).mono ?_); (case side1 => exact HO0.out); rintro e w16 ⟨v195, rfl, ho0, hb⟩; refine ⟨_, rfl, ?_⟩; have n0_ := Bvh (Kd.V_below HO0.out hb); have n1_ := Bvh (Kd.V_lower (Kd.V_mono (ok' := fun k_ => (P0_ k_ ∨ w.heap.size ≤ k_)) ho0 (fun k_ hk_ => Or.elim hk_ (fun hs_ => hs_) (fun hn_ => (.inr (Nat.le_trans (Aqb HB.out) hn_))))) (Aqb HB.out)); have n2_ := Bvh (Aq1 HB.out hb); clear HO0; clear HB; have HO0 := n0_; have HO196 := n1_; have HB := n2_; clear n0_ n1_ n2_; (try clear hb); (try clear hb2); (try clear hk); (try clear hi); (try clear ho0)))
   go_ret2
   exact ⟨_, by first | rfl | (simp [Aqj, Aqi] <;> rfl) | (simp [*, Aqj, Aqi] <;> rfl), by exact HO0.out, by exact HB.out⟩
end
section
theorem Awb (l : List S38) (n : ByteArray) (hl : l.length ≤ 1000000) : ∀ m i : Nat, ∀ acc : List S38, i + m = l.length → acc.length ≤ i → ∃ k, Aqa.l0 k l n acc i = some (acc ++ (l.drop i).filter fun x => !Ax8 n x)
 | 0, i, acc, hi, ha => ⟨1, by rw [Aqa.l0, if_neg (by omega), List.drop_eq_nil_of_le (by omega)]; simp⟩
 | m + 1, i, acc, hi, ha => by
   rw [Akk l i (by omega), List.filter_cons]
   by_cases h : ((Aqf l (i : Int)).f0).toList = n.toList
   · obtain ⟨k, hk⟩ := Awb l n hl m (i + 1) acc (by omega) (by omega)
     refine ⟨k + 1, ?_⟩
     rw [Aqa.l0, if_pos (by omega), if_pos (by omega), if_pos h, Az5 i (by omega), hk, show Ax8 n (Aqf l (i : Int)) = true from beq_iff_eq.mpr h]
     simp
   · obtain ⟨k, hk⟩ := Awb l n hl m (i + 1) (acc ++ [Aqf l i]) (by omega) (by simp; omega)
     refine ⟨k + 1, ?_⟩
     rw [Aqa.l0, if_pos (by omega), if_pos (by omega), if_neg h, if_pos (by omega), Az5 i (by omega), show Ax8 n (Aqf l (i : Int)) = false from beq_eq_false_iff_ne.mpr h]
     refine hk.trans ?_
     simp
theorem Bqk (l : List S38) (n : ByteArray) (hl : l.length ≤ 1000000) : ∃ k, Aqa.f k l n = some (l.filter fun x => !Ax8 n x) := by
 obtain ⟨k, hk⟩ := Awb l n hl l.length 0 [] (by omega) (by simp)
 exact ⟨k, by rw [List.drop_zero, List.nil_append] at hk; exact hk⟩
theorem Awa (t : List S38) (n : ByteArray) (d : List Int) (hl : t.length ≤ 1000000) : ∀ m i : Nat, ∀ acc : List S38, i + m = t.length → acc.length ≤ i + 1 → ∃ k, Aq6.l0 k n d t acc true i = some (acc ++ t.drop i)
 | 0, i, acc, hi, ha => ⟨1, by rw [Aq6.l0, if_neg (by omega), if_pos rfl, List.drop_eq_nil_of_le (by omega)]; simp⟩
 | m + 1, i, acc, hi, ha => by
   obtain ⟨k, hk⟩ := Awa t n d hl m (i + 1) (acc ++ [Aqf t i]) (by omega) (by simp; omega)
   refine ⟨k + 1, ?_⟩
   rw [Aq6.l0, if_pos (by omega), if_pos rfl, if_pos (by omega), if_pos (by omega), Az5 i (by omega), Akk t i (by omega)]
   refine hk.trans ?_
   simp
theorem Bzl (t : List S38) (n : ByteArray) (d : List Int) (hl : t.length ≤ 1000000) : ∀ m i : Nat, ∀ acc : List S38, i + m = t.length → acc.length ≤ i → ∃ k, Aq6.l0 k n d t acc false i = some (acc ++ Az2 ⟨n, d⟩ (t.drop i))
 | 0, i, acc, hi, ha => ⟨1, by rw [Aq6.l0, if_neg (by omega), if_neg (by decide), if_pos (by omega), List.drop_eq_nil_of_le (by omega)]; simp [Az2]⟩
 | m + 1, i, acc, hi, ha => by
   rw [Akk t i (by omega), Az2]
   by_cases h : Op.bytesLess n.toList ((Aqf t (i : Int)).f0.toList) = true
   · obtain ⟨k, hk⟩ := Awa t n d hl m (i + 1) (acc ++ [⟨n, d⟩] ++ [Aqf t i]) (by omega) (by simp; omega)
     refine ⟨k + 1, ?_⟩
     rw [Aq6.l0, if_pos (by omega), if_neg (by decide), if_pos (by omega), if_pos h, if_pos (by omega), Option.bind_some, if_pos (by simp; omega), Az5 i (by omega), if_pos h]
     refine hk.trans ?_
     simp
   · obtain ⟨k, hk⟩ := Bzl t n d hl m (i + 1) (acc ++ [Aqf t i]) (by omega) (by simp; omega)
     refine ⟨k + 1, ?_⟩
     rw [Aq6.l0, if_pos (by omega), if_neg (by decide), if_pos (by omega), if_neg h, if_pos (by omega), Az5 i (by omega), if_neg h]
     refine hk.trans ?_
     simp
theorem refPut (l : List S38) (n : ByteArray) (d : List Int) (hl : l.length ≤ 1000000) : ∃ k, Aq6.f k l n d = some (putL l n d) := by
 obtain ⟨k1, h1⟩ := Bqk l n hl
 have hf := List.length_filter_le (fun x => !Ax8 n x) l
 obtain ⟨k2, h2⟩ := Bzl (l.filter fun x => !Ax8 n x) n d (by omega) _ 0 [] (by rw [Nat.zero_add]) (by simp)
 refine ⟨k1 + k2, ?_⟩
 unfold Aq6.f
 rw [Azw (Aqa.mono l n) (show k1 ≤ k1 + k2 by omega) h1, Option.bind_some]
 have := Azw (fun k => Aq6.mono_l k _ _ _ _ _ _) (show k2 ≤ k1 + k2 by omega) h2
 rw [List.drop_zero, List.nil_append] at this
 exact this
theorem refMove (l : List S38) (a b : ByteArray) (hl : l.length ≤ 1000000) : ∃ k, Azi.f k l a b = some (match l.find? (Ax8 a) with | some x => (putL (l.filter fun y => !Ax8 a y) b x.f1, true) | none => (l, false)) := by
 obtain ⟨k1, h1⟩ := Bk8 l a hl
 obtain ⟨k2, h2⟩ := Bqk l a hl
 have hf := List.length_filter_le (fun x => !Ax8 a x) l
 obtain ⟨k3, h3⟩ := Bqk (l.filter fun x => !Ax8 a x) b (by omega)
 have hf2 := List.length_filter_le (fun x => !Ax8 b x) (l.filter fun x => !Ax8 a x)
 obtain ⟨k4, h4⟩ := refPut ((l.filter fun x => !Ax8 a x).filter fun x => !Ax8 b x) b (getL l a).1 (by omega)
 obtain ⟨K, hK⟩ : ∃ K, K = k1 + k2 + k3 + k4 := ⟨_, rfl⟩
 refine ⟨K, ?_⟩
 unfold Azi.f
 rw [Azw (Aq9.mono l a) (show k1 ≤ K by omega) h1, Azw (Aqa.mono l a) (show k2 ≤ K by omega) h2, Option.bind_some, Option.bind_some,
  Azw (Aqa.mono _ b) (show k3 ≤ K by omega) h3, Option.bind_some, Azw (Aq6.mono _ b _) (show k4 ≤ K by omega) h4, Option.bind_some]
 have e : putL ((l.filter fun x => !Ax8 a x).filter fun x => !Ax8 b x) b (getL l a).1 = putL (l.filter fun x => !Ax8 a x) b (getL l a).1 := by
  unfold putL
  rw [List.filter_filter (p := fun x => !Ax8 b x)]
  congr 1
  exact List.filter_congr fun x _ => by simp
 rw [e]
 unfold getL
 cases l.find? (Ax8 a) <;> rfl
end
section
attribute [local go_sem] Axk Axr Az3 Az7 Axj Axi Axz Axy
mutual
def Aq0.j0 : Nat → List (S38) → Int → Bool → ByteArray → Int → Int → List Int → Option ((List (S38)) × Int)
 | 0, _, _, _, _, _, _, _ => none
 | k + 1, x0, x2, x43, x135000, x135001, x135002, x135003 => if x43 = true then (some (([] : List (S38)), 1)) else (if x2 ≥ 0 then (Aq0.j1 k x0 x2 x135003 (decide (x2 < (x135003.length : Int))) x135000 x135001 x135002 x135003) else (Aq0.j1 k x0 x2 x135003 false x135000 x135001 x135002 x135003))
def Aq0.j1 : Nat → List (S38) → Int → List Int → Bool → ByteArray → Int → Int → List Int → Option ((List (S38)) × Int)
 | 0, _, _, _, _, _, _, _, _ => none
 | k + 1, x0, x2, x8, x53, x135000, x135001, x135002, x135003 => if x53 = true then (if 0 ≤ x2 then (if x2 ≤ (x8.length : Int) then (Aq0.j2 k x0 (x8.take (x2 : Int).toNat) x135000 x135001 x135002 x135003) else (none)) else (none)) else (Aq0.j2 k x0 x8 x135000 x135001 x135002 x135003)
def Aq0.j2 : Nat → List (S38) → List Int → ByteArray → Int → Int → List Int → Option ((List (S38)) × Int)
 | 0, _, _, _, _, _, _ => none
 | k + 1, x0, x8, x135000, x135001, x135002, x135003 => (Aq9.f k x0 x135000).bind fun bt140 => (if x135001 = 2 then (Aq0.j3 k x0 x8 bt140.1 (bt140.1.length : Int) x135000 x135001 x135002 x135003) else (Aq0.j3 k x0 x8 bt140.1 0 x135000 x135001 x135002 x135003))
def Aq0.j3 : Nat → List (S38) → List Int → List Int → Int → ByteArray → Int → Int → List Int → Option ((List (S38)) × Int)
 | 0, _, _, _, _, _, _, _, _ => none
 | k + 1, x0, x8, x9, x11, x135000, x135001, x135002, x135003 => if x135001 = 3 then (Aq0.j4 k x0 x8 x9 x135002 x135000 x135001 x135002 x135003) else (Aq0.j4 k x0 x8 x9 x11 x135000 x135001 x135002 x135003)
def Aq0.j4 : Nat → List (S38) → List Int → List Int → Int → ByteArray → Int → Int → List Int → Option ((List (S38)) × Int)
 | 0, _, _, _, _, _, _, _, _ => none
 | k + 1, x0, x8, x9, x11, x135000, x135001, x135002, x135003 => if x11 > 65536 then (Aq0.j5 k x0 x8 x9 x11 true x135000 x135001 x135002 x135003) else (if (wrap64 (x11 + (x8.length : Int))) > 65536 then (Aq0.j5 k x0 x8 x9 x11 true x135000 x135001 x135002 x135003) else (if x135001 = 3 then (Aq0.j5 k x0 x8 x9 x11 (decide ((x9.length : Int) > 65536)) x135000 x135001 x135002 x135003) else (Aq0.j5 k x0 x8 x9 x11 false x135000 x135001 x135002 x135003)))
def Aq0.j5 : Nat → List (S38) → List Int → List Int → Int → Bool → ByteArray → Int → Int → List Int → Option ((List (S38)) × Int)
 | 0, _, _, _, _, _, _, _, _, _ => none
 | k + 1, x0, x8, x9, x11, x92, x135000, x135001, x135002, x135003 => if x92 = true then (some (([] : List (S38)), 11)) else (if (x8.length : Int) = 0 then (Aq0.j6 k x0 x8 x9 x11 (decide ((x135003.length : Int) > 0)) x135000 x135001 x135002 x135003) else (Aq0.j6 k x0 x8 x9 x11 false x135000 x135001 x135002 x135003))
def Aq0.j6 : Nat → List (S38) → List Int → List Int → Int → Bool → ByteArray → Int → Int → List Int → Option ((List (S38)) × Int)
 | 0, _, _, _, _, _, _, _, _, _ => none
 | k + 1, x0, x8, x9, x11, x101, x135000, x135001, x135002, x135003 => if x101 = true then (some (x0, 0)) else (if x135001 = 1 then (Aq0.j7 k x0 x8 x11 ([] : List Int) x135000 x135001 x135002 x135003) else (if ([] : List Int).length + x9.length < 140737488355328 then (Aq0.j7 k x0 x8 x11 (([] : List Int) ++ x9) x135000 x135001 x135002 x135003) else (none)))
def Aq0.j7 : Nat → List (S38) → List Int → Int → List Int → ByteArray → Int → Int → List Int → Option ((List (S38)) × Int)
 | 0, _, _, _, _, _, _, _, _ => none
 | k + 1, x0, x8, x11, x12, x135000, x135001, x135002, x135003 => Aq0.l0 k x0 x8 x11 x12 x135000 x135001 x135002 x135003
def Aq0.l0 : Nat → List (S38) → List Int → Int → List Int → ByteArray → Int → Int → List Int → Option ((List (S38)) × Int)
 | 0, _, _, _, _, _, _, _, _ => none
 | k + 1, x0, x8, x11, x12, x135000, x135001, x135002, x135003 => if (x12.length : Int) < x11 then (if x12.length < 140737488355328 then (Aq0.l0 k x0 x8 x11 (x12 ++ [0]) x135000 x135001 x135002 x135003) else (none)) else (Aq0.l1 k x0 x8 x11 x12 0 x135000 x135001 x135002 x135003)
def Aq0.l1 : Nat → List (S38) → List Int → Int → List Int → Int → ByteArray → Int → Int → List Int → Option ((List (S38)) × Int)
 | 0, _, _, _, _, _, _, _, _, _ => none
 | k + 1, x0, x8, x11, x12, x13, x135000, x135001, x135002, x135003 => if x13 < (x8.length : Int) then (if (wrap64 (x11 + x13)) < (x12.length : Int) then (if 0 ≤ x13 then (if 0 ≤ (wrap64 (x11 + x13)) then (Aq0.l1 k x0 x8 x11 (x12.set ((wrap64 (x11 + x13)) : Int).toNat (rd x8 x13)) (wrap64 (x13 + 1)) x135000 x135001 x135002 x135003) else (none)) else (none)) else (if 0 ≤ x13 then (if x12.length < 140737488355328 then (Aq0.l1 k x0 x8 x11 (x12 ++ [rd x8 x13]) (wrap64 (x13 + 1)) x135000 x135001 x135002 x135003) else (none)) else (none))) else ((Aq6.f k x0 x135000 x12).bind fun t156 => (some (t156, 0)))
end
def Aq0.f (k : Nat) (l0 : List (S38)) (a1_0 : ByteArray) (a1_1 : Int) (a1_2 : Int) (l1_3 : List Int) (a2 : Int) : Option ((List (S38)) × Int) := if a1_1 < 1 then (Aq0.j0 k l0 a2 true a1_0 a1_1 a1_2 l1_3) else (if a1_1 > 3 then (Aq0.j0 k l0 a2 true a1_0 a1_1 a1_2 l1_3) else (if (a1_0.size : Int) < 1 then (Aq0.j0 k l0 a2 true a1_0 a1_1 a1_2 l1_3) else (if (a1_0.size : Int) > 40 then (Aq0.j0 k l0 a2 true a1_0 a1_1 a1_2 l1_3) else (if a1_1 = 3 then (Aq0.j0 k l0 a2 (decide (a1_2 < 0)) a1_0 a1_1 a1_2 l1_3) else (Aq0.j0 k l0 a2 false a1_0 a1_1 a1_2 l1_3)))))
theorem Aq0.mono_l : ∀ k, (∀ y0 y1 y2 y3 y4 y5 y6, LeO (Aq0.j0 k y0 y1 y2 y3 y4 y5 y6) (Aq0.j0 (k + 1) y0 y1 y2 y3 y4 y5 y6)) ∧ (∀ y0 y1 y2 y3 y4 y5 y6 y7, LeO (Aq0.j1 k y0 y1 y2 y3 y4 y5 y6 y7) (Aq0.j1 (k + 1) y0 y1 y2 y3 y4 y5 y6 y7)) ∧ (∀ y0 y1 y2 y3 y4 y5, LeO (Aq0.j2 k y0 y1 y2 y3 y4 y5) (Aq0.j2 (k + 1) y0 y1 y2 y3 y4 y5)) ∧ (∀ y0 y1 y2 y3 y4 y5 y6 y7, LeO (Aq0.j3 k y0 y1 y2 y3 y4 y5 y6 y7) (Aq0.j3 (k + 1) y0 y1 y2 y3 y4 y5 y6 y7)) ∧ (∀ y0 y1 y2 y3 y4 y5 y6 y7, LeO (Aq0.j4 k y0 y1 y2 y3 y4 y5 y6 y7) (Aq0.j4 (k + 1) y0 y1 y2 y3 y4 y5 y6 y7)) ∧ (∀ y0 y1 y2 y3 y4 y5 y6 y7 y8, LeO (Aq0.j5 k y0 y1 y2 y3 y4 y5 y6 y7 y8) (Aq0.j5 (k + 1) y0 y1 y2 y3 y4 y5 y6 y7 y8)) ∧ (∀ y0 y1 y2 y3 y4 y5 y6 y7 y8, LeO (Aq0.j6 k y0 y1 y2 y3 y4 y5 y6 y7 y8) (Aq0.j6 (k + 1) y0 y1 y2 y3 y4 y5 y6 y7 y8)) ∧ (∀ y0 y1 y2 y3 y4 y5 y6 y7, LeO (Aq0.j7 k y0 y1 y2 y3 y4 y5 y6 y7) (Aq0.j7 (k + 1) y0 y1 y2 y3 y4 y5 y6 y7)) ∧ (∀ y0 y1 y2 y3 y4 y5 y6 y7, LeO (Aq0.l0 k y0 y1 y2 y3 y4 y5 y6 y7) (Aq0.l0 (k + 1) y0 y1 y2 y3 y4 y5 y6 y7)) ∧ (∀ y0 y1 y2 y3 y4 y5 y6 y7 y8, LeO (Aq0.l1 k y0 y1 y2 y3 y4 y5 y6 y7 y8) (Aq0.l1 (k + 1) y0 y1 y2 y3 y4 y5 y6 y7 y8))
 | 0 => ⟨fun _ _ _ _ _ _ _ r h => by simp [Aq0.j0] at h, fun _ _ _ _ _ _ _ _ r h => by simp [Aq0.j1] at h, fun _ _ _ _ _ _ r h => by simp [Aq0.j2] at h, fun _ _ _ _ _ _ _ _ r h => by simp [Aq0.j3] at h, fun _ _ _ _ _ _ _ _ r h => by simp [Aq0.j4] at h, fun _ _ _ _ _ _ _ _ _ r h => by simp [Aq0.j5] at h, fun _ _ _ _ _ _ _ _ _ r h => by simp [Aq0.j6] at h, fun _ _ _ _ _ _ _ _ r h => by simp [Aq0.j7] at h, fun _ _ _ _ _ _ _ _ r h => by simp [Aq0.l0] at h, fun _ _ _ _ _ _ _ _ _ r h => by simp [Aq0.l1] at h⟩
 | k + 1 => by
   obtain ⟨ih0, ih1, ih2, ih3, ih4, ih5, ih6, ih7, ih8, ih9⟩ := Aq0.mono_l k
   refine ⟨?_, ?_, ?_, ?_, ?_, ?_, ?_, ?_, ?_, ?_⟩
   · intro y0 y1 y2 y3 y4 y5 y6
     unfold Aq0.j0
     repeat' first
     | (with_reducible exact ih0 _ _ _ _ _ _ _)
     | (with_reducible exact ih1 _ _ _ _ _ _ _ _)
     | (with_reducible exact ih2 _ _ _ _ _ _)
     | (with_reducible exact ih3 _ _ _ _ _ _ _ _)
     | (with_reducible exact ih4 _ _ _ _ _ _ _ _)
     | (with_reducible exact ih5 _ _ _ _ _ _ _ _ _)
     | (with_reducible exact ih6 _ _ _ _ _ _ _ _ _)
     | (with_reducible exact ih7 _ _ _ _ _ _ _ _)
     | (with_reducible exact ih8 _ _ _ _ _ _ _ _)
     | (with_reducible exact ih9 _ _ _ _ _ _ _ _ _)
     | (with_reducible exact Aq9.mono _ _ _)
     | (with_reducible exact Aq6.mono _ _ _ _)
     | (with_reducible exact LeO.refl _)
     | (with_reducible exact LeO.none _)
     | (with_reducible refine LeO.ite ?_ ?_)
     | (with_reducible refine LeO.bind ?_ (fun _ => ?_))
     | exact ih0 _ _ _ _ _ _ _
     | exact ih1 _ _ _ _ _ _ _ _
     | exact ih2 _ _ _ _ _ _
     | exact ih3 _ _ _ _ _ _ _ _
     | exact ih4 _ _ _ _ _ _ _ _
     | exact ih5 _ _ _ _ _ _ _ _ _
     | exact ih6 _ _ _ _ _ _ _ _ _
     | exact ih7 _ _ _ _ _ _ _ _
     | exact ih8 _ _ _ _ _ _ _ _
     | exact ih9 _ _ _ _ _ _ _ _ _
     | exact Aq9.mono _ _ _
     | exact Aq6.mono _ _ _ _
     | exact LeO.none _
     | refine LeO.ite ?_ ?_
     | refine LeO.bind ?_ (fun _ => ?_)
   · intro y0 y1 y2 y3 y4 y5 y6 y7
     unfold Aq0.j1
     repeat' first
     | (with_reducible exact ih0 _ _ _ _ _ _ _)
     | (with_reducible exact ih1 _ _ _ _ _ _ _ _)
     | (with_reducible exact ih2 _ _ _ _ _ _)
     | (with_reducible exact ih3 _ _ _ _ _ _ _ _)
     | (with_reducible exact ih4 _ _ _ _ _ _ _ _)
     | (with_reducible exact ih5 _ _ _ _ _ _ _ _ _)
     | (with_reducible exact ih6 _ _ _ _ _ _ _ _ _)
     | (with_reducible exact ih7 _ _ _ _ _ _ _ _)
     | (with_reducible exact ih8 _ _ _ _ _ _ _ _)
     | (with_reducible exact ih9 _ _ _ _ _ _ _ _ _)
     | (with_reducible exact Aq9.mono _ _ _)
     | (with_reducible exact Aq6.mono _ _ _ _)
     | (with_reducible exact LeO.refl _)
     | (with_reducible exact LeO.none _)
     | (with_reducible refine LeO.ite ?_ ?_)
     | (with_reducible refine LeO.bind ?_ (fun _ => ?_))
     | exact ih0 _ _ _ _ _ _ _
     | exact ih1 _ _ _ _ _ _ _ _
     | exact ih2 _ _ _ _ _ _
     | exact ih3 _ _ _ _ _ _ _ _
     | exact ih4 _ _ _ _ _ _ _ _
     | exact ih5 _ _ _ _ _ _ _ _ _
     | exact ih6 _ _ _ _ _ _ _ _ _
     | exact ih7 _ _ _ _ _ _ _ _
     | exact ih8 _ _ _ _ _ _ _ _
     | exact ih9 _ _ _ _ _ _ _ _ _
     | exact Aq9.mono _ _ _
     | exact Aq6.mono _ _ _ _
     | exact LeO.none _
     | refine LeO.ite ?_ ?_
     | refine LeO.bind ?_ (fun _ => ?_)
   · intro y0 y1 y2 y3 y4 y5
     unfold Aq0.j2
     repeat' first
     | (with_reducible exact ih0 _ _ _ _ _ _ _)
     | (with_reducible exact ih1 _ _ _ _ _ _ _ _)
     | (with_reducible exact ih2 _ _ _ _ _ _)
     | (with_reducible exact ih3 _ _ _ _ _ _ _ _)
     | (with_reducible exact ih4 _ _ _ _ _ _ _ _)
     | (with_reducible exact ih5 _ _ _ _ _ _ _ _ _)
     | (with_reducible exact ih6 _ _ _ _ _ _ _ _ _)
     | (with_reducible exact ih7 _ _ _ _ _ _ _ _)
     | (with_reducible exact ih8 _ _ _ _ _ _ _ _)
     | (with_reducible exact ih9 _ _ _ _ _ _ _ _ _)
     | (with_reducible exact Aq9.mono _ _ _)
     | (with_reducible exact Aq6.mono _ _ _ _)
     | (with_reducible exact LeO.refl _)
     | (with_reducible exact LeO.none _)
     | (with_reducible refine LeO.ite ?_ ?_)
     | (with_reducible refine LeO.bind ?_ (fun _ => ?_))
     | exact ih0 _ _ _ _ _ _ _
     | exact ih1 _ _ _ _ _ _ _ _
     | exact ih2 _ _ _ _ _ _
     | exact ih3 _ _ _ _ _ _ _ _
     | exact ih4 _ _ _ _ _ _ _ _
     | exact ih5 _ _ _ _ _ _ _ _ _
     | exact ih6 _ _ _ _ _ _ _ _ _
     | exact ih7 _ _ _ _ _ _ _ _
     | exact ih8 _ _ _ _ _ _ _ _
     | exact ih9 _ _ _ _ _ _ _ _ _
     | exact Aq9.mono _ _ _
     | exact Aq6.mono _ _ _ _
     | exact LeO.none _
     | refine LeO.ite ?_ ?_
     | refine LeO.bind ?_ (fun _ => ?_)
   · intro y0 y1 y2 y3 y4 y5 y6 y7
     unfold Aq0.j3
     repeat' first
     | (with_reducible exact ih0 _ _ _ _ _ _ _)
     | (with_reducible exact ih1 _ _ _ _ _ _ _ _)
     | (with_reducible exact ih2 _ _ _ _ _ _)
     | (with_reducible exact ih3 _ _ _ _ _ _ _ _)
     | (with_reducible exact ih4 _ _ _ _ _ _ _ _)
     | (with_reducible exact ih5 _ _ _ _ _ _ _ _ _)
     | (with_reducible exact ih6 _ _ _ _ _ _ _ _ _)
     | (with_reducible exact ih7 _ _ _ _ _ _ _ _)
     | (with_reducible exact ih8 _ _ _ _ _ _ _ _)
     | (with_reducible exact ih9 _ _ _ _ _ _ _ _ _)
     | (with_reducible exact Aq9.mono _ _ _)
     | (with_reducible exact Aq6.mono _ _ _ _)
     | (with_reducible exact LeO.refl _)
     | (with_reducible exact LeO.none _)
     | (with_reducible refine LeO.ite ?_ ?_)
     | (with_reducible refine LeO.bind ?_ (fun _ => ?_))
     | exact ih0 _ _ _ _ _ _ _
     | exact ih1 _ _ _ _ _ _ _ _
     | exact ih2 _ _ _ _ _ _
     | exact ih3 _ _ _ _ _ _ _ _
     | exact ih4 _ _ _ _ _ _ _ _
     | exact ih5 _ _ _ _ _ _ _ _ _
     | exact ih6 _ _ _ _ _ _ _ _ _
     | exact ih7 _ _ _ _ _ _ _ _
     | exact ih8 _ _ _ _ _ _ _ _
     | exact ih9 _ _ _ _ _ _ _ _ _
     | exact Aq9.mono _ _ _
     | exact Aq6.mono _ _ _ _
     | exact LeO.none _
     | refine LeO.ite ?_ ?_
     | refine LeO.bind ?_ (fun _ => ?_)
   · intro y0 y1 y2 y3 y4 y5 y6 y7
     unfold Aq0.j4
     repeat' first
     | (with_reducible exact ih0 _ _ _ _ _ _ _)
     | (with_reducible exact ih1 _ _ _ _ _ _ _ _)
     | (with_reducible exact ih2 _ _ _ _ _ _)
     | (with_reducible exact ih3 _ _ _ _ _ _ _ _)
     | (with_reducible exact ih4 _ _ _ _ _ _ _ _)
     | (with_reducible exact ih5 _ _ _ _ _ _ _ _ _)
     | (with_reducible exact ih6 _ _ _ _ _ _ _ _ _)
     | (with_reducible exact ih7 _ _ _ _ _ _ _ _)
     | (with_reducible exact ih8 _ _ _ _ _ _ _ _)
     | (with_reducible exact ih9 _ _ _ _ _ _ _ _ _)
     | (with_reducible exact Aq9.mono _ _ _)
     | (with_reducible exact Aq6.mono _ _ _ _)
     | (with_reducible exact LeO.refl _)
     | (with_reducible exact LeO.none _)
     | (with_reducible refine LeO.ite ?_ ?_)
     | (with_reducible refine LeO.bind ?_ (fun _ => ?_))
     | exact ih0 _ _ _ _ _ _ _
     | exact ih1 _ _ _ _ _ _ _ _
     | exact ih2 _ _ _ _ _ _
     | exact ih3 _ _ _ _ _ _ _ _
     | exact ih4 _ _ _ _ _ _ _ _
     | exact ih5 _ _ _ _ _ _ _ _ _
     | exact ih6 _ _ _ _ _ _ _ _ _
     | exact ih7 _ _ _ _ _ _ _ _
     | exact ih8 _ _ _ _ _ _ _ _
     | exact ih9 _ _ _ _ _ _ _ _ _
     | exact Aq9.mono _ _ _
     | exact Aq6.mono _ _ _ _
     | exact LeO.none _
     | refine LeO.ite ?_ ?_
     | refine LeO.bind ?_ (fun _ => ?_)
   · intro y0 y1 y2 y3 y4 y5 y6 y7 y8
     unfold Aq0.j5
     repeat' first
     | (with_reducible exact ih0 _ _ _ _ _ _ _)
     | (with_reducible exact ih1 _ _ _ _ _ _ _ _)
     | (with_reducible exact ih2 _ _ _ _ _ _)
     | (with_reducible exact ih3 _ _ _ _ _ _ _ _)
     | (with_reducible exact ih4 _ _ _ _ _ _ _ _)
     | (with_reducible exact ih5 _ _ _ _ _ _ _ _ _)
     | (with_reducible exact ih6 _ _ _ _ _ _ _ _ _)
     | (with_reducible exact ih7 _ _ _ _ _ _ _ _)
     | (with_reducible exact ih8 _ _ _ _ _ _ _ _)
     | (with_reducible exact ih9 _ _ _ _ _ _ _ _ _)
     | (with_reducible exact Aq9.mono _ _ _)
     | (with_reducible exact Aq6.mono _ _ _ _)
     | (with_reducible exact LeO.refl _)
     | (with_reducible exact LeO.none _)
     | (with_reducible refine LeO.ite ?_ ?_)
     | (with_reducible refine LeO.bind ?_ (fun _ => ?_))
     | exact ih0 _ _ _ _ _ _ _
     | exact ih1 _ _ _ _ _ _ _ _
     | exact ih2 _ _ _ _ _ _
     | exact ih3 _ _ _ _ _ _ _ _
     | exact ih4 _ _ _ _ _ _ _ _
     | exact ih5 _ _ _ _ _ _ _ _ _
     | exact ih6 _ _ _ _ _ _ _ _ _
     | exact ih7 _ _ _ _ _ _ _ _
     | exact ih8 _ _ _ _ _ _ _ _
     | exact ih9 _ _ _ _ _ _ _ _ _
     | exact Aq9.mono _ _ _
     | exact Aq6.mono _ _ _ _
     | exact LeO.none _
     | refine LeO.ite ?_ ?_
     | refine LeO.bind ?_ (fun _ => ?_)
   · intro y0 y1 y2 y3 y4 y5 y6 y7 y8
     unfold Aq0.j6
     repeat' first
     | (with_reducible exact ih0 _ _ _ _ _ _ _)
     | (with_reducible exact ih1 _ _ _ _ _ _ _ _)
     | (with_reducible exact ih2 _ _ _ _ _ _)
     | (with_reducible exact ih3 _ _ _ _ _ _ _ _)
     | (with_reducible exact ih4 _ _ _ _ _ _ _ _)
     | (with_reducible exact ih5 _ _ _ _ _ _ _ _ _)
     | (with_reducible exact ih6 _ _ _ _ _ _ _ _ _)
     | (with_reducible exact ih7 _ _ _ _ _ _ _ _)
     | (with_reducible exact ih8 _ _ _ _ _ _ _ _)
     | (with_reducible exact ih9 _ _ _ _ _ _ _ _ _)
     | (with_reducible exact Aq9.mono _ _ _)
     | (with_reducible exact Aq6.mono _ _ _ _)
     | (with_reducible exact LeO.refl _)
     | (with_reducible exact LeO.none _)
     | (with_reducible refine LeO.ite ?_ ?_)
     | (with_reducible refine LeO.bind ?_ (fun _ => ?_))
     | exact ih0 _ _ _ _ _ _ _
     | exact ih1 _ _ _ _ _ _ _ _
     | exact ih2 _ _ _ _ _ _
     | exact ih3 _ _ _ _ _ _ _ _
     | exact ih4 _ _ _ _ _ _ _ _
     | exact ih5 _ _ _ _ _ _ _ _ _
     | exact ih6 _ _ _ _ _ _ _ _ _
     | exact ih7 _ _ _ _ _ _ _ _
     | exact ih8 _ _ _ _ _ _ _ _
     | exact ih9 _ _ _ _ _ _ _ _ _
     | exact Aq9.mono _ _ _
     | exact Aq6.mono _ _ _ _
     | exact LeO.none _
     | refine LeO.ite ?_ ?_
     | refine LeO.bind ?_ (fun _ => ?_)
   · intro y0 y1 y2 y3 y4 y5 y6 y7
     unfold Aq0.j7
     repeat' first
     | (with_reducible exact ih0 _ _ _ _ _ _ _)
     | (with_reducible exact ih1 _ _ _ _ _ _ _ _)
     | (with_reducible exact ih2 _ _ _ _ _ _)
     | (with_reducible exact ih3 _ _ _ _ _ _ _ _)
     | (with_reducible exact ih4 _ _ _ _ _ _ _ _)
     | (with_reducible exact ih5 _ _ _ _ _ _ _ _ _)
     | (with_reducible exact ih6 _ _ _ _ _ _ _ _ _)
     | (with_reducible exact ih7 _ _ _ _ _ _ _ _)
     | (with_reducible exact ih8 _ _ _ _ _ _ _ _)
     | (with_reducible exact ih9 _ _ _ _ _ _ _ _ _)
     | (with_reducible exact Aq9.mono _ _ _)
     | (with_reducible exact Aq6.mono _ _ _ _)
     | (with_reducible exact LeO.refl _)
     | (with_reducible exact LeO.none _)
     | (with_reducible refine LeO.ite ?_ ?_)
     | (with_reducible refine LeO.bind ?_ (fun _ => ?_))
     | exact ih0 _ _ _ _ _ _ _
     | exact ih1 _ _ _ _ _ _ _ _
     | exact ih2 _ _ _ _ _ _
     | exact ih3 _ _ _ _ _ _ _ _
     | exact ih4 _ _ _ _ _ _ _ _
     | exact ih5 _ _ _ _ _ _ _ _ _
     | exact ih6 _ _ _ _ _ _ _ _ _
     | exact ih7 _ _ _ _ _ _ _ _
     | exact ih8 _ _ _ _ _ _ _ _
     | exact ih9 _ _ _ _ _ _ _ _ _
     | exact Aq9.mono _ _ _
     | exact Aq6.mono _ _ _ _
     | exact LeO.none _
     | refine LeO.ite ?_ ?_
     | refine LeO.bind ?_ (fun _ => ?_)
   · intro y0 y1 y2 y3 y4 y5 y6 y7
     unfold Aq0.l0
     repeat' first
     | (with_reducible exact ih0 _ _ _ _ _ _ _)
     | (with_reducible exact ih1 _ _ _ _ _ _ _ _)
     | (with_reducible exact ih2 _ _ _ _ _ _)
     | (with_reducible exact ih3 _ _ _ _ _ _ _ _)
     | (with_reducible exact ih4 _ _ _ _ _ _ _ _)
     | (with_reducible exact ih5 _ _ _ _ _ _ _ _ _)
     | (with_reducible exact ih6 _ _ _ _ _ _ _ _ _)
     | (with_reducible exact ih7 _ _ _ _ _ _ _ _)
     | (with_reducible exact ih8 _ _ _ _ _ _ _ _)
     | (with_reducible exact ih9 _ _ _ _ _ _ _ _ _)
     | (with_reducible exact Aq9.mono _ _ _)
     | (with_reducible exact Aq6.mono _ _ _ _)
     | (with_reducible exact LeO.refl _)
     | (with_reducible exact LeO.none _)
     | (with_reducible refine LeO.ite ?_ ?_)
     | (with_reducible refine LeO.bind ?_ (fun _ => ?_))
     | exact ih0 _ _ _ _ _ _ _
     | exact ih1 _ _ _ _ _ _ _ _
     | exact ih2 _ _ _ _ _ _
     | exact ih3 _ _ _ _ _ _ _ _
     | exact ih4 _ _ _ _ _ _ _ _
     | exact ih5 _ _ _ _ _ _ _ _ _
     | exact ih6 _ _ _ _ _ _ _ _ _
     | exact ih7 _ _ _ _ _ _ _ _
     | exact ih8 _ _ _ _ _ _ _ _
     | exact ih9 _ _ _ _ _ _ _ _ _
     | exact Aq9.mono _ _ _
     | exact Aq6.mono _ _ _ _
     | exact LeO.none _
     | refine LeO.ite ?_ ?_
     | refine LeO.bind ?_ (fun _ => ?_)
   · intro y0 y1 y2 y3 y4 y5 y6 y7 y8
     unfold Aq0.l1
     repeat' first
     | (with_reducible exact ih0 _ _ _ _ _ _ _)
     | (with_reducible exact ih1 _ _ _ _ _ _ _ _)
     | (with_reducible exact ih2 _ _ _ _ _ _)
     | (with_reducible exact ih3 _ _ _ _ _ _ _ _)
     | (with_reducible exact ih4 _ _ _ _ _ _ _ _)
     | (with_reducible exact ih5 _ _ _ _ _ _ _ _ _)
     | (with_reducible exact ih6 _ _ _ _ _ _ _ _ _)
     | (with_reducible exact ih7 _ _ _ _ _ _ _ _)
     | (with_reducible exact ih8 _ _ _ _ _ _ _ _)
     | (with_reducible exact ih9 _ _ _ _ _ _ _ _ _)
     | (with_reducible exact Aq9.mono _ _ _)
     | (with_reducible exact Aq6.mono _ _ _ _)
     | (with_reducible exact LeO.refl _)
     | (with_reducible exact LeO.none _)
     | (with_reducible refine LeO.ite ?_ ?_)
     | (with_reducible refine LeO.bind ?_ (fun _ => ?_))
     | exact ih0 _ _ _ _ _ _ _
     | exact ih1 _ _ _ _ _ _ _ _
     | exact ih2 _ _ _ _ _ _
     | exact ih3 _ _ _ _ _ _ _ _
     | exact ih4 _ _ _ _ _ _ _ _
     | exact ih5 _ _ _ _ _ _ _ _ _
     | exact ih6 _ _ _ _ _ _ _ _ _
     | exact ih7 _ _ _ _ _ _ _ _
     | exact ih8 _ _ _ _ _ _ _ _
     | exact ih9 _ _ _ _ _ _ _ _ _
     | exact Aq9.mono _ _ _
     | exact Aq6.mono _ _ _ _
     | exact LeO.none _
     | refine LeO.ite ?_ ?_
     | refine LeO.bind ?_ (fun _ => ?_)
theorem Aq0.mono : ∀ a0 a1 a2 a3 a4 a5 k, LeO (Aq0.f k a0 a1 a2 a3 a4 a5) (Aq0.f (k + 1) a0 a1 a2 a3 a4 a5) := by
 intro a0 a1 a2 a3 a4 a5 k
 obtain ⟨ih0, ih1, ih2, ih3, ih4, ih5, ih6, ih7, ih8, ih9⟩ := Aq0.mono_l k
 unfold Aq0.f
 repeat' first
  | (with_reducible exact ih0 _ _ _ _ _ _ _)
  | (with_reducible exact ih1 _ _ _ _ _ _ _ _)
  | (with_reducible exact ih2 _ _ _ _ _ _)
  | (with_reducible exact ih3 _ _ _ _ _ _ _ _)
  | (with_reducible exact ih4 _ _ _ _ _ _ _ _)
  | (with_reducible exact ih5 _ _ _ _ _ _ _ _ _)
  | (with_reducible exact ih6 _ _ _ _ _ _ _ _ _)
  | (with_reducible exact ih7 _ _ _ _ _ _ _ _)
  | (with_reducible exact ih8 _ _ _ _ _ _ _ _)
  | (with_reducible exact ih9 _ _ _ _ _ _ _ _ _)
  | (with_reducible exact Aq9.mono _ _ _)
  | (with_reducible exact Aq6.mono _ _ _ _)
  | (with_reducible exact LeO.refl _)
  | (with_reducible exact LeO.none _)
  | (with_reducible refine LeO.ite ?_ ?_)
  | (with_reducible refine LeO.bind ?_ (fun _ => ?_))
  | exact ih0 _ _ _ _ _ _ _
  | exact ih1 _ _ _ _ _ _ _ _
  | exact ih2 _ _ _ _ _ _
  | exact ih3 _ _ _ _ _ _ _ _
  | exact ih4 _ _ _ _ _ _ _ _
  | exact ih5 _ _ _ _ _ _ _ _ _
  | exact ih6 _ _ _ _ _ _ _ _ _
  | exact ih7 _ _ _ _ _ _ _ _
  | exact ih8 _ _ _ _ _ _ _ _
  | exact ih9 _ _ _ _ _ _ _ _ _
  | exact Aq9.mono _ _ _
  | exact Aq6.mono _ _ _ _
  | exact LeO.none _
  | refine LeO.ite ?_ ?_
  | refine LeO.bind ?_ (fun _ => ?_)
theorem Aq0.calls (k : Nat) (P0_ : Nat → Prop) (A0 : Option Addr) (c0 : Nat) (l0 : List (S38)) (a1_0 : ByteArray) (a1_1 : Int) (a1_2 : Int) (P1_3_ : Nat → Prop) (A1_3 : Option Addr) (c1_3 : Nat) (l1_3 : List Int) (a2 : Int) (r1 : List (S38)) (r2 : Int) (w : World) (hs0 : Kd.V k38 38 w w.heap.size (fun k_ => P0_ k_) (.slice A0 l0.length c0) l0) (hs1_3 : Kd.V (Kd.int .u8) 5 w w.heap.size (fun k_ => P1_3_ k_) (.slice A1_3 l1_3.length c1_3) l1_3) (h : Aq0.f k l0 a1_0 a1_1 a1_2 l1_3 a2 = some (r1, r2)) :
 Calls Try.prog 19 #[.slice A0 l0.length c0, .agg #[.string a1_0, .int .i64 a1_1, .int .i64 a1_2, .slice A1_3 l1_3.length c1_3], .int .i64 a2] w fun e w' => ∃ v0_ : Value, e = .returned (.tuple #[v0_, .int .i64 r2]) ∧ Kd.V k38 38 w' w.heap.size (fun k_ => ((P0_ k_ ∨ P1_3_ k_) ∨ w.heap.size ≤ k_)) v0_ r1 ∧ Below w.heap.size w w' := by
 have hu25 := Try.underlying25
 have HO0 := Bvh (show Kd.V k38 38 w w.heap.size (fun k_ => ((P0_ k_ ∨ P1_3_ k_) ∨ w.heap.size ≤ k_)) (.slice A0 l0.length c0) l0 from Kd.V_mono hs0 (fun k_ hk => .inl (.inl hk)))
 have HO1_3 := Bvh (show Kd.V (Kd.int .u8) 5 w w.heap.size (fun k_ => ((P0_ k_ ∨ P1_3_ k_) ∨ w.heap.size ≤ k_)) (.slice A1_3 l1_3.length c1_3) l1_3 from Kd.V_mono hs1_3 (fun k_ hk => .inl (.inr hk)))
 have HB := Bvh (Below.refl w.heap.size w)
 have H : (if a1_1 < 1 then (Aq0.j0 k l0 a2 true a1_0 a1_1 a1_2 l1_3) else (if a1_1 > 3 then (Aq0.j0 k l0 a2 true a1_0 a1_1 a1_2 l1_3) else (if (a1_0.size : Int) < 1 then (Aq0.j0 k l0 a2 true a1_0 a1_1 a1_2 l1_3) else (if (a1_0.size : Int) > 40 then (Aq0.j0 k l0 a2 true a1_0 a1_1 a1_2 l1_3) else (if a1_1 = 3 then (Aq0.j0 k l0 a2 (decide (a1_2 < 0)) a1_0 a1_1 a1_2 l1_3) else (Aq0.j0 k l0 a2 false a1_0 a1_1 a1_2 l1_3)))))) = some (r1, r2) := h
 clear h
 have HC4 := Bvh H
 clear H
 go_enter Try.func19, Try.ntmps19
 go_upto_region 1 with (first | ((with_reducible refine Ax1 (N := 4) rfl ?_); (try (refine Bjm (by rfl) ?_; dsimp only)); refine Axd ?hg (N := 4) ?hd (cs := #[.string a1_0, .int .i64 a1_1, .int .i64 a1_2, .slice A1_3 l1_3.length c1_3]) (t := 25) ?hr ?_; (case hd => rfl); (case hg => rfl); (case hr => first | (go_simp; done) | (go_simp; rfl)); intro gb134 hg w5 hbox hb; have n0_ := Bvh (Kd.V_below (Kd.V_elderB (by (with_reducible repeat (first | apply Kd.V_alloc | apply Kd.V_drewN | apply Kd.V_drew)); exact HO0.out) gb134 (Nat.le_of_eq hg.symm)) hb); have n1_ := Bvh (Kd.V_below (Kd.V_elderB (by (with_reducible repeat (first | apply Kd.V_alloc | apply Kd.V_drewN | apply Kd.V_drew)); exact HO1_3.out) gb134 (Nat.le_of_eq hg.symm)) hb); have n2_ := Bvh (Aq1 (by repeat (first | (with_reducible first | exact HB.out | apply Aq4 | apply Aq7 | apply Aq5) | exact HB.out)) hb); have n3_ := Bvh (hbox); have n4_ := Bvh ((by rw [hg]; exact (Aqb (by repeat (first | (with_reducible first | exact HB.out | apply Aq4 | apply Aq7 | apply Aq5) | exact HB.out))) : w.heap.size ≤ gb134)); have n5_ := Bvh ((by rw [hg]; exact (Aqb (by repeat (first | (with_reducible first | exact HB.out | apply Aq4 | apply Aq7 | apply Aq5) | exact HB.out))) : w.heap.size ≤ gb134)); clear HO0; clear HO1_3; clear HB; have HO0 := n0_; have HO1_3 := n1_; have HB := n2_; have BK134 := n3_; have GW134 := n4_; have GE134 := n5_; clear n0_ n1_ n2_ n3_ n4_ n5_; clear hb hbox hg))
 (try simp only [Act.put, Bvi, Bvj, Bvk])
 go_cut [43] (fun v43 wc => ∃ (kq : Nat) (x43_3 : Bool), v43 = .bool x43_3 ∧ Aside0 (Aq0.j0 kq l0 a2 x43_3 a1_0 a1_1 a1_2 l1_3 = some (r1, r2)) ∧ Aside0 (kq ≤ k) ∧ Aside0 (Kd.V k38 38 wc w.heap.size (fun k_ => ((P0_ k_ ∨ P1_3_ k_) ∨ w.heap.size ≤ k_) ∧ k_ ≠ gb134) (.slice A0 l0.length c0) l0) ∧ Aside0 (Kd.V (Kd.int .u8) 5 wc w.heap.size (fun k_ => ((P0_ k_ ∨ P1_3_ k_) ∨ w.heap.size ≤ k_) ∧ k_ ≠ gb134) (.slice A1_3 l1_3.length c1_3) l1_3) ∧ Aside0 (wc.heap[gb134]? = some (.cells #[.string a1_0, .int .i64 a1_1, .int .i64 a1_2, (.slice A1_3 l1_3.length c1_3)] 25 (0, 0))) ∧ Aside0 (Below w.heap.size w wc))
 case first =>
  have H := HC4.out
  clear HC4
  by_cases c6 : a1_1 < 1
  · rw [if_pos c6] at H
    have c6b0 : decide (a1_1 < 1) = true := decide_eq_true c6
    clear c6
    have H' := Bvh H
    clear H
    have hcz7_0 : w5.cell? ⟨gb134, 0, none⟩ = some (.string a1_0) := (Aq3 BK134.out 0).trans rfl
    have hcz7_1 : w5.cell? ⟨gb134, 1, none⟩ = some (.int .i64 a1_1) := (Aq3 BK134.out 1).trans rfl
    have hcz7_2 : w5.cell? ⟨gb134, 2, none⟩ = some (.int .i64 a1_2) := (Aq3 BK134.out 2).trans rfl
    have hcz7_3 : w5.cell? ⟨gb134, 3, none⟩ = some (.slice A1_3 l1_3.length c1_3) := (Aq3 BK134.out 3).trans rfl
    have hfz7_0 := Aq2 BK134.out 0
    have hfz7_1 := Aq2 BK134.out 1
    have hfz7_2 := Aq2 BK134.out 2
    have hfz7_3 := Aq2 BK134.out 3
    go_wp2
    go_meet
    case rel => exact ⟨_, (true), rfl, H', ⟨by omega⟩, HO0, HO1_3, BK134, HB⟩
  · rw [if_neg c6] at H
    have c6b0 : decide (a1_1 < 1) = false := decide_eq_false c6
    clear c6
    by_cases c8 : a1_1 > 3
    · rw [if_pos c8] at H
      have c8b0 : decide (3 < a1_1) = true := decide_eq_true c8
      clear c8
      have H' := Bvh H
      clear H
      have hcz9_0 : w5.cell? ⟨gb134, 0, none⟩ = some (.string a1_0) := (Aq3 BK134.out 0).trans rfl
      have hcz9_1 : w5.cell? ⟨gb134, 1, none⟩ = some (.int .i64 a1_1) := (Aq3 BK134.out 1).trans rfl
      have hcz9_2 : w5.cell? ⟨gb134, 2, none⟩ = some (.int .i64 a1_2) := (Aq3 BK134.out 2).trans rfl
      have hcz9_3 : w5.cell? ⟨gb134, 3, none⟩ = some (.slice A1_3 l1_3.length c1_3) := (Aq3 BK134.out 3).trans rfl
      have hfz9_0 := Aq2 BK134.out 0
      have hfz9_1 := Aq2 BK134.out 1
      have hfz9_2 := Aq2 BK134.out 2
      have hfz9_3 := Aq2 BK134.out 3
      go_wp2
      go_meet
      case rel => exact ⟨_, (true), rfl, H', ⟨by omega⟩, HO0, HO1_3, BK134, HB⟩
    · rw [if_neg c8] at H
      have c8b0 : decide (3 < a1_1) = false := decide_eq_false c8
      clear c8
      by_cases c10 : (a1_0.size : Int) < 1
      · rw [if_pos c10] at H
        have c10b0 : decide ((a1_0.size : Int) < 1) = true := decide_eq_true c10
        have c10b1 : decide (a1_0.size < 1) = true := decide_eq_true (by omega)
        clear c10
        have H' := Bvh H
        clear H
        have hcz11_0 : w5.cell? ⟨gb134, 0, none⟩ = some (.string a1_0) := (Aq3 BK134.out 0).trans rfl
        have hcz11_1 : w5.cell? ⟨gb134, 1, none⟩ = some (.int .i64 a1_1) := (Aq3 BK134.out 1).trans rfl
        have hcz11_2 : w5.cell? ⟨gb134, 2, none⟩ = some (.int .i64 a1_2) := (Aq3 BK134.out 2).trans rfl
        have hcz11_3 : w5.cell? ⟨gb134, 3, none⟩ = some (.slice A1_3 l1_3.length c1_3) := (Aq3 BK134.out 3).trans rfl
        have hfz11_0 := Aq2 BK134.out 0
        have hfz11_1 := Aq2 BK134.out 1
        have hfz11_2 := Aq2 BK134.out 2
        have hfz11_3 := Aq2 BK134.out 3
        go_wp2
        go_meet
        case rel => exact ⟨_, (true), rfl, H', ⟨by omega⟩, HO0, HO1_3, BK134, HB⟩
      · rw [if_neg c10] at H
        have c10b0 : decide ((a1_0.size : Int) < 1) = false := decide_eq_false c10
        have c10b1 : decide (a1_0.size < 1) = false := decide_eq_false (by omega)
        clear c10
        by_cases c12 : (a1_0.size : Int) > 40
        · rw [if_pos c12] at H
          have c12b0 : decide (40 < (a1_0.size : Int)) = true := decide_eq_true c12
          have c12b1 : decide (40 < a1_0.size) = true := decide_eq_true (by omega)
          clear c12
          have H' := Bvh H
          clear H
          have hcz13_0 : w5.cell? ⟨gb134, 0, none⟩ = some (.string a1_0) := (Aq3 BK134.out 0).trans rfl
          have hcz13_1 : w5.cell? ⟨gb134, 1, none⟩ = some (.int .i64 a1_1) := (Aq3 BK134.out 1).trans rfl
          have hcz13_2 : w5.cell? ⟨gb134, 2, none⟩ = some (.int .i64 a1_2) := (Aq3 BK134.out 2).trans rfl
          have hcz13_3 : w5.cell? ⟨gb134, 3, none⟩ = some (.slice A1_3 l1_3.length c1_3) := (Aq3 BK134.out 3).trans rfl
          have hfz13_0 := Aq2 BK134.out 0
          have hfz13_1 := Aq2 BK134.out 1
          have hfz13_2 := Aq2 BK134.out 2
          have hfz13_3 := Aq2 BK134.out 3
          go_wp2
          go_meet
          case rel => exact ⟨_, (true), (by first | rfl | (simp; done) | (simp [*]; done)), H', ⟨by first | omega | exact Nat.le_refl _⟩, ⟨by (with_reducible repeat (first | apply Kd.V_alloc | apply Kd.V_drewN | apply Kd.V_drew)); exact HO0.out⟩, ⟨by (with_reducible repeat (first | apply Kd.V_alloc | apply Kd.V_drewN | apply Kd.V_drew)); exact HO1_3.out⟩, ⟨by (with_reducible repeat (first | refine Axg ?_ _ | refine Axu ?_ | refine Aqe ?_ _)); exact BK134.out⟩, ⟨by repeat (first | (with_reducible first | exact HB.out | apply Aq4 | apply Aq7 | apply Aq5 | refine Ax2 ?_ GE134.out) | exact HB.out)⟩⟩
        · rw [if_neg c12] at H
          have c12b0 : decide (40 < (a1_0.size : Int)) = false := decide_eq_false c12
          have c12b1 : decide (40 < a1_0.size) = false := decide_eq_false (by omega)
          clear c12
          by_cases c14 : a1_1 = 3
          · rw [if_pos c14] at H
            have c14b0 : (a1_1 == 3) = true := beq_iff_eq.mpr c14
            have c14b1 : (a1_1 != 3) = false := bne_eq_false_iff_eq.mpr c14
            clear c14
            have H' := Bvh H
            clear H
            have hcz15_0 : w5.cell? ⟨gb134, 0, none⟩ = some (.string a1_0) := (Aq3 BK134.out 0).trans rfl
            have hcz15_1 : w5.cell? ⟨gb134, 1, none⟩ = some (.int .i64 a1_1) := (Aq3 BK134.out 1).trans rfl
            have hcz15_2 : w5.cell? ⟨gb134, 2, none⟩ = some (.int .i64 a1_2) := (Aq3 BK134.out 2).trans rfl
            have hcz15_3 : w5.cell? ⟨gb134, 3, none⟩ = some (.slice A1_3 l1_3.length c1_3) := (Aq3 BK134.out 3).trans rfl
            have hfz15_0 := Aq2 BK134.out 0
            have hfz15_1 := Aq2 BK134.out 1
            have hfz15_2 := Aq2 BK134.out 2
            have hfz15_3 := Aq2 BK134.out 3
            go_wp2
            go_meet
            case rel => exact ⟨_, (decide (a1_2 < 0)), (by first | rfl | (simp; done) | (simp [*]; done)), H', ⟨by first | omega | exact Nat.le_refl _⟩, ⟨by (with_reducible repeat (first | apply Kd.V_alloc | apply Kd.V_drewN | apply Kd.V_drew)); exact HO0.out⟩, ⟨by (with_reducible repeat (first | apply Kd.V_alloc | apply Kd.V_drewN | apply Kd.V_drew)); exact HO1_3.out⟩, ⟨by (with_reducible repeat (first | refine Axg ?_ _ | refine Axu ?_ | refine Aqe ?_ _)); exact BK134.out⟩, ⟨by repeat (first | (with_reducible first | exact HB.out | apply Aq4 | apply Aq7 | apply Aq5 | refine Ax2 ?_ GE134.out) | exact HB.out)⟩⟩
          · rw [if_neg c14] at H
            have c14b0 : (a1_1 == 3) = false := beq_eq_false_iff_ne.mpr c14
            have c14b1 : (a1_1 != 3) = true := bne_iff_ne.mpr c14
            have H' := Bvh H
            clear H
            have hcz16_0 : w5.cell? ⟨gb134, 0, none⟩ = some (.string a1_0) := (Aq3 BK134.out 0).trans rfl
            have hcz16_1 : w5.cell? ⟨gb134, 1, none⟩ = some (.int .i64 a1_1) := (Aq3 BK134.out 1).trans rfl
            have hcz16_2 : w5.cell? ⟨gb134, 2, none⟩ = some (.int .i64 a1_2) := (Aq3 BK134.out 2).trans rfl
            have hcz16_3 : w5.cell? ⟨gb134, 3, none⟩ = some (.slice A1_3 l1_3.length c1_3) := (Aq3 BK134.out 3).trans rfl
            have hfz16_0 := Aq2 BK134.out 0
            have hfz16_1 := Aq2 BK134.out 1
            have hfz16_2 := Aq2 BK134.out 2
            have hfz16_3 := Aq2 BK134.out 3
            go_wp2
            go_meet
            case rel => exact ⟨_, (false), (by first | rfl | (simp; done) | (simp [*]; done)), H', ⟨by first | omega | exact Nat.le_refl _⟩, ⟨by (with_reducible repeat (first | apply Kd.V_alloc | apply Kd.V_drewN | apply Kd.V_drew)); exact HO0.out⟩, ⟨by (with_reducible repeat (first | apply Kd.V_alloc | apply Kd.V_drewN | apply Kd.V_drew)); exact HO1_3.out⟩, ⟨by (with_reducible repeat (first | refine Axg ?_ _ | refine Axu ?_ | refine Aqe ?_ _)); exact BK134.out⟩, ⟨by repeat (first | (with_reducible first | exact HB.out | apply Aq4 | apply Aq7 | apply Aq5 | refine Ax2 ?_ GE134.out) | exact HB.out)⟩⟩
 case rest =>
  clear HC4
  obtain ⟨kq, x43_3, rfl, HA, HJ3, HO_0, HO_135003, BK134, HB⟩ := hcut
  cases kq with
  | zero => exact absurd HA.out (by simp [Aq0.j0])
  | succ kj3 =>
    have H := HA.out
    clear HA
    simp only [Aq0.j0] at H
    by_cases c17 : x43_3 = true
    · subst c17
      have H1 : (some (([] : List (S38)), 1)) = some (r1, r2) := by rw [if_pos rfl] at H; exact H
      clear H
      have H := H1
      clear H1
      simp only [Option.some.injEq, Prod.mk.injEq] at H
      obtain ⟨rfl, rfl⟩ := H
      go_wp2
      go_ret2
      exact ⟨_, by first | rfl | (simp [Aqj, Aqi] <;> rfl) | (simp [*, Aqj, Aqi] <;> rfl), Kd.V_nil _ _ _ _ _, by exact HB.out⟩
    · replace c17 := Bool.eq_false_iff.mpr c17
      subst c17
      have H1 : (if a2 ≥ 0 then (Aq0.j1 kj3 l0 a2 l1_3 (decide (a2 < (l1_3.length : Int))) a1_0 a1_1 a1_2 l1_3) else (Aq0.j1 kj3 l0 a2 l1_3 false a1_0 a1_1 a1_2 l1_3)) = some (r1, r2) := by rw [if_neg (show ¬ (false = true) by decide)] at H; exact H
      clear H
      have H := H1
      clear H1
      have HC18 := Bvh H
      clear H
      have hcz19_0 : wc.cell? ⟨gb134, 0, none⟩ = some (.string a1_0) := (Aq3 BK134.out 0).trans rfl
      have hcz19_1 : wc.cell? ⟨gb134, 1, none⟩ = some (.int .i64 a1_1) := (Aq3 BK134.out 1).trans rfl
      have hcz19_2 : wc.cell? ⟨gb134, 2, none⟩ = some (.int .i64 a1_2) := (Aq3 BK134.out 2).trans rfl
      have hcz19_3 : wc.cell? ⟨gb134, 3, none⟩ = some (.slice A1_3 l1_3.length c1_3) := (Aq3 BK134.out 3).trans rfl
      have hfz19_0 := Aq2 BK134.out 0
      have hfz19_1 := Aq2 BK134.out 1
      have hfz19_2 := Aq2 BK134.out 2
      have hfz19_3 := Aq2 BK134.out 3
      go_upto_region 4 with (fail)
      go_cut [53] (fun v53 wc => ∃ (kq : Nat) (x53_17 : Bool), v53 = .bool x53_17 ∧ Aside0 (Aq0.j1 kq l0 a2 l1_3 x53_17 a1_0 a1_1 a1_2 l1_3 = some (r1, r2)) ∧ Aside0 (kq ≤ kj3) ∧ Aside0 (Kd.V k38 38 wc w.heap.size (fun k_ => ((P0_ k_ ∨ P1_3_ k_) ∨ w.heap.size ≤ k_) ∧ k_ ≠ gb134) (.slice A0 l0.length c0) l0) ∧ Aside0 (Kd.V (Kd.int .u8) 5 wc w.heap.size (fun k_ => ((P0_ k_ ∨ P1_3_ k_) ∨ w.heap.size ≤ k_) ∧ k_ ≠ gb134) (.slice A1_3 l1_3.length c1_3) l1_3) ∧ Aside0 (Kd.V (Kd.int .u8) 5 wc w.heap.size (fun k_ => ((P0_ k_ ∨ P1_3_ k_) ∨ w.heap.size ≤ k_) ∧ k_ ≠ gb134) (.slice A1_3 l1_3.length c1_3) l1_3) ∧ Aside0 (wc.heap[gb134]? = some (.cells #[.string a1_0, .int .i64 a1_1, .int .i64 a1_2, (.slice A1_3 l1_3.length c1_3)] 25 (0, 0))) ∧ Aside0 (Below w.heap.size w wc))
      case first =>
       have H := HC18.out
       clear HC18
       by_cases c20 : a2 ≥ 0
       · rw [if_pos c20] at H
         have c20b0 : decide (0 ≤ a2) = true := decide_eq_true c20
         clear c20
         have H' := Bvh H
         clear H
         go_wp2
         go_meet
         case rel => exact ⟨_, (decide (a2 < (l1_3.length : Int))), rfl, H', ⟨by have := HJ3.out; omega⟩, HO_0, HO_135003, HO_135003, BK134, HB⟩
       · rw [if_neg c20] at H
         have c20b0 : decide (0 ≤ a2) = false := decide_eq_false c20
         clear c20
         have H' := Bvh H
         clear H
         go_wp2
         go_meet
         case rel => exact ⟨_, (false), rfl, H', ⟨by have := HJ3.out; omega⟩, HO_0, HO_135003, HO_135003, BK134, HB⟩
      case rest =>
       clear HC18
       obtain ⟨kq, x53_17, rfl, HA, HJ17, HO_0, HO_8, HO_135003, BK134, HB⟩ := hcut
       cases kq with
       | zero => exact absurd HA.out (by simp [Aq0.j1])
       | succ kj17 =>
         have H := HA.out
         clear HA
         simp only [Aq0.j1] at H
         have HC21 := Bvh H
         clear H
         go_upto_if 53 with (fail)
         go_cut [8] (fun v8 wc => ∃ (kq : Nat) (x8_20 : List Int), Aside0 (Aq0.j2 kq l0 x8_20 a1_0 a1_1 a1_2 l1_3 = some (r1, r2)) ∧ Aside0 (kq ≤ kj17) ∧ Aside0 (Kd.V k38 38 wc w.heap.size (fun k_ => ((P0_ k_ ∨ P1_3_ k_) ∨ w.heap.size ≤ k_) ∧ k_ ≠ gb134) (.slice A0 l0.length c0) l0) ∧ Aside0 (Kd.V (Kd.int .u8) 5 wc w.heap.size (fun k_ => ((P0_ k_ ∨ P1_3_ k_) ∨ w.heap.size ≤ k_) ∧ k_ ≠ gb134) v8 x8_20) ∧ Aside0 (Kd.V (Kd.int .u8) 5 wc w.heap.size (fun k_ => ((P0_ k_ ∨ P1_3_ k_) ∨ w.heap.size ≤ k_) ∧ k_ ≠ gb134) (.slice A1_3 l1_3.length c1_3) l1_3) ∧ Aside0 (wc.heap[gb134]? = some (.cells #[.string a1_0, .int .i64 a1_1, .int .i64 a1_2, (.slice A1_3 l1_3.length c1_3)] 25 (0, 0))) ∧ Aside0 (Below w.heap.size w wc))
         case first =>
          have H := HC21.out
          clear HC21
          by_cases c22 : x53_17 = true
          · subst c22
            have H1 : (if 0 ≤ a2 then (if a2 ≤ (l1_3.length : Int) then (Aq0.j2 kj17 l0 (l1_3.take (a2 : Int).toNat) a1_0 a1_1 a1_2 l1_3) else (none)) else (none)) = some (r1, r2) := by rw [if_pos rfl] at H; exact H
            clear H
            have H := H1
            clear H1
            by_cases c23 : 0 ≤ a2
            · rw [if_pos c23] at H
              have c23b0 := eq_true c23
              have c23b1 : decide (0 ≤ a2) = true := decide_eq_true c23
              clear c23
              by_cases c24 : a2 ≤ (l1_3.length : Int)
              · rw [if_pos c24] at H
                have c24b0 := eq_true c24
                have c24b1 : decide (a2 ≤ (l1_3.length : Int)) = true := decide_eq_true c24
                clear c24
                obtain ⟨y135, hy135⟩ : ∃ y_ : List Int, y_ = (l1_3.take (a2 : Int).toNat) := ⟨_, rfl⟩
                replace H : (Aq0.j2 kj17 l0 y135 a1_0 a1_1 a1_2 l1_3) = some (r1, r2) := by first | (rw [hy135]; with_reducible exact H) | (have H2_ := (Option.bind_some _ _).symm.trans H; rw [hy135]; with_reducible exact H2_) | (have H2_ := (Option.bind_some _ _).symm.trans H; with_reducible exact H2_) | with_reducible exact H | (rw [hy135]; exact H) | exact H
                have Ny135 := Bvh hy135
                clear hy135
                have H' := Bvh H
                clear H
                have q25 : (a2 : Int) ≤ ((l1_3.length : Int) : Int) := of_decide_eq_true (by first | (with_reducible assumption) | assumption)
                obtain ⟨i025, hi025, _, hsz25, _⟩ := info_parts Av1
                have hroom25 : l1_3.length ≤ c1_3 := (Kd.V_reads' HO_8.out).2.1
                have hC25 : Kd.F (Kd.int .u8) _ _ A1_3 l1_3.length l1_3 := (Kd.V_at (base := w.heap.size) HO_8.out).2.2
                have hcut25 := cut_to (P := Try.prog) 23 5 .i64 Try.underlying23 hi025 A1_3 l1_3.length c1_3 a2 (of_decide_eq_true (by first | (with_reducible assumption) | assumption)) q25 hroom25
                have hr25 := Kd.F_take (m := (a2 : Int).toNat) hC25 (by omega)
                have hy25 : y135.length = (a2 : Int).toNat := (by rw [Ny135.out, List.length_take]; omega)
                rw [← Ny135.out] at hr25
                rw [← hy25] at hcut25
                have HO139 := Bvh (show Kd.V (Kd.int .u8) 5 _ w.heap.size _ (.slice A1_3 y135.length c1_3) y135 from Kd.V_mk (by omega) hr25)
                have HC139 := Bvh (show y135.length ≤ c1_3 from by omega)
                clear hr25 hC25 hroom25 hi025 hsz25
                have KY25 := Bvh hy25
                clear hy25
                replace q25 := eq_true q25
                go_wp2
                go_meet
                case rel => exact ⟨_, (y135), H', ⟨by have := HJ3.out; have := HJ17.out; omega⟩, HO_0, HO139, HO_135003, BK134, HB⟩
              · rw [if_neg c24] at H
                exact absurd H (by simp)
            · rw [if_neg c23] at H
              exact absurd H (by simp)
          · replace c22 := Bool.eq_false_iff.mpr c22
            subst c22
            have H1 : (Aq0.j2 kj17 l0 l1_3 a1_0 a1_1 a1_2 l1_3) = some (r1, r2) := by rw [if_neg (show ¬ (false = true) by decide)] at H; exact H
            clear H
            have H := H1
            clear H1
            have H' := Bvh H
            clear H
            go_wp2
            go_meet
            case rel => exact ⟨_, (l1_3), H', ⟨by have := HJ3.out; have := HJ17.out; omega⟩, HO_0, HO_8, HO_135003, BK134, HB⟩
         case rest =>
          clear HC21
          obtain ⟨kq, x8_20, HA, HJ20, HO_0, HO_8, HO_135003, BK134, HB⟩ := hcut
          cases kq with
          | zero => exact absurd HA.out (by simp [Aq0.j2])
          | succ kj20 =>
            have H := HA.out
            clear HA
            simp only [Aq0.j2] at H
            replace H := Option.bind_eq_some_iff.mp H
            obtain ⟨⟨t140, t143⟩, A260, H⟩ := H
            replace H : (if a1_1 = 2 then (Aq0.j3 kj20 l0 x8_20 t140 (t140.length : Int) a1_0 a1_1 a1_2 l1_3) else (Aq0.j3 kj20 l0 x8_20 t140 0 a1_0 a1_1 a1_2 l1_3)) = some (r1, r2) := H
            have A26 := Bvh A260
            clear A260
            have HC27 := Bvh H
            clear H
            have hcz28_0 : wc.cell? ⟨gb134, 0, none⟩ = some (.string a1_0) := (Aq3 BK134.out 0).trans rfl
            have hcz28_1 : wc.cell? ⟨gb134, 1, none⟩ = some (.int .i64 a1_1) := (Aq3 BK134.out 1).trans rfl
            have hcz28_2 : wc.cell? ⟨gb134, 2, none⟩ = some (.int .i64 a1_2) := (Aq3 BK134.out 2).trans rfl
            have hcz28_3 : wc.cell? ⟨gb134, 3, none⟩ = some (.slice A1_3 l1_3.length c1_3) := (Aq3 BK134.out 3).trans rfl
            have hfz28_0 := Aq2 BK134.out 0
            have hfz28_1 := Aq2 BK134.out 1
            have hfz28_2 := Aq2 BK134.out 2
            have hfz28_3 := Aq2 BK134.out 3
            go_upto_if 66 with (first | ((with_reducible refine Axm (f := 30) rfl ?_); refine Ajq (some 61) rfl rfl Try.func30 (by kernel_rfl) rfl #[.slice A0 l0.length c0, .string a1_0] rfl (by (try simp only [List.map_toArray, List.map_cons, List.map_nil]); first | done | rfl | (simp only [List.length_drop, List.length_take]; rfl)) ?_; (with_reducible refine (Aq9.calls kj20 (fun k_ => (((P0_ k_ ∨ P1_3_ k_) ∨ w.heap.size ≤ k_) ∧ k_ ≠ gb134)) _ _ l0 a1_0 t140 t143 _ ?side1 A26.out).mono ?_); (case side1 => exact HO_0.out); rintro e w29 ⟨v141, rfl, ho0, hb⟩; refine ⟨_, rfl, ?_⟩; have n0_ := Bvh (Kd.V_below HO_0.out hb); have n1_ := Bvh (Kd.V_below HO_8.out hb); have n2_ := Bvh (Kd.V_below HO_135003.out hb); have n3_ := Bvh (Kd.V_lower (Kd.V_mono (ok' := fun k_ => ((P0_ k_ ∨ P1_3_ k_) ∨ w.heap.size ≤ k_) ∧ k_ ≠ gb134) ho0 (fun k_ hk_ => ⟨Or.elim hk_ (fun hs_ => hs_.1) (fun hn_ => (.inr (Nat.le_trans (Aqb HB.out) hn_))), Or.elim hk_ (fun hs_ => hs_.2) (fun hn_ => (Kd.freshB (g := gb134) (o := .cells #[.string a1_0, .int .i64 a1_1, .int .i64 a1_2, .slice A1_3 l1_3.length c1_3] 25 (0, 0)) BK134.out k_ hn_))⟩)) (Aqb HB.out)); have n4_ := Bvh (Ajl (g := gb134) (o := .cells #[.string a1_0, .int .i64 a1_1, .int .i64 a1_2, .slice A1_3 l1_3.length c1_3] 25 (0, 0)) BK134.out hb); have n5_ := Bvh (Aq1 HB.out hb); clear HO_0; clear HO_8; clear HO_135003; clear BK134; clear HB; have HO_0 := n0_; have HO_8 := n1_; have HO_135003 := n2_; have HO142 := n3_; have BK134 := n4_; have HB := n5_; clear n0_ n1_ n2_ n3_ n4_ n5_; (try clear hb); (try clear hb2); (try clear hk); (try clear hi); (try clear ho0); have hcz30_0 : w29.cell? ⟨gb134, 0, none⟩ = some (.string a1_0) := (Aq3 BK134.out 0).trans rfl; have hcz30_1 : w29.cell? ⟨gb134, 1, none⟩ = some (.int .i64 a1_1) := (Aq3 BK134.out 1).trans rfl; have hcz30_2 : w29.cell? ⟨gb134, 2, none⟩ = some (.int .i64 a1_2) := (Aq3 BK134.out 2).trans rfl; have hcz30_3 : w29.cell? ⟨gb134, 3, none⟩ = some (.slice A1_3 l1_3.length c1_3) := (Aq3 BK134.out 3).trans rfl; have hfz30_0 := Aq2 BK134.out 0; have hfz30_1 := Aq2 BK134.out 1; have hfz30_2 := Aq2 BK134.out 2; have hfz30_3 := Aq2 BK134.out 3))
            go_cut [11] (fun v11 wc => ∃ (kq : Nat) (x11_26 : Int), v11 = .int .i64 x11_26 ∧ Aside0 (Aq0.j3 kq l0 x8_20 t140 x11_26 a1_0 a1_1 a1_2 l1_3 = some (r1, r2)) ∧ Aside0 (kq ≤ kj20) ∧ Aside0 (Kd.V k38 38 wc w.heap.size (fun k_ => ((P0_ k_ ∨ P1_3_ k_) ∨ w.heap.size ≤ k_) ∧ k_ ≠ gb134) (.slice A0 l0.length c0) l0) ∧ Aside0 (Kd.V (Kd.int .u8) 5 wc w.heap.size (fun k_ => ((P0_ k_ ∨ P1_3_ k_) ∨ w.heap.size ≤ k_) ∧ k_ ≠ gb134) u8 x8_20) ∧ Aside0 (Kd.V (Kd.int .u8) 5 wc w.heap.size (fun k_ => ((P0_ k_ ∨ P1_3_ k_) ∨ w.heap.size ≤ k_) ∧ k_ ≠ gb134) v141 t140) ∧ Aside0 (Kd.V (Kd.int .u8) 5 wc w.heap.size (fun k_ => ((P0_ k_ ∨ P1_3_ k_) ∨ w.heap.size ≤ k_) ∧ k_ ≠ gb134) (.slice A1_3 l1_3.length c1_3) l1_3) ∧ Aside0 (wc.heap[gb134]? = some (.cells #[.string a1_0, .int .i64 a1_1, .int .i64 a1_2, (.slice A1_3 l1_3.length c1_3)] 25 (0, 0))) ∧ Aside0 (Below w.heap.size w wc))
            case first =>
             have H := HC27.out
             clear HC27
             by_cases c31 : a1_1 = 2
             · rw [if_pos c31] at H
               have c31b0 : (a1_1 == 2) = true := beq_iff_eq.mpr c31
               have c31b1 : (a1_1 != 2) = false := bne_eq_false_iff_eq.mpr c31
               clear c31
               have H' := Bvh H
               clear H
               obtain ⟨Ao32, co32, eo32⟩ := Kd.V_slice HO142.out
               subst eo32
               go_wp2
               go_meet
               case rel => exact ⟨_, ((t140.length : Int)), rfl, H', ⟨by have := HJ3.out; have := HJ17.out; have := HJ20.out; omega⟩, HO_0, HO_8, HO142, HO_135003, BK134, HB⟩
             · rw [if_neg c31] at H
               have c31b0 : (a1_1 == 2) = false := beq_eq_false_iff_ne.mpr c31
               have c31b1 : (a1_1 != 2) = true := bne_iff_ne.mpr c31
               have H' := Bvh H
               clear H
               go_wp2
               go_meet
               case rel => exact ⟨_, (0), rfl, H', ⟨by have := HJ3.out; have := HJ17.out; have := HJ20.out; omega⟩, HO_0, HO_8, HO142, HO_135003, BK134, HB⟩
            case rest =>
             clear HC27
             obtain ⟨kq, x11_26, rfl, HA, HJ26, HO_0, HO_8, HO_9, HO_135003, BK134, HB⟩ := hcut
             cases kq with
             | zero => exact absurd HA.out (by simp [Aq0.j3])
             | succ kj26 =>
               have H := HA.out
               clear HA
               simp only [Aq0.j3] at H
               have HC33 := Bvh H
               clear H
               have hcz34_0 : wc.cell? ⟨gb134, 0, none⟩ = some (.string a1_0) := (Aq3 BK134.out 0).trans rfl
               have hcz34_1 : wc.cell? ⟨gb134, 1, none⟩ = some (.int .i64 a1_1) := (Aq3 BK134.out 1).trans rfl
               have hcz34_2 : wc.cell? ⟨gb134, 2, none⟩ = some (.int .i64 a1_2) := (Aq3 BK134.out 2).trans rfl
               have hcz34_3 : wc.cell? ⟨gb134, 3, none⟩ = some (.slice A1_3 l1_3.length c1_3) := (Aq3 BK134.out 3).trans rfl
               have hfz34_0 := Aq2 BK134.out 0
               have hfz34_1 := Aq2 BK134.out 1
               have hfz34_2 := Aq2 BK134.out 2
               have hfz34_3 := Aq2 BK134.out 3
               go_upto_if 71 with (fail)
               go_cut [11] (fun v11 wc => ∃ (kq : Nat) (x11_32 : Int), v11 = .int .i64 x11_32 ∧ Aside0 (Aq0.j4 kq l0 x8_20 t140 x11_32 a1_0 a1_1 a1_2 l1_3 = some (r1, r2)) ∧ Aside0 (kq ≤ kj26) ∧ Aside0 (Kd.V k38 38 wc w.heap.size (fun k_ => ((P0_ k_ ∨ P1_3_ k_) ∨ w.heap.size ≤ k_) ∧ k_ ≠ gb134) (.slice A0 l0.length c0) l0) ∧ Aside0 (Kd.V (Kd.int .u8) 5 wc w.heap.size (fun k_ => ((P0_ k_ ∨ P1_3_ k_) ∨ w.heap.size ≤ k_) ∧ k_ ≠ gb134) u8 x8_20) ∧ Aside0 (Kd.V (Kd.int .u8) 5 wc w.heap.size (fun k_ => ((P0_ k_ ∨ P1_3_ k_) ∨ w.heap.size ≤ k_) ∧ k_ ≠ gb134) v141 t140) ∧ Aside0 (Kd.V (Kd.int .u8) 5 wc w.heap.size (fun k_ => ((P0_ k_ ∨ P1_3_ k_) ∨ w.heap.size ≤ k_) ∧ k_ ≠ gb134) (.slice A1_3 l1_3.length c1_3) l1_3) ∧ Aside0 (wc.heap[gb134]? = some (.cells #[.string a1_0, .int .i64 a1_1, .int .i64 a1_2, (.slice A1_3 l1_3.length c1_3)] 25 (0, 0))) ∧ Aside0 (Below w.heap.size w wc))
               case first =>
                have H := HC33.out
                clear HC33
                by_cases c35 : a1_1 = 3
                · rw [if_pos c35] at H
                  have c35b0 : (a1_1 == 3) = true := beq_iff_eq.mpr c35
                  have c35b1 : (a1_1 != 3) = false := bne_eq_false_iff_eq.mpr c35
                  clear c35
                  have H' := Bvh H
                  clear H
                  have hcz36_0 : wc.cell? ⟨gb134, 0, none⟩ = some (.string a1_0) := (Aq3 BK134.out 0).trans rfl
                  have hcz36_1 : wc.cell? ⟨gb134, 1, none⟩ = some (.int .i64 a1_1) := (Aq3 BK134.out 1).trans rfl
                  have hcz36_2 : wc.cell? ⟨gb134, 2, none⟩ = some (.int .i64 a1_2) := (Aq3 BK134.out 2).trans rfl
                  have hcz36_3 : wc.cell? ⟨gb134, 3, none⟩ = some (.slice A1_3 l1_3.length c1_3) := (Aq3 BK134.out 3).trans rfl
                  have hfz36_0 := Aq2 BK134.out 0
                  have hfz36_1 := Aq2 BK134.out 1
                  have hfz36_2 := Aq2 BK134.out 2
                  have hfz36_3 := Aq2 BK134.out 3
                  go_wp2
                  go_meet
                  case rel => exact ⟨_, (a1_2), rfl, H', ⟨by have := HJ3.out; have := HJ17.out; have := HJ20.out; have := HJ26.out; omega⟩, HO_0, HO_8, HO_9, HO_135003, BK134, HB⟩
                · rw [if_neg c35] at H
                  have c35b0 : (a1_1 == 3) = false := beq_eq_false_iff_ne.mpr c35
                  have c35b1 : (a1_1 != 3) = true := bne_iff_ne.mpr c35
                  have H' := Bvh H
                  clear H
                  go_wp2
                  go_meet
                  case rel => exact ⟨_, (x11_26), rfl, H', ⟨by have := HJ3.out; have := HJ17.out; have := HJ20.out; have := HJ26.out; omega⟩, HO_0, HO_8, HO_9, HO_135003, BK134, HB⟩
               case rest =>
                clear HC33
                obtain ⟨kq, x11_32, rfl, HA, HJ32, HO_0, HO_8, HO_9, HO_135003, BK134, HB⟩ := hcut
                cases kq with
                | zero => exact absurd HA.out (by simp [Aq0.j4])
                | succ kj32 =>
                  have H := HA.out
                  clear HA
                  simp only [Aq0.j4] at H
                  have HC37 := Bvh H
                  clear H
                  go_upto_region 12 with (fail)
                  go_cut [92] (fun v92 wc => ∃ (kq : Nat) (x92_36 : Bool), v92 = .bool x92_36 ∧ Aside0 (Aq0.j5 kq l0 x8_20 t140 x11_32 x92_36 a1_0 a1_1 a1_2 l1_3 = some (r1, r2)) ∧ Aside0 (kq ≤ kj32) ∧ Aside0 (Kd.V k38 38 wc w.heap.size (fun k_ => ((P0_ k_ ∨ P1_3_ k_) ∨ w.heap.size ≤ k_) ∧ k_ ≠ gb134) (.slice A0 l0.length c0) l0) ∧ Aside0 (Kd.V (Kd.int .u8) 5 wc w.heap.size (fun k_ => ((P0_ k_ ∨ P1_3_ k_) ∨ w.heap.size ≤ k_) ∧ k_ ≠ gb134) u8 x8_20) ∧ Aside0 (Kd.V (Kd.int .u8) 5 wc w.heap.size (fun k_ => ((P0_ k_ ∨ P1_3_ k_) ∨ w.heap.size ≤ k_) ∧ k_ ≠ gb134) v141 t140) ∧ Aside0 (Kd.V (Kd.int .u8) 5 wc w.heap.size (fun k_ => ((P0_ k_ ∨ P1_3_ k_) ∨ w.heap.size ≤ k_) ∧ k_ ≠ gb134) (.slice A1_3 l1_3.length c1_3) l1_3) ∧ Aside0 (wc.heap[gb134]? = some (.cells #[.string a1_0, .int .i64 a1_1, .int .i64 a1_2, (.slice A1_3 l1_3.length c1_3)] 25 (0, 0))) ∧ Aside0 (Below w.heap.size w wc))
                  case first =>
                   have H := HC37.out
                   clear HC37
                   by_cases c38 : x11_32 > 65536
                   · rw [if_pos c38] at H
                     have c38b0 : decide (65536 < x11_32) = true := decide_eq_true c38
                     clear c38
                     have H' := Bvh H
                     clear H
                     go_wp2
                     go_meet
                     case rel => exact ⟨_, (true), rfl, H', ⟨by have := HJ3.out; have := HJ17.out; have := HJ20.out; have := HJ26.out; have := HJ32.out; omega⟩, HO_0, HO_8, HO_9, HO_135003, BK134, HB⟩
                   · rw [if_neg c38] at H
                     have c38b0 : decide (65536 < x11_32) = false := decide_eq_false c38
                     clear c38
                     by_cases c39 : (wrap64 (x11_32 + (x8_20.length : Int))) > 65536
                     · rw [if_pos c39] at H
                       have c39b0 : decide (65536 < (wrap64 (x11_32 + (x8_20.length : Int)))) = true := decide_eq_true c39
                       clear c39
                       have H' := Bvh H
                       clear H
                       obtain ⟨Ao40, co40, eo40⟩ := Kd.V_slice HO_8.out
                       subst eo40
                       go_wp2
                       go_meet
                       case rel => exact ⟨_, (true), rfl, H', ⟨by have := HJ3.out; have := HJ17.out; have := HJ20.out; have := HJ26.out; have := HJ32.out; omega⟩, HO_0, HO_8, HO_9, HO_135003, BK134, HB⟩
                     · rw [if_neg c39] at H
                       have c39b0 : decide (65536 < (wrap64 (x11_32 + (x8_20.length : Int)))) = false := decide_eq_false c39
                       clear c39
                       by_cases c41 : a1_1 = 3
                       · rw [if_pos c41] at H
                         have c41b0 : (a1_1 == 3) = true := beq_iff_eq.mpr c41
                         have c41b1 : (a1_1 != 3) = false := bne_eq_false_iff_eq.mpr c41
                         clear c41
                         have H' := Bvh H
                         clear H
                         obtain ⟨Ao42, co42, eo42⟩ := Kd.V_slice HO_8.out
                         subst eo42
                         have hcz43_0 : wc.cell? ⟨gb134, 0, none⟩ = some (.string a1_0) := (Aq3 BK134.out 0).trans rfl
                         have hcz43_1 : wc.cell? ⟨gb134, 1, none⟩ = some (.int .i64 a1_1) := (Aq3 BK134.out 1).trans rfl
                         have hcz43_2 : wc.cell? ⟨gb134, 2, none⟩ = some (.int .i64 a1_2) := (Aq3 BK134.out 2).trans rfl
                         have hcz43_3 : wc.cell? ⟨gb134, 3, none⟩ = some (.slice A1_3 l1_3.length c1_3) := (Aq3 BK134.out 3).trans rfl
                         have hfz43_0 := Aq2 BK134.out 0
                         have hfz43_1 := Aq2 BK134.out 1
                         have hfz43_2 := Aq2 BK134.out 2
                         have hfz43_3 := Aq2 BK134.out 3
                         obtain ⟨Ao44, co44, eo44⟩ := Kd.V_slice HO_9.out
                         subst eo44
                         go_wp2
                         go_meet
                         case rel => exact ⟨_, (decide ((t140.length : Int) > 65536)), rfl, H', ⟨by have := HJ3.out; have := HJ17.out; have := HJ20.out; have := HJ26.out; have := HJ32.out; omega⟩, HO_0, HO_8, HO_9, HO_135003, BK134, HB⟩
                       · rw [if_neg c41] at H
                         have c41b0 : (a1_1 == 3) = false := beq_eq_false_iff_ne.mpr c41
                         have c41b1 : (a1_1 != 3) = true := bne_iff_ne.mpr c41
                         have H' := Bvh H
                         clear H
                         obtain ⟨Ao45, co45, eo45⟩ := Kd.V_slice HO_8.out
                         subst eo45
                         have hcz46_0 : wc.cell? ⟨gb134, 0, none⟩ = some (.string a1_0) := (Aq3 BK134.out 0).trans rfl
                         have hcz46_1 : wc.cell? ⟨gb134, 1, none⟩ = some (.int .i64 a1_1) := (Aq3 BK134.out 1).trans rfl
                         have hcz46_2 : wc.cell? ⟨gb134, 2, none⟩ = some (.int .i64 a1_2) := (Aq3 BK134.out 2).trans rfl
                         have hcz46_3 : wc.cell? ⟨gb134, 3, none⟩ = some (.slice A1_3 l1_3.length c1_3) := (Aq3 BK134.out 3).trans rfl
                         have hfz46_0 := Aq2 BK134.out 0
                         have hfz46_1 := Aq2 BK134.out 1
                         have hfz46_2 := Aq2 BK134.out 2
                         have hfz46_3 := Aq2 BK134.out 3
                         go_wp2
                         go_meet
                         case rel => exact ⟨_, (false), rfl, H', ⟨by have := HJ3.out; have := HJ17.out; have := HJ20.out; have := HJ26.out; have := HJ32.out; omega⟩, HO_0, HO_8, HO_9, HO_135003, BK134, HB⟩
                  case rest =>
                   clear HC37
                   obtain ⟨kq, x92_36, rfl, HA, HJ36, HO_0, HO_8, HO_9, HO_135003, BK134, HB⟩ := hcut
                   cases kq with
                   | zero => exact absurd HA.out (by simp [Aq0.j5])
                   | succ kj36 =>
                     have H := HA.out
                     clear HA
                     simp only [Aq0.j5] at H
                     by_cases c47 : x92_36 = true
                     · subst c47
                       have H1 : (some (([] : List (S38)), 11)) = some (r1, r2) := by rw [if_pos rfl] at H; exact H
                       clear H
                       have H := H1
                       clear H1
                       simp only [Option.some.injEq, Prod.mk.injEq] at H
                       obtain ⟨rfl, rfl⟩ := H
                       go_wp2
                       go_ret2
                       exact ⟨_, by first | rfl | (simp [Aqj, Aqi] <;> rfl) | (simp [*, Aqj, Aqi] <;> rfl), Kd.V_nil _ _ _ _ _, by exact HB.out⟩
                     · replace c47 := Bool.eq_false_iff.mpr c47
                       subst c47
                       have H1 : (if (x8_20.length : Int) = 0 then (Aq0.j6 kj36 l0 x8_20 t140 x11_32 (decide ((l1_3.length : Int) > 0)) a1_0 a1_1 a1_2 l1_3) else (Aq0.j6 kj36 l0 x8_20 t140 x11_32 false a1_0 a1_1 a1_2 l1_3)) = some (r1, r2) := by rw [if_neg (show ¬ (false = true) by decide)] at H; exact H
                       clear H
                       have H := H1
                       clear H1
                       have HC48 := Bvh H
                       clear H
                       go_upto_region 14 with (fail)
                       go_cut [101] (fun v101 wc => ∃ (kq : Nat) (x101_47 : Bool), v101 = .bool x101_47 ∧ Aside0 (Aq0.j6 kq l0 x8_20 t140 x11_32 x101_47 a1_0 a1_1 a1_2 l1_3 = some (r1, r2)) ∧ Aside0 (kq ≤ kj36) ∧ Aside0 (Kd.V k38 38 wc w.heap.size (fun k_ => ((P0_ k_ ∨ P1_3_ k_) ∨ w.heap.size ≤ k_) ∧ k_ ≠ gb134) (.slice A0 l0.length c0) l0) ∧ Aside0 (Kd.V (Kd.int .u8) 5 wc w.heap.size (fun k_ => ((P0_ k_ ∨ P1_3_ k_) ∨ w.heap.size ≤ k_) ∧ k_ ≠ gb134) u8 x8_20) ∧ Aside0 (Kd.V (Kd.int .u8) 5 wc w.heap.size (fun k_ => ((P0_ k_ ∨ P1_3_ k_) ∨ w.heap.size ≤ k_) ∧ k_ ≠ gb134) v141 t140) ∧ Aside0 (Kd.V (Kd.int .u8) 5 wc w.heap.size (fun k_ => ((P0_ k_ ∨ P1_3_ k_) ∨ w.heap.size ≤ k_) ∧ k_ ≠ gb134) (.slice A1_3 l1_3.length c1_3) l1_3) ∧ Aside0 (wc.heap[gb134]? = some (.cells #[.string a1_0, .int .i64 a1_1, .int .i64 a1_2, (.slice A1_3 l1_3.length c1_3)] 25 (0, 0))) ∧ Aside0 (Below w.heap.size w wc))
                       case first =>
                        have H := HC48.out
                        clear HC48
                        by_cases c49 : (x8_20.length : Int) = 0
                        · rw [if_pos c49] at H
                          have c49b0 : ((x8_20.length : Int) == 0) = true := beq_iff_eq.mpr c49
                          have c49b1 : ((x8_20.length : Int) != 0) = false := bne_eq_false_iff_eq.mpr c49
                          clear c49
                          have H' := Bvh H
                          clear H
                          obtain ⟨Ao50, co50, eo50⟩ := Kd.V_slice HO_8.out
                          subst eo50
                          have hcz51_0 : wc.cell? ⟨gb134, 0, none⟩ = some (.string a1_0) := (Aq3 BK134.out 0).trans rfl
                          have hcz51_1 : wc.cell? ⟨gb134, 1, none⟩ = some (.int .i64 a1_1) := (Aq3 BK134.out 1).trans rfl
                          have hcz51_2 : wc.cell? ⟨gb134, 2, none⟩ = some (.int .i64 a1_2) := (Aq3 BK134.out 2).trans rfl
                          have hcz51_3 : wc.cell? ⟨gb134, 3, none⟩ = some (.slice A1_3 l1_3.length c1_3) := (Aq3 BK134.out 3).trans rfl
                          have hfz51_0 := Aq2 BK134.out 0
                          have hfz51_1 := Aq2 BK134.out 1
                          have hfz51_2 := Aq2 BK134.out 2
                          have hfz51_3 := Aq2 BK134.out 3
                          go_wp2
                          go_meet
                          case rel => exact ⟨_, (decide ((l1_3.length : Int) > 0)), (by first | rfl | (simp; done) | (simp [*]; done)), H', ⟨by have := HJ3.out; have := HJ17.out; have := HJ20.out; have := HJ26.out; have := HJ32.out; have := HJ36.out; first | omega | exact Nat.le_refl _⟩, ⟨by (with_reducible repeat (first | apply Kd.V_alloc | apply Kd.V_drewN | apply Kd.V_drew)); exact HO_0.out⟩, ⟨by (with_reducible repeat (first | apply Kd.V_alloc | apply Kd.V_drewN | apply Kd.V_drew)); exact HO_8.out⟩, ⟨by (with_reducible repeat (first | apply Kd.V_alloc | apply Kd.V_drewN | apply Kd.V_drew)); exact HO_9.out⟩, ⟨by (with_reducible repeat (first | apply Kd.V_alloc | apply Kd.V_drewN | apply Kd.V_drew)); exact HO_135003.out⟩, ⟨by (with_reducible repeat (first | refine Axg ?_ _ | refine Axu ?_ | refine Aqe ?_ _)); exact BK134.out⟩, ⟨by repeat (first | (with_reducible first | exact HB.out | apply Aq4 | apply Aq7 | apply Aq5 | refine Ax2 ?_ GE134.out) | exact HB.out)⟩⟩
                        · rw [if_neg c49] at H
                          have c49b0 : ((x8_20.length : Int) == 0) = false := beq_eq_false_iff_ne.mpr c49
                          have c49b1 : ((x8_20.length : Int) != 0) = true := bne_iff_ne.mpr c49
                          have c49b2 : ¬ (x8_20 = []) := fun h_ => c49 (by rw [h_]; rfl)
                          have H' := Bvh H
                          clear H
                          obtain ⟨Ao52, co52, eo52⟩ := Kd.V_slice HO_8.out
                          subst eo52
                          go_wp2
                          go_meet
                          case rel => exact ⟨_, (false), rfl, H', ⟨by have := HJ3.out; have := HJ17.out; have := HJ20.out; have := HJ26.out; have := HJ32.out; have := HJ36.out; omega⟩, HO_0, HO_8, HO_9, HO_135003, BK134, HB⟩
                       case rest =>
                        clear HC48
                        obtain ⟨kq, x101_47, rfl, HA, HJ47, HO_0, HO_8, HO_9, HO_135003, BK134, HB⟩ := hcut
                        cases kq with
                        | zero => exact absurd HA.out (by simp [Aq0.j6])
                        | succ kj47 =>
                          have H := HA.out
                          clear HA
                          simp only [Aq0.j6] at H
                          by_cases c53 : x101_47 = true
                          · subst c53
                            have H1 : (some (l0, 0)) = some (r1, r2) := by rw [if_pos rfl] at H; exact H
                            clear H
                            have H := H1
                            clear H1
                            simp only [Option.some.injEq, Prod.mk.injEq] at H
                            obtain ⟨rfl, rfl⟩ := H
                            go_wp2
                            go_ret2
                            exact ⟨_, by first | rfl | (simp [Aqj, Aqi] <;> rfl) | (simp [*, Aqj, Aqi] <;> rfl), by exact Kd.V_mono HO_0.out (fun _ hk => hk.1), by exact HB.out⟩
                          · replace c53 := Bool.eq_false_iff.mpr c53
                            subst c53
                            have H1 : (if a1_1 = 1 then (Aq0.j7 kj47 l0 x8_20 x11_32 ([] : List Int) a1_0 a1_1 a1_2 l1_3) else (if ([] : List Int).length + t140.length < 140737488355328 then (Aq0.j7 kj47 l0 x8_20 x11_32 (([] : List Int) ++ t140) a1_0 a1_1 a1_2 l1_3) else (none))) = some (r1, r2) := by rw [if_neg (show ¬ (false = true) by decide)] at H; exact H
                            clear H
                            have H := H1
                            clear H1
                            have HC54 := Bvh H
                            clear H
                            have hcz55_0 : wc.cell? ⟨gb134, 0, none⟩ = some (.string a1_0) := (Aq3 BK134.out 0).trans rfl
                            have hcz55_1 : wc.cell? ⟨gb134, 1, none⟩ = some (.int .i64 a1_1) := (Aq3 BK134.out 1).trans rfl
                            have hcz55_2 : wc.cell? ⟨gb134, 2, none⟩ = some (.int .i64 a1_2) := (Aq3 BK134.out 2).trans rfl
                            have hcz55_3 : wc.cell? ⟨gb134, 3, none⟩ = some (.slice A1_3 l1_3.length c1_3) := (Aq3 BK134.out 3).trans rfl
                            have hfz55_0 := Aq2 BK134.out 0
                            have hfz55_1 := Aq2 BK134.out 1
                            have hfz55_2 := Aq2 BK134.out 2
                            have hfz55_3 := Aq2 BK134.out 3
                            go_upto_if 105 with (fail)
                            go_cut [12] (fun v12 wc => ∃ (kq : Nat) (x12_53 : List Int), Aside0 (Aq0.j7 kq l0 x8_20 x11_32 x12_53 a1_0 a1_1 a1_2 l1_3 = some (r1, r2)) ∧ Aside0 (kq ≤ kj47) ∧ Aside0 (Kd.V k38 38 wc w.heap.size (fun k_ => ((P0_ k_ ∨ P1_3_ k_) ∨ w.heap.size ≤ k_) ∧ some k_ ≠ (v12 : Value).ownBlock ∧ k_ ≠ gb134) (.slice A0 l0.length c0) l0) ∧ Aside0 (Kd.V (Kd.int .u8) 5 wc w.heap.size (fun k_ => ((P0_ k_ ∨ P1_3_ k_) ∨ w.heap.size ≤ k_) ∧ some k_ ≠ (v12 : Value).ownBlock ∧ k_ ≠ gb134) u8 x8_20) ∧ Aside0 (Kd.R (Kd.int .u8) 5 wc w.heap.size (fun k_ => (w.heap.size ≤ k_)) v12 x12_53) ∧ Aside0 (Kd.V (Kd.int .u8) 5 wc w.heap.size (fun k_ => ((P0_ k_ ∨ P1_3_ k_) ∨ w.heap.size ≤ k_) ∧ some k_ ≠ (v12 : Value).ownBlock ∧ k_ ≠ gb134) (.slice A1_3 l1_3.length c1_3) l1_3) ∧ Aside0 (wc.heap[gb134]? = some (.cells #[.string a1_0, .int .i64 a1_1, .int .i64 a1_2, (.slice A1_3 l1_3.length c1_3)] 25 (0, 0))) ∧ Aside0 (Below w.heap.size w wc))
                            case first =>
                             have H := HC54.out
                             clear HC54
                             by_cases c56 : a1_1 = 1
                             · rw [if_pos c56] at H
                               have c56b0 : (a1_1 == 1) = true := beq_iff_eq.mpr c56
                               have c56b1 : (a1_1 != 1) = false := bne_eq_false_iff_eq.mpr c56
                               clear c56
                               have H' := Bvh H
                               clear H
                               go_wp2
                               go_meet
                               case rel => exact ⟨_, (([] : List Int)), H', ⟨by have := HJ3.out; have := HJ17.out; have := HJ20.out; have := HJ26.out; have := HJ32.out; have := HJ36.out; have := HJ47.out; omega⟩, ⟨by exact Kd.V_mono HO_0.out (fun _ hk => ⟨hk.1, ⟨(by simp [Value.ownBlock]), hk.2⟩⟩)⟩, ⟨by exact Kd.V_mono HO_8.out (fun _ hk => ⟨hk.1, ⟨(by simp [Value.ownBlock]), hk.2⟩⟩)⟩, ⟨by first | exact Kd.R_nil _ _ _ _ _ | exact Kd.N_nil _ _ _ _ _ | exact Kd.V_nil _ _ _ _ _ | exact Kd.Q_nil _ _ _ _ _ | exact Kd.S_nil _ _ _ _ _⟩, ⟨by exact Kd.V_mono HO_135003.out (fun _ hk => ⟨hk.1, ⟨(by simp [Value.ownBlock]), hk.2⟩⟩)⟩, BK134, HB⟩
                             · rw [if_neg c56] at H
                               have c56b0 : (a1_1 == 1) = false := beq_eq_false_iff_ne.mpr c56
                               have c56b1 : (a1_1 != 1) = true := bne_iff_ne.mpr c56
                               by_cases c57 : ([] : List Int).length + t140.length < 140737488355328
                               · rw [if_pos c57] at H
                                 have LMc57 := Bvh c57
                                 clear c57
                                 obtain ⟨y144, hy144⟩ : ∃ y_ : List Int, y_ = (([] : List Int) ++ t140) := ⟨_, rfl⟩
                                 replace H : (Aq0.j7 kj47 l0 x8_20 x11_32 y144 a1_0 a1_1 a1_2 l1_3) = some (r1, r2) := by first | (rw [hy144]; with_reducible exact H) | (have H2_ := (Option.bind_some _ _).symm.trans H; rw [hy144]; with_reducible exact H2_) | (have H2_ := (Option.bind_some _ _).symm.trans H; with_reducible exact H2_) | with_reducible exact H | (rw [hy144]; exact H) | exact H
                                 have Ny144 := Bvh hy144
                                 clear hy144
                                 have H' := Bvh H
                                 clear H
                                 obtain ⟨Ao59, co59, eo59⟩ := Kd.V_slice HO_9.out
                                 subst eo59
                                 go_wp2_with (first | ((with_reducible refine Axc (b := .append) (xs := #[.tmp 106, .tmp 107]) rfl ?_); at_builtin; refine Kd.R_append_rows (Kd.int .u8) (w0 := w) w.heap.size rfl (.tmp 106) (.tmp 107) 23 5 (.int .u8 0) 1 rfl Try.underlying23 Av1 rfl (by decide) (by omega) (.slice none 0 0) ([] : List Int) t140 _ _ _ (fun k_ => (w.heap.size ≤ k_)) (fun _ => False) rfl rfl ?aO ?aR (fun _ _ h => h) (fun _ h => h.elim) ?aF ?aB ?aS ?aL ?_; (case aR => repeat (first | exact (Kd.V_reads' HO_9.out).2.2 | (with_reducible refine Kd.C_alloc ?_ _) | (with_reducible refine Kd.C_drewN ?_ _) | (with_reducible refine Kd.C_drew ?_))); (case aB => exact HB.out); (case aF => exact (fun k_ hk => (Nat.le_trans (Aqb HB.out) hk))); (case aO => exact ((Kd.R_nil _ _ _ _ (fun k_ => (w.heap.size ≤ k_))))); (case aS => exact (Aqb HB.out)); (case aL => have := LMc57.out; omega); intro v145 w58 ho hb hg hat; rw [← Ny144.out] at ho; have n0_ := Bvh (Kd.V_afterv (Kd.V_apart_nil HO_0.out) hg hat); have n1_ := Bvh (Kd.V_afterv (Kd.V_apart_nil HO_8.out) hg hat); have n2_ := Bvh (Kd.V_afterv (Kd.V_apart_nil HO_9.out) hg hat); have n3_ := Bvh (Kd.V_afterv (Kd.V_apart_nil HO_135003.out) hg hat); have n4_ := Bvh (Akl (g := gb134) (o := .cells #[.string a1_0, .int .i64 a1_1, .int .i64 a1_2, .slice A1_3 l1_3.length c1_3] 25 (0, 0)) BK134.out hg (by simp [Value.ownBlock])); have n5_ := Bvh (hb); have n6_ := Bvh (ho); clear HO_0; clear HO_8; clear HO_9; clear HO_135003; clear BK134; clear HB; have HO_0 := n0_; have HO_8 := n1_; have HO_9 := n2_; have HO_135003 := n3_; have BK134 := n4_; have HB := n5_; have HO146 := n6_; clear n0_ n1_ n2_ n3_ n4_ n5_ n6_; clear ho hb hg hat))
                                 go_meet
                                 case rel => exact ⟨_, (y144), H', ⟨by have := HJ3.out; have := HJ17.out; have := HJ20.out; have := HJ26.out; have := HJ32.out; have := HJ36.out; have := HJ47.out; omega⟩, ⟨by exact Kd.V_mono HO_0.out (fun _ hk => ⟨hk.1.1, ⟨hk.2, hk.1.2⟩⟩)⟩, ⟨by exact Kd.V_mono HO_8.out (fun _ hk => ⟨hk.1.1, ⟨hk.2, hk.1.2⟩⟩)⟩, HO146, ⟨by exact Kd.V_mono HO_135003.out (fun _ hk => ⟨hk.1.1, ⟨hk.2, hk.1.2⟩⟩)⟩, BK134, HB⟩
                               · rw [if_neg c57] at H
                                 exact absurd H (by simp)
                            case rest =>
                             clear HC54
                             obtain ⟨kq, x12_53, HA, HJ53, HO_0, HO_8, HO_12, HO_135003, BK134, HB⟩ := hcut
                             cases kq with
                             | zero => exact absurd HA.out (by simp [Aq0.j7])
                             | succ kj53 =>
                               have H := HA.out
                               clear HA
                               simp only [Aq0.j7] at H
                               have H' := Bvh H
                               clear H
                               go_wp2
                               go_loopg [12] kj53 (fun kq v12 w' => ∃ (x12_9 : List Int), Aside0 (Aq0.l0 kq l0 x8_20 x11_32 x12_9 a1_0 a1_1 a1_2 l1_3 = some (r1, r2)) ∧ Aside0 (kq ≤ kj53) ∧ Aside0 (Kd.V k38 38 w' w.heap.size (fun k_ => ((P0_ k_ ∨ P1_3_ k_) ∨ w.heap.size ≤ k_) ∧ some k_ ≠ (v12 : Value).ownBlock ∧ k_ ≠ gb134) (.slice A0 l0.length c0) l0) ∧ Aside0 (Kd.V (Kd.int .u8) 5 w' w.heap.size (fun k_ => ((P0_ k_ ∨ P1_3_ k_) ∨ w.heap.size ≤ k_) ∧ some k_ ≠ (v12 : Value).ownBlock ∧ k_ ≠ gb134) u8 x8_20) ∧ Aside0 (Kd.R (Kd.int .u8) 5 w' w.heap.size (fun k_ => (w.heap.size ≤ k_)) v12 x12_9) ∧ Aside0 (Kd.V (Kd.int .u8) 5 w' w.heap.size (fun k_ => ((P0_ k_ ∨ P1_3_ k_) ∨ w.heap.size ≤ k_) ∧ some k_ ≠ (v12 : Value).ownBlock ∧ k_ ≠ gb134) (.slice A1_3 l1_3.length c1_3) l1_3) ∧ Aside0 (w'.heap[gb134]? = some (.cells #[.string a1_0, .int .i64 a1_1, .int .i64 a1_2, (.slice A1_3 l1_3.length c1_3)] 25 (0, 0))) ∧ Aside0 (Below w.heap.size w w'))
                               case atStart => exact ⟨(x12_53), H', ⟨Nat.le_refl _⟩, HO_0, HO_8, HO_12, HO_135003, BK134, HB⟩
                               case round =>
                                clear H'
                                obtain ⟨x12_9, HA, HK9, HO_0, HO_8, HO_12, HO_135003, BK134, HB⟩ := hrel
                                cases gk with
                                | zero => exact absurd HA.out (by simp [Aq0.l0])
                                | succ k9 =>
                                  have H := HA.out
                                  clear HA
                                  simp only [Aq0.l0] at H
                                  by_cases c60 : (x12_9.length : Int) < x11_32
                                  · rw [if_pos c60] at H
                                    have c60b0 : decide ((x12_9.length : Int) < x11_32) = true := decide_eq_true c60
                                    clear c60
                                    by_cases c61 : x12_9.length < 140737488355328
                                    · rw [if_pos c61] at H
                                      have LMc61 := Bvh c61
                                      clear c61
                                      obtain ⟨y147, hy147⟩ : ∃ y_ : List Int, y_ = (x12_9 ++ [0]) := ⟨_, rfl⟩
                                      replace H : (Aq0.l0 k9 l0 x8_20 x11_32 y147 a1_0 a1_1 a1_2 l1_3) = some (r1, r2) := by first | (rw [hy147]; with_reducible exact H) | (have H2_ := (Option.bind_some _ _).symm.trans H; rw [hy147]; with_reducible exact H2_) | (have H2_ := (Option.bind_some _ _).symm.trans H; with_reducible exact H2_) | with_reducible exact H | (rw [hy147]; exact H) | exact H
                                      have Ny147 := Bvh hy147
                                      clear hy147
                                      have H' := Bvh H
                                      clear H
                                      obtain ⟨Ao62, co62, eo62⟩ := Kd.R_slice HO_12.out
                                      subst eo62
                                      go_wp2_with (first | ((with_reducible refine Axc (b := .append) (xs := #[.tmp 113, .tmp 114]) rfl ?_); at_builtin; refine Kd.R_append (Kd.int .u8) (w0 := w) w.heap.size rfl (.tmp 113) (.tmp 114) 23 5 (.int .u8 0) 1 rfl Try.underlying23 Av1 rfl (by decide) (by omega) (.slice Ao62 x12_9.length co62) x12_9 0 [.int .u8 0] (fun k_ => (w.heap.size ≤ k_)) (fun _ => False) rfl rfl ?aP (fun _ hk => hk.elim) ?aF ?aO ?aB ?aS ?aL ?_; (case aP => exact rfl); (case aB => exact HB.out); (case aF => exact (fun k_ hk => (Nat.le_trans (Aqb HB.out) hk))); (case aO => exact HO_12.out); (case aS => exact (Aqb HB.out)); (case aL => have := LMc61.out; omega); intro v148 w63 ho hb hg hat; rw [← Ny147.out] at ho; have n0_ := Bvh (Kd.V_afterv (ok := (fun k_ => ((P0_ k_ ∨ P1_3_ k_) ∨ w.heap.size ≤ k_) ∧ k_ ≠ gb134)) (by exact Kd.V_mono HO_0.out (fun _ hk => ⟨⟨hk.1, hk.2.2⟩, hk.2.1⟩)) hg hat); have n1_ := Bvh (Kd.V_afterv (ok := (fun k_ => ((P0_ k_ ∨ P1_3_ k_) ∨ w.heap.size ≤ k_) ∧ k_ ≠ gb134)) (by exact Kd.V_mono HO_8.out (fun _ hk => ⟨⟨hk.1, hk.2.2⟩, hk.2.1⟩)) hg hat); have n2_ := Bvh (Kd.V_afterv (ok := (fun k_ => ((P0_ k_ ∨ P1_3_ k_) ∨ w.heap.size ≤ k_) ∧ k_ ≠ gb134)) (by exact Kd.V_mono HO_135003.out (fun _ hk => ⟨⟨hk.1, hk.2.2⟩, hk.2.1⟩)) hg hat); have n3_ := Bvh (Akl (g := gb134) (o := .cells #[.string a1_0, .int .i64 a1_1, .int .i64 a1_2, .slice A1_3 l1_3.length c1_3] 25 (0, 0)) BK134.out hg (Kd.R_ne HO_12.out BK134.out (by decide))); have n4_ := Bvh (hb); have n5_ := Bvh (ho); clear HO_0; clear HO_8; clear HO_135003; clear BK134; clear HB; clear HO_12; have HO_0 := n0_; have HO_8 := n1_; have HO_135003 := n2_; have BK134 := n3_; have HB := n4_; have HO149 := n5_; clear n0_ n1_ n2_ n3_ n4_ n5_; clear ho hb hg hat))
                                      go_roundg k9
                                      case measure => have := HJ3.out; have := HJ17.out; have := HJ20.out; have := HJ26.out; have := HJ32.out; have := HJ36.out; have := HJ47.out; have := HJ53.out; have := HK9.out; omega
                                      case rel => exact ⟨(y147), H', ⟨by have := HJ3.out; have := HJ17.out; have := HJ20.out; have := HJ26.out; have := HJ32.out; have := HJ36.out; have := HJ47.out; have := HJ53.out; have := HK9.out; omega⟩, ⟨by exact Kd.V_mono HO_0.out (fun _ hk => ⟨hk.1.1, ⟨hk.2, hk.1.2⟩⟩)⟩, ⟨by exact Kd.V_mono HO_8.out (fun _ hk => ⟨hk.1.1, ⟨hk.2, hk.1.2⟩⟩)⟩, HO149, ⟨by exact Kd.V_mono HO_135003.out (fun _ hk => ⟨hk.1.1, ⟨hk.2, hk.1.2⟩⟩)⟩, BK134, HB⟩
                                    · rw [if_neg c61] at H
                                      exact absurd H (by simp)
                                  · rw [if_neg c60] at H
                                    have c60b0 : decide ((x12_9.length : Int) < x11_32) = false := decide_eq_false c60
                                    clear c60
                                    have H' := Bvh H
                                    clear H
                                    obtain ⟨Ao64, co64, eo64⟩ := Kd.R_slice HO_12.out
                                    subst eo64
                                    go_wp2
                                    go_loopg [12, 13] k9 (fun kq v12 v13 w' => ∃ (x8_10 : List Int) (x12_10 : List Int) (x13_10 : Int) (x135003_10 : List Int) (u135003 : Value), v13 = .int .i64 x13_10 ∧ Aside0 (Aq0.l1 kq l0 x8_10 x11_32 x12_10 x13_10 a1_0 a1_1 a1_2 x135003_10 = some (r1, r2)) ∧ Aside0 (kq ≤ k9) ∧ Aside0 (Kd.V k38 38 w' w.heap.size (fun k_ => ((P0_ k_ ∨ P1_3_ k_) ∨ w.heap.size ≤ k_) ∧ some k_ ≠ (v12 : Value).ownBlock ∧ k_ ≠ gb134) (.slice A0 l0.length c0) l0) ∧ Aside0 (Kd.V (Kd.int .u8) 5 w' w.heap.size (fun k_ => ((P0_ k_ ∨ P1_3_ k_) ∨ w.heap.size ≤ k_) ∧ some k_ ≠ (v12 : Value).ownBlock ∧ k_ ≠ gb134) u8 x8_10) ∧ Aside0 (Kd.R (Kd.int .u8) 5 w' w.heap.size (fun k_ => (w.heap.size ≤ k_)) v12 x12_10) ∧ Aside0 (Kd.V (Kd.int .u8) 5 w' w.heap.size (fun k_ => ((P0_ k_ ∨ P1_3_ k_) ∨ w.heap.size ≤ k_) ∧ some k_ ≠ (v12 : Value).ownBlock ∧ k_ ≠ gb134) u135003 x135003_10) ∧ Aside0 (w'.heap[gb134]? = some (.cells #[.string a1_0, .int .i64 a1_1, .int .i64 a1_2, u135003] 25 (0, 0))) ∧ Aside0 (Below w.heap.size w w'))
                                    case atStart => exact ⟨(x8_20), (x12_9), (0), (l1_3), (.slice A1_3 l1_3.length c1_3), rfl, H', ⟨Nat.le_refl _⟩, HO_0, HO_8, HO_12, HO_135003, BK134, HB⟩
                                    case round =>
                                     clear H'
                                     obtain ⟨x8_10, x12_10, x13_10, x135003_10, u135003, rfl, HA, HK10, HO_0, HO_8, HO_12, HO_135003, BK134, HB⟩ := hrel
                                     cases gk with
                                     | zero => exact absurd HA.out (by simp [Aq0.l1])
                                     | succ k10 =>
                                       have H := HA.out
                                       clear HA
                                       simp only [Aq0.l1] at H
                                       by_cases c65 : x13_10 < (x8_10.length : Int)
                                       · rw [if_pos c65] at H
                                         have c65b0 : decide (x13_10 < (x8_10.length : Int)) = true := decide_eq_true c65
                                         clear c65
                                         by_cases c66 : (wrap64 (x11_32 + x13_10)) < (x12_10.length : Int)
                                         · rw [if_pos c66] at H
                                           have c66b0 : decide ((wrap64 (x11_32 + x13_10)) < (x12_10.length : Int)) = true := decide_eq_true c66
                                           clear c66
                                           by_cases c67 : 0 ≤ x13_10
                                           · rw [if_pos c67] at H
                                             have c67b0 : decide (0 ≤ x13_10) = true := decide_eq_true c67
                                             clear c67
                                             obtain ⟨ji68, hji68⟩ : ∃ j_ : Int, (wrap64 (x11_32 + x13_10)) = j_ := ⟨_, rfl⟩
                                             replace H : (if 0 ≤ (ji68) then (Aq0.l1 k10 l0 x8_10 x11_32 (x12_10.set ((ji68) : Int).toNat (rd x8_10 x13_10)) (wrap64 (x13_10 + 1)) a1_0 a1_1 a1_2 x135003_10) else (none)) = some (r1, r2) := by first | (rw [hji68] at H; exact H) | (simp only [hji68] at H ⊢; exact H)
                                             (try rw [hji68] at c66b0)
                                             have hji68w : (IntKind.i64.wrap (x11_32 + x13_10)) = ji68 := (Aqv _).trans hji68
                                             by_cases c69 : 0 ≤ (ji68)
                                             · rw [if_pos c69] at H
                                               have c69b0 : decide (0 ≤ (ji68)) = true := decide_eq_true c69
                                               clear c69
                                               obtain ⟨y151, hy151⟩ : ∃ y_ : List Int, y_ = (x12_10.set ((ji68) : Int).toNat (rd x8_10 x13_10)) := ⟨_, rfl⟩
                                               replace H : (Aq0.l1 k10 l0 x8_10 x11_32 y151 (wrap64 (x13_10 + 1)) a1_0 a1_1 a1_2 x135003_10) = some (r1, r2) := by first | (rw [hy151]; with_reducible exact H) | (have H2_ := (Option.bind_some _ _).symm.trans H; rw [hy151]; with_reducible exact H2_) | (have H2_ := (Option.bind_some _ _).symm.trans H; with_reducible exact H2_) | with_reducible exact H | (rw [hy151]; exact H) | exact H
                                               have Ny151 := Bvh hy151
                                               clear hy151
                                               have H' := Bvh H
                                               clear H
                                               obtain ⟨Ao71, co71, eo71⟩ := Kd.V_slice HO_8.out
                                               subst eo71
                                               obtain ⟨Ao72, co72, eo72⟩ := Kd.R_slice HO_12.out
                                               subst eo72
                                               have p150 : 0 ≤ (x13_10 : Int) := of_decide_eq_true (by first | (with_reducible assumption) | assumption)
                                               have q150 : x13_10 < (x8_10.length : Int) := of_decide_eq_true (by first | (with_reducible assumption) | assumption)
                                               obtain ⟨ad150, e150, hx150_0⟩ := Kd.at_int (Kd.V_reads' HO_8.out).2.2 x13_10 p150 q150
                                               cases e150
                                               replace p150 := eq_true p150
                                               replace q150 := eq_true q150
                                               have p70 : 0 ≤ ((ji68) : Int) := of_decide_eq_true (by first | (with_reducible assumption) | assumption)
                                               have q70 : ((ji68) : Int) < ((x12_10.length : Int) : Int) := of_decide_eq_true (by first | (with_reducible assumption) | assumption)
                                               obtain ⟨go70, co70, eo70, gb70, gl70, cl70, HG70⟩ := Kd.R_form HO_12.out (by omega)
                                               (first | cases eo70 | (injection eo70 with ea_ en_ ec_; (first | subst ea_ | (injection ea_ with ea_; subst ea_)); subst ec_; clear en_))
                                               have GB70 := Bvh gb70
                                               have GG70 := Bvh HG70
                                               clear gb70 gl70 HG70
                                               obtain ⟨hx70_0, hf70_0⟩ := Kd.R_celln 0 HO_12.out ((ji68) : Int) p70 q70
                                               replace p70 := eq_true p70
                                               replace q70 := eq_true q70
                                               have HP73 := Kd.R_putg HO_12.out ((ji68) : Int) (rd x8_10 x13_10)
                                               go_wp2_with (first | ((with_reducible refine Bjl (t := 5) (p := 136) rfl ?_); refine Bxw (t := 5) (p := 136) (v := ?vo_w74) (w1 := (wr.setCell ⟨go70, ((ji68) : Int).toNat, none⟩ (.int .u8 (rd x8_10 x13_10)))) ?hg ?ho ?hn ?hr ?_; (case ho => rfl); (case hg => rfl); (case hn => rfl); (case hr => first | (go_simp; done) | (go_simp; rfl)); intro w74 hw; have hg : wr.grownBy w74 (some go70) := (by rw [hw]; exact HP73.2); have hp_ : Kd.R (Kd.int .u8) 5 w74 w.heap.size (fun k_ => (w.heap.size ≤ k_)) (.slice (some ⟨go70, 0, none⟩) x12_10.length co72) y151 := (by rw [hw, Ny151.out]; exact HP73.1); clear HP73; have n0_ := Bvh (Kd.V_afterv (v := (.slice (some ⟨go70, 0, none⟩) x12_10.length co72)) (v1 := (.slice (some ⟨go70, 0, none⟩) x12_10.length co72)) (ok := (fun k_ => ((P0_ k_ ∨ P1_3_ k_) ∨ w.heap.size ≤ k_) ∧ k_ ≠ gb134)) (by exact Kd.V_mono HO_0.out (fun _ hk => ⟨⟨hk.1, hk.2.2⟩, hk.2.1⟩)) hg (.inl rfl)); have n1_ := Bvh (Kd.V_afterv (v := (.slice (some ⟨go70, 0, none⟩) x12_10.length co72)) (v1 := (.slice (some ⟨go70, 0, none⟩) x12_10.length co72)) (ok := (fun k_ => ((P0_ k_ ∨ P1_3_ k_) ∨ w.heap.size ≤ k_) ∧ k_ ≠ gb134)) (by exact Kd.V_mono HO_8.out (fun _ hk => ⟨⟨hk.1, hk.2.2⟩, hk.2.1⟩)) hg (.inl rfl)); have n2_ := Bvh (hp_); have n3_ := Bvh (Kd.V_afterv (v := (.slice (some ⟨go70, 0, none⟩) x12_10.length co72)) (v1 := (.slice (some ⟨go70, 0, none⟩) x12_10.length co72)) (ok := (fun k_ => ((P0_ k_ ∨ P1_3_ k_) ∨ w.heap.size ≤ k_) ∧ k_ ≠ gb134)) (by exact Kd.V_mono HO_135003.out (fun _ hk => ⟨⟨hk.1, hk.2.2⟩, hk.2.1⟩)) hg (.inl rfl)); have n4_ := Bvh (Akl (g := gb134) (o := .cells #[.string a1_0, .int .i64 a1_1, .int .i64 a1_2, u135003] 25 (0, 0)) BK134.out hg (Kd.R_ne HO_12.out BK134.out (by decide))); have n5_ := Bvh ((by rw [hw]; exact Ax2 (HB.out) GB70.out : Below w.heap.size w w74)); clear HO_0; clear HO_8; clear HO_12; clear HO_135003; clear BK134; clear HB; have HO_0 := n0_; have HO_8 := n1_; have HO_12 := n2_; have HO_135003 := n3_; have BK134 := n4_; have HB := n5_; clear n0_ n1_ n2_ n3_ n4_ n5_; clear hg hw hp_))
                                               go_roundg k10
                                               case measure => have := HJ3.out; have := HJ17.out; have := HJ20.out; have := HJ26.out; have := HJ32.out; have := HJ36.out; have := HJ47.out; have := HJ53.out; have := HK9.out; have := HK10.out; omega
                                               case rel => exact ⟨(x8_10), (y151), (wrap64 (x13_10 + 1)), (x135003_10), (u135003), rfl, H', ⟨by have := HJ3.out; have := HJ17.out; have := HJ20.out; have := HJ26.out; have := HJ32.out; have := HJ36.out; have := HJ47.out; have := HJ53.out; have := HK9.out; have := HK10.out; omega⟩, ⟨by exact Kd.V_mono HO_0.out (fun _ hk => ⟨hk.1.1, ⟨hk.2, hk.1.2⟩⟩)⟩, ⟨by exact Kd.V_mono HO_8.out (fun _ hk => ⟨hk.1.1, ⟨hk.2, hk.1.2⟩⟩)⟩, HO_12, ⟨by exact Kd.V_mono HO_135003.out (fun _ hk => ⟨hk.1.1, ⟨hk.2, hk.1.2⟩⟩)⟩, BK134, HB⟩
                                             · rw [if_neg c69] at H
                                               exact absurd H (by simp)
                                           · rw [if_neg c67] at H
                                             exact absurd H (by simp)
                                         · rw [if_neg c66] at H
                                           have c66b0 : decide ((wrap64 (x11_32 + x13_10)) < (x12_10.length : Int)) = false := decide_eq_false c66
                                           clear c66
                                           by_cases c75 : 0 ≤ x13_10
                                           · rw [if_pos c75] at H
                                             have c75b0 : decide (0 ≤ x13_10) = true := decide_eq_true c75
                                             clear c75
                                             by_cases c76 : x12_10.length < 140737488355328
                                             · rw [if_pos c76] at H
                                               have LMc76 := Bvh c76
                                               clear c76
                                               obtain ⟨y153, hy153⟩ : ∃ y_ : List Int, y_ = (x12_10 ++ [rd x8_10 x13_10]) := ⟨_, rfl⟩
                                               replace H : (Aq0.l1 k10 l0 x8_10 x11_32 y153 (wrap64 (x13_10 + 1)) a1_0 a1_1 a1_2 x135003_10) = some (r1, r2) := by first | (rw [hy153]; with_reducible exact H) | (have H2_ := (Option.bind_some _ _).symm.trans H; rw [hy153]; with_reducible exact H2_) | (have H2_ := (Option.bind_some _ _).symm.trans H; with_reducible exact H2_) | with_reducible exact H | (rw [hy153]; exact H) | exact H
                                               have Ny153 := Bvh hy153
                                               clear hy153
                                               have H' := Bvh H
                                               clear H
                                               obtain ⟨Ao77, co77, eo77⟩ := Kd.V_slice HO_8.out
                                               subst eo77
                                               obtain ⟨Ao78, co78, eo78⟩ := Kd.R_slice HO_12.out
                                               subst eo78
                                               have p152 : 0 ≤ (x13_10 : Int) := of_decide_eq_true (by first | (with_reducible assumption) | assumption)
                                               have q152 : x13_10 < (x8_10.length : Int) := of_decide_eq_true (by first | (with_reducible assumption) | assumption)
                                               obtain ⟨ad152, e152, hx152_0⟩ := Kd.at_int (Kd.V_reads' HO_8.out).2.2 x13_10 p152 q152
                                               cases e152
                                               replace p152 := eq_true p152
                                               replace q152 := eq_true q152
                                               go_wp2_with (first | ((with_reducible refine Axc (b := .append) (xs := #[.tmp 137, .tmp 142]) rfl ?_); at_builtin; refine Kd.R_append (Kd.int .u8) (w0 := w) w.heap.size rfl (.tmp 137) (.tmp 142) 23 5 (.int .u8 0) 1 rfl Try.underlying23 Av1 rfl (by decide) (by omega) (.slice Ao78 x12_10.length co78) x12_10 (rd x8_10 x13_10) [.int .u8 (rd x8_10 x13_10)] (fun k_ => (w.heap.size ≤ k_)) (fun _ => False) rfl rfl ?aP (fun _ hk => hk.elim) ?aF ?aO ?aB ?aS ?aL ?_; (case aP => exact rfl); (case aB => exact HB.out); (case aF => exact (fun k_ hk => (Nat.le_trans (Aqb HB.out) hk))); (case aO => exact HO_12.out); (case aS => exact (Aqb HB.out)); (case aL => have := LMc76.out; omega); intro v154 w79 ho hb hg hat; rw [← Ny153.out] at ho; have n0_ := Bvh (Kd.V_afterv (ok := (fun k_ => ((P0_ k_ ∨ P1_3_ k_) ∨ w.heap.size ≤ k_) ∧ k_ ≠ gb134)) (by exact Kd.V_mono HO_0.out (fun _ hk => ⟨⟨hk.1, hk.2.2⟩, hk.2.1⟩)) hg hat); have n1_ := Bvh (Kd.V_afterv (ok := (fun k_ => ((P0_ k_ ∨ P1_3_ k_) ∨ w.heap.size ≤ k_) ∧ k_ ≠ gb134)) (by exact Kd.V_mono HO_8.out (fun _ hk => ⟨⟨hk.1, hk.2.2⟩, hk.2.1⟩)) hg hat); have n2_ := Bvh (Kd.V_afterv (ok := (fun k_ => ((P0_ k_ ∨ P1_3_ k_) ∨ w.heap.size ≤ k_) ∧ k_ ≠ gb134)) (by exact Kd.V_mono HO_135003.out (fun _ hk => ⟨⟨hk.1, hk.2.2⟩, hk.2.1⟩)) hg hat); have n3_ := Bvh (Akl (g := gb134) (o := .cells #[.string a1_0, .int .i64 a1_1, .int .i64 a1_2, u135003] 25 (0, 0)) BK134.out hg (Kd.R_ne HO_12.out BK134.out (by decide))); have n4_ := Bvh (hb); have n5_ := Bvh (ho); clear HO_0; clear HO_8; clear HO_135003; clear BK134; clear HB; clear HO_12; have HO_0 := n0_; have HO_8 := n1_; have HO_135003 := n2_; have BK134 := n3_; have HB := n4_; have HO155 := n5_; clear n0_ n1_ n2_ n3_ n4_ n5_; clear ho hb hg hat))
                                               go_roundg k10
                                               case measure => have := HJ3.out; have := HJ17.out; have := HJ20.out; have := HJ26.out; have := HJ32.out; have := HJ36.out; have := HJ47.out; have := HJ53.out; have := HK9.out; have := HK10.out; omega
                                               case rel => exact ⟨(x8_10), (y153), (wrap64 (x13_10 + 1)), (x135003_10), (u135003), rfl, H', ⟨by have := HJ3.out; have := HJ17.out; have := HJ20.out; have := HJ26.out; have := HJ32.out; have := HJ36.out; have := HJ47.out; have := HJ53.out; have := HK9.out; have := HK10.out; omega⟩, ⟨by exact Kd.V_mono HO_0.out (fun _ hk => ⟨hk.1.1, ⟨hk.2, hk.1.2⟩⟩)⟩, ⟨by exact Kd.V_mono HO_8.out (fun _ hk => ⟨hk.1.1, ⟨hk.2, hk.1.2⟩⟩)⟩, HO155, ⟨by exact Kd.V_mono HO_135003.out (fun _ hk => ⟨hk.1.1, ⟨hk.2, hk.1.2⟩⟩)⟩, BK134, HB⟩
                                             · rw [if_neg c76] at H
                                               exact absurd H (by simp)
                                           · rw [if_neg c75] at H
                                             exact absurd H (by simp)
                                       · rw [if_neg c65] at H
                                         have c65b0 : decide (x13_10 < (x8_10.length : Int)) = false := decide_eq_false c65
                                         clear c65
                                         replace H := Option.bind_eq_some_iff.mp H
                                         obtain ⟨t156, A800, H⟩ := H
                                         replace H : (some (t156, 0)) = some (r1, r2) := H
                                         have A80 := Bvh A800
                                         clear A800
                                         simp only [Option.some.injEq, Prod.mk.injEq] at H
                                         obtain ⟨rfl, rfl⟩ := H
                                         obtain ⟨Ao81, co81, eo81⟩ := Kd.V_slice HO_8.out
                                         subst eo81
                                         have hcz82_0 : wr.cell? ⟨gb134, 0, none⟩ = some (.string a1_0) := (Aq3 BK134.out 0).trans rfl
                                         have hcz82_1 : wr.cell? ⟨gb134, 1, none⟩ = some (.int .i64 a1_1) := (Aq3 BK134.out 1).trans rfl
                                         have hcz82_2 : wr.cell? ⟨gb134, 2, none⟩ = some (.int .i64 a1_2) := (Aq3 BK134.out 2).trans rfl
                                         have hcz82_3 : wr.cell? ⟨gb134, 3, none⟩ = some (u135003) := (Aq3 BK134.out 3).trans rfl
                                         have hfz82_0 := Aq2 BK134.out 0
                                         have hfz82_1 := Aq2 BK134.out 1
                                         have hfz82_2 := Aq2 BK134.out 2
                                         have hfz82_3 := Aq2 BK134.out 3
                                         obtain ⟨Ao83, co83, eo83⟩ := Kd.R_slice HO_12.out
                                         subst eo83
                                         go_wp2_with (first | ((with_reducible refine Axm (f := 24) rfl ?_); refine Ajq (some 148) rfl rfl Try.func24 (by kernel_rfl) rfl #[.slice A0 l0.length c0, .string a1_0, .slice Ao83 x12_10.length co83] rfl (by (try simp only [List.map_toArray, List.map_cons, List.map_nil]); first | done | rfl | (simp only [List.length_drop, List.length_take]; rfl)) ?_; (with_reducible refine (Aq6.calls k10 (fun k_ => (((P0_ k_ ∨ P1_3_ k_) ∨ w.heap.size ≤ k_) ∧ (some k_ ≠ (.slice Ao83 x12_10.length co83 : Value).ownBlock ∧ k_ ≠ gb134))) _ _ l0 a1_0 (fun k_ => some k_ = (.slice Ao83 x12_10.length co83 : Value).ownBlock) _ _ x12_10 t156 _ ?side1 ?side2 A80.out).mono ?_); (case side1 => exact HO_0.out); (case side2 => exact Kd.R_V (Kd.R_tight rfl (Kd.R_types (HO_12.out) BK134.out (by decide)))); rintro e w84 ⟨v157, rfl, ho0, hb⟩; refine ⟨_, rfl, ?_⟩; have n0_ := Bvh (Kd.V_elder' HO_0.out (Kd.N_base ho0) hb); have n1_ := Bvh (Kd.V_elder' HO_8.out (Kd.N_base ho0) hb); have n2_ := Bvh (Kd.R_below HO_12.out hb); have n3_ := Bvh (Kd.V_elder' HO_135003.out (Kd.N_base ho0) hb); have n4_ := Bvh (Kd.N_lower (Kd.N_mono (ok' := fun k_ => ((P0_ k_ ∨ P1_3_ k_) ∨ w.heap.size ≤ k_) ∧ k_ ≠ gb134) ho0 (fun k_ hk_ => ⟨Or.elim hk_ (fun hs_ => Or.elim hs_ (fun hs_ => hs_.1) (fun hs_ => (.inr (((Kd.R_types (HO_12.out) BK134.out (by decide)).1 k_ hs_.symm).1)))) (fun hn_ => (.inr (Nat.le_trans (Aqb HB.out) hn_))), Or.elim hk_ (fun hs_ => Or.elim hs_ (fun hs_ => hs_.2.2) (fun hs_ => ((Kd.R_types (HO_12.out) BK134.out (by decide)).1 k_ hs_.symm).2)) (fun hn_ => (Kd.freshB (g := gb134) (o := .cells #[.string a1_0, .int .i64 a1_1, .int .i64 a1_2, u135003] 25 (0, 0)) BK134.out k_ hn_))⟩)) (Aqb HB.out)); have n5_ := Bvh (Ajl (g := gb134) (o := .cells #[.string a1_0, .int .i64 a1_1, .int .i64 a1_2, u135003] 25 (0, 0)) BK134.out hb); have n6_ := Bvh (Aq1 HB.out hb); clear HO_0; clear HO_8; clear HO_12; clear HO_135003; clear BK134; clear HB; have HO_0 := n0_; have HO_8 := n1_; have HO_12 := n2_; have HO_135003 := n3_; have HO158 := n4_; have BK134 := n5_; have HB := n6_; clear n0_ n1_ n2_ n3_ n4_ n5_ n6_; (try clear hb); (try clear hb2); (try clear hk); (try clear hi); (try clear ho0)))
                                         go_ret2
                                         exact ⟨_, by first | rfl | (simp [Aqj, Aqi] <;> rfl) | (simp [*, Aqj, Aqi] <;> rfl), Kd.N_V (by (with_reducible repeat (first | apply Kd.N_alloc | apply Kd.N_drewN | apply Kd.N_drew)); exact Kd.N_mono HO158.out (fun _ hk => hk.1)), by exact HB.out⟩
end
end Go.Proofs.Ytcgeioingikeeaa.P
