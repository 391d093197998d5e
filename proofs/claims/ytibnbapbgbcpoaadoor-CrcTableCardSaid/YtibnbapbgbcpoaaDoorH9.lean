/- gambrellaw13's awake: the known sum. It returns true. -/
import Derived.Test.YtibnbapbgbcpoaaDoorH6
import Derived.Test.YtibnbapbgbcpoaaDoorPf10
import Derived.Lib.SlBytesConst
namespace Go.Proofs.YtibnbapbgbcpoaaDoor.P
open Go.RowKit Go.Proofs.YtibnbapbgbcpoaaDoor Go.Proofs.YtibnbapbgbcpoaaDoorW.PrintWords Go.Proofs.YtibnbapbgbcpoaaDoorW.PrintLast Go.Proofs.YtibnbapbgbcpoaaDoorW.PrintMore
set_option linter.unusedVariables false
set_option linter.unusedSimpArgs false

theorem C_marked {w : World} {g : Nat} {xs : List Int} {fr : Nat × Nat} (hg : w.heap[g]? = some (.cells (nums .u8 xs).toArray 5 fr)) (hl : xs.length ≤ 9223372036854775807) : (Kd.int .u8).C w (some ⟨g, 0, none⟩) xs.length xs := by
  refine ⟨rfl, hl, fun _ => ⟨⟨g, 0, none⟩, rfl, fun j p hj => ⟨[.int .u8 p], rfl, rfl, fun i u hu => ?_⟩⟩⟩
  have hi : i = 0 := by
    rcases Nat.eq_zero_or_pos i with h | h
    · exact h
    · rw [List.getElem?_eq_none (by simp; omega)] at hu; cases hu
  subst hi
  have hu' : u = .int .u8 p := by simpa using hu.symm
  subst hu'
  rw [show (Kd.int .u8).sz = 1 from rfl, Nat.mul_one, Nat.add_zero, add_plain, cell_of_row w g j _ 5 fr hg]
  simp [nums, hj]
theorem xv1 : crc_Sum.f [49, 50, 51, 52, 53, 54, 55, 56, 57] = some 3421780262 := by kernel_rfl
theorem xv2 : crc_Sum.f [49, 50, 51, 52] = some 2615402659 := by kernel_rfl
theorem xv3 : crc_More.f 2615402659 [53, 54, 55, 56, 57] = some 3421780262 := by kernel_rfl
theorem xv4 : hexT 255 = ⟨#[48, 48, 48, 48, 48, 48, 102, 102]⟩ := by kernel_rfl
theorem xv5 : crc_Read.f ⟨#[99, 98, 102, 52, 51, 57, 50, 54]⟩ = some (3421780262, true) := by kernel_rfl
theorem aw1 (w : World) (g : Nat) (hC : (Kd.int .u8).C w (some ⟨g, 0, none⟩) 9 [49, 50, 51, 52, 53, 54, 55, 56, 57]) :
    Calls Tryd.prog 10 #[.slice (some ⟨g, 0, none⟩) 9 9] w fun e w' => e = .returned (.int .u32 3421780262) ∧ Below w.heap.size w w' :=
  crc_Sum.calls (some ⟨g, 0, none⟩) 9 [49, 50, 51, 52, 53, 54, 55, 56, 57] _ w hC (Nat.le_refl _) xv1
theorem aw2 (w : World) (g : Nat) (hC : (Kd.int .u8).C w (some ⟨g, 0, none⟩) 4 [49, 50, 51, 52]) :
    Calls Tryd.prog 10 #[.slice (some ⟨g, 0, none⟩) 4 4] w fun e w' => e = .returned (.int .u32 2615402659) ∧ Below w.heap.size w w' :=
  crc_Sum.calls (some ⟨g, 0, none⟩) 4 [49, 50, 51, 52] _ w hC (Nat.le_refl _) xv2
theorem aw3 (w : World) (g : Nat) (hC : (Kd.int .u8).C w (some ⟨g, 0, none⟩) 5 [53, 54, 55, 56, 57]) :
    Calls Tryd.prog 12 #[.int .u32 2615402659, .slice (some ⟨g, 0, none⟩) 5 5] w fun e w' => e = .returned (.int .u32 3421780262) ∧ Below w.heap.size w w' :=
  crc_More.calls _ (some ⟨g, 0, none⟩) 5 [53, 54, 55, 56, 57] _ w hC (Nat.le_refl _) xv3
theorem aw4 (w : World) (h : LG w) : Calls Tryd.prog 17 #[.int .u32 255] w fun e w' => e = .returned (.string ⟨#[48, 48, 48, 48, 48, 48, 102, 102]⟩) ∧ Below w.heap.size w w' := by
  have := text_calls 255 (by omega) w h.1
  rw [xv4] at this
  exact this
theorem aw5 (w : World) (h : LG w) : Calls Tryd.prog 16 #[.string ⟨#[99, 98, 102, 52, 51, 57, 50, 54]⟩] w fun e w' => e = .returned (.tuple #[.int .u32 3421780262, .bool true]) ∧ Below w.heap.size w w' :=
  crc_Read.calls _ _ _ w xv5 h
def gambrellaw13_awake.f : Option Bool := some true
set_option maxHeartbeats 16000000 in
set_option maxRecDepth 100000 in
theorem awake13 (w : World) (hL : LG w) : Calls Tryd.prog 9 #[] w fun e w' => e = .returned (.bool true) ∧ Below w.heap.size w w' := by
  have kc := fun (w : World) (C : Array Value) (n c : Nat) => Lib.run_convert_bytes_const (P := Tryd.prog) w 23 5 C n c Tryd.underlying23 Tryd.underlying5
  go_enter Tryd.func9, Tryd.ntmps9
  go_wp2_with (first
    | (go_at_call 16; refine (aw5 w hL).mono ?_; rintro e w1 ⟨rfl, hb⟩; have HB1 := Aside0.mk hb; clear hb)
    | (go_at_call 10; ((with_reducible refine (aw1 _ w1.heap.size ?hC1).mono ?_); case hC1 => exact C_marked (heap_alloc_new _ _) (by simp)); rintro e w2 ⟨rfl, hb⟩; have HB2 := Aside0.mk (below_step (below_alloc HB1.out _) hb); clear hb)
    | (go_at_call 17; refine (aw4 w2 (hL.below HB2.out)).mono ?_; rintro e w3 ⟨rfl, hb⟩; have HB3 := Aside0.mk (below_step HB2.out hb); clear hb)
    | (go_at_call 10; ((with_reducible refine (aw2 _ w3.heap.size ?hC2).mono ?_); case hC2 => exact C_marked (heap_alloc_new _ _) (by simp)); rintro e w4 ⟨rfl, hb⟩; have HB4 := Aside0.mk (below_step (below_alloc HB3.out _) hb); clear hb)
    | (go_at_call 12; ((with_reducible refine (aw3 _ w4.heap.size ?hC3).mono ?_); case hC3 => exact C_marked (heap_alloc_new _ _) (by simp)); rintro e w5 ⟨rfl, hb⟩; have HB5 := Aside0.mk (below_step (below_alloc HB4.out _) hb); clear hb))
  go_ret
  exact ⟨rfl, HB5.out⟩
theorem gambrellaw13_awake.calls (r : Bool) (w : World) (h : gambrellaw13_awake.f = some r) (hL : LG w) :
    Calls Tryd.prog 9 #[] w fun e w' => e = .returned (.bool r) ∧ Below w.heap.size w w' := by
  obtain rfl := Option.some.inj h
  exact awake13 w hL
end Go.Proofs.YtibnbapbgbcpoaaDoor.P
