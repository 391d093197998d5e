/- The law CrcTable: what it returns; of each byte what 0 is, when it took that; each step of sums is told by the table. -/
import Derived.Test.YtibnbapbgbcpoaaDoorG2
import Derived.Test.YtibnbapbgbcpoaaDoorPf15
import Derived.Test.YtibnbapbgbcpoaaDoorH9
import Derived.Deep.RegionHeld3
namespace Go.Proofs.YtibnbapbgbcpoaaDoor.P
open Go.RowKit Go.Proofs.YtibnbapbgbcpoaaDoorW.PrintWords Go.Proofs.YtibnbapbgbcpoaaDoorW.PrintLast Go.Proofs.YtibnbapbgbcpoaaDoorW.PrintMore
set_option linter.unusedVariables false
set_option linter.unusedSimpArgs false

theorem one_calls (b : Nat) (hb : b < 256) (w : World) : Calls Tryd.prog 15 #[.int .u8 (b : Int)] w fun e w' => e = .returned (.int .u32 ((tN b : Nat) : Int)) ∧ Below w.heap.size w w' := by
  have h : gambrelref13_One.f 9 (b : Int) = some ((tN b : Nat) : Int) := by
    unfold gambrelref13_One.f
    rw [show (0 : Int) = ((0 : Nat) : Int) from rfl, ref_take 0 b 9 (by omega) hb (by omega), tk_it 0 b hb, Nat.zero_xor]
    rfl
  exact (gambrelref13_One.calls 9 (b : Int) _ w h).mono fun e w' ⟨he, n, hw⟩ => ⟨he, by rw [hw]; exact pw_below_drewN (Below.refl _ _) n⟩
theorem more1 (s b : Nat) (hs : s < 4294967296) (hb : b < 256) (w : World) (g : Nat) (hC : (Kd.int .u8).C w (some ⟨g, 0, none⟩) 1 [(b : Int)]) :
    Calls Tryd.prog 12 #[.int .u32 (s : Int), .slice (some ⟨g, 0, none⟩) 1 1] w fun e w' => e = .returned (.int .u32 ((4294967295 - tkN (4294967295 - s) b : Nat) : Int)) ∧ Below w.heap.size w w' :=
  more_calls s hs (some ⟨g, 0, none⟩) 1 [(b : Int)] w hC (fun v hv => by
    have : v = (b : Int) := by simpa using hv
    omega)
/-- The table's cell, and what is below. -/
structure TabKept (g b : Nat) (w w' : World) : Prop where
  cell : w'.cell? ⟨g, b, none⟩ = some (.int .u32 ((tN b : Nat) : Int))
  below : Below w.heap.size w w'
theorem TabKept.pair {g b : Nat} {w w' : World} (h : TabKept g b w w') : w'.cell? ⟨g, b, none⟩ = some (.int .u32 ((tN b : Nat) : Int)) ∧ TabKept g b w w' := ⟨h.cell, h⟩
theorem TabKept.step {g b : Nat} {w u v : World} (h : TabKept g b w u) (hb : Below u.heap.size u v) : TabKept g b w v :=
  ⟨(hb.cell (World.block_lt_of_cell? u _ h.cell)).trans h.cell, below_step h.below hb⟩
theorem TabKept.alloc {g b : Nat} {w u : World} (h : TabKept g b w u) (o : Obj) : TabKept g b w (u.alloc o) := h.step (below_alloc (Below.refl _ _) o)
theorem TabKept.drew {g b : Nat} {w u : World} (h : TabKept g b w u) : TabKept g b w u.drew := h.step (below_drew1 (Below.refl _ _))
set_option maxHeartbeats 16000000 in
set_option maxRecDepth 100000 in
theorem crc_table_nat (b s : Nat) (hb : b < 256) (hs : s < 4294967296) (w : World) (hL : LG w) :
    Calls Tryd.prog 4 #[.int .u8 (b : Int), .int .u32 (s : Int)] w fun e w' => e = .returned (.bool true) ∧ Below w.heap.size w w' := by
  obtain ⟨x, hx⟩ : ∃ x, x = 4294967295 - s := ⟨_, rfl⟩
  have hxl : x < 4294967296 := by omega
  have hn : (4294967295 : Int) - (s : Int) = (x : Int) := by omega
  obtain ⟨hy, hyl⟩ := xor_u8 (x % 256) b (by omega) hb
  obtain ⟨y, hye⟩ : ∃ y, (x % 256) ^^^ b = y := ⟨_, rfl⟩
  rw [hye] at hy hyl
  have hy' : Go.bits .xor .u8 (((4294967295 : Int) - (s : Int)) % 256) (b : Int) = (y : Int) := by rw [hn, ← hy]; rfl
  obtain ⟨hz, hzl⟩ := xor_u32 (x / 256) (tN y) (by omega) (tN_lt y hyl)
  have htk : tkN x b = x / 256 ^^^ tN y := by unfold tkN; rw [hye]
  rw [← htk] at hz hzl
  have hz' : Go.bits .xor .u32 (((4294967295 : Int) - (s : Int)) / 256) ((tN y : Nat) : Int) = ((tkN x b : Nat) : Int) := by rw [hn, ← hz]; rfl
  have HM := fun (W : World) (g : Nat) => more1 s b hs hb W g
  rw [← hx] at HM
  obtain ⟨q, hq⟩ : ∃ q, q = tkN x b := ⟨_, rfl⟩
  rw [← hq] at hz' HM hzl
  have HMA := Aside0.mk HM
  clear hx hn hye hz hy htk hxl hq HM
  go_enter Tryd.func4, Tryd.ntmps4
  go_wp2_with (first
    | (go_at_call 9; refine (awake13 w hL).mono ?_; rintro e w1 ⟨rfl, hb⟩; have HB1 := Aside0.mk hb; clear hb)
    | (go_at_call 14; refine (table_calls _).mono ?_; rintro e w2 ⟨rfl, hb⟩; have HB2 := Aside0.mk (below_step HB1.out hb); clear hb)
    | (refine wpList_store_row rfl 28 (.tmp 6) (.tmp 10) rfl w2.heap.size (tabRow 256) rfl rfl 28 _ (heap_alloc_new _ _) (by kernel_rfl) (by kernel_rfl) (by kernel_rfl) ?_
       have HB3 : Below w.heap.size w ((w2.alloc (Obj.cells Tryd.zeroCells28 28)).setRow w2.heap.size (tabRow 256)) := by
         have hb2 := below_alloc HB2.out (Obj.cells Tryd.zeroCells28 28)
         have hs := HB2.out.size
         exact ⟨hb2.os, hb2.tape, hb2.output, by rw [size_setRow]; exact hb2.size, fun k hk => (setRow_other _ _ _ _ (by omega)).trans (hb2.block k hk)⟩
       have HT : ((w2.alloc (Obj.cells Tryd.zeroCells28 28)).setRow w2.heap.size (tabRow 256)).heap[w2.heap.size]? = some (.cells (tabRow 256) 28 (0, 0)) := setRow_heap _ _ _ _ _ _ (heap_alloc_new _ _)
       have hc1 := (blk_cell HT y).trans (tab_at y hyl)
       have hc2 := (blk_cell HT b).trans (tab_at b hb)
       have HA3 := Aside0.mk HB3
       clear HB3 HT))
  generalize (w2.alloc (Obj.cells Tryd.zeroCells28 28)).setRow w2.heap.size (tabRow 256) = w3 at hc2 HA3 ⊢
  have hk0 : TabKept w2.heap.size b w w3 := ⟨hc2, HA3.out⟩
  clear hc1 hy' hz'
  have hbi0 : (0 : Int) ≤ (b : Int) := by omega
  have hbi1 : (b : Int) < 256 := by omega
  go_region_held3 (fun w' => w'.cell? ⟨w2.heap.size, b, none⟩ = some (.int .u32 ((tN b : Nat) : Int)) ∧ TabKept w2.heap.size b w w')
    (first
      | exact ⟨hc2, hk0.drew⟩
      | (go_split_ands
         first
          | exact TabKept.pair (TabKept.step (by assumption) hb5)
          | exact TabKept.pair (TabKept.step (by assumption) hb4)
          | exact TabKept.pair (TabKept.alloc (by assumption) _))
      | go_keep
      )
    (first
      | (go_at_call 15; refine (one_calls b hb _).mono ?_; rintro e w4 ⟨rfl, hb4⟩)
      | (go_at_call 12; ((with_reducible refine (HMA.out _ _ ?hC1).mono ?_); case hC1 => exact C_marked (heap_alloc_new _ _) (by simp)); rintro e w5 ⟨rfl, hb5⟩))
  have hq : ((((4294967295 - q : Nat) : Int) == IntKind.u32.wrap (4294967295 - (q : Int))) : Bool) = true := by
    rw [IntKind.wrap_u32]
    exact beq_iff_eq.2 (by omega)
  rw [hq]
  go_wp2
  go_ret
  exact ⟨rfl, (show TabKept w2.heap.size b w w5 from And.right (by assumption)).below⟩
theorem crc_table (b s : Int) (w : World) (w0 : (Lit.int .u8 b).wf = true) (w1 : (Lit.int .u32 s).wf = true) (hL : LG w) :
    Calls Tryd.prog 4 #[.int .u8 b, .int .u32 s] w fun e w' => e = .returned (.bool true) ∧ Below w.heap.size w w' := by
  have hb := u8_in w0
  obtain ⟨n, rfl, hn⟩ := u32_nat w1
  obtain ⟨c, rfl⟩ := Int.eq_ofNat_of_zero_le hb.1
  exact crc_table_nat c n (by omega) hn w hL
end Go.Proofs.YtibnbapbgbcpoaaDoor.P
