/- Cut out of this seat's own texts and of the words that the kit's print laid for it, by a program of this seat (wip/tools/shake.py): what the claim needs of them. -/
import Derived.Test.YtcgeioingikeeaaVr6
import Derived.Laws.StructEq
import Derived.Test.YtcgeioingikeeaaRows
import Derived.Deep.SlicePairs
import Derived.ChangeArms
import Derived.ChangeSlices
import Derived.WalkKit
import Derived.ProofKit
import Derived.OpenShut
import Derived.ShutString
import Derived.ChangeOld
import Derived.Below
import Derived.SizedLaws
import Derived.Lib.SmallJoins
import Derived.Deep.Slices
open Go.RowKit Go.Proofs.YtcgeioingikeeaaW.PrintWords Go.Proofs.YtcgeioingikeeaaW.PrintLast Go.Proofs.YtcgeioingikeeaaW.PrintMore
set_option linter.unusedSimpArgs false
set_option linter.unusedVariables false
set_option maxHeartbeats 16000000
set_option maxRecDepth 100000
namespace Go.Proofs.Ytcgeioingikeeaa.P
section
section
variable {w : World}
theorem fin2 {b : Nat} {x0 x1 x2 x3 x4 x5 x6 x7 t0 t1 t2 : Value} (hx : VarX w b x0 x1 x2 x3 x4 x5 x6 x7) (ht : VarT w (b + 1) t0 t1 t2) (y0 y1 y2 y3 y4 y5 y6 y7 u0 u1 u2 : Value) : (w.frozen? ⟨b, 0, none⟩ = false ∧ w.cell? ⟨b, 0, none⟩ = some x0 ∧ (w.setCell ⟨b, 0, none⟩ y0).frozen? ⟨b, 1, none⟩ = false ∧ (w.setCell ⟨b, 0, none⟩ y0).cell? ⟨b, 1, none⟩ = some x1 ∧ ((w.setCell ⟨b, 0, none⟩ y0).setCell ⟨b, 1, none⟩ y1).frozen? ⟨b, 2, none⟩ = false ∧ ((w.setCell ⟨b, 0, none⟩ y0).setCell ⟨b, 1, none⟩ y1).cell? ⟨b, 2, none⟩ = some x2 ∧ (((w.setCell ⟨b, 0, none⟩ y0).setCell ⟨b, 1, none⟩ y1).setCell ⟨b, 2, none⟩ y2).frozen? ⟨b, 3, none⟩ = false ∧ (((w.setCell ⟨b, 0, none⟩ y0).setCell ⟨b, 1, none⟩ y1).setCell ⟨b, 2, none⟩ y2).cell? ⟨b, 3, none⟩ = some x3 ∧ ((((w.setCell ⟨b, 0, none⟩ y0).setCell ⟨b, 1, none⟩ y1).setCell ⟨b, 2, none⟩ y2).setCell ⟨b, 3, none⟩ y3).frozen? ⟨b, 4, none⟩ = false ∧ ((((w.setCell ⟨b, 0, none⟩ y0).setCell ⟨b, 1, none⟩ y1).setCell ⟨b, 2, none⟩ y2).setCell ⟨b, 3, none⟩ y3).cell? ⟨b, 4, none⟩ = some x4 ∧ (((((w.setCell ⟨b, 0, none⟩ y0).setCell ⟨b, 1, none⟩ y1).setCell ⟨b, 2, none⟩ y2).setCell ⟨b, 3, none⟩ y3).setCell ⟨b, 4, none⟩ y4).frozen? ⟨b, 5, none⟩ = false ∧ (((((w.setCell ⟨b, 0, none⟩ y0).setCell ⟨b, 1, none⟩ y1).setCell ⟨b, 2, none⟩ y2).setCell ⟨b, 3, none⟩ y3).setCell ⟨b, 4, none⟩ y4).cell? ⟨b, 5, none⟩ = some x5 ∧ ((((((w.setCell ⟨b, 0, none⟩ y0).setCell ⟨b, 1, none⟩ y1).setCell ⟨b, 2, none⟩ y2).setCell ⟨b, 3, none⟩ y3).setCell ⟨b, 4, none⟩ y4).setCell ⟨b, 5, none⟩ y5).frozen? ⟨b, 6, none⟩ = false ∧ ((((((w.setCell ⟨b, 0, none⟩ y0).setCell ⟨b, 1, none⟩ y1).setCell ⟨b, 2, none⟩ y2).setCell ⟨b, 3, none⟩ y3).setCell ⟨b, 4, none⟩ y4).setCell ⟨b, 5, none⟩ y5).cell? ⟨b, 6, none⟩ = some x6 ∧ (((((((w.setCell ⟨b, 0, none⟩ y0).setCell ⟨b, 1, none⟩ y1).setCell ⟨b, 2, none⟩ y2).setCell ⟨b, 3, none⟩ y3).setCell ⟨b, 4, none⟩ y4).setCell ⟨b, 5, none⟩ y5).setCell ⟨b, 6, none⟩ y6).frozen? ⟨b, 7, none⟩ = false ∧ (((((((w.setCell ⟨b, 0, none⟩ y0).setCell ⟨b, 1, none⟩ y1).setCell ⟨b, 2, none⟩ y2).setCell ⟨b, 3, none⟩ y3).setCell ⟨b, 4, none⟩ y4).setCell ⟨b, 5, none⟩ y5).setCell ⟨b, 6, none⟩ y6).cell? ⟨b, 7, none⟩ = some x7) ∧ (((((((((w.setCell ⟨b, 0, none⟩ y0).setCell ⟨b, 1, none⟩ y1).setCell ⟨b, 2, none⟩ y2).setCell ⟨b, 3, none⟩ y3).setCell ⟨b, 4, none⟩ y4).setCell ⟨b, 5, none⟩ y5).setCell ⟨b, 6, none⟩ y6).setCell ⟨b, 7, none⟩ y7).frozen? ⟨b + 1, 0, none⟩ = false ∧ ((((((((w.setCell ⟨b, 0, none⟩ y0).setCell ⟨b, 1, none⟩ y1).setCell ⟨b, 2, none⟩ y2).setCell ⟨b, 3, none⟩ y3).setCell ⟨b, 4, none⟩ y4).setCell ⟨b, 5, none⟩ y5).setCell ⟨b, 6, none⟩ y6).setCell ⟨b, 7, none⟩ y7).cell? ⟨b + 1, 0, none⟩ = some t0 ∧ (((((((((w.setCell ⟨b, 0, none⟩ y0).setCell ⟨b, 1, none⟩ y1).setCell ⟨b, 2, none⟩ y2).setCell ⟨b, 3, none⟩ y3).setCell ⟨b, 4, none⟩ y4).setCell ⟨b, 5, none⟩ y5).setCell ⟨b, 6, none⟩ y6).setCell ⟨b, 7, none⟩ y7).setCell ⟨b + 1, 0, none⟩ u0).frozen? ⟨b + 1, 1, none⟩ = false ∧ (((((((((w.setCell ⟨b, 0, none⟩ y0).setCell ⟨b, 1, none⟩ y1).setCell ⟨b, 2, none⟩ y2).setCell ⟨b, 3, none⟩ y3).setCell ⟨b, 4, none⟩ y4).setCell ⟨b, 5, none⟩ y5).setCell ⟨b, 6, none⟩ y6).setCell ⟨b, 7, none⟩ y7).setCell ⟨b + 1, 0, none⟩ u0).cell? ⟨b + 1, 1, none⟩ = some t1 ∧ ((((((((((w.setCell ⟨b, 0, none⟩ y0).setCell ⟨b, 1, none⟩ y1).setCell ⟨b, 2, none⟩ y2).setCell ⟨b, 3, none⟩ y3).setCell ⟨b, 4, none⟩ y4).setCell ⟨b, 5, none⟩ y5).setCell ⟨b, 6, none⟩ y6).setCell ⟨b, 7, none⟩ y7).setCell ⟨b + 1, 0, none⟩ u0).setCell ⟨b + 1, 1, none⟩ u1).frozen? ⟨b + 1, 2, none⟩ = false ∧ ((((((((((w.setCell ⟨b, 0, none⟩ y0).setCell ⟨b, 1, none⟩ y1).setCell ⟨b, 2, none⟩ y2).setCell ⟨b, 3, none⟩ y3).setCell ⟨b, 4, none⟩ y4).setCell ⟨b, 5, none⟩ y5).setCell ⟨b, 6, none⟩ y6).setCell ⟨b, 7, none⟩ y7).setCell ⟨b + 1, 0, none⟩ u0).setCell ⟨b + 1, 1, none⟩ u1).cell? ⟨b + 1, 2, none⟩ = some t2) ∧ VarX (((((((((((w.setCell ⟨b, 0, none⟩ y0).setCell ⟨b, 1, none⟩ y1).setCell ⟨b, 2, none⟩ y2).setCell ⟨b, 3, none⟩ y3).setCell ⟨b, 4, none⟩ y4).setCell ⟨b, 5, none⟩ y5).setCell ⟨b, 6, none⟩ y6).setCell ⟨b, 7, none⟩ y7).setCell ⟨b + 1, 0, none⟩ u0).setCell ⟨b + 1, 1, none⟩ u1).setCell ⟨b + 1, 2, none⟩ u2) b y0 y1 y2 y3 y4 y5 y6 y7 ∧ VarT (((((((((((w.setCell ⟨b, 0, none⟩ y0).setCell ⟨b, 1, none⟩ y1).setCell ⟨b, 2, none⟩ y2).setCell ⟨b, 3, none⟩ y3).setCell ⟨b, 4, none⟩ y4).setCell ⟨b, 5, none⟩ y5).setCell ⟨b, 6, none⟩ y6).setCell ⟨b, 7, none⟩ y7).setCell ⟨b + 1, 0, none⟩ u0).setCell ⟨b + 1, 1, none⟩ u1).setCell ⟨b + 1, 2, none⟩ u2) (b + 1) u0 u1 u2 := by
 obtain ⟨a0, b0, a1, b1, a2, b2, a3, b3, a4, b4, a5, b5, a6, b6, a7, b7, hX⟩ := hx.put y0 y1 y2 y3 y4 y5 y6 y7
 have ht8 : VarT ((((((((w.setCell ⟨b, 0, none⟩ y0).setCell ⟨b, 1, none⟩ y1).setCell ⟨b, 2, none⟩ y2).setCell ⟨b, 3, none⟩ y3).setCell ⟨b, 4, none⟩ y4).setCell ⟨b, 5, none⟩ y5).setCell ⟨b, 6, none⟩ y6).setCell ⟨b, 7, none⟩ y7) (b + 1) t0 t1 t2 := (Axo y0 y1 y2 y3 y4 y5 y6 y7 (show b + 1 ≠ b by omega)).trans ht
 obtain ⟨g0, g1, g2, g3, g4, g5, hT⟩ := ht8.facts u0 u1 u2
 refine ⟨⟨a0, b0, a1, b1, a2, b2, a3, b3, a4, b4, a5, b5, a6, b6, a7, b7⟩, ⟨g0, g1, g2, g3, g4, g5⟩, ?_, hT⟩
 show _ = _
 rw [Below.heap_setCell _ ⟨b + 1, 2, none⟩ _ _ (show b ≠ b + 1 by omega), Below.heap_setCell _ ⟨b + 1, 1, none⟩ _ _ (show b ≠ b + 1 by omega), Below.heap_setCell _ ⟨b + 1, 0, none⟩ _ _ (show b ≠ b + 1 by omega)]
 exact hX
def Avi (Pf : Nat → Prop) (w : World) (F : List S38) (P : List S25) (q n : Int) (nn : List Int) (cr : Int) (dw : Bool) (pk er : Int) (dt : List Int) (nm : List ByteArray) (e : Ending) (w' : World) : Prop :=
 ∃ (A0 : Option Addr) (c0 : Nat) (A1 : Option Addr) (c1 : Nat) (A4 : Option Addr) (c4 : Nat) (Ay : Option Addr) (cy : Nat) (Az : Option Addr) (cz : Nat), e = .returned (.tuple #[.agg #[.slice A0 F.length c0, .slice A1 P.length c1, .int .i64 q, .int .i64 n, .slice A4 nn.length c4, .int .i64 cr, .bool dw, .int .i64 pk], .agg #[.int .i64 er, .slice Ay dt.length cy, .slice Az nm.length cz]]) ∧
  Kd.V k38 38 w' 0 (fun k => Pf k ∨ w.heap.size ≤ k) (.slice A0 F.length c0) F ∧ Kd.V k25 25 w' 0 (fun k => Pf k ∨ w.heap.size ≤ k) (.slice A1 P.length c1) P ∧ Kd.V (Kd.int .i64) 3 w' 0 (fun k => Pf k ∨ w.heap.size ≤ k) (.slice A4 nn.length c4) nn ∧
  Kd.V (Kd.int .u8) 5 w' 0 (fun k => Pf k ∨ w.heap.size ≤ k) (.slice Ay dt.length cy) dt ∧ Kd.V Kd.string 9 w' 0 (fun k => Pf k ∨ w.heap.size ≤ k) (.slice Az nm.length cz) nm ∧ Below w.heap.size w w'
theorem Ajb (A0 : Option Addr) (c0 : Nat) (F : List S38) (A1 : Option Addr) (c1 : Nat) (P : List S25) (q n : Int) (A4 : Option Addr) (c4 : Nat) (nn : List Int) (cr : Int) (dw : Bool) (pk : Int) (d : S76) (A5 : Option Addr) (c5 : Nat) (A7 : Option Addr) (c7 : Nat) (Pf : Nat → Prop) (hlt : ∀ k, Pf k → k < w.heap.size) (hF : Kd.V k38 38 w 0 Pf (.slice A0 F.length c0) F) (hQ : Kd.V k25 25 w 0 Pf (.slice A1 P.length c1) P) (hN : Kd.V (Kd.int .i64) 3 w 0 Pf (.slice A4 nn.length c4) nn) (hD : Kd.V (Kd.int .u8) 5 w 0 Pf (.slice A5 d.f1.f3.length c5) d.f1.f3) (hM : Kd.V (Kd.int .i64) 3 w 0 Pf (.slice A7 d.f4.length c7) d.f4) : ∃ W, Aside0 (((((w.alloc (.cells #[.slice A0 F.length c0, .slice A1 P.length c1, .int .i64 q, .int .i64 n, .slice A4 nn.length c4, .int .i64 cr, .bool dw, .int .i64 pk] 71)).alloc (.cells #[.int .i64 d.f0, .string d.f1.f0, .int .i64 d.f1.f1, .int .i64 d.f1.f2, .slice A5 d.f1.f3.length c5, .string d.f2, .string d.f3, .slice A7 d.f4.length c7, .int .i64 d.f5] 76)).alloc (.cells #[.slice none 0 0, .slice none 0 0, .int .i64 0, .int .i64 0, .slice none 0 0, .int .i64 0, .bool false, .int .i64 0] 71)).alloc (.cells #[.int .i64 0, .slice none 0 0, .slice none 0 0] 73)) = W) ∧ Aside0 (Below w.heap.size w W) ∧ Aside0 (VarX W w.heap.size (.slice A0 F.length c0) (.slice A1 P.length c1) (.int .i64 q) (.int .i64 n) (.slice A4 nn.length c4) (.int .i64 cr) (.bool dw) (.int .i64 pk)) ∧ Aside0 (VarD W (w.heap.size + 1) d A5 c5 A7 c7) ∧ Aside0 (VarX W (w.heap.size + 1 + 1) (.slice none 0 0) (.slice none 0 0) (.int .i64 0) (.int .i64 0) (.slice none 0 0) (.int .i64 0) (.bool false) (.int .i64 0)) ∧ Aside0 (VarT W (w.heap.size + 1 + 1 + 1) (.int .i64 0) (.slice none 0 0) (.slice none 0 0)) ∧ Aside0 (W.heap.size = w.heap.size + 4) ∧ Aside0 (Kd.V k38 38 W 0 Pf (.slice A0 F.length c0) F) ∧ Aside0 (Kd.V k25 25 W 0 Pf (.slice A1 P.length c1) P) ∧ Aside0 (Kd.V (Kd.int .i64) 3 W 0 Pf (.slice A4 nn.length c4) nn) ∧ Aside0 (Kd.V (Kd.int .u8) 5 W 0 Pf (.slice A5 d.f1.f3.length c5) d.f1.f3) ∧ Aside0 (Kd.V (Kd.int .i64) 3 W 0 Pf (.slice A7 d.f4.length c7) d.f4) ∧ Aside0 (¬ Out Pf (w.heap.size + 4) (w.heap.size + 0)) ∧ Aside0 (¬ Out Pf (w.heap.size + 4) (w.heap.size + 1 + 1)) ∧ Aside0 (¬ Out Pf (w.heap.size + 4) (w.heap.size + 1 + 1 + 1)) ∧ Aside0 (∀ k, Out Pf (w.heap.size + 4) k → k < w.heap.size ∨ w.heap.size + 4 ≤ k) := by
 have hb0 : Below w.heap.size w ((((w.alloc (.cells #[.slice A0 F.length c0, .slice A1 P.length c1, .int .i64 q, .int .i64 n, .slice A4 nn.length c4, .int .i64 cr, .bool dw, .int .i64 pk] 71)).alloc (.cells #[.int .i64 d.f0, .string d.f1.f0, .int .i64 d.f1.f1, .int .i64 d.f1.f2, .slice A5 d.f1.f3.length c5, .string d.f2, .string d.f3, .slice A7 d.f4.length c7, .int .i64 d.f5] 76)).alloc (.cells #[.slice none 0 0, .slice none 0 0, .int .i64 0, .int .i64 0, .slice none 0 0, .int .i64 0, .bool false, .int .i64 0] 71)).alloc (.cells #[.int .i64 0, .slice none 0 0, .slice none 0 0] 73)) := Aq4 (Aq4 (Aq4 (Aq4 (Below.refl _ _) _) _) _) _
 have hx1 : VarX ((((w.alloc (.cells #[.slice A0 F.length c0, .slice A1 P.length c1, .int .i64 q, .int .i64 n, .slice A4 nn.length c4, .int .i64 cr, .bool dw, .int .i64 pk] 71)).alloc (.cells #[.int .i64 d.f0, .string d.f1.f0, .int .i64 d.f1.f1, .int .i64 d.f1.f2, .slice A5 d.f1.f3.length c5, .string d.f2, .string d.f3, .slice A7 d.f4.length c7, .int .i64 d.f5] 76)).alloc (.cells #[.slice none 0 0, .slice none 0 0, .int .i64 0, .int .i64 0, .slice none 0 0, .int .i64 0, .bool false, .int .i64 0] 71)).alloc (.cells #[.int .i64 0, .slice none 0 0, .slice none 0 0] 73)) w.heap.size (.slice A0 F.length c0) (.slice A1 P.length c1) (.int .i64 q) (.int .i64 n) (.slice A4 nn.length c4) (.int .i64 cr) (.bool dw) (.int .i64 pk) := Aqe (Aqe (Aqe (heap_alloc_new _ _) _) _) _
 have hy1 : VarD ((((w.alloc (.cells #[.slice A0 F.length c0, .slice A1 P.length c1, .int .i64 q, .int .i64 n, .slice A4 nn.length c4, .int .i64 cr, .bool dw, .int .i64 pk] 71)).alloc (.cells #[.int .i64 d.f0, .string d.f1.f0, .int .i64 d.f1.f1, .int .i64 d.f1.f2, .slice A5 d.f1.f3.length c5, .string d.f2, .string d.f3, .slice A7 d.f4.length c7, .int .i64 d.f5] 76)).alloc (.cells #[.slice none 0 0, .slice none 0 0, .int .i64 0, .int .i64 0, .slice none 0 0, .int .i64 0, .bool false, .int .i64 0] 71)).alloc (.cells #[.int .i64 0, .slice none 0 0, .slice none 0 0] 73)) (w.heap.size + 1) d A5 c5 A7 c7 := by
  have := Aqe (Aqe (heap_alloc_new (w.alloc (.cells #[.slice A0 F.length c0, .slice A1 P.length c1, .int .i64 q, .int .i64 n, .slice A4 nn.length c4, .int .i64 cr, .bool dw, .int .i64 pk] 71)) (.cells #[.int .i64 d.f0, .string d.f1.f0, .int .i64 d.f1.f1, .int .i64 d.f1.f2, .slice A5 d.f1.f3.length c5, .string d.f2, .string d.f3, .slice A7 d.f4.length c7, .int .i64 d.f5] 76)) (.cells #[.slice none 0 0, .slice none 0 0, .int .i64 0, .int .i64 0, .slice none 0 0, .int .i64 0, .bool false, .int .i64 0] 71)) (.cells #[.int .i64 0, .slice none 0 0, .slice none 0 0] 73)
  rw [World.size_alloc] at this
  exact this
 have hz1 : VarX ((((w.alloc (.cells #[.slice A0 F.length c0, .slice A1 P.length c1, .int .i64 q, .int .i64 n, .slice A4 nn.length c4, .int .i64 cr, .bool dw, .int .i64 pk] 71)).alloc (.cells #[.int .i64 d.f0, .string d.f1.f0, .int .i64 d.f1.f1, .int .i64 d.f1.f2, .slice A5 d.f1.f3.length c5, .string d.f2, .string d.f3, .slice A7 d.f4.length c7, .int .i64 d.f5] 76)).alloc (.cells #[.slice none 0 0, .slice none 0 0, .int .i64 0, .int .i64 0, .slice none 0 0, .int .i64 0, .bool false, .int .i64 0] 71)).alloc (.cells #[.int .i64 0, .slice none 0 0, .slice none 0 0] 73)) (w.heap.size + 1 + 1) (.slice none 0 0) (.slice none 0 0) (.int .i64 0) (.int .i64 0) (.slice none 0 0) (.int .i64 0) (.bool false) (.int .i64 0) := by
  have := Aqe (heap_alloc_new ((w.alloc (.cells #[.slice A0 F.length c0, .slice A1 P.length c1, .int .i64 q, .int .i64 n, .slice A4 nn.length c4, .int .i64 cr, .bool dw, .int .i64 pk] 71)).alloc (.cells #[.int .i64 d.f0, .string d.f1.f0, .int .i64 d.f1.f1, .int .i64 d.f1.f2, .slice A5 d.f1.f3.length c5, .string d.f2, .string d.f3, .slice A7 d.f4.length c7, .int .i64 d.f5] 76)) (.cells #[.slice none 0 0, .slice none 0 0, .int .i64 0, .int .i64 0, .slice none 0 0, .int .i64 0, .bool false, .int .i64 0] 71)) (.cells #[.int .i64 0, .slice none 0 0, .slice none 0 0] 73)
  rw [World.size_alloc, World.size_alloc] at this
  exact this
 have ht1 : VarT ((((w.alloc (.cells #[.slice A0 F.length c0, .slice A1 P.length c1, .int .i64 q, .int .i64 n, .slice A4 nn.length c4, .int .i64 cr, .bool dw, .int .i64 pk] 71)).alloc (.cells #[.int .i64 d.f0, .string d.f1.f0, .int .i64 d.f1.f1, .int .i64 d.f1.f2, .slice A5 d.f1.f3.length c5, .string d.f2, .string d.f3, .slice A7 d.f4.length c7, .int .i64 d.f5] 76)).alloc (.cells #[.slice none 0 0, .slice none 0 0, .int .i64 0, .int .i64 0, .slice none 0 0, .int .i64 0, .bool false, .int .i64 0] 71)).alloc (.cells #[.int .i64 0, .slice none 0 0, .slice none 0 0] 73)) (w.heap.size + 1 + 1 + 1) (.int .i64 0) (.slice none 0 0) (.slice none 0 0) := by
  have := heap_alloc_new (((w.alloc (.cells #[.slice A0 F.length c0, .slice A1 P.length c1, .int .i64 q, .int .i64 n, .slice A4 nn.length c4, .int .i64 cr, .bool dw, .int .i64 pk] 71)).alloc (.cells #[.int .i64 d.f0, .string d.f1.f0, .int .i64 d.f1.f1, .int .i64 d.f1.f2, .slice A5 d.f1.f3.length c5, .string d.f2, .string d.f3, .slice A7 d.f4.length c7, .int .i64 d.f5] 76)).alloc (.cells #[.slice none 0 0, .slice none 0 0, .int .i64 0, .int .i64 0, .slice none 0 0, .int .i64 0, .bool false, .int .i64 0] 71)) (.cells #[.int .i64 0, .slice none 0 0, .slice none 0 0] 73)
  rw [World.size_alloc, World.size_alloc, World.size_alloc] at this
  exact this
 have hsz : ((((w.alloc (.cells #[.slice A0 F.length c0, .slice A1 P.length c1, .int .i64 q, .int .i64 n, .slice A4 nn.length c4, .int .i64 cr, .bool dw, .int .i64 pk] 71)).alloc (.cells #[.int .i64 d.f0, .string d.f1.f0, .int .i64 d.f1.f1, .int .i64 d.f1.f2, .slice A5 d.f1.f3.length c5, .string d.f2, .string d.f3, .slice A7 d.f4.length c7, .int .i64 d.f5] 76)).alloc (.cells #[.slice none 0 0, .slice none 0 0, .int .i64 0, .int .i64 0, .slice none 0 0, .int .i64 0, .bool false, .int .i64 0] 71)).alloc (.cells #[.int .i64 0, .slice none 0 0, .slice none 0 0] 73)).heap.size = w.heap.size + 4 := by rw [World.size_alloc, World.size_alloc, World.size_alloc, World.size_alloc]
 have ho : ∀ j, j < 4 → ¬ Out Pf (w.heap.size + 4) (w.heap.size + j) := fun j hj h => h.elim (fun h => by have := hlt _ h; omega) (fun h => by omega)
 exact ⟨_, ⟨rfl⟩, ⟨hb0⟩, ⟨hx1⟩, ⟨hy1⟩, ⟨hz1⟩, ⟨ht1⟩, ⟨hsz⟩, ⟨V_P (e2 := 38) (b2 := 0) (Kd.V_below hF hb0) (fun k hk => hk)⟩, ⟨V_P (e2 := 25) (b2 := 0) (Kd.V_below hQ hb0) (fun k hk => hk)⟩, ⟨V_P (e2 := 3) (b2 := 0) (Kd.V_below hN hb0) (fun k hk => hk)⟩, ⟨V_P (e2 := 5) (b2 := 0) (Kd.V_below hD hb0) (fun k hk => hk)⟩, ⟨V_P (e2 := 3) (b2 := 0) (Kd.V_below hM hb0) (fun k hk => hk)⟩,
  ⟨ho 0 (by omega)⟩, ⟨ho 2 (by omega)⟩, ⟨ho 3 (by omega)⟩, ⟨fun k hk => hk.elim (fun h => .inl (hlt k h)) .inr⟩⟩
theorem xdo7 (A0 : Option Addr) (c0 : Nat) (F : List S38) (A1 : Option Addr) (c1 : Nat) (P : List S25) (q n : Int) (A4 : Option Addr) (c4 : Nat) (nn : List Int) (cr : Int) (dw : Bool) (pk : Int) (d : S76) (A5 : Option Addr) (c5 : Nat) (A7 : Option Addr) (c7 : Nat) (Pf : Nat → Prop) (hlt : ∀ k, Pf k → k < w.heap.size) (hF : Kd.V k38 38 w 0 Pf (.slice A0 F.length c0) F) (hQ : Kd.V k25 25 w 0 Pf (.slice A1 P.length c1) P) (hN : Kd.V (Kd.int .i64) 3 w 0 Pf (.slice A4 nn.length c4) nn) (hD : Kd.V (Kd.int .u8) 5 w 0 Pf (.slice A5 d.f1.f3.length c5) d.f1.f3) (hM : Kd.V (Kd.int .i64) 3 w 0 Pf (.slice A7 d.f4.length c7) d.f4) (hP : ∀ x ∈ P, x.f3.length ≤ 1000) (hd : okL F) (hl : F.length + P.length ≤ 980) (hx : d.f1.f3.length ≤ 1000) (hnl : nn.length ≤ 1000) (h0 : 0 ≤ n) (h1 : n ≤ 1000) (hk : d.f0 = 7) (G : List S38) (hG : Az0 (Ajj d.f4) 0 F (P.map to31) = G) (m : Int) (hm : mx pk (Axs G) = m) :
 Calls Try.prog 49 #[.agg #[.slice A0 F.length c0, .slice A1 P.length c1, .int .i64 q, .int .i64 n, .slice A4 nn.length c4, .int .i64 cr, .bool dw, .int .i64 pk], .agg #[.int .i64 d.f0, .string d.f1.f0, .int .i64 d.f1.f1, .int .i64 d.f1.f2, .slice A5 d.f1.f3.length c5, .string d.f2, .string d.f3, .slice A7 d.f4.length c7, .int .i64 d.f5]] w fun e w' => Avi Pf w G [] q 0 [] 0 false m 0 [] [] e w' := by
 have HKK := Bvh hk
 clear hk
 obtain ⟨W, HW, HB0, HX, HY, HZ, HT, HSZ, HF, HQ, HN, HD, HM, HO0, HO2, HO3, HOLT⟩ := Ajb A0 c0 F A1 c1 P q n A4 c4 nn cr dw pk d A5 c5 A7 c7 Pf hlt hF hQ hN hD hM
 have HP := Bvh hP
 have HOK := Bvh hd
 have HLT := Bvh hlt
 have hle2 : w.heap.size ≤ w.heap.size + 1 + 1 := by omega
 have hle3 : w.heap.size ≤ w.heap.size + 1 + 1 + 1 := by omega
 have hle4 : w.heap.size ≤ w.heap.size + 4 := by omega
 clear hF hQ hN hD hM hP hd hlt
 go_enter Try.func49, Try.ntmps49
 go_upto_region 1 with fail
 rw [HW.out]
 obtain ⟨e0, e1, e2, e3, e4, e5, e6, e7, e8⟩ := HY.out.cell
 rw [HKK.out] at e0
 have HG := Bvh hG
 have HMX := Bvh hm
 clear hG hm
 obtain ⟨y0, y1, y2, y3, y4, y5, y6, y7⟩ := HX.out.cell
 go_wp2_with (go_at_call 82; (with_reducible refine (xcrashed A0 c0 F A1 c1 P q n A4 nn.length c4 cr dw pk A7 c7 d.f4 Pf (fun k hk => by have := HLT.out k hk; have := HSZ.out; omega) HF.out HQ.out (Kd.V_reads' HM.out).2.2 HP.out HOK.out (by omega) G HG.out m HMX.out).mono ?_); rintro e w2 ⟨Ag, cg, rfl, hv2, hb2⟩; have HV2 := Bvh (V_P (b := 0) (ok2 := Out Pf (w.heap.size + 4)) (e2 := 38) (b2 := 0) hv2 (fun k hk => hk.elim .inl fun h => .inr (by have := HSZ.out; omega))); have HB2 := Bvh hb2; obtain ⟨⟨pf0, pg0, pf1, pg1, pf2, pg2, pf3, pg3, pf4, pg4, pf5, pg5, pf6, pg6, pf7, pg7⟩, ⟨pt0, pt1, pt2, pt3, pt4, pt5⟩, hFX, hFT⟩ := fin2 (HZ.out.below hb2) (HT.out.below hb2) (.slice Ag G.length cg) (.slice none 0 0) (.int .i64 q) (.int .i64 0) (.slice none 0 0) (.int .i64 0) (.bool false) (.int .i64 m) (.int .i64 0) (.slice none 0 0) (.slice none 0 0); have HFX := Bvh hFX; have HFT := Bvh hFT; clear hFX hFT; clear hv2 hb2)
 refine bodyPost_ret (Aza rfl _ _ (w.heap.size + 1 + 1) (w.heap.size + 1 + 1 + 1) 71 73 #[.slice Ag G.length cg, .slice none 0 0, .int .i64 q, .int .i64 0, .slice none 0 0, .int .i64 0, .bool false, .int .i64 m] #[.int .i64 0, .slice none 0 0, .slice none 0 0] (0, 0) (0, 0) _ _ rfl HFX.out Try.underlying71 rfl (by kernel_rfl) rfl HFT.out Try.underlying73 rfl (by kernel_rfl)) rfl ?_
 exact ⟨Ag, cg, none, 0, none, 0, none, 0, none, 0, rfl, V_P (b := 0) (Aqo (Aqo (Aqo (Axe (HV2.out) HO2.out _ _ _ _ _ _ _ _) HO3.out) HO3.out) HO3.out) (fun k hk => hk.elim .inl fun h => .inr (Nat.le_trans hle4 h)), Kd.V_nil _ _ _ _ _, Kd.V_nil _ _ _ _ _, Kd.V_nil _ _ _ _ _, Kd.V_nil _ _ _ _ _, Aqg (Aqg (Aqg (Ax5 (Aq1 HB0.out HB2.out) hle2 _ _ _ _ _ _ _ _) hle3 0 _) hle3 1 _) hle3 2 _⟩
theorem xdo8 (A0 : Option Addr) (c0 : Nat) (F : List S38) (A1 : Option Addr) (c1 : Nat) (P : List S25) (q n : Int) (A4 : Option Addr) (c4 : Nat) (nn : List Int) (cr : Int) (dw : Bool) (pk : Int) (d : S76) (A5 : Option Addr) (c5 : Nat) (A7 : Option Addr) (c7 : Nat) (Pf : Nat → Prop) (hlt : ∀ k, Pf k → k < w.heap.size) (hF : Kd.V k38 38 w 0 Pf (.slice A0 F.length c0) F) (hQ : Kd.V k25 25 w 0 Pf (.slice A1 P.length c1) P) (hN : Kd.V (Kd.int .i64) 3 w 0 Pf (.slice A4 nn.length c4) nn) (hD : Kd.V (Kd.int .u8) 5 w 0 Pf (.slice A5 d.f1.f3.length c5) d.f1.f3) (hM : Kd.V (Kd.int .i64) 3 w 0 Pf (.slice A7 d.f4.length c7) d.f4) (hP : ∀ x ∈ P, x.f3.length ≤ 1000) (hd : okL F) (hl : F.length + P.length ≤ 980) (hx : d.f1.f3.length ≤ 1000) (hnl : nn.length ≤ 1000) (h0 : 0 ≤ n) (h1 : n ≤ 1000) (hk : d.f0 = 8) :
 Calls Try.prog 49 #[.agg #[.slice A0 F.length c0, .slice A1 P.length c1, .int .i64 q, .int .i64 n, .slice A4 nn.length c4, .int .i64 cr, .bool dw, .int .i64 pk], .agg #[.int .i64 d.f0, .string d.f1.f0, .int .i64 d.f1.f1, .int .i64 d.f1.f2, .slice A5 d.f1.f3.length c5, .string d.f2, .string d.f3, .slice A7 d.f4.length c7, .int .i64 d.f5]] w fun e w' => Avi Pf w F P q 0 d.f4 d.f5 dw pk 0 [] [] e w' := by
 have HKK := Bvh hk
 clear hk
 obtain ⟨W, HW, HB0, HX, HY, HZ, HT, HSZ, HF, HQ, HN, HD, HM, HO0, HO2, HO3, HOLT⟩ := Ajb A0 c0 F A1 c1 P q n A4 c4 nn cr dw pk d A5 c5 A7 c7 Pf hlt hF hQ hN hD hM
 have HP := Bvh hP
 have HOK := Bvh hd
 have HLT := Bvh hlt
 have hle2 : w.heap.size ≤ w.heap.size + 1 + 1 := by omega
 have hle3 : w.heap.size ≤ w.heap.size + 1 + 1 + 1 := by omega
 have hle4 : w.heap.size ≤ w.heap.size + 4 := by omega
 clear hF hQ hN hD hM hP hd hlt
 go_enter Try.func49, Try.ntmps49
 go_upto_region 1 with fail
 rw [HW.out]
 obtain ⟨e0, e1, e2, e3, e4, e5, e6, e7, e8⟩ := HY.out.cell
 rw [HKK.out] at e0
 obtain ⟨y0, y1, y2, y3, y4, y5, y6, y7⟩ := HX.out.cell
 obtain ⟨s0, -, hx2⟩ := VarX.set1 HX.out 3 (.int .i64 0) rfl
 obtain ⟨v0, -, hx3⟩ := VarX.set1 (show VarX (W.setCell ⟨w.heap.size, 3, none⟩ (.int .i64 0)) w.heap.size (.slice A0 F.length c0) (.slice A1 P.length c1) (.int .i64 q) (.int .i64 0) (.slice A4 nn.length c4) (.int .i64 cr) (.bool dw) (.int .i64 pk) from hx2) 4 (.slice A7 d.f4.length c7) rfl
 have hc4 := (show VarX (W.setCell ⟨w.heap.size, 3, none⟩ (.int .i64 0)) w.heap.size (.slice A0 F.length c0) (.slice A1 P.length c1) (.int .i64 q) (.int .i64 0) (.slice A4 nn.length c4) (.int .i64 cr) (.bool dw) (.int .i64 pk) from hx2).cell.2.2.2.2.1
 obtain ⟨r0, -, hx4⟩ := VarX.set1 (show VarX ((W.setCell ⟨w.heap.size, 3, none⟩ (.int .i64 0)).setCell ⟨w.heap.size, 4, none⟩ (.slice A7 d.f4.length c7)) w.heap.size (.slice A0 F.length c0) (.slice A1 P.length c1) (.int .i64 q) (.int .i64 0) (.slice A7 d.f4.length c7) (.int .i64 cr) (.bool dw) (.int .i64 pk) from hx3) 5 (.int .i64 d.f5) rfl
 have hc5 := (show VarX ((W.setCell ⟨w.heap.size, 3, none⟩ (.int .i64 0)).setCell ⟨w.heap.size, 4, none⟩ (.slice A7 d.f4.length c7)) w.heap.size (.slice A0 F.length c0) (.slice A1 P.length c1) (.int .i64 q) (.int .i64 0) (.slice A7 d.f4.length c7) (.int .i64 cr) (.bool dw) (.int .i64 pk) from hx3).cell.2.2.2.2.2.1
 have HX4 := Bvh (show VarX (((W.setCell ⟨w.heap.size, 3, none⟩ (.int .i64 0)).setCell ⟨w.heap.size, 4, none⟩ (.slice A7 d.f4.length c7)).setCell ⟨w.heap.size, 5, none⟩ (.int .i64 d.f5)) w.heap.size (.slice A0 F.length c0) (.slice A1 P.length c1) (.int .i64 q) (.int .i64 0) (.slice A7 d.f4.length c7) (.int .i64 d.f5) (.bool dw) (.int .i64 pk) from hx4)
 obtain ⟨z0, z1, z2, z3, z4, z5, z6, z7⟩ := HX4.out.cell
 have hy2 : VarD (W.setCell ⟨w.heap.size, 3, none⟩ (.int .i64 0)) (w.heap.size + 1) d A5 c5 A7 c7 := by show _ = _; rw [Below.heap_setCell _ ⟨w.heap.size, 3, none⟩ _ _ (show w.heap.size + 1 ≠ w.heap.size by omega)]; exact HY.out
 have hy3 : VarD ((W.setCell ⟨w.heap.size, 3, none⟩ (.int .i64 0)).setCell ⟨w.heap.size, 4, none⟩ (.slice A7 d.f4.length c7)) (w.heap.size + 1) d A5 c5 A7 c7 := by show _ = _; rw [Below.heap_setCell _ ⟨w.heap.size, 4, none⟩ _ _ (show w.heap.size + 1 ≠ w.heap.size by omega), Below.heap_setCell _ ⟨w.heap.size, 3, none⟩ _ _ (show w.heap.size + 1 ≠ w.heap.size by omega)]; exact HY.out
 have d7 := hy2.cell.2.2.2.2.2.2.2.1
 have d8 := hy3.cell.2.2.2.2.2.2.2.2
 have hz4 : VarX (((W.setCell ⟨w.heap.size, 3, none⟩ (.int .i64 0)).setCell ⟨w.heap.size, 4, none⟩ (.slice A7 d.f4.length c7)).setCell ⟨w.heap.size, 5, none⟩ (.int .i64 d.f5)) (w.heap.size + 1 + 1) (.slice none 0 0) (.slice none 0 0) (.int .i64 0) (.int .i64 0) (.slice none 0 0) (.int .i64 0) (.bool false) (.int .i64 0) := by show _ = _; rw [Below.heap_setCell _ ⟨w.heap.size, 5, none⟩ _ _ (show w.heap.size + 1 + 1 ≠ w.heap.size by omega), Below.heap_setCell _ ⟨w.heap.size, 4, none⟩ _ _ (show w.heap.size + 1 + 1 ≠ w.heap.size by omega), Below.heap_setCell _ ⟨w.heap.size, 3, none⟩ _ _ (show w.heap.size + 1 + 1 ≠ w.heap.size by omega)]; exact HZ.out
 have ht4 : VarT (((W.setCell ⟨w.heap.size, 3, none⟩ (.int .i64 0)).setCell ⟨w.heap.size, 4, none⟩ (.slice A7 d.f4.length c7)).setCell ⟨w.heap.size, 5, none⟩ (.int .i64 d.f5)) (w.heap.size + 1 + 1 + 1) (.int .i64 0) (.slice none 0 0) (.slice none 0 0) := by show _ = _; rw [Below.heap_setCell _ ⟨w.heap.size, 5, none⟩ _ _ (show w.heap.size + 1 + 1 + 1 ≠ w.heap.size by omega), Below.heap_setCell _ ⟨w.heap.size, 4, none⟩ _ _ (show w.heap.size + 1 + 1 + 1 ≠ w.heap.size by omega), Below.heap_setCell _ ⟨w.heap.size, 3, none⟩ _ _ (show w.heap.size + 1 + 1 + 1 ≠ w.heap.size by omega)]; exact HT.out
 obtain ⟨⟨pf0, pg0, pf1, pg1, pf2, pg2, pf3, pg3, pf4, pg4, pf5, pg5, pf6, pg6, pf7, pg7⟩, ⟨pt0, pt1, pt2, pt3, pt4, pt5⟩, hFX, hFT⟩ := fin2 hz4 ht4 (.slice A0 F.length c0) (.slice A1 P.length c1) (.int .i64 q) (.int .i64 0) (.slice A7 d.f4.length c7) (.int .i64 d.f5) (.bool dw) (.int .i64 pk) (.int .i64 0) (.slice none 0 0) (.slice none 0 0)
 have HFX := Bvh hFX
 have HFT := Bvh hFT
 clear hFX hFT
 have HB4 := Bvh (Aqg (Aqg (Aqg HB0.out (Nat.le_refl w.heap.size) 3 (.int .i64 0)) (Nat.le_refl w.heap.size) 4 (.slice A7 d.f4.length c7)) (Nat.le_refl w.heap.size) 5 (.int .i64 d.f5))
 clear hx2 hx3 hx4 hy2 hy3 hz4 ht4
 go_wp2
 refine bodyPost_ret (Aza rfl _ _ (w.heap.size + 1 + 1) (w.heap.size + 1 + 1 + 1) 71 73 #[.slice A0 F.length c0, .slice A1 P.length c1, .int .i64 q, .int .i64 0, .slice A7 d.f4.length c7, .int .i64 d.f5, .bool dw, .int .i64 pk] #[.int .i64 0, .slice none 0 0, .slice none 0 0] (0, 0) (0, 0) _ _ rfl HFX.out Try.underlying71 rfl (by kernel_rfl) rfl HFT.out Try.underlying73 rfl (by kernel_rfl)) rfl ?_
 exact ⟨A0, c0, A1, c1, A7, c7, none, 0, none, 0, rfl, V_P (b := 0) (Aqo (Aqo (Aqo (Axe (Aqo (Aqo (Aqo (V_in (n := w.heap.size + 4) (e2 := 38) (b2 := 0) HF.out) HO0.out) HO0.out) HO0.out) HO2.out _ _ _ _ _ _ _ _) HO3.out) HO3.out) HO3.out) (fun k hk => hk.elim .inl fun h => .inr (Nat.le_trans hle4 h)), V_P (b := 0) (Aqo (Aqo (Aqo (Axe (Aqo (Aqo (Aqo (V_in (n := w.heap.size + 4) (e2 := 25) (b2 := 0) HQ.out) HO0.out) HO0.out) HO0.out) HO2.out _ _ _ _ _ _ _ _) HO3.out) HO3.out) HO3.out) (fun k hk => hk.elim .inl fun h => .inr (Nat.le_trans hle4 h)), V_P (b := 0) (Aqo (Aqo (Aqo (Axe (Aqo (Aqo (Aqo (V_in (n := w.heap.size + 4) (e2 := 3) (b2 := 0) HM.out) HO0.out) HO0.out) HO0.out) HO2.out _ _ _ _ _ _ _ _) HO3.out) HO3.out) HO3.out) (fun k hk => hk.elim .inl fun h => .inr (Nat.le_trans hle4 h)), Kd.V_nil _ _ _ _ _, Kd.V_nil _ _ _ _ _, Aqg (Aqg (Aqg (Ax5 (HB4.out) hle2 _ _ _ _ _ _ _ _) hle3 0 _) hle3 1 _) hle3 2 _⟩
theorem Azc (A0 : Option Addr) (l0 c0 : Nat) (A1 : Option Addr) (l1 c1 : Nat) (q n : Int) (A4 : Option Addr) (c4 : Nat) (nn : List Int) (cr : Int) (dn : Bool) (pk n1 : Int) (d1 : Bool) (bad : Int) (hr : askX n cr nn dn = (n1, d1, bad)) (hN : (Kd.int .i64).C w A4 nn.length nn) (hc : nn.length ≤ c4) (hl : nn.length ≤ 1000) (h0 : 0 ≤ n) (h1 : n ≤ 1000) :
 Calls Try.prog 83 #[.agg #[.slice A0 l0 c0, .slice A1 l1 c1, .int .i64 q, .int .i64 n, .slice A4 nn.length c4, .int .i64 cr, .bool dn, .int .i64 pk]] w fun e w' => e = .returned (.tuple #[.agg #[.slice A0 l0 c0, .slice A1 l1 c1, .int .i64 q, .int .i64 n1, .slice A4 nn.length c4, .int .i64 cr, .bool d1, .int .i64 pk], .int .i64 bad]) ∧ Below w.heap.size w w' := by
 have h := xasked A0 l0 c0 A1 l1 c1 q n A4 c4 nn cr dn pk hN hc hl h0 (by omega)
 rw [hr] at h
 exact h
theorem Awo {W w2 : World} {A0 : Option Addr} {c0 : Nat} {F : List S38} {A1 : Option Addr} {c1 : Nat} {P : List S25} {q n1 : Int} {A4 : Option Addr} {c4 : Nat} {nn : List Int} {cr : Int} {d1 : Bool} {pk : Int} {d : S76} {A5 : Option Addr} {c5 : Nat} {A7 : Option Addr} {c7 : Nat} {Pf : Nat → Prop} (HB0 : Below w.heap.size w W) (HY : VarD W (w.heap.size + 1) d A5 c5 A7 c7) (HZ : VarX W (w.heap.size + 1 + 1) (.slice none 0 0) (.slice none 0 0) (.int .i64 0) (.int .i64 0) (.slice none 0 0) (.int .i64 0) (.bool false) (.int .i64 0)) (HT : VarT W (w.heap.size + 1 + 1 + 1) (.int .i64 0) (.slice none 0 0) (.slice none 0 0)) (HSZ : W.heap.size = w.heap.size + 4) (HF : Kd.V k38 38 W 0 Pf (.slice A0 F.length c0) F) (HQ : Kd.V k25 25 W 0 Pf (.slice A1 P.length c1) P) (HN : Kd.V (Kd.int .i64) 3 W 0 Pf (.slice A4 nn.length c4) nn) (HD : Kd.V (Kd.int .u8) 5 W 0 Pf (.slice A5 d.f1.f3.length c5) d.f1.f3) (HM : Kd.V (Kd.int .i64) 3 W 0 Pf (.slice A7 d.f4.length c7) d.f4) (HO0 : ¬ Out Pf (w.heap.size + 4) (w.heap.size + 0)) (HA : VarX ((((((((w2.setCell ⟨w.heap.size, 0, none⟩ (.slice A0 F.length c0)).setCell ⟨w.heap.size, 1, none⟩ (.slice A1 P.length c1)).setCell ⟨w.heap.size, 2, none⟩ (.int .i64 q)).setCell ⟨w.heap.size, 3, none⟩ (.int .i64 n1)).setCell ⟨w.heap.size, 4, none⟩ (.slice A4 nn.length c4)).setCell ⟨w.heap.size, 5, none⟩ (.int .i64 cr)).setCell ⟨w.heap.size, 6, none⟩ (.bool d1)).setCell ⟨w.heap.size, 7, none⟩ (.int .i64 pk)) w.heap.size (.slice A0 F.length c0) (.slice A1 P.length c1) (.int .i64 q) (.int .i64 n1) (.slice A4 nn.length c4) (.int .i64 cr) (.bool d1) (.int .i64 pk)) (HB2 : Below W.heap.size W w2) : ∃ Wa, Aside0 (((((((((w2.setCell ⟨w.heap.size, 0, none⟩ (.slice A0 F.length c0)).setCell ⟨w.heap.size, 1, none⟩ (.slice A1 P.length c1)).setCell ⟨w.heap.size, 2, none⟩ (.int .i64 q)).setCell ⟨w.heap.size, 3, none⟩ (.int .i64 n1)).setCell ⟨w.heap.size, 4, none⟩ (.slice A4 nn.length c4)).setCell ⟨w.heap.size, 5, none⟩ (.int .i64 cr)).setCell ⟨w.heap.size, 6, none⟩ (.bool d1)).setCell ⟨w.heap.size, 7, none⟩ (.int .i64 pk)) = Wa) ∧ Aside0 (VarX Wa w.heap.size (.slice A0 F.length c0) (.slice A1 P.length c1) (.int .i64 q) (.int .i64 n1) (.slice A4 nn.length c4) (.int .i64 cr) (.bool d1) (.int .i64 pk)) ∧ Aside0 (VarD Wa (w.heap.size + 1) d A5 c5 A7 c7) ∧ Aside0 (VarX Wa (w.heap.size + 1 + 1) (.slice none 0 0) (.slice none 0 0) (.int .i64 0) (.int .i64 0) (.slice none 0 0) (.int .i64 0) (.bool false) (.int .i64 0)) ∧ Aside0 (VarT Wa (w.heap.size + 1 + 1 + 1) (.int .i64 0) (.slice none 0 0) (.slice none 0 0)) ∧ Aside0 (Below w.heap.size w Wa) ∧ Aside0 (w.heap.size + 4 ≤ Wa.heap.size) ∧ Aside0 (Kd.V k38 38 Wa 0 Pf (.slice A0 F.length c0) F) ∧ Aside0 (Kd.V k25 25 Wa 0 Pf (.slice A1 P.length c1) P) ∧ Aside0 (Kd.V (Kd.int .i64) 3 Wa 0 Pf (.slice A4 nn.length c4) nn) ∧ Aside0 (Kd.V (Kd.int .u8) 5 Wa 0 Pf (.slice A5 d.f1.f3.length c5) d.f1.f3) ∧ Aside0 (Kd.V (Kd.int .i64) 3 Wa 0 Pf (.slice A7 d.f4.length c7) d.f4) :=
 ⟨_, ⟨rfl⟩, ⟨HA⟩, ⟨(Axo _ _ _ _ _ _ _ _ (show w.heap.size + 1 ≠ w.heap.size by omega)).trans (HY.below HB2)⟩, ⟨(Axo _ _ _ _ _ _ _ _ (show w.heap.size + 1 + 1 ≠ w.heap.size by omega)).trans (HZ.below HB2)⟩, ⟨(Axo _ _ _ _ _ _ _ _ (show w.heap.size + 1 + 1 + 1 ≠ w.heap.size by omega)).trans (HT.below HB2)⟩,
   ⟨Ax5 (Aq1 HB0 HB2) (Nat.le_refl _) _ _ _ _ _ _ _ _⟩, ⟨by rw [Ak0]; have := HSZ; have := HB2.size; omega⟩, ⟨V_P (b := 0) (Kd.V_step (Kd.V_below HF HB2) (fun k hk _ => Axo _ _ _ _ _ _ _ _ (fun he => HO0 (.inl (by rw [Nat.add_zero, ← he]; exact hk))))) (fun k hk => hk)⟩, ⟨V_P (b := 0) (Kd.V_step (Kd.V_below HQ HB2) (fun k hk _ => Axo _ _ _ _ _ _ _ _ (fun he => HO0 (.inl (by rw [Nat.add_zero, ← he]; exact hk))))) (fun k hk => hk)⟩, ⟨V_P (b := 0) (Kd.V_step (Kd.V_below HN HB2) (fun k hk _ => Axo _ _ _ _ _ _ _ _ (fun he => HO0 (.inl (by rw [Nat.add_zero, ← he]; exact hk))))) (fun k hk => hk)⟩, ⟨V_P (b := 0) (Kd.V_step (Kd.V_below HD HB2) (fun k hk _ => Axo _ _ _ _ _ _ _ _ (fun he => HO0 (.inl (by rw [Nat.add_zero, ← he]; exact hk))))) (fun k hk => hk)⟩, ⟨V_P (b := 0) (Kd.V_step (Kd.V_below HM HB2) (fun k hk _ => Axo _ _ _ _ _ _ _ _ (fun he => HO0 (.inl (by rw [Nat.add_zero, ← he]; exact hk))))) (fun k hk => hk)⟩⟩
theorem xdo_err (A0 : Option Addr) (c0 : Nat) (F : List S38) (A1 : Option Addr) (c1 : Nat) (P : List S25) (q n : Int) (A4 : Option Addr) (c4 : Nat) (nn : List Int) (cr : Int) (dw : Bool) (pk : Int) (d : S76) (A5 : Option Addr) (c5 : Nat) (A7 : Option Addr) (c7 : Nat) (Pf : Nat → Prop) (hlt : ∀ k, Pf k → k < w.heap.size) (hF : Kd.V k38 38 w 0 Pf (.slice A0 F.length c0) F) (hQ : Kd.V k25 25 w 0 Pf (.slice A1 P.length c1) P) (hN : Kd.V (Kd.int .i64) 3 w 0 Pf (.slice A4 nn.length c4) nn) (hD : Kd.V (Kd.int .u8) 5 w 0 Pf (.slice A5 d.f1.f3.length c5) d.f1.f3) (hM : Kd.V (Kd.int .i64) 3 w 0 Pf (.slice A7 d.f4.length c7) d.f4) (hP : ∀ x ∈ P, x.f3.length ≤ 1000) (hd : okL F) (hl : F.length + P.length ≤ 980) (hx : d.f1.f3.length ≤ 1000) (hnl : nn.length ≤ 1000) (h0 : 0 ≤ n) (h1 : n ≤ 1000) (n1 : Int) (d1 : Bool) (bad : Int) (hask : askX n cr nn dw = (n1, d1, bad)) (hk : ¬ d.f0 = 7 ∧ ¬ d.f0 = 8 ∧ True) (hb : (bad != 0) = true) :
 Calls Try.prog 49 #[.agg #[.slice A0 F.length c0, .slice A1 P.length c1, .int .i64 q, .int .i64 n, .slice A4 nn.length c4, .int .i64 cr, .bool dw, .int .i64 pk], .agg #[.int .i64 d.f0, .string d.f1.f0, .int .i64 d.f1.f1, .int .i64 d.f1.f2, .slice A5 d.f1.f3.length c5, .string d.f2, .string d.f3, .slice A7 d.f4.length c7, .int .i64 d.f5]] w fun e w' => Avi Pf w F P q n1 nn cr d1 pk bad [] [] e w' := by
 have HASK := Bvh hask
 clear hask
 have HKK := Bvh hk
 clear hk
 obtain ⟨W, HW, HB0, HX, HY, HZ, HT, HSZ, HF, HQ, HN, HD, HM, HO0, HO2, HO3, HOLT⟩ := Ajb A0 c0 F A1 c1 P q n A4 c4 nn cr dw pk d A5 c5 A7 c7 Pf hlt hF hQ hN hD hM
 have HP := Bvh hP
 have HOK := Bvh hd
 have HLT := Bvh hlt
 have hle2 : w.heap.size ≤ w.heap.size + 1 + 1 := by omega
 have hle3 : w.heap.size ≤ w.heap.size + 1 + 1 + 1 := by omega
 have hle4 : w.heap.size ≤ w.heap.size + 4 := by omega
 clear hF hQ hN hD hM hP hd hlt
 go_enter Try.func49, Try.ntmps49
 go_upto_region 1 with fail
 rw [HW.out]
 obtain ⟨e0, e1, e2, e3, e4, e5, e6, e7, e8⟩ := HY.out.cell
 obtain ⟨y0, y1, y2, y3, y4, y5, y6, y7⟩ := HX.out.cell
 have hk7 := HKK.out.1
 have hk8 := HKK.out.2.1
 go_upto_region 9 with (go_at_call 83; (with_reducible refine (Azc A0 F.length c0 A1 P.length c1 q n A4 c4 nn cr dw pk n1 d1 bad HASK.out (Kd.V_reads' HN.out).2.2 (Kd.V_reads' HN.out).2.1 hnl h0 h1).mono ?_); rintro e w2 ⟨rfl, hb2⟩; obtain ⟨pf0, pg0, pf1, pg1, pf2, pg2, pf3, pg3, pf4, pg4, pf5, pg5, pf6, pg6, pf7, pg7, hA⟩ := (HX.out.below hb2).put (.slice A0 F.length c0) (.slice A1 P.length c1) (.int .i64 q) (.int .i64 n1) (.slice A4 nn.length c4) (.int .i64 cr) (.bool d1) (.int .i64 pk); have HA := Bvh hA; have HB2 := Bvh hb2; clear hA hb2 y0 y1 y2 y3 y4 y5 y6 y7)
 clear pf0 pg0 pf1 pg1 pf2 pg2 pf3 pg3 pf4 pg4 pf5 pg5 pf6 pg6 pf7 pg7 e0 e1 e2 e3 e4 e5 e6 e7 e8
 obtain ⟨Wa, HWA, HA, HYA, HZA, HTA, HBA, HSA, HFA, HQA, HNA, HDA, HMA⟩ := Awo HB0.out HY.out HZ.out HT.out HSZ.out HF.out HQ.out HN.out HD.out HM.out HO0.out HA.out HB2.out
 rw [HWA.out]
 obtain ⟨e0, e1, e2, e3, e4, e5, e6, e7, e8⟩ := HYA.out.cell
 obtain ⟨y0, y1, y2, y3, y4, y5, y6, y7⟩ := HA.out.cell
 obtain ⟨⟨pf0, pg0, pf1, pg1, pf2, pg2, pf3, pg3, pf4, pg4, pf5, pg5, pf6, pg6, pf7, pg7⟩, ⟨pt0, pt1, pt2, pt3, pt4, pt5⟩, hFX, hFT⟩ := fin2 HZA.out HTA.out (.slice A0 F.length c0) (.slice A1 P.length c1) (.int .i64 q) (.int .i64 n1) (.slice A4 nn.length c4) (.int .i64 cr) (.bool d1) (.int .i64 pk) (.int .i64 bad) (.slice none 0 0) (.slice none 0 0)
 have HFX := Bvh hFX
 have HFT := Bvh hFT
 clear hFX hFT
 go_wp2
 refine bodyPost_ret (Aza rfl _ _ (w.heap.size + 1 + 1) (w.heap.size + 1 + 1 + 1) 71 73 #[.slice A0 F.length c0, .slice A1 P.length c1, .int .i64 q, .int .i64 n1, .slice A4 nn.length c4, .int .i64 cr, .bool d1, .int .i64 pk] #[.int .i64 bad, .slice none 0 0, .slice none 0 0] (0, 0) (0, 0) _ _ rfl HFX.out Try.underlying71 rfl (by kernel_rfl) rfl HFT.out Try.underlying73 rfl (by kernel_rfl)) rfl ?_
 exact ⟨A0, c0, A1, c1, A4, c4, none, 0, none, 0, rfl, V_P (b := 0) (Aqo (Aqo (Aqo (Axe (V_in (n := w.heap.size + 4) (e2 := 38) (b2 := 0) (HFA.out)) HO2.out _ _ _ _ _ _ _ _) HO3.out) HO3.out) HO3.out) (fun k hk => hk.elim .inl fun h => .inr (Nat.le_trans hle4 h)), V_P (b := 0) (Aqo (Aqo (Aqo (Axe (V_in (n := w.heap.size + 4) (e2 := 25) (b2 := 0) (HQA.out)) HO2.out _ _ _ _ _ _ _ _) HO3.out) HO3.out) HO3.out) (fun k hk => hk.elim .inl fun h => .inr (Nat.le_trans hle4 h)), V_P (b := 0) (Aqo (Aqo (Aqo (Axe (V_in (n := w.heap.size + 4) (e2 := 3) (b2 := 0) (HNA.out)) HO2.out _ _ _ _ _ _ _ _) HO3.out) HO3.out) HO3.out) (fun k hk => hk.elim .inl fun h => .inr (Nat.le_trans hle4 h)), Kd.V_nil _ _ _ _ _, Kd.V_nil _ _ _ _ _, Aqg (Aqg (Aqg (Ax5 (HBA.out) hle2 _ _ _ _ _ _ _ _) hle3 0 _) hle3 1 _) hle3 2 _⟩
end
end
section
section
variable {w : World}
theorem xdo_none (A0 : Option Addr) (c0 : Nat) (F : List S38) (A1 : Option Addr) (c1 : Nat) (P : List S25) (q n : Int) (A4 : Option Addr) (c4 : Nat) (nn : List Int) (cr : Int) (dw : Bool) (pk : Int) (d : S76) (A5 : Option Addr) (c5 : Nat) (A7 : Option Addr) (c7 : Nat) (Pf : Nat → Prop) (hlt : ∀ k, Pf k → k < w.heap.size) (hF : Kd.V k38 38 w 0 Pf (.slice A0 F.length c0) F) (hQ : Kd.V k25 25 w 0 Pf (.slice A1 P.length c1) P) (hN : Kd.V (Kd.int .i64) 3 w 0 Pf (.slice A4 nn.length c4) nn) (hD : Kd.V (Kd.int .u8) 5 w 0 Pf (.slice A5 d.f1.f3.length c5) d.f1.f3) (hM : Kd.V (Kd.int .i64) 3 w 0 Pf (.slice A7 d.f4.length c7) d.f4) (hP : ∀ x ∈ P, x.f3.length ≤ 1000) (hd : okL F) (hl : F.length + P.length ≤ 980) (hx : d.f1.f3.length ≤ 1000) (hnl : nn.length ≤ 1000) (h0 : 0 ≤ n) (h1 : n ≤ 1000) (n1 : Int) (d1 : Bool) (hask : askX n cr nn dw = (n1, d1, 0)) (G : List S38) (hG : Azd F P = G) (gb : List Int) (gi : Bool) (hget : getT G d.f2 = (gb, gi)) (hGl : G.length ≤ 1000) (hk : ¬ d.f0 = 7 ∧ ¬ d.f0 = 8 ∧ ¬ d.f0 = 1 ∧ ¬ d.f0 = 6 ∧ True) (hgi : gi = false) :
 Calls Try.prog 49 #[.agg #[.slice A0 F.length c0, .slice A1 P.length c1, .int .i64 q, .int .i64 n, .slice A4 nn.length c4, .int .i64 cr, .bool dw, .int .i64 pk], .agg #[.int .i64 d.f0, .string d.f1.f0, .int .i64 d.f1.f1, .int .i64 d.f1.f2, .slice A5 d.f1.f3.length c5, .string d.f2, .string d.f3, .slice A7 d.f4.length c7, .int .i64 d.f5]] w fun e w' => Avi Pf w F P q n1 nn cr d1 pk 4 [] [] e w' := by
 have HG := Bvh hG
 have HGET := Bvh hget
 clear hG hget
 have HASK := Bvh hask
 clear hask
 have HKK := Bvh hk
 clear hk
 obtain ⟨W, HW, HB0, HX, HY, HZ, HT, HSZ, HF, HQ, HN, HD, HM, HO0, HO2, HO3, HOLT⟩ := Ajb A0 c0 F A1 c1 P q n A4 c4 nn cr dw pk d A5 c5 A7 c7 Pf hlt hF hQ hN hD hM
 have HP := Bvh hP
 have HOK := Bvh hd
 have HLT := Bvh hlt
 have hle2 : w.heap.size ≤ w.heap.size + 1 + 1 := by omega
 have hle3 : w.heap.size ≤ w.heap.size + 1 + 1 + 1 := by omega
 have hle4 : w.heap.size ≤ w.heap.size + 4 := by omega
 clear hF hQ hN hD hM hP hd hlt
 go_enter Try.func49, Try.ntmps49
 go_upto_region 1 with fail
 rw [HW.out]
 obtain ⟨e0, e1, e2, e3, e4, e5, e6, e7, e8⟩ := HY.out.cell
 obtain ⟨y0, y1, y2, y3, y4, y5, y6, y7⟩ := HX.out.cell
 have hk7 := HKK.out.1
 have hk8 := HKK.out.2.1
 have hk1 := HKK.out.2.2.1
 have hk6 := HKK.out.2.2.2.1
 go_upto_region 9 with (go_at_call 83; (with_reducible refine (Azc A0 F.length c0 A1 P.length c1 q n A4 c4 nn cr dw pk n1 d1 0 HASK.out (Kd.V_reads' HN.out).2.2 (Kd.V_reads' HN.out).2.1 hnl h0 h1).mono ?_); rintro e w2 ⟨rfl, hb2⟩; obtain ⟨pf0, pg0, pf1, pg1, pf2, pg2, pf3, pg3, pf4, pg4, pf5, pg5, pf6, pg6, pf7, pg7, hA⟩ := (HX.out.below hb2).put (.slice A0 F.length c0) (.slice A1 P.length c1) (.int .i64 q) (.int .i64 n1) (.slice A4 nn.length c4) (.int .i64 cr) (.bool d1) (.int .i64 pk); have HA := Bvh hA; have HB2 := Bvh hb2; clear hA hb2 y0 y1 y2 y3 y4 y5 y6 y7)
 clear pf0 pg0 pf1 pg1 pf2 pg2 pf3 pg3 pf4 pg4 pf5 pg5 pf6 pg6 pf7 pg7 e0 e1 e2 e3 e4 e5 e6 e7 e8
 obtain ⟨Wa, HWA, HA, HYA, HZA, HTA, HBA, HSA, HFA, HQA, HNA, HDA, HMA⟩ := Awo HB0.out HY.out HZ.out HT.out HSZ.out HF.out HQ.out HN.out HD.out HM.out HO0.out HA.out HB2.out
 rw [HWA.out]
 obtain ⟨e0, e1, e2, e3, e4, e5, e6, e7, e8⟩ := HYA.out.cell
 obtain ⟨y0, y1, y2, y3, y4, y5, y6, y7⟩ := HA.out.cell
 go_upto_region 13 with (first
  | (go_at_call 51; (with_reducible refine (Ajn q n1 cr d1 pk HFA.out HQA.out HNA.out HP.out HOK.out (by omega) HG.out).mono ?_); rintro e w3 ⟨A3, c3, rfl, hv3, hb3⟩; have HV3 := Bvh hv3; have HB3 := Bvh hb3; have hf2 := (HYA.out.below hb3).cell.2.2.2.2.2.1; clear hv3 hb3)
  | (go_at_call 30; (with_reducible refine (xget d.f2 HV3.out (by omega) HGET.out).mono ?_); rintro e w4 ⟨Ag, cg, rfl, hv4, hb4⟩; have HV4 := Bvh hv4; have HB4 := Bvh hb4; clear hv4 hb4))
 have HBW := Bvh (Aq1 HB3.out HB4.out)
 have HXB := Bvh (HA.out.below HBW.out)
 have HYB := Bvh (HYA.out.below HBW.out)
 have HZB := Bvh (HZA.out.below HBW.out)
 have HTB := Bvh (HTA.out.below HBW.out)
 have HBB := Bvh (Aq1 HBA.out HBW.out)
 have HSB := Bvh (Nat.le_trans HSA.out HBW.out.size)
 have HFB := Bvh (Kd.V_below HFA.out HBW.out)
 have HQB := Bvh (Kd.V_below HQA.out HBW.out)
 have HNB := Bvh (Kd.V_below HNA.out HBW.out)
 have HDB := Bvh (Kd.V_below HDA.out HBW.out)
 have HMB := Bvh (Kd.V_below HMA.out HBW.out)
 have HVB := Bvh (V_P (b := 0) (ok2 := Out Pf (w.heap.size + 4)) (e2 := 38) (b2 := 0) (Kd.V_below HV3.out HB4.out) (fun k hk => hk.elim .inl fun h => .inr (Nat.le_trans HSA.out h)))
 have HGB := Bvh (V_P (b := 0) (ok2 := Out Pf (w.heap.size + 4)) (e2 := 5) (b2 := 0) HV4.out (fun k hk => hk.elim (fun h => h.elim .inl fun h => .inr (Nat.le_trans HSA.out h)) fun h => .inr (Nat.le_trans HSA.out (Nat.le_trans HB3.out.size h))))
 clear HV3 HV4 HB3 HB4 hf2 e0 e1 e2 e3 e4 e5 e6 e7 e8 y0 y1 y2 y3 y4 y5 y6 y7
 obtain ⟨e0, e1, e2, e3, e4, e5, e6, e7, e8⟩ := HYB.out.cell
 obtain ⟨y0, y1, y2, y3, y4, y5, y6, y7⟩ := HXB.out.cell
 go_upto_region 20 with fail
 obtain ⟨⟨pf0, pg0, pf1, pg1, pf2, pg2, pf3, pg3, pf4, pg4, pf5, pg5, pf6, pg6, pf7, pg7⟩, ⟨pt0, pt1, pt2, pt3, pt4, pt5⟩, hFX, hFT⟩ := fin2 HZB.out HTB.out (.slice A0 F.length c0) (.slice A1 P.length c1) (.int .i64 q) (.int .i64 n1) (.slice A4 nn.length c4) (.int .i64 cr) (.bool d1) (.int .i64 pk) (.int .i64 4) (.slice none 0 0) (.slice none 0 0)
 have HFX := Bvh hFX
 have HFT := Bvh hFT
 clear hFX hFT
 go_wp2
 refine bodyPost_ret (Aza rfl _ _ (w.heap.size + 1 + 1) (w.heap.size + 1 + 1 + 1) 71 73 #[.slice A0 F.length c0, .slice A1 P.length c1, .int .i64 q, .int .i64 n1, .slice A4 nn.length c4, .int .i64 cr, .bool d1, .int .i64 pk] #[.int .i64 4, .slice none 0 0, .slice none 0 0] (0, 0) (0, 0) _ _ rfl HFX.out Try.underlying71 rfl (by kernel_rfl) rfl HFT.out Try.underlying73 rfl (by kernel_rfl)) rfl ?_
 exact ⟨A0, c0, A1, c1, A4, c4, none, 0, none, 0, rfl, V_P (b := 0) (Aqo (Aqo (Aqo (Axe (V_in (n := w.heap.size + 4) (e2 := 38) (b2 := 0) (HFB.out)) HO2.out _ _ _ _ _ _ _ _) HO3.out) HO3.out) HO3.out) (fun k hk => hk.elim .inl fun h => .inr (Nat.le_trans hle4 h)), V_P (b := 0) (Aqo (Aqo (Aqo (Axe (V_in (n := w.heap.size + 4) (e2 := 25) (b2 := 0) (HQB.out)) HO2.out _ _ _ _ _ _ _ _) HO3.out) HO3.out) HO3.out) (fun k hk => hk.elim .inl fun h => .inr (Nat.le_trans hle4 h)), V_P (b := 0) (Aqo (Aqo (Aqo (Axe (V_in (n := w.heap.size + 4) (e2 := 3) (b2 := 0) (HNB.out)) HO2.out _ _ _ _ _ _ _ _) HO3.out) HO3.out) HO3.out) (fun k hk => hk.elim .inl fun h => .inr (Nat.le_trans hle4 h)), Kd.V_nil _ _ _ _ _, Kd.V_nil _ _ _ _ _, Aqg (Aqg (Aqg (Ax5 (HBB.out) hle2 _ _ _ _ _ _ _ _) hle3 0 _) hle3 1 _) hle3 2 _⟩
theorem xdo5 (A0 : Option Addr) (c0 : Nat) (F : List S38) (A1 : Option Addr) (c1 : Nat) (P : List S25) (q n : Int) (A4 : Option Addr) (c4 : Nat) (nn : List Int) (cr : Int) (dw : Bool) (pk : Int) (d : S76) (A5 : Option Addr) (c5 : Nat) (A7 : Option Addr) (c7 : Nat) (Pf : Nat → Prop) (hlt : ∀ k, Pf k → k < w.heap.size) (hF : Kd.V k38 38 w 0 Pf (.slice A0 F.length c0) F) (hQ : Kd.V k25 25 w 0 Pf (.slice A1 P.length c1) P) (hN : Kd.V (Kd.int .i64) 3 w 0 Pf (.slice A4 nn.length c4) nn) (hD : Kd.V (Kd.int .u8) 5 w 0 Pf (.slice A5 d.f1.f3.length c5) d.f1.f3) (hM : Kd.V (Kd.int .i64) 3 w 0 Pf (.slice A7 d.f4.length c7) d.f4) (hP : ∀ x ∈ P, x.f3.length ≤ 1000) (hd : okL F) (hl : F.length + P.length ≤ 980) (hx : d.f1.f3.length ≤ 1000) (hnl : nn.length ≤ 1000) (h0 : 0 ≤ n) (h1 : n ≤ 1000) (n1 : Int) (d1 : Bool) (hask : askX n cr nn dw = (n1, d1, 0)) (G : List S38) (hG : Azd F P = G) (gb : List Int) (gi : Bool) (hget : getT G d.f2 = (gb, gi)) (hGl : G.length ≤ 1000) (hk : ¬ d.f0 = 7 ∧ ¬ d.f0 = 8 ∧ ¬ d.f0 = 1 ∧ ¬ d.f0 = 6 ∧ ¬ d.f0 = 2 ∧ ¬ d.f0 = 3 ∧ ¬ d.f0 = 4 ∧ True) (hgi : gi = true) :
 Calls Try.prog 49 #[.agg #[.slice A0 F.length c0, .slice A1 P.length c1, .int .i64 q, .int .i64 n, .slice A4 nn.length c4, .int .i64 cr, .bool dw, .int .i64 pk], .agg #[.int .i64 d.f0, .string d.f1.f0, .int .i64 d.f1.f1, .int .i64 d.f1.f2, .slice A5 d.f1.f3.length c5, .string d.f2, .string d.f3, .slice A7 d.f4.length c7, .int .i64 d.f5]] w fun e w' => Avi Pf w F P q n1 nn cr d1 pk 0 gb [] e w' := by
 have HG := Bvh hG
 have HGET := Bvh hget
 clear hG hget
 have HASK := Bvh hask
 clear hask
 have HKK := Bvh hk
 clear hk
 obtain ⟨W, HW, HB0, HX, HY, HZ, HT, HSZ, HF, HQ, HN, HD, HM, HO0, HO2, HO3, HOLT⟩ := Ajb A0 c0 F A1 c1 P q n A4 c4 nn cr dw pk d A5 c5 A7 c7 Pf hlt hF hQ hN hD hM
 have HP := Bvh hP
 have HOK := Bvh hd
 have HLT := Bvh hlt
 have hle2 : w.heap.size ≤ w.heap.size + 1 + 1 := by omega
 have hle3 : w.heap.size ≤ w.heap.size + 1 + 1 + 1 := by omega
 have hle4 : w.heap.size ≤ w.heap.size + 4 := by omega
 clear hF hQ hN hD hM hP hd hlt
 go_enter Try.func49, Try.ntmps49
 go_upto_region 1 with fail
 rw [HW.out]
 obtain ⟨e0, e1, e2, e3, e4, e5, e6, e7, e8⟩ := HY.out.cell
 obtain ⟨y0, y1, y2, y3, y4, y5, y6, y7⟩ := HX.out.cell
 have hk7 := HKK.out.1
 have hk8 := HKK.out.2.1
 have hk1 := HKK.out.2.2.1
 have hk6 := HKK.out.2.2.2.1
 have hk2 := HKK.out.2.2.2.2.1
 have hk3 := HKK.out.2.2.2.2.2.1
 have hk4 := HKK.out.2.2.2.2.2.2.1
 go_upto_region 9 with (go_at_call 83; (with_reducible refine (Azc A0 F.length c0 A1 P.length c1 q n A4 c4 nn cr dw pk n1 d1 0 HASK.out (Kd.V_reads' HN.out).2.2 (Kd.V_reads' HN.out).2.1 hnl h0 h1).mono ?_); rintro e w2 ⟨rfl, hb2⟩; obtain ⟨pf0, pg0, pf1, pg1, pf2, pg2, pf3, pg3, pf4, pg4, pf5, pg5, pf6, pg6, pf7, pg7, hA⟩ := (HX.out.below hb2).put (.slice A0 F.length c0) (.slice A1 P.length c1) (.int .i64 q) (.int .i64 n1) (.slice A4 nn.length c4) (.int .i64 cr) (.bool d1) (.int .i64 pk); have HA := Bvh hA; have HB2 := Bvh hb2; clear hA hb2 y0 y1 y2 y3 y4 y5 y6 y7)
 clear pf0 pg0 pf1 pg1 pf2 pg2 pf3 pg3 pf4 pg4 pf5 pg5 pf6 pg6 pf7 pg7 e0 e1 e2 e3 e4 e5 e6 e7 e8
 obtain ⟨Wa, HWA, HA, HYA, HZA, HTA, HBA, HSA, HFA, HQA, HNA, HDA, HMA⟩ := Awo HB0.out HY.out HZ.out HT.out HSZ.out HF.out HQ.out HN.out HD.out HM.out HO0.out HA.out HB2.out
 rw [HWA.out]
 obtain ⟨e0, e1, e2, e3, e4, e5, e6, e7, e8⟩ := HYA.out.cell
 obtain ⟨y0, y1, y2, y3, y4, y5, y6, y7⟩ := HA.out.cell
 go_upto_region 13 with (first
  | (go_at_call 51; (with_reducible refine (Ajn q n1 cr d1 pk HFA.out HQA.out HNA.out HP.out HOK.out (by omega) HG.out).mono ?_); rintro e w3 ⟨A3, c3, rfl, hv3, hb3⟩; have HV3 := Bvh hv3; have HB3 := Bvh hb3; have hf2 := (HYA.out.below hb3).cell.2.2.2.2.2.1; clear hv3 hb3)
  | (go_at_call 30; (with_reducible refine (xget d.f2 HV3.out (by omega) HGET.out).mono ?_); rintro e w4 ⟨Ag, cg, rfl, hv4, hb4⟩; have HV4 := Bvh hv4; have HB4 := Bvh hb4; clear hv4 hb4))
 have HBW := Bvh (Aq1 HB3.out HB4.out)
 have HXB := Bvh (HA.out.below HBW.out)
 have HYB := Bvh (HYA.out.below HBW.out)
 have HZB := Bvh (HZA.out.below HBW.out)
 have HTB := Bvh (HTA.out.below HBW.out)
 have HBB := Bvh (Aq1 HBA.out HBW.out)
 have HSB := Bvh (Nat.le_trans HSA.out HBW.out.size)
 have HFB := Bvh (Kd.V_below HFA.out HBW.out)
 have HQB := Bvh (Kd.V_below HQA.out HBW.out)
 have HNB := Bvh (Kd.V_below HNA.out HBW.out)
 have HDB := Bvh (Kd.V_below HDA.out HBW.out)
 have HMB := Bvh (Kd.V_below HMA.out HBW.out)
 have HVB := Bvh (V_P (b := 0) (ok2 := Out Pf (w.heap.size + 4)) (e2 := 38) (b2 := 0) (Kd.V_below HV3.out HB4.out) (fun k hk => hk.elim .inl fun h => .inr (Nat.le_trans HSA.out h)))
 have HGB := Bvh (V_P (b := 0) (ok2 := Out Pf (w.heap.size + 4)) (e2 := 5) (b2 := 0) HV4.out (fun k hk => hk.elim (fun h => h.elim .inl fun h => .inr (Nat.le_trans HSA.out h)) fun h => .inr (Nat.le_trans HSA.out (Nat.le_trans HB3.out.size h))))
 clear HV3 HV4 HB3 HB4 hf2 e0 e1 e2 e3 e4 e5 e6 e7 e8 y0 y1 y2 y3 y4 y5 y6 y7
 obtain ⟨e0, e1, e2, e3, e4, e5, e6, e7, e8⟩ := HYB.out.cell
 obtain ⟨y0, y1, y2, y3, y4, y5, y6, y7⟩ := HXB.out.cell
 go_upto_region 34 with fail
 obtain ⟨⟨pf0, pg0, pf1, pg1, pf2, pg2, pf3, pg3, pf4, pg4, pf5, pg5, pf6, pg6, pf7, pg7⟩, ⟨pt0, pt1, pt2, pt3, pt4, pt5⟩, hFX, hFT⟩ := fin2 HZB.out HTB.out (.slice A0 F.length c0) (.slice A1 P.length c1) (.int .i64 q) (.int .i64 n1) (.slice A4 nn.length c4) (.int .i64 cr) (.bool d1) (.int .i64 pk) (.int .i64 0) (.slice Ag gb.length cg) (.slice none 0 0)
 have HFX := Bvh hFX
 have HFT := Bvh hFT
 clear hFX hFT
 go_wp2
 refine bodyPost_ret (Aza rfl _ _ (w.heap.size + 1 + 1) (w.heap.size + 1 + 1 + 1) 71 73 #[.slice A0 F.length c0, .slice A1 P.length c1, .int .i64 q, .int .i64 n1, .slice A4 nn.length c4, .int .i64 cr, .bool d1, .int .i64 pk] #[.int .i64 0, .slice Ag gb.length cg, .slice none 0 0] (0, 0) (0, 0) _ _ rfl HFX.out Try.underlying71 rfl (by kernel_rfl) rfl HFT.out Try.underlying73 rfl (by kernel_rfl)) rfl ?_
 exact ⟨A0, c0, A1, c1, A4, c4, Ag, cg, none, 0, rfl, V_P (b := 0) (Aqo (Aqo (Aqo (Axe (V_in (n := w.heap.size + 4) (e2 := 38) (b2 := 0) (HFB.out)) HO2.out _ _ _ _ _ _ _ _) HO3.out) HO3.out) HO3.out) (fun k hk => hk.elim .inl fun h => .inr (Nat.le_trans hle4 h)), V_P (b := 0) (Aqo (Aqo (Aqo (Axe (V_in (n := w.heap.size + 4) (e2 := 25) (b2 := 0) (HQB.out)) HO2.out _ _ _ _ _ _ _ _) HO3.out) HO3.out) HO3.out) (fun k hk => hk.elim .inl fun h => .inr (Nat.le_trans hle4 h)), V_P (b := 0) (Aqo (Aqo (Aqo (Axe (V_in (n := w.heap.size + 4) (e2 := 3) (b2 := 0) (HNB.out)) HO2.out _ _ _ _ _ _ _ _) HO3.out) HO3.out) HO3.out) (fun k hk => hk.elim .inl fun h => .inr (Nat.le_trans hle4 h)), V_P (b := 0) (Aqo (Aqo (Aqo (Axe (HGB.out) HO2.out _ _ _ _ _ _ _ _) HO3.out) HO3.out) HO3.out) (fun k hk => hk.elim .inl fun h => .inr (Nat.le_trans hle4 h)), Kd.V_nil _ _ _ _ _, Aqg (Aqg (Aqg (Ax5 (HBB.out) hle2 _ _ _ _ _ _ _ _) hle3 0 _) hle3 1 _) hle3 2 _⟩
end
end
section
section
variable {w : World}
theorem xdo2 (A0 : Option Addr) (c0 : Nat) (F : List S38) (A1 : Option Addr) (c1 : Nat) (P : List S25) (q n : Int) (A4 : Option Addr) (c4 : Nat) (nn : List Int) (cr : Int) (dw : Bool) (pk : Int) (d : S76) (A5 : Option Addr) (c5 : Nat) (A7 : Option Addr) (c7 : Nat) (Pf : Nat → Prop) (hlt : ∀ k, Pf k → k < w.heap.size) (hF : Kd.V k38 38 w 0 Pf (.slice A0 F.length c0) F) (hQ : Kd.V k25 25 w 0 Pf (.slice A1 P.length c1) P) (hN : Kd.V (Kd.int .i64) 3 w 0 Pf (.slice A4 nn.length c4) nn) (hD : Kd.V (Kd.int .u8) 5 w 0 Pf (.slice A5 d.f1.f3.length c5) d.f1.f3) (hM : Kd.V (Kd.int .i64) 3 w 0 Pf (.slice A7 d.f4.length c7) d.f4) (hP : ∀ x ∈ P, x.f3.length ≤ 1000) (hd : okL F) (hl : F.length + P.length ≤ 980) (hx : d.f1.f3.length ≤ 1000) (hnl : nn.length ≤ 1000) (h0 : 0 ≤ n) (h1 : n ≤ 1000) (n1 : Int) (d1 : Bool) (hask : askX n cr nn dw = (n1, d1, 0)) (G : List S38) (hG : Azd F P = G) (gb : List Int) (gi : Bool) (hget : getT G d.f2 = (gb, gi)) (hGl : G.length ≤ 1000) (hk : d.f0 = 2) (hgi : gi = true) (H : List S38) (hH : Az0 (fun _ => -1) 0 F ((P.filter (Aj9 d.f2)).map to31) = H) (Q : List S25) (hQQ : (P.filter fun x => !Aj9 d.f2 x) = Q) :
 Calls Try.prog 49 #[.agg #[.slice A0 F.length c0, .slice A1 P.length c1, .int .i64 q, .int .i64 n, .slice A4 nn.length c4, .int .i64 cr, .bool dw, .int .i64 pk], .agg #[.int .i64 d.f0, .string d.f1.f0, .int .i64 d.f1.f1, .int .i64 d.f1.f2, .slice A5 d.f1.f3.length c5, .string d.f2, .string d.f3, .slice A7 d.f4.length c7, .int .i64 d.f5]] w fun e w' => Avi Pf w H Q q n1 nn cr d1 pk 0 [] [] e w' := by
 have HG := Bvh hG
 have HGET := Bvh hget
 clear hG hget
 have HASK := Bvh hask
 clear hask
 have HKK := Bvh hk
 clear hk
 obtain ⟨W, HW, HB0, HX, HY, HZ, HT, HSZ, HF, HQ, HN, HD, HM, HO0, HO2, HO3, HOLT⟩ := Ajb A0 c0 F A1 c1 P q n A4 c4 nn cr dw pk d A5 c5 A7 c7 Pf hlt hF hQ hN hD hM
 have HP := Bvh hP
 have HOK := Bvh hd
 have HLT := Bvh hlt
 have hle2 : w.heap.size ≤ w.heap.size + 1 + 1 := by omega
 have hle3 : w.heap.size ≤ w.heap.size + 1 + 1 + 1 := by omega
 have hle4 : w.heap.size ≤ w.heap.size + 4 := by omega
 clear hF hQ hN hD hM hP hd hlt
 go_enter Try.func49, Try.ntmps49
 go_upto_region 1 with fail
 rw [HW.out]
 obtain ⟨e0, e1, e2, e3, e4, e5, e6, e7, e8⟩ := HY.out.cell
 obtain ⟨y0, y1, y2, y3, y4, y5, y6, y7⟩ := HX.out.cell
 rw [HKK.out] at e0
 go_upto_region 9 with (go_at_call 83; (with_reducible refine (Azc A0 F.length c0 A1 P.length c1 q n A4 c4 nn cr dw pk n1 d1 0 HASK.out (Kd.V_reads' HN.out).2.2 (Kd.V_reads' HN.out).2.1 hnl h0 h1).mono ?_); rintro e w2 ⟨rfl, hb2⟩; obtain ⟨pf0, pg0, pf1, pg1, pf2, pg2, pf3, pg3, pf4, pg4, pf5, pg5, pf6, pg6, pf7, pg7, hA⟩ := (HX.out.below hb2).put (.slice A0 F.length c0) (.slice A1 P.length c1) (.int .i64 q) (.int .i64 n1) (.slice A4 nn.length c4) (.int .i64 cr) (.bool d1) (.int .i64 pk); have HA := Bvh hA; have HB2 := Bvh hb2; clear hA hb2 y0 y1 y2 y3 y4 y5 y6 y7)
 clear pf0 pg0 pf1 pg1 pf2 pg2 pf3 pg3 pf4 pg4 pf5 pg5 pf6 pg6 pf7 pg7 e0 e1 e2 e3 e4 e5 e6 e7 e8
 obtain ⟨Wa, HWA, HA, HYA, HZA, HTA, HBA, HSA, HFA, HQA, HNA, HDA, HMA⟩ := Awo HB0.out HY.out HZ.out HT.out HSZ.out HF.out HQ.out HN.out HD.out HM.out HO0.out HA.out HB2.out
 rw [HWA.out]
 obtain ⟨e0, e1, e2, e3, e4, e5, e6, e7, e8⟩ := HYA.out.cell
 obtain ⟨y0, y1, y2, y3, y4, y5, y6, y7⟩ := HA.out.cell
 rw [HKK.out] at e0
 go_upto_region 13 with (first
  | (go_at_call 51; (with_reducible refine (Ajn q n1 cr d1 pk HFA.out HQA.out HNA.out HP.out HOK.out (by omega) HG.out).mono ?_); rintro e w3 ⟨A3, c3, rfl, hv3, hb3⟩; have HV3 := Bvh hv3; have HB3 := Bvh hb3; have hf2 := (HYA.out.below hb3).cell.2.2.2.2.2.1; clear hv3 hb3)
  | (go_at_call 30; (with_reducible refine (xget d.f2 HV3.out (by omega) HGET.out).mono ?_); rintro e w4 ⟨Ag, cg, rfl, hv4, hb4⟩; have HV4 := Bvh hv4; have HB4 := Bvh hb4; clear hv4 hb4))
 have HBW := Bvh (Aq1 HB3.out HB4.out)
 have HXB := Bvh (HA.out.below HBW.out)
 have HYB := Bvh (HYA.out.below HBW.out)
 have HZB := Bvh (HZA.out.below HBW.out)
 have HTB := Bvh (HTA.out.below HBW.out)
 have HBB := Bvh (Aq1 HBA.out HBW.out)
 have HSB := Bvh (Nat.le_trans HSA.out HBW.out.size)
 have HFB := Bvh (Kd.V_below HFA.out HBW.out)
 have HQB := Bvh (Kd.V_below HQA.out HBW.out)
 have HNB := Bvh (Kd.V_below HNA.out HBW.out)
 have HDB := Bvh (Kd.V_below HDA.out HBW.out)
 have HMB := Bvh (Kd.V_below HMA.out HBW.out)
 have HVB := Bvh (V_P (b := 0) (ok2 := Out Pf (w.heap.size + 4)) (e2 := 38) (b2 := 0) (Kd.V_below HV3.out HB4.out) (fun k hk => hk.elim .inl fun h => .inr (Nat.le_trans HSA.out h)))
 have HGB := Bvh (V_P (b := 0) (ok2 := Out Pf (w.heap.size + 4)) (e2 := 5) (b2 := 0) HV4.out (fun k hk => hk.elim (fun h => h.elim .inl fun h => .inr (Nat.le_trans HSA.out h)) fun h => .inr (Nat.le_trans HSA.out (Nat.le_trans HB3.out.size h))))
 clear HV3 HV4 HB3 HB4 hf2 e0 e1 e2 e3 e4 e5 e6 e7 e8 y0 y1 y2 y3 y4 y5 y6 y7
 obtain ⟨e0, e1, e2, e3, e4, e5, e6, e7, e8⟩ := HYB.out.cell
 obtain ⟨y0, y1, y2, y3, y4, y5, y6, y7⟩ := HXB.out.cell
 rw [HKK.out] at e0
 have HH := Bvh hH
 have HQQ := Bvh hQQ
 clear hH hQQ
 go_wp2_with (go_at_call 85; (with_reducible refine (Bjz A0 c0 F A1 c1 P q n1 A4 nn.length c4 cr d1 pk d.f2 Pf (fun k hk => Nat.lt_of_lt_of_le (HLT.out k hk) (Nat.le_trans hle4 HSB.out)) HFB.out HQB.out HP.out HOK.out (by omega) H HH.out Q HQQ.out).mono ?_); rintro e w5 ⟨Ah, ch, Aq, cq, rfl, hv5, hq5, hb5⟩; have HV5 := Bvh (V_P (b := 0) (ok2 := Out Pf (w.heap.size + 4)) (e2 := 38) (b2 := 0) hv5 (fun k hk => hk.elim .inl fun h => .inr (Nat.le_trans HSB.out h))); have HQ5 := Bvh (V_P (b := 0) (ok2 := Out Pf (w.heap.size + 4)) (e2 := 25) (b2 := 0) hq5 (fun k hk => hk.elim .inl fun h => .inr (Nat.le_trans HSB.out h))); have HB5 := Bvh hb5; obtain ⟨⟨pf0, pg0, pf1, pg1, pf2, pg2, pf3, pg3, pf4, pg4, pf5, pg5, pf6, pg6, pf7, pg7⟩, ⟨pt0, pt1, pt2, pt3, pt4, pt5⟩, hFX, hFT⟩ := fin2 (HZB.out.below hb5) (HTB.out.below hb5) (.slice Ah H.length ch) (.slice Aq Q.length cq) (.int .i64 q) (.int .i64 n1) (.slice A4 nn.length c4) (.int .i64 cr) (.bool d1) (.int .i64 pk) (.int .i64 0) (.slice none 0 0) (.slice none 0 0); have HFX := Bvh hFX; have HFT := Bvh hFT; clear hFX hFT; clear hv5 hq5 hb5)
 refine bodyPost_ret (Aza rfl _ _ (w.heap.size + 1 + 1) (w.heap.size + 1 + 1 + 1) 71 73 #[.slice Ah H.length ch, .slice Aq Q.length cq, .int .i64 q, .int .i64 n1, .slice A4 nn.length c4, .int .i64 cr, .bool d1, .int .i64 pk] #[.int .i64 0, .slice none 0 0, .slice none 0 0] (0, 0) (0, 0) _ _ rfl HFX.out Try.underlying71 rfl (by kernel_rfl) rfl HFT.out Try.underlying73 rfl (by kernel_rfl)) rfl ?_
 exact ⟨Ah, ch, Aq, cq, A4, c4, none, 0, none, 0, rfl, V_P (b := 0) (Aqo (Aqo (Aqo (Axe (HV5.out) HO2.out _ _ _ _ _ _ _ _) HO3.out) HO3.out) HO3.out) (fun k hk => hk.elim .inl fun h => .inr (Nat.le_trans hle4 h)), V_P (b := 0) (Aqo (Aqo (Aqo (Axe (HQ5.out) HO2.out _ _ _ _ _ _ _ _) HO3.out) HO3.out) HO3.out) (fun k hk => hk.elim .inl fun h => .inr (Nat.le_trans hle4 h)), V_P (b := 0) (Aqo (Aqo (Aqo (Axe (V_in (n := w.heap.size + 4) (e2 := 3) (b2 := 0) (Kd.V_below HNB.out HB5.out)) HO2.out _ _ _ _ _ _ _ _) HO3.out) HO3.out) HO3.out) (fun k hk => hk.elim .inl fun h => .inr (Nat.le_trans hle4 h)), Kd.V_nil _ _ _ _ _, Kd.V_nil _ _ _ _ _, Aqg (Aqg (Aqg (Ax5 (Aq1 HBB.out HB5.out) hle2 _ _ _ _ _ _ _ _) hle3 0 _) hle3 1 _) hle3 2 _⟩
theorem xdo3 (A0 : Option Addr) (c0 : Nat) (F : List S38) (A1 : Option Addr) (c1 : Nat) (P : List S25) (q n : Int) (A4 : Option Addr) (c4 : Nat) (nn : List Int) (cr : Int) (dw : Bool) (pk : Int) (d : S76) (A5 : Option Addr) (c5 : Nat) (A7 : Option Addr) (c7 : Nat) (Pf : Nat → Prop) (hlt : ∀ k, Pf k → k < w.heap.size) (hF : Kd.V k38 38 w 0 Pf (.slice A0 F.length c0) F) (hQ : Kd.V k25 25 w 0 Pf (.slice A1 P.length c1) P) (hN : Kd.V (Kd.int .i64) 3 w 0 Pf (.slice A4 nn.length c4) nn) (hD : Kd.V (Kd.int .u8) 5 w 0 Pf (.slice A5 d.f1.f3.length c5) d.f1.f3) (hM : Kd.V (Kd.int .i64) 3 w 0 Pf (.slice A7 d.f4.length c7) d.f4) (hP : ∀ x ∈ P, x.f3.length ≤ 1000) (hd : okL F) (hl : F.length + P.length ≤ 980) (hx : d.f1.f3.length ≤ 1000) (hnl : nn.length ≤ 1000) (h0 : 0 ≤ n) (h1 : n ≤ 1000) (n1 : Int) (d1 : Bool) (hask : askX n cr nn dw = (n1, d1, 0)) (G : List S38) (hG : Azd F P = G) (gb : List Int) (gi : Bool) (hget : getT G d.f2 = (gb, gi)) (hGl : G.length ≤ 1000) (hk : d.f0 = 3) (hgi : gi = true) (hlo : decide ((d.f3.size : Int) < 1) = false) (hhi : decide (40 < (d.f3.size : Int)) = false) (hne : (d.f2.toList == d.f3.toList) = false) (H : List S38) (hH : Avx (F.filter fun x => !Ax8 d.f3 x) d.f2 d.f3 = H) (Q : List S25) (hQQ : Ak9 d.f2 d.f3 P = Q) :
 Calls Try.prog 49 #[.agg #[.slice A0 F.length c0, .slice A1 P.length c1, .int .i64 q, .int .i64 n, .slice A4 nn.length c4, .int .i64 cr, .bool dw, .int .i64 pk], .agg #[.int .i64 d.f0, .string d.f1.f0, .int .i64 d.f1.f1, .int .i64 d.f1.f2, .slice A5 d.f1.f3.length c5, .string d.f2, .string d.f3, .slice A7 d.f4.length c7, .int .i64 d.f5]] w fun e w' => Avi Pf w H Q q n1 nn cr d1 pk 0 [] [] e w' := by
 have HG := Bvh hG
 have HGET := Bvh hget
 clear hG hget
 have HASK := Bvh hask
 clear hask
 have HKK := Bvh hk
 clear hk
 obtain ⟨W, HW, HB0, HX, HY, HZ, HT, HSZ, HF, HQ, HN, HD, HM, HO0, HO2, HO3, HOLT⟩ := Ajb A0 c0 F A1 c1 P q n A4 c4 nn cr dw pk d A5 c5 A7 c7 Pf hlt hF hQ hN hD hM
 have HP := Bvh hP
 have HOK := Bvh hd
 have HLT := Bvh hlt
 have hle2 : w.heap.size ≤ w.heap.size + 1 + 1 := by omega
 have hle3 : w.heap.size ≤ w.heap.size + 1 + 1 + 1 := by omega
 have hle4 : w.heap.size ≤ w.heap.size + 4 := by omega
 clear hF hQ hN hD hM hP hd hlt
 go_enter Try.func49, Try.ntmps49
 go_upto_region 1 with fail
 rw [HW.out]
 obtain ⟨e0, e1, e2, e3, e4, e5, e6, e7, e8⟩ := HY.out.cell
 obtain ⟨y0, y1, y2, y3, y4, y5, y6, y7⟩ := HX.out.cell
 rw [HKK.out] at e0
 go_upto_region 9 with (go_at_call 83; (with_reducible refine (Azc A0 F.length c0 A1 P.length c1 q n A4 c4 nn cr dw pk n1 d1 0 HASK.out (Kd.V_reads' HN.out).2.2 (Kd.V_reads' HN.out).2.1 hnl h0 h1).mono ?_); rintro e w2 ⟨rfl, hb2⟩; obtain ⟨pf0, pg0, pf1, pg1, pf2, pg2, pf3, pg3, pf4, pg4, pf5, pg5, pf6, pg6, pf7, pg7, hA⟩ := (HX.out.below hb2).put (.slice A0 F.length c0) (.slice A1 P.length c1) (.int .i64 q) (.int .i64 n1) (.slice A4 nn.length c4) (.int .i64 cr) (.bool d1) (.int .i64 pk); have HA := Bvh hA; have HB2 := Bvh hb2; clear hA hb2 y0 y1 y2 y3 y4 y5 y6 y7)
 clear pf0 pg0 pf1 pg1 pf2 pg2 pf3 pg3 pf4 pg4 pf5 pg5 pf6 pg6 pf7 pg7 e0 e1 e2 e3 e4 e5 e6 e7 e8
 obtain ⟨Wa, HWA, HA, HYA, HZA, HTA, HBA, HSA, HFA, HQA, HNA, HDA, HMA⟩ := Awo HB0.out HY.out HZ.out HT.out HSZ.out HF.out HQ.out HN.out HD.out HM.out HO0.out HA.out HB2.out
 rw [HWA.out]
 obtain ⟨e0, e1, e2, e3, e4, e5, e6, e7, e8⟩ := HYA.out.cell
 obtain ⟨y0, y1, y2, y3, y4, y5, y6, y7⟩ := HA.out.cell
 rw [HKK.out] at e0
 go_upto_region 13 with (first
  | (go_at_call 51; (with_reducible refine (Ajn q n1 cr d1 pk HFA.out HQA.out HNA.out HP.out HOK.out (by omega) HG.out).mono ?_); rintro e w3 ⟨A3, c3, rfl, hv3, hb3⟩; have HV3 := Bvh hv3; have HB3 := Bvh hb3; have hf2 := (HYA.out.below hb3).cell.2.2.2.2.2.1; clear hv3 hb3)
  | (go_at_call 30; (with_reducible refine (xget d.f2 HV3.out (by omega) HGET.out).mono ?_); rintro e w4 ⟨Ag, cg, rfl, hv4, hb4⟩; have HV4 := Bvh hv4; have HB4 := Bvh hb4; clear hv4 hb4))
 have HBW := Bvh (Aq1 HB3.out HB4.out)
 have HXB := Bvh (HA.out.below HBW.out)
 have HYB := Bvh (HYA.out.below HBW.out)
 have HZB := Bvh (HZA.out.below HBW.out)
 have HTB := Bvh (HTA.out.below HBW.out)
 have HBB := Bvh (Aq1 HBA.out HBW.out)
 have HSB := Bvh (Nat.le_trans HSA.out HBW.out.size)
 have HFB := Bvh (Kd.V_below HFA.out HBW.out)
 have HQB := Bvh (Kd.V_below HQA.out HBW.out)
 have HNB := Bvh (Kd.V_below HNA.out HBW.out)
 have HDB := Bvh (Kd.V_below HDA.out HBW.out)
 have HMB := Bvh (Kd.V_below HMA.out HBW.out)
 have HVB := Bvh (V_P (b := 0) (ok2 := Out Pf (w.heap.size + 4)) (e2 := 38) (b2 := 0) (Kd.V_below HV3.out HB4.out) (fun k hk => hk.elim .inl fun h => .inr (Nat.le_trans HSA.out h)))
 have HGB := Bvh (V_P (b := 0) (ok2 := Out Pf (w.heap.size + 4)) (e2 := 5) (b2 := 0) HV4.out (fun k hk => hk.elim (fun h => h.elim .inl fun h => .inr (Nat.le_trans HSA.out h)) fun h => .inr (Nat.le_trans HSA.out (Nat.le_trans HB3.out.size h))))
 clear HV3 HV4 HB3 HB4 hf2 e0 e1 e2 e3 e4 e5 e6 e7 e8 y0 y1 y2 y3 y4 y5 y6 y7
 obtain ⟨e0, e1, e2, e3, e4, e5, e6, e7, e8⟩ := HYB.out.cell
 obtain ⟨y0, y1, y2, y3, y4, y5, y6, y7⟩ := HXB.out.cell
 rw [HKK.out] at e0
 have HH := Bvh hH
 have HQQ := Bvh hQQ
 clear hH hQQ
 have HNE := Bvh hne
 go_wp2_with (go_at_call 86; (with_reducible refine (xmoved A0 c0 F A1 c1 P q n1 A4 nn.length c4 cr d1 pk d.f2 d.f3 HNE.out Pf (fun k hk => Nat.lt_of_lt_of_le (HLT.out k hk) (Nat.le_trans hle4 HSB.out)) HFB.out HQB.out (by omega) H HH.out Q HQQ.out).mono ?_); rintro e w5 ⟨Ah, ch, Aq, cq, rfl, hv5, hq5, hb5⟩; have HV5 := Bvh (V_P (b := 0) (ok2 := Out Pf (w.heap.size + 4)) (e2 := 38) (b2 := 0) hv5 (fun k hk => hk.elim .inl fun h => .inr (Nat.le_trans HSB.out h))); have HQ5 := Bvh (V_P (b := 0) (ok2 := Out Pf (w.heap.size + 4)) (e2 := 25) (b2 := 0) hq5 (fun k hk => hk.elim .inl fun h => .inr (Nat.le_trans HSB.out h))); have HB5 := Bvh hb5; obtain ⟨⟨pf0, pg0, pf1, pg1, pf2, pg2, pf3, pg3, pf4, pg4, pf5, pg5, pf6, pg6, pf7, pg7⟩, ⟨pt0, pt1, pt2, pt3, pt4, pt5⟩, hFX, hFT⟩ := fin2 (HZB.out.below hb5) (HTB.out.below hb5) (.slice Ah H.length ch) (.slice Aq Q.length cq) (.int .i64 q) (.int .i64 n1) (.slice A4 nn.length c4) (.int .i64 cr) (.bool d1) (.int .i64 pk) (.int .i64 0) (.slice none 0 0) (.slice none 0 0); have HFX := Bvh hFX; have HFT := Bvh hFT; clear hFX hFT; clear hv5 hq5 hb5)
 refine bodyPost_ret (Aza rfl _ _ (w.heap.size + 1 + 1) (w.heap.size + 1 + 1 + 1) 71 73 #[.slice Ah H.length ch, .slice Aq Q.length cq, .int .i64 q, .int .i64 n1, .slice A4 nn.length c4, .int .i64 cr, .bool d1, .int .i64 pk] #[.int .i64 0, .slice none 0 0, .slice none 0 0] (0, 0) (0, 0) _ _ rfl HFX.out Try.underlying71 rfl (by kernel_rfl) rfl HFT.out Try.underlying73 rfl (by kernel_rfl)) rfl ?_
 exact ⟨Ah, ch, Aq, cq, A4, c4, none, 0, none, 0, rfl, V_P (b := 0) (Aqo (Aqo (Aqo (Axe (HV5.out) HO2.out _ _ _ _ _ _ _ _) HO3.out) HO3.out) HO3.out) (fun k hk => hk.elim .inl fun h => .inr (Nat.le_trans hle4 h)), V_P (b := 0) (Aqo (Aqo (Aqo (Axe (HQ5.out) HO2.out _ _ _ _ _ _ _ _) HO3.out) HO3.out) HO3.out) (fun k hk => hk.elim .inl fun h => .inr (Nat.le_trans hle4 h)), V_P (b := 0) (Aqo (Aqo (Aqo (Axe (V_in (n := w.heap.size + 4) (e2 := 3) (b2 := 0) (Kd.V_below HNB.out HB5.out)) HO2.out _ _ _ _ _ _ _ _) HO3.out) HO3.out) HO3.out) (fun k hk => hk.elim .inl fun h => .inr (Nat.le_trans hle4 h)), Kd.V_nil _ _ _ _ _, Kd.V_nil _ _ _ _ _, Aqg (Aqg (Aqg (Ax5 (Aq1 HBB.out HB5.out) hle2 _ _ _ _ _ _ _ _) hle3 0 _) hle3 1 _) hle3 2 _⟩
theorem Bk0 (A0 : Option Addr) (c0 : Nat) (F : List S38) (A1 : Option Addr) (c1 : Nat) (P : List S25) (q n : Int) (A4 : Option Addr) (c4 : Nat) (nn : List Int) (cr : Int) (dw : Bool) (pk : Int) (d : S76) (A5 : Option Addr) (c5 : Nat) (A7 : Option Addr) (c7 : Nat) (Pf : Nat → Prop) (hlt : ∀ k, Pf k → k < w.heap.size) (hF : Kd.V k38 38 w 0 Pf (.slice A0 F.length c0) F) (hQ : Kd.V k25 25 w 0 Pf (.slice A1 P.length c1) P) (hN : Kd.V (Kd.int .i64) 3 w 0 Pf (.slice A4 nn.length c4) nn) (hD : Kd.V (Kd.int .u8) 5 w 0 Pf (.slice A5 d.f1.f3.length c5) d.f1.f3) (hM : Kd.V (Kd.int .i64) 3 w 0 Pf (.slice A7 d.f4.length c7) d.f4) (hP : ∀ x ∈ P, x.f3.length ≤ 1000) (hd : okL F) (hl : F.length + P.length ≤ 980) (hx : d.f1.f3.length ≤ 1000) (hnl : nn.length ≤ 1000) (h0 : 0 ≤ n) (h1 : n ≤ 1000) (n1 : Int) (d1 : Bool) (hask : askX n cr nn dw = (n1, d1, 0)) (G : List S38) (hG : Azd F P = G) (gb : List Int) (gi : Bool) (hget : getT G d.f2 = (gb, gi)) (hGl : G.length ≤ 1000) (hk : d.f0 = 3) (hgi : gi = true) (hlo : decide ((d.f3.size : Int) < 1) = false) (hhi : decide (40 < (d.f3.size : Int)) = false) (hne : (d.f2.toList == d.f3.toList) = true) :
 Calls Try.prog 49 #[.agg #[.slice A0 F.length c0, .slice A1 P.length c1, .int .i64 q, .int .i64 n, .slice A4 nn.length c4, .int .i64 cr, .bool dw, .int .i64 pk], .agg #[.int .i64 d.f0, .string d.f1.f0, .int .i64 d.f1.f1, .int .i64 d.f1.f2, .slice A5 d.f1.f3.length c5, .string d.f2, .string d.f3, .slice A7 d.f4.length c7, .int .i64 d.f5]] w fun e w' => Avi Pf w F P q n1 nn cr d1 pk 0 [] [] e w' := by
 have HG := Bvh hG
 have HGET := Bvh hget
 clear hG hget
 have HASK := Bvh hask
 clear hask
 have HKK := Bvh hk
 clear hk
 obtain ⟨W, HW, HB0, HX, HY, HZ, HT, HSZ, HF, HQ, HN, HD, HM, HO0, HO2, HO3, HOLT⟩ := Ajb A0 c0 F A1 c1 P q n A4 c4 nn cr dw pk d A5 c5 A7 c7 Pf hlt hF hQ hN hD hM
 have HP := Bvh hP
 have HOK := Bvh hd
 have HLT := Bvh hlt
 have hle2 : w.heap.size ≤ w.heap.size + 1 + 1 := by omega
 have hle3 : w.heap.size ≤ w.heap.size + 1 + 1 + 1 := by omega
 have hle4 : w.heap.size ≤ w.heap.size + 4 := by omega
 clear hF hQ hN hD hM hP hd hlt
 go_enter Try.func49, Try.ntmps49
 go_upto_region 1 with fail
 rw [HW.out]
 obtain ⟨e0, e1, e2, e3, e4, e5, e6, e7, e8⟩ := HY.out.cell
 obtain ⟨y0, y1, y2, y3, y4, y5, y6, y7⟩ := HX.out.cell
 rw [HKK.out] at e0
 go_upto_region 9 with (go_at_call 83; (with_reducible refine (Azc A0 F.length c0 A1 P.length c1 q n A4 c4 nn cr dw pk n1 d1 0 HASK.out (Kd.V_reads' HN.out).2.2 (Kd.V_reads' HN.out).2.1 hnl h0 h1).mono ?_); rintro e w2 ⟨rfl, hb2⟩; obtain ⟨pf0, pg0, pf1, pg1, pf2, pg2, pf3, pg3, pf4, pg4, pf5, pg5, pf6, pg6, pf7, pg7, hA⟩ := (HX.out.below hb2).put (.slice A0 F.length c0) (.slice A1 P.length c1) (.int .i64 q) (.int .i64 n1) (.slice A4 nn.length c4) (.int .i64 cr) (.bool d1) (.int .i64 pk); have HA := Bvh hA; have HB2 := Bvh hb2; clear hA hb2 y0 y1 y2 y3 y4 y5 y6 y7)
 clear pf0 pg0 pf1 pg1 pf2 pg2 pf3 pg3 pf4 pg4 pf5 pg5 pf6 pg6 pf7 pg7 e0 e1 e2 e3 e4 e5 e6 e7 e8
 obtain ⟨Wa, HWA, HA, HYA, HZA, HTA, HBA, HSA, HFA, HQA, HNA, HDA, HMA⟩ := Awo HB0.out HY.out HZ.out HT.out HSZ.out HF.out HQ.out HN.out HD.out HM.out HO0.out HA.out HB2.out
 rw [HWA.out]
 obtain ⟨e0, e1, e2, e3, e4, e5, e6, e7, e8⟩ := HYA.out.cell
 obtain ⟨y0, y1, y2, y3, y4, y5, y6, y7⟩ := HA.out.cell
 rw [HKK.out] at e0
 go_upto_region 13 with (first
  | (go_at_call 51; (with_reducible refine (Ajn q n1 cr d1 pk HFA.out HQA.out HNA.out HP.out HOK.out (by omega) HG.out).mono ?_); rintro e w3 ⟨A3, c3, rfl, hv3, hb3⟩; have HV3 := Bvh hv3; have HB3 := Bvh hb3; have hf2 := (HYA.out.below hb3).cell.2.2.2.2.2.1; clear hv3 hb3)
  | (go_at_call 30; (with_reducible refine (xget d.f2 HV3.out (by omega) HGET.out).mono ?_); rintro e w4 ⟨Ag, cg, rfl, hv4, hb4⟩; have HV4 := Bvh hv4; have HB4 := Bvh hb4; clear hv4 hb4))
 have HBW := Bvh (Aq1 HB3.out HB4.out)
 have HXB := Bvh (HA.out.below HBW.out)
 have HYB := Bvh (HYA.out.below HBW.out)
 have HZB := Bvh (HZA.out.below HBW.out)
 have HTB := Bvh (HTA.out.below HBW.out)
 have HBB := Bvh (Aq1 HBA.out HBW.out)
 have HSB := Bvh (Nat.le_trans HSA.out HBW.out.size)
 have HFB := Bvh (Kd.V_below HFA.out HBW.out)
 have HQB := Bvh (Kd.V_below HQA.out HBW.out)
 have HNB := Bvh (Kd.V_below HNA.out HBW.out)
 have HDB := Bvh (Kd.V_below HDA.out HBW.out)
 have HMB := Bvh (Kd.V_below HMA.out HBW.out)
 have HVB := Bvh (V_P (b := 0) (ok2 := Out Pf (w.heap.size + 4)) (e2 := 38) (b2 := 0) (Kd.V_below HV3.out HB4.out) (fun k hk => hk.elim .inl fun h => .inr (Nat.le_trans HSA.out h)))
 have HGB := Bvh (V_P (b := 0) (ok2 := Out Pf (w.heap.size + 4)) (e2 := 5) (b2 := 0) HV4.out (fun k hk => hk.elim (fun h => h.elim .inl fun h => .inr (Nat.le_trans HSA.out h)) fun h => .inr (Nat.le_trans HSA.out (Nat.le_trans HB3.out.size h))))
 clear HV3 HV4 HB3 HB4 hf2 e0 e1 e2 e3 e4 e5 e6 e7 e8 y0 y1 y2 y3 y4 y5 y6 y7
 obtain ⟨e0, e1, e2, e3, e4, e5, e6, e7, e8⟩ := HYB.out.cell
 obtain ⟨y0, y1, y2, y3, y4, y5, y6, y7⟩ := HXB.out.cell
 rw [HKK.out] at e0
 obtain ⟨⟨pf0, pg0, pf1, pg1, pf2, pg2, pf3, pg3, pf4, pg4, pf5, pg5, pf6, pg6, pf7, pg7⟩, ⟨pt0, pt1, pt2, pt3, pt4, pt5⟩, hFX, hFT⟩ := fin2 HZB.out HTB.out (.slice A0 F.length c0) (.slice A1 P.length c1) (.int .i64 q) (.int .i64 n1) (.slice A4 nn.length c4) (.int .i64 cr) (.bool d1) (.int .i64 pk) (.int .i64 0) (.slice none 0 0) (.slice none 0 0)
 have HFX := Bvh hFX
 have HFT := Bvh hFT
 clear hFX hFT
 go_wp2
 refine bodyPost_ret (Aza rfl _ _ (w.heap.size + 1 + 1) (w.heap.size + 1 + 1 + 1) 71 73 #[.slice A0 F.length c0, .slice A1 P.length c1, .int .i64 q, .int .i64 n1, .slice A4 nn.length c4, .int .i64 cr, .bool d1, .int .i64 pk] #[.int .i64 0, .slice none 0 0, .slice none 0 0] (0, 0) (0, 0) _ _ rfl HFX.out Try.underlying71 rfl (by kernel_rfl) rfl HFT.out Try.underlying73 rfl (by kernel_rfl)) rfl ?_
 exact ⟨A0, c0, A1, c1, A4, c4, none, 0, none, 0, rfl, V_P (b := 0) (Aqo (Aqo (Aqo (Axe (V_in (n := w.heap.size + 4) (e2 := 38) (b2 := 0) (HFB.out)) HO2.out _ _ _ _ _ _ _ _) HO3.out) HO3.out) HO3.out) (fun k hk => hk.elim .inl fun h => .inr (Nat.le_trans hle4 h)), V_P (b := 0) (Aqo (Aqo (Aqo (Axe (V_in (n := w.heap.size + 4) (e2 := 25) (b2 := 0) (HQB.out)) HO2.out _ _ _ _ _ _ _ _) HO3.out) HO3.out) HO3.out) (fun k hk => hk.elim .inl fun h => .inr (Nat.le_trans hle4 h)), V_P (b := 0) (Aqo (Aqo (Aqo (Axe (V_in (n := w.heap.size + 4) (e2 := 3) (b2 := 0) (HNB.out)) HO2.out _ _ _ _ _ _ _ _) HO3.out) HO3.out) HO3.out) (fun k hk => hk.elim .inl fun h => .inr (Nat.le_trans hle4 h)), Kd.V_nil _ _ _ _ _, Kd.V_nil _ _ _ _ _, Aqg (Aqg (Aqg (Ax5 (HBB.out) hle2 _ _ _ _ _ _ _ _) hle3 0 _) hle3 1 _) hle3 2 _⟩
theorem Bj3 (A0 : Option Addr) (c0 : Nat) (F : List S38) (A1 : Option Addr) (c1 : Nat) (P : List S25) (q n : Int) (A4 : Option Addr) (c4 : Nat) (nn : List Int) (cr : Int) (dw : Bool) (pk : Int) (d : S76) (A5 : Option Addr) (c5 : Nat) (A7 : Option Addr) (c7 : Nat) (Pf : Nat → Prop) (hlt : ∀ k, Pf k → k < w.heap.size) (hF : Kd.V k38 38 w 0 Pf (.slice A0 F.length c0) F) (hQ : Kd.V k25 25 w 0 Pf (.slice A1 P.length c1) P) (hN : Kd.V (Kd.int .i64) 3 w 0 Pf (.slice A4 nn.length c4) nn) (hD : Kd.V (Kd.int .u8) 5 w 0 Pf (.slice A5 d.f1.f3.length c5) d.f1.f3) (hM : Kd.V (Kd.int .i64) 3 w 0 Pf (.slice A7 d.f4.length c7) d.f4) (hP : ∀ x ∈ P, x.f3.length ≤ 1000) (hd : okL F) (hl : F.length + P.length ≤ 980) (hx : d.f1.f3.length ≤ 1000) (hnl : nn.length ≤ 1000) (h0 : 0 ≤ n) (h1 : n ≤ 1000) (n1 : Int) (d1 : Bool) (hask : askX n cr nn dw = (n1, d1, 0)) (G : List S38) (hG : Azd F P = G) (gb : List Int) (gi : Bool) (hget : getT G d.f2 = (gb, gi)) (hGl : G.length ≤ 1000) (hk : d.f0 = 3) (hgi : gi = true) (hlo : decide ((d.f3.size : Int) < 1) = true) :
 Calls Try.prog 49 #[.agg #[.slice A0 F.length c0, .slice A1 P.length c1, .int .i64 q, .int .i64 n, .slice A4 nn.length c4, .int .i64 cr, .bool dw, .int .i64 pk], .agg #[.int .i64 d.f0, .string d.f1.f0, .int .i64 d.f1.f1, .int .i64 d.f1.f2, .slice A5 d.f1.f3.length c5, .string d.f2, .string d.f3, .slice A7 d.f4.length c7, .int .i64 d.f5]] w fun e w' => Avi Pf w F P q n1 nn cr d1 pk 1 [] [] e w' := by
 have HG := Bvh hG
 have HGET := Bvh hget
 clear hG hget
 have HASK := Bvh hask
 clear hask
 have HKK := Bvh hk
 clear hk
 obtain ⟨W, HW, HB0, HX, HY, HZ, HT, HSZ, HF, HQ, HN, HD, HM, HO0, HO2, HO3, HOLT⟩ := Ajb A0 c0 F A1 c1 P q n A4 c4 nn cr dw pk d A5 c5 A7 c7 Pf hlt hF hQ hN hD hM
 have HP := Bvh hP
 have HOK := Bvh hd
 have HLT := Bvh hlt
 have hle2 : w.heap.size ≤ w.heap.size + 1 + 1 := by omega
 have hle3 : w.heap.size ≤ w.heap.size + 1 + 1 + 1 := by omega
 have hle4 : w.heap.size ≤ w.heap.size + 4 := by omega
 clear hF hQ hN hD hM hP hd hlt
 go_enter Try.func49, Try.ntmps49
 go_upto_region 1 with fail
 rw [HW.out]
 obtain ⟨e0, e1, e2, e3, e4, e5, e6, e7, e8⟩ := HY.out.cell
 obtain ⟨y0, y1, y2, y3, y4, y5, y6, y7⟩ := HX.out.cell
 rw [HKK.out] at e0
 go_upto_region 9 with (go_at_call 83; (with_reducible refine (Azc A0 F.length c0 A1 P.length c1 q n A4 c4 nn cr dw pk n1 d1 0 HASK.out (Kd.V_reads' HN.out).2.2 (Kd.V_reads' HN.out).2.1 hnl h0 h1).mono ?_); rintro e w2 ⟨rfl, hb2⟩; obtain ⟨pf0, pg0, pf1, pg1, pf2, pg2, pf3, pg3, pf4, pg4, pf5, pg5, pf6, pg6, pf7, pg7, hA⟩ := (HX.out.below hb2).put (.slice A0 F.length c0) (.slice A1 P.length c1) (.int .i64 q) (.int .i64 n1) (.slice A4 nn.length c4) (.int .i64 cr) (.bool d1) (.int .i64 pk); have HA := Bvh hA; have HB2 := Bvh hb2; clear hA hb2 y0 y1 y2 y3 y4 y5 y6 y7)
 clear pf0 pg0 pf1 pg1 pf2 pg2 pf3 pg3 pf4 pg4 pf5 pg5 pf6 pg6 pf7 pg7 e0 e1 e2 e3 e4 e5 e6 e7 e8
 obtain ⟨Wa, HWA, HA, HYA, HZA, HTA, HBA, HSA, HFA, HQA, HNA, HDA, HMA⟩ := Awo HB0.out HY.out HZ.out HT.out HSZ.out HF.out HQ.out HN.out HD.out HM.out HO0.out HA.out HB2.out
 rw [HWA.out]
 obtain ⟨e0, e1, e2, e3, e4, e5, e6, e7, e8⟩ := HYA.out.cell
 obtain ⟨y0, y1, y2, y3, y4, y5, y6, y7⟩ := HA.out.cell
 rw [HKK.out] at e0
 go_upto_region 13 with (first
  | (go_at_call 51; (with_reducible refine (Ajn q n1 cr d1 pk HFA.out HQA.out HNA.out HP.out HOK.out (by omega) HG.out).mono ?_); rintro e w3 ⟨A3, c3, rfl, hv3, hb3⟩; have HV3 := Bvh hv3; have HB3 := Bvh hb3; have hf2 := (HYA.out.below hb3).cell.2.2.2.2.2.1; clear hv3 hb3)
  | (go_at_call 30; (with_reducible refine (xget d.f2 HV3.out (by omega) HGET.out).mono ?_); rintro e w4 ⟨Ag, cg, rfl, hv4, hb4⟩; have HV4 := Bvh hv4; have HB4 := Bvh hb4; clear hv4 hb4))
 have HBW := Bvh (Aq1 HB3.out HB4.out)
 have HXB := Bvh (HA.out.below HBW.out)
 have HYB := Bvh (HYA.out.below HBW.out)
 have HZB := Bvh (HZA.out.below HBW.out)
 have HTB := Bvh (HTA.out.below HBW.out)
 have HBB := Bvh (Aq1 HBA.out HBW.out)
 have HSB := Bvh (Nat.le_trans HSA.out HBW.out.size)
 have HFB := Bvh (Kd.V_below HFA.out HBW.out)
 have HQB := Bvh (Kd.V_below HQA.out HBW.out)
 have HNB := Bvh (Kd.V_below HNA.out HBW.out)
 have HDB := Bvh (Kd.V_below HDA.out HBW.out)
 have HMB := Bvh (Kd.V_below HMA.out HBW.out)
 have HVB := Bvh (V_P (b := 0) (ok2 := Out Pf (w.heap.size + 4)) (e2 := 38) (b2 := 0) (Kd.V_below HV3.out HB4.out) (fun k hk => hk.elim .inl fun h => .inr (Nat.le_trans HSA.out h)))
 have HGB := Bvh (V_P (b := 0) (ok2 := Out Pf (w.heap.size + 4)) (e2 := 5) (b2 := 0) HV4.out (fun k hk => hk.elim (fun h => h.elim .inl fun h => .inr (Nat.le_trans HSA.out h)) fun h => .inr (Nat.le_trans HSA.out (Nat.le_trans HB3.out.size h))))
 clear HV3 HV4 HB3 HB4 hf2 e0 e1 e2 e3 e4 e5 e6 e7 e8 y0 y1 y2 y3 y4 y5 y6 y7
 obtain ⟨e0, e1, e2, e3, e4, e5, e6, e7, e8⟩ := HYB.out.cell
 obtain ⟨y0, y1, y2, y3, y4, y5, y6, y7⟩ := HXB.out.cell
 rw [HKK.out] at e0
 obtain ⟨⟨pf0, pg0, pf1, pg1, pf2, pg2, pf3, pg3, pf4, pg4, pf5, pg5, pf6, pg6, pf7, pg7⟩, ⟨pt0, pt1, pt2, pt3, pt4, pt5⟩, hFX, hFT⟩ := fin2 HZB.out HTB.out (.slice A0 F.length c0) (.slice A1 P.length c1) (.int .i64 q) (.int .i64 n1) (.slice A4 nn.length c4) (.int .i64 cr) (.bool d1) (.int .i64 pk) (.int .i64 1) (.slice none 0 0) (.slice none 0 0)
 have HFX := Bvh hFX
 have HFT := Bvh hFT
 clear hFX hFT
 go_wp2
 refine bodyPost_ret (Aza rfl _ _ (w.heap.size + 1 + 1) (w.heap.size + 1 + 1 + 1) 71 73 #[.slice A0 F.length c0, .slice A1 P.length c1, .int .i64 q, .int .i64 n1, .slice A4 nn.length c4, .int .i64 cr, .bool d1, .int .i64 pk] #[.int .i64 1, .slice none 0 0, .slice none 0 0] (0, 0) (0, 0) _ _ rfl HFX.out Try.underlying71 rfl (by kernel_rfl) rfl HFT.out Try.underlying73 rfl (by kernel_rfl)) rfl ?_
 exact ⟨A0, c0, A1, c1, A4, c4, none, 0, none, 0, rfl, V_P (b := 0) (Aqo (Aqo (Aqo (Axe (V_in (n := w.heap.size + 4) (e2 := 38) (b2 := 0) (HFB.out)) HO2.out _ _ _ _ _ _ _ _) HO3.out) HO3.out) HO3.out) (fun k hk => hk.elim .inl fun h => .inr (Nat.le_trans hle4 h)), V_P (b := 0) (Aqo (Aqo (Aqo (Axe (V_in (n := w.heap.size + 4) (e2 := 25) (b2 := 0) (HQB.out)) HO2.out _ _ _ _ _ _ _ _) HO3.out) HO3.out) HO3.out) (fun k hk => hk.elim .inl fun h => .inr (Nat.le_trans hle4 h)), V_P (b := 0) (Aqo (Aqo (Aqo (Axe (V_in (n := w.heap.size + 4) (e2 := 3) (b2 := 0) (HNB.out)) HO2.out _ _ _ _ _ _ _ _) HO3.out) HO3.out) HO3.out) (fun k hk => hk.elim .inl fun h => .inr (Nat.le_trans hle4 h)), Kd.V_nil _ _ _ _ _, Kd.V_nil _ _ _ _ _, Aqg (Aqg (Aqg (Ax5 (HBB.out) hle2 _ _ _ _ _ _ _ _) hle3 0 _) hle3 1 _) hle3 2 _⟩
theorem Bk1 (A0 : Option Addr) (c0 : Nat) (F : List S38) (A1 : Option Addr) (c1 : Nat) (P : List S25) (q n : Int) (A4 : Option Addr) (c4 : Nat) (nn : List Int) (cr : Int) (dw : Bool) (pk : Int) (d : S76) (A5 : Option Addr) (c5 : Nat) (A7 : Option Addr) (c7 : Nat) (Pf : Nat → Prop) (hlt : ∀ k, Pf k → k < w.heap.size) (hF : Kd.V k38 38 w 0 Pf (.slice A0 F.length c0) F) (hQ : Kd.V k25 25 w 0 Pf (.slice A1 P.length c1) P) (hN : Kd.V (Kd.int .i64) 3 w 0 Pf (.slice A4 nn.length c4) nn) (hD : Kd.V (Kd.int .u8) 5 w 0 Pf (.slice A5 d.f1.f3.length c5) d.f1.f3) (hM : Kd.V (Kd.int .i64) 3 w 0 Pf (.slice A7 d.f4.length c7) d.f4) (hP : ∀ x ∈ P, x.f3.length ≤ 1000) (hd : okL F) (hl : F.length + P.length ≤ 980) (hx : d.f1.f3.length ≤ 1000) (hnl : nn.length ≤ 1000) (h0 : 0 ≤ n) (h1 : n ≤ 1000) (n1 : Int) (d1 : Bool) (hask : askX n cr nn dw = (n1, d1, 0)) (G : List S38) (hG : Azd F P = G) (gb : List Int) (gi : Bool) (hget : getT G d.f2 = (gb, gi)) (hGl : G.length ≤ 1000) (hk : d.f0 = 3) (hgi : gi = true) (hlo : decide ((d.f3.size : Int) < 1) = false) (hhi : decide (40 < (d.f3.size : Int)) = true) :
 Calls Try.prog 49 #[.agg #[.slice A0 F.length c0, .slice A1 P.length c1, .int .i64 q, .int .i64 n, .slice A4 nn.length c4, .int .i64 cr, .bool dw, .int .i64 pk], .agg #[.int .i64 d.f0, .string d.f1.f0, .int .i64 d.f1.f1, .int .i64 d.f1.f2, .slice A5 d.f1.f3.length c5, .string d.f2, .string d.f3, .slice A7 d.f4.length c7, .int .i64 d.f5]] w fun e w' => Avi Pf w F P q n1 nn cr d1 pk 1 [] [] e w' := by
 have HG := Bvh hG
 have HGET := Bvh hget
 clear hG hget
 have HASK := Bvh hask
 clear hask
 have HKK := Bvh hk
 clear hk
 obtain ⟨W, HW, HB0, HX, HY, HZ, HT, HSZ, HF, HQ, HN, HD, HM, HO0, HO2, HO3, HOLT⟩ := Ajb A0 c0 F A1 c1 P q n A4 c4 nn cr dw pk d A5 c5 A7 c7 Pf hlt hF hQ hN hD hM
 have HP := Bvh hP
 have HOK := Bvh hd
 have HLT := Bvh hlt
 have hle2 : w.heap.size ≤ w.heap.size + 1 + 1 := by omega
 have hle3 : w.heap.size ≤ w.heap.size + 1 + 1 + 1 := by omega
 have hle4 : w.heap.size ≤ w.heap.size + 4 := by omega
 clear hF hQ hN hD hM hP hd hlt
 go_enter Try.func49, Try.ntmps49
 go_upto_region 1 with fail
 rw [HW.out]
 obtain ⟨e0, e1, e2, e3, e4, e5, e6, e7, e8⟩ := HY.out.cell
 obtain ⟨y0, y1, y2, y3, y4, y5, y6, y7⟩ := HX.out.cell
 rw [HKK.out] at e0
 go_upto_region 9 with (go_at_call 83; (with_reducible refine (Azc A0 F.length c0 A1 P.length c1 q n A4 c4 nn cr dw pk n1 d1 0 HASK.out (Kd.V_reads' HN.out).2.2 (Kd.V_reads' HN.out).2.1 hnl h0 h1).mono ?_); rintro e w2 ⟨rfl, hb2⟩; obtain ⟨pf0, pg0, pf1, pg1, pf2, pg2, pf3, pg3, pf4, pg4, pf5, pg5, pf6, pg6, pf7, pg7, hA⟩ := (HX.out.below hb2).put (.slice A0 F.length c0) (.slice A1 P.length c1) (.int .i64 q) (.int .i64 n1) (.slice A4 nn.length c4) (.int .i64 cr) (.bool d1) (.int .i64 pk); have HA := Bvh hA; have HB2 := Bvh hb2; clear hA hb2 y0 y1 y2 y3 y4 y5 y6 y7)
 clear pf0 pg0 pf1 pg1 pf2 pg2 pf3 pg3 pf4 pg4 pf5 pg5 pf6 pg6 pf7 pg7 e0 e1 e2 e3 e4 e5 e6 e7 e8
 obtain ⟨Wa, HWA, HA, HYA, HZA, HTA, HBA, HSA, HFA, HQA, HNA, HDA, HMA⟩ := Awo HB0.out HY.out HZ.out HT.out HSZ.out HF.out HQ.out HN.out HD.out HM.out HO0.out HA.out HB2.out
 rw [HWA.out]
 obtain ⟨e0, e1, e2, e3, e4, e5, e6, e7, e8⟩ := HYA.out.cell
 obtain ⟨y0, y1, y2, y3, y4, y5, y6, y7⟩ := HA.out.cell
 rw [HKK.out] at e0
 go_upto_region 13 with (first
  | (go_at_call 51; (with_reducible refine (Ajn q n1 cr d1 pk HFA.out HQA.out HNA.out HP.out HOK.out (by omega) HG.out).mono ?_); rintro e w3 ⟨A3, c3, rfl, hv3, hb3⟩; have HV3 := Bvh hv3; have HB3 := Bvh hb3; have hf2 := (HYA.out.below hb3).cell.2.2.2.2.2.1; clear hv3 hb3)
  | (go_at_call 30; (with_reducible refine (xget d.f2 HV3.out (by omega) HGET.out).mono ?_); rintro e w4 ⟨Ag, cg, rfl, hv4, hb4⟩; have HV4 := Bvh hv4; have HB4 := Bvh hb4; clear hv4 hb4))
 have HBW := Bvh (Aq1 HB3.out HB4.out)
 have HXB := Bvh (HA.out.below HBW.out)
 have HYB := Bvh (HYA.out.below HBW.out)
 have HZB := Bvh (HZA.out.below HBW.out)
 have HTB := Bvh (HTA.out.below HBW.out)
 have HBB := Bvh (Aq1 HBA.out HBW.out)
 have HSB := Bvh (Nat.le_trans HSA.out HBW.out.size)
 have HFB := Bvh (Kd.V_below HFA.out HBW.out)
 have HQB := Bvh (Kd.V_below HQA.out HBW.out)
 have HNB := Bvh (Kd.V_below HNA.out HBW.out)
 have HDB := Bvh (Kd.V_below HDA.out HBW.out)
 have HMB := Bvh (Kd.V_below HMA.out HBW.out)
 have HVB := Bvh (V_P (b := 0) (ok2 := Out Pf (w.heap.size + 4)) (e2 := 38) (b2 := 0) (Kd.V_below HV3.out HB4.out) (fun k hk => hk.elim .inl fun h => .inr (Nat.le_trans HSA.out h)))
 have HGB := Bvh (V_P (b := 0) (ok2 := Out Pf (w.heap.size + 4)) (e2 := 5) (b2 := 0) HV4.out (fun k hk => hk.elim (fun h => h.elim .inl fun h => .inr (Nat.le_trans HSA.out h)) fun h => .inr (Nat.le_trans HSA.out (Nat.le_trans HB3.out.size h))))
 clear HV3 HV4 HB3 HB4 hf2 e0 e1 e2 e3 e4 e5 e6 e7 e8 y0 y1 y2 y3 y4 y5 y6 y7
 obtain ⟨e0, e1, e2, e3, e4, e5, e6, e7, e8⟩ := HYB.out.cell
 obtain ⟨y0, y1, y2, y3, y4, y5, y6, y7⟩ := HXB.out.cell
 rw [HKK.out] at e0
 obtain ⟨⟨pf0, pg0, pf1, pg1, pf2, pg2, pf3, pg3, pf4, pg4, pf5, pg5, pf6, pg6, pf7, pg7⟩, ⟨pt0, pt1, pt2, pt3, pt4, pt5⟩, hFX, hFT⟩ := fin2 HZB.out HTB.out (.slice A0 F.length c0) (.slice A1 P.length c1) (.int .i64 q) (.int .i64 n1) (.slice A4 nn.length c4) (.int .i64 cr) (.bool d1) (.int .i64 pk) (.int .i64 1) (.slice none 0 0) (.slice none 0 0)
 have HFX := Bvh hFX
 have HFT := Bvh hFT
 clear hFX hFT
 go_wp2
 refine bodyPost_ret (Aza rfl _ _ (w.heap.size + 1 + 1) (w.heap.size + 1 + 1 + 1) 71 73 #[.slice A0 F.length c0, .slice A1 P.length c1, .int .i64 q, .int .i64 n1, .slice A4 nn.length c4, .int .i64 cr, .bool d1, .int .i64 pk] #[.int .i64 1, .slice none 0 0, .slice none 0 0] (0, 0) (0, 0) _ _ rfl HFX.out Try.underlying71 rfl (by kernel_rfl) rfl HFT.out Try.underlying73 rfl (by kernel_rfl)) rfl ?_
 exact ⟨A0, c0, A1, c1, A4, c4, none, 0, none, 0, rfl, V_P (b := 0) (Aqo (Aqo (Aqo (Axe (V_in (n := w.heap.size + 4) (e2 := 38) (b2 := 0) (HFB.out)) HO2.out _ _ _ _ _ _ _ _) HO3.out) HO3.out) HO3.out) (fun k hk => hk.elim .inl fun h => .inr (Nat.le_trans hle4 h)), V_P (b := 0) (Aqo (Aqo (Aqo (Axe (V_in (n := w.heap.size + 4) (e2 := 25) (b2 := 0) (HQB.out)) HO2.out _ _ _ _ _ _ _ _) HO3.out) HO3.out) HO3.out) (fun k hk => hk.elim .inl fun h => .inr (Nat.le_trans hle4 h)), V_P (b := 0) (Aqo (Aqo (Aqo (Axe (V_in (n := w.heap.size + 4) (e2 := 3) (b2 := 0) (HNB.out)) HO2.out _ _ _ _ _ _ _ _) HO3.out) HO3.out) HO3.out) (fun k hk => hk.elim .inl fun h => .inr (Nat.le_trans hle4 h)), Kd.V_nil _ _ _ _ _, Kd.V_nil _ _ _ _ _, Aqg (Aqg (Aqg (Ax5 (HBB.out) hle2 _ _ _ _ _ _ _ _) hle3 0 _) hle3 1 _) hle3 2 _⟩
end
end
section
section
variable {w : World}
theorem xnames {A : Option Addr} {c : Nat} {G : List S38} {Pf : Nat → Prop} (hF : Kd.V k38 38 w 0 Pf (.slice A G.length c) G) (hl : G.length ≤ 1000000) {nm : List ByteArray} (hn : G.map (·.f0) = nm) :
 Calls Try.prog 34 #[.slice A G.length c] w fun e w' => ∃ An cn, e = .returned (.slice An nm.length cn) ∧ Kd.V Kd.string 9 w' 0 (fun k => w.heap.size ≤ k) (.slice An nm.length cn) nm ∧ Below w.heap.size w w' := by
 obtain ⟨k, hk⟩ := namesB G hl G.length 0 [] (by omega) (by simp)
 rw [List.drop_zero, List.nil_append, hn] at hk
 refine (Aqx.calls k A c G nm w (Kd.V_reads' hF).2.2 (Kd.V_reads' hF).2.1 hk).mono ?_
 rintro e w' ⟨v, rfl, hr, hb⟩
 obtain ⟨An, cn, rfl⟩ := Kd.R_slice hr
 exact ⟨An, cn, rfl, V_P (b := 0) (Kd.R_V (base' := 0) (Kd.R_mono (Kd.R_bound hr) (fun k hk => hk.2.1))) (fun k hk => hk), hb⟩
theorem xdo1 (A0 : Option Addr) (c0 : Nat) (F : List S38) (A1 : Option Addr) (c1 : Nat) (P : List S25) (q n : Int) (A4 : Option Addr) (c4 : Nat) (nn : List Int) (cr : Int) (dw : Bool) (pk : Int) (d : S76) (A5 : Option Addr) (c5 : Nat) (A7 : Option Addr) (c7 : Nat) (Pf : Nat → Prop) (hlt : ∀ k, Pf k → k < w.heap.size) (hF : Kd.V k38 38 w 0 Pf (.slice A0 F.length c0) F) (hQ : Kd.V k25 25 w 0 Pf (.slice A1 P.length c1) P) (hN : Kd.V (Kd.int .i64) 3 w 0 Pf (.slice A4 nn.length c4) nn) (hD : Kd.V (Kd.int .u8) 5 w 0 Pf (.slice A5 d.f1.f3.length c5) d.f1.f3) (hM : Kd.V (Kd.int .i64) 3 w 0 Pf (.slice A7 d.f4.length c7) d.f4) (hP : ∀ x ∈ P, x.f3.length ≤ 1000) (hd : okL F) (hl : F.length + P.length ≤ 980) (hx : d.f1.f3.length ≤ 1000) (hnl : nn.length ≤ 1000) (h0 : 0 ≤ n) (h1 : n ≤ 1000) (n1 : Int) (d1 : Bool) (hask : askX n cr nn dw = (n1, d1, 0)) (G : List S38) (hG : Azd F P = G) (gb : List Int) (gi : Bool) (hget : getT G d.f2 = (gb, gi)) (hGl : G.length ≤ 1000) (hk : d.f0 = 1) (er : Int) (Q : List S25) (pk' : Int) (hr : Bqz F P q pk d.f1 = (er, Q, pk')) :
 Calls Try.prog 49 #[.agg #[.slice A0 F.length c0, .slice A1 P.length c1, .int .i64 q, .int .i64 n, .slice A4 nn.length c4, .int .i64 cr, .bool dw, .int .i64 pk], .agg #[.int .i64 d.f0, .string d.f1.f0, .int .i64 d.f1.f1, .int .i64 d.f1.f2, .slice A5 d.f1.f3.length c5, .string d.f2, .string d.f3, .slice A7 d.f4.length c7, .int .i64 d.f5]] w fun e w' => Avi Pf w F Q q n1 nn cr d1 pk' er [] [] e w' := by
 have HG := Bvh hG
 have HGET := Bvh hget
 clear hG hget
 have HASK := Bvh hask
 clear hask
 have HKK := Bvh hk
 clear hk
 obtain ⟨W, HW, HB0, HX, HY, HZ, HT, HSZ, HF, HQ, HN, HD, HM, HO0, HO2, HO3, HOLT⟩ := Ajb A0 c0 F A1 c1 P q n A4 c4 nn cr dw pk d A5 c5 A7 c7 Pf hlt hF hQ hN hD hM
 have HP := Bvh hP
 have HOK := Bvh hd
 have HLT := Bvh hlt
 have hle2 : w.heap.size ≤ w.heap.size + 1 + 1 := by omega
 have hle3 : w.heap.size ≤ w.heap.size + 1 + 1 + 1 := by omega
 have hle4 : w.heap.size ≤ w.heap.size + 4 := by omega
 clear hF hQ hN hD hM hP hd hlt
 go_enter Try.func49, Try.ntmps49
 go_upto_region 1 with fail
 rw [HW.out]
 obtain ⟨e0, e1, e2, e3, e4, e5, e6, e7, e8⟩ := HY.out.cell
 obtain ⟨y0, y1, y2, y3, y4, y5, y6, y7⟩ := HX.out.cell
 rw [HKK.out] at e0
 go_upto_region 9 with (go_at_call 83; (with_reducible refine (Azc A0 F.length c0 A1 P.length c1 q n A4 c4 nn cr dw pk n1 d1 0 HASK.out (Kd.V_reads' HN.out).2.2 (Kd.V_reads' HN.out).2.1 hnl h0 h1).mono ?_); rintro e w2 ⟨rfl, hb2⟩; obtain ⟨pf0, pg0, pf1, pg1, pf2, pg2, pf3, pg3, pf4, pg4, pf5, pg5, pf6, pg6, pf7, pg7, hA⟩ := (HX.out.below hb2).put (.slice A0 F.length c0) (.slice A1 P.length c1) (.int .i64 q) (.int .i64 n1) (.slice A4 nn.length c4) (.int .i64 cr) (.bool d1) (.int .i64 pk); have HA := Bvh hA; have HB2 := Bvh hb2; clear hA hb2 y0 y1 y2 y3 y4 y5 y6 y7)
 clear pf0 pg0 pf1 pg1 pf2 pg2 pf3 pg3 pf4 pg4 pf5 pg5 pf6 pg6 pf7 pg7 e0 e1 e2 e3 e4 e5 e6 e7 e8
 obtain ⟨Wa, HWA, HA, HYA, HZA, HTA, HBA, HSA, HFA, HQA, HNA, HDA, HMA⟩ := Awo HB0.out HY.out HZ.out HT.out HSZ.out HF.out HQ.out HN.out HD.out HM.out HO0.out HA.out HB2.out
 rw [HWA.out]
 obtain ⟨e0, e1, e2, e3, e4, e5, e6, e7, e8⟩ := HYA.out.cell
 obtain ⟨y0, y1, y2, y3, y4, y5, y6, y7⟩ := HA.out.cell
 rw [HKK.out] at e0
 go_upto_region 13 with (first
  | (go_at_call 51; (with_reducible refine (Ajn q n1 cr d1 pk HFA.out HQA.out HNA.out HP.out HOK.out (by omega) HG.out).mono ?_); rintro e w3 ⟨A3, c3, rfl, hv3, hb3⟩; have HV3 := Bvh hv3; have HB3 := Bvh hb3; have hf2 := (HYA.out.below hb3).cell.2.2.2.2.2.1; clear hv3 hb3)
  | (go_at_call 30; (with_reducible refine (xget d.f2 HV3.out (by omega) HGET.out).mono ?_); rintro e w4 ⟨Ag, cg, rfl, hv4, hb4⟩; have HV4 := Bvh hv4; have HB4 := Bvh hb4; clear hv4 hb4))
 have HBW := Bvh (Aq1 HB3.out HB4.out)
 have HXB := Bvh (HA.out.below HBW.out)
 have HYB := Bvh (HYA.out.below HBW.out)
 have HZB := Bvh (HZA.out.below HBW.out)
 have HTB := Bvh (HTA.out.below HBW.out)
 have HBB := Bvh (Aq1 HBA.out HBW.out)
 have HSB := Bvh (Nat.le_trans HSA.out HBW.out.size)
 have HFB := Bvh (Kd.V_below HFA.out HBW.out)
 have HQB := Bvh (Kd.V_below HQA.out HBW.out)
 have HNB := Bvh (Kd.V_below HNA.out HBW.out)
 have HDB := Bvh (Kd.V_below HDA.out HBW.out)
 have HMB := Bvh (Kd.V_below HMA.out HBW.out)
 have HVB := Bvh (V_P (b := 0) (ok2 := Out Pf (w.heap.size + 4)) (e2 := 38) (b2 := 0) (Kd.V_below HV3.out HB4.out) (fun k hk => hk.elim .inl fun h => .inr (Nat.le_trans HSA.out h)))
 have HGB := Bvh (V_P (b := 0) (ok2 := Out Pf (w.heap.size + 4)) (e2 := 5) (b2 := 0) HV4.out (fun k hk => hk.elim (fun h => h.elim .inl fun h => .inr (Nat.le_trans HSA.out h)) fun h => .inr (Nat.le_trans HSA.out (Nat.le_trans HB3.out.size h))))
 clear HV3 HV4 HB3 HB4 hf2 e0 e1 e2 e3 e4 e5 e6 e7 e8 y0 y1 y2 y3 y4 y5 y6 y7
 obtain ⟨e0, e1, e2, e3, e4, e5, e6, e7, e8⟩ := HYB.out.cell
 obtain ⟨y0, y1, y2, y3, y4, y5, y6, y7⟩ := HXB.out.cell
 rw [HKK.out] at e0
 have HR := Bvh hr
 clear hr
 go_upto_region 16 with (go_at_call 84; (with_reducible refine (xwrite A0 c0 F A1 c1 P q n1 A4 c4 nn cr d1 pk d.f1 A5 c5 Pf (fun k hk => Nat.lt_of_lt_of_le (HLT.out k hk) (Nat.le_trans hle4 HSB.out)) HFB.out HQB.out HNB.out HDB.out HP.out HOK.out (by omega) hx er Q pk' HR.out).mono ?_); rintro e w5 ⟨Aq, cq, rfl, hq5, hb5⟩; have hN5 : VarX (w5.alloc (.cells #[.slice none 0 0, .slice none 0 0, .int .i64 0, .int .i64 0, .slice none 0 0, .int .i64 0, .bool false, .int .i64 0] 71)) w5.heap.size (.slice none 0 0) (.slice none 0 0) (.int .i64 0) (.int .i64 0) (.slice none 0 0) (.int .i64 0) (.bool false) (.int .i64 0) := heap_alloc_new _ _; obtain ⟨pf0, pg0, pf1, pg1, pf2, pg2, pf3, pg3, pf4, pg4, pf5, pg5, pf6, pg6, pf7, pg7, hA⟩ := hN5.put (.slice A0 F.length c0) (.slice Aq Q.length cq) (.int .i64 q) (.int .i64 n1) (.slice A4 nn.length c4) (.int .i64 cr) (.bool d1) (.int .i64 pk'); have HNX := Bvh hA; have HQ5 := Bvh (V_P (b := 0) (ok2 := Out Pf (w.heap.size + 4)) (e2 := 25) (b2 := 0) hq5 (fun k hk => hk.elim .inl fun h => .inr (Nat.le_trans HSB.out h))); have HB5 := Bvh hb5; clear hA hN5 hq5 hb5 e0 e1 e2 e3 e4 e5 e6 e7 e8 y0 y1 y2 y3 y4 y5 y6 y7)
 have HBC := Bvh (show Below w5.heap.size w5 (w5.alloc (.cells #[.slice A0 F.length c0, .slice Aq Q.length cq, .int .i64 q, .int .i64 n1, .slice A4 nn.length c4, .int .i64 cr, .bool d1, .int .i64 pk'] 71)) from Aq4 (Below.refl _ _) _)
 have HNX2 := Bvh (show VarX (w5.alloc (.cells #[.slice A0 F.length c0, .slice Aq Q.length cq, .int .i64 q, .int .i64 n1, .slice A4 nn.length c4, .int .i64 cr, .bool d1, .int .i64 pk'] 71)) w5.heap.size (.slice A0 F.length c0) (.slice Aq Q.length cq) (.int .i64 q) (.int .i64 n1) (.slice A4 nn.length c4) (.int .i64 cr) (.bool d1) (.int .i64 pk') from heap_alloc_new _ _)
 generalize (w5.alloc (.cells #[.slice A0 F.length c0, .slice Aq Q.length cq, .int .i64 q, .int .i64 n1, .slice A4 nn.length c4, .int .i64 cr, .bool d1, .int .i64 pk'] 71)) = Wc at HNX2 HBC ⊢
 clear pf0 pg0 pf1 pg1 pf2 pg2 pf3 pg3 pf4 pg4 pf5 pg5 pf6 pg6 pf7 pg7 HNX
 have HBD := Bvh (Aq1 HB5.out HBC.out)
 obtain ⟨y0, y1, y2, y3, y4, y5, y6, y7⟩ := HNX2.out.cell
 obtain ⟨⟨pf0, pg0, pf1, pg1, pf2, pg2, pf3, pg3, pf4, pg4, pf5, pg5, pf6, pg6, pf7, pg7⟩, ⟨pt0, pt1, pt2, pt3, pt4, pt5⟩, hFX, hFT⟩ := fin2 (HZB.out.below HBD.out) (HTB.out.below HBD.out) (.slice A0 F.length c0) (.slice Aq Q.length cq) (.int .i64 q) (.int .i64 n1) (.slice A4 nn.length c4) (.int .i64 cr) (.bool d1) (.int .i64 pk') (.int .i64 er) (.slice none 0 0) (.slice none 0 0)
 have HFX := Bvh hFX
 have HFT := Bvh hFT
 clear hFX hFT
 go_wp2
 refine bodyPost_ret (Aza rfl _ _ (w.heap.size + 1 + 1) (w.heap.size + 1 + 1 + 1) 71 73 #[.slice A0 F.length c0, .slice Aq Q.length cq, .int .i64 q, .int .i64 n1, .slice A4 nn.length c4, .int .i64 cr, .bool d1, .int .i64 pk'] #[.int .i64 er, .slice none 0 0, .slice none 0 0] (0, 0) (0, 0) _ _ rfl HFX.out Try.underlying71 rfl (by kernel_rfl) rfl HFT.out Try.underlying73 rfl (by kernel_rfl)) rfl ?_
 exact ⟨A0, c0, Aq, cq, A4, c4, none, 0, none, 0, rfl, V_P (b := 0) (Aqo (Aqo (Aqo (Axe (V_in (n := w.heap.size + 4) (e2 := 38) (b2 := 0) (Kd.V_below HFB.out HBD.out)) HO2.out _ _ _ _ _ _ _ _) HO3.out) HO3.out) HO3.out) (fun k hk => hk.elim .inl fun h => .inr (Nat.le_trans hle4 h)), V_P (b := 0) (Aqo (Aqo (Aqo (Axe (Kd.V_below HQ5.out HBC.out) HO2.out _ _ _ _ _ _ _ _) HO3.out) HO3.out) HO3.out) (fun k hk => hk.elim .inl fun h => .inr (Nat.le_trans hle4 h)), V_P (b := 0) (Aqo (Aqo (Aqo (Axe (V_in (n := w.heap.size + 4) (e2 := 3) (b2 := 0) (Kd.V_below HNB.out HBD.out)) HO2.out _ _ _ _ _ _ _ _) HO3.out) HO3.out) HO3.out) (fun k hk => hk.elim .inl fun h => .inr (Nat.le_trans hle4 h)), Kd.V_nil _ _ _ _ _, Kd.V_nil _ _ _ _ _, Aqg (Aqg (Aqg (Ax5 (Aq1 HBB.out HBD.out) hle2 _ _ _ _ _ _ _ _) hle3 0 _) hle3 1 _) hle3 2 _⟩
theorem xdo4 (A0 : Option Addr) (c0 : Nat) (F : List S38) (A1 : Option Addr) (c1 : Nat) (P : List S25) (q n : Int) (A4 : Option Addr) (c4 : Nat) (nn : List Int) (cr : Int) (dw : Bool) (pk : Int) (d : S76) (A5 : Option Addr) (c5 : Nat) (A7 : Option Addr) (c7 : Nat) (Pf : Nat → Prop) (hlt : ∀ k, Pf k → k < w.heap.size) (hF : Kd.V k38 38 w 0 Pf (.slice A0 F.length c0) F) (hQ : Kd.V k25 25 w 0 Pf (.slice A1 P.length c1) P) (hN : Kd.V (Kd.int .i64) 3 w 0 Pf (.slice A4 nn.length c4) nn) (hD : Kd.V (Kd.int .u8) 5 w 0 Pf (.slice A5 d.f1.f3.length c5) d.f1.f3) (hM : Kd.V (Kd.int .i64) 3 w 0 Pf (.slice A7 d.f4.length c7) d.f4) (hP : ∀ x ∈ P, x.f3.length ≤ 1000) (hd : okL F) (hl : F.length + P.length ≤ 980) (hx : d.f1.f3.length ≤ 1000) (hnl : nn.length ≤ 1000) (h0 : 0 ≤ n) (h1 : n ≤ 1000) (n1 : Int) (d1 : Bool) (hask : askX n cr nn dw = (n1, d1, 0)) (G : List S38) (hG : Azd F P = G) (gb : List Int) (gi : Bool) (hget : getT G d.f2 = (gb, gi)) (hGl : G.length ≤ 1000) (hk : d.f0 = 4) (hgi : gi = true) (H : List S38) (hH : (F.filter fun x => !Ax8 d.f2 x) = H) (Q : List S25) (hQQ : (P.filter fun x => !Aj9 d.f2 x) = Q) :
 Calls Try.prog 49 #[.agg #[.slice A0 F.length c0, .slice A1 P.length c1, .int .i64 q, .int .i64 n, .slice A4 nn.length c4, .int .i64 cr, .bool dw, .int .i64 pk], .agg #[.int .i64 d.f0, .string d.f1.f0, .int .i64 d.f1.f1, .int .i64 d.f1.f2, .slice A5 d.f1.f3.length c5, .string d.f2, .string d.f3, .slice A7 d.f4.length c7, .int .i64 d.f5]] w fun e w' => Avi Pf w H Q q n1 nn cr d1 pk 0 [] [] e w' := by
 have HG := Bvh hG
 have HGET := Bvh hget
 clear hG hget
 have HASK := Bvh hask
 clear hask
 have HKK := Bvh hk
 clear hk
 obtain ⟨W, HW, HB0, HX, HY, HZ, HT, HSZ, HF, HQ, HN, HD, HM, HO0, HO2, HO3, HOLT⟩ := Ajb A0 c0 F A1 c1 P q n A4 c4 nn cr dw pk d A5 c5 A7 c7 Pf hlt hF hQ hN hD hM
 have HP := Bvh hP
 have HOK := Bvh hd
 have HLT := Bvh hlt
 have hle2 : w.heap.size ≤ w.heap.size + 1 + 1 := by omega
 have hle3 : w.heap.size ≤ w.heap.size + 1 + 1 + 1 := by omega
 have hle4 : w.heap.size ≤ w.heap.size + 4 := by omega
 clear hF hQ hN hD hM hP hd hlt
 go_enter Try.func49, Try.ntmps49
 go_upto_region 1 with fail
 rw [HW.out]
 obtain ⟨e0, e1, e2, e3, e4, e5, e6, e7, e8⟩ := HY.out.cell
 obtain ⟨y0, y1, y2, y3, y4, y5, y6, y7⟩ := HX.out.cell
 rw [HKK.out] at e0
 go_upto_region 9 with (go_at_call 83; (with_reducible refine (Azc A0 F.length c0 A1 P.length c1 q n A4 c4 nn cr dw pk n1 d1 0 HASK.out (Kd.V_reads' HN.out).2.2 (Kd.V_reads' HN.out).2.1 hnl h0 h1).mono ?_); rintro e w2 ⟨rfl, hb2⟩; obtain ⟨pf0, pg0, pf1, pg1, pf2, pg2, pf3, pg3, pf4, pg4, pf5, pg5, pf6, pg6, pf7, pg7, hA⟩ := (HX.out.below hb2).put (.slice A0 F.length c0) (.slice A1 P.length c1) (.int .i64 q) (.int .i64 n1) (.slice A4 nn.length c4) (.int .i64 cr) (.bool d1) (.int .i64 pk); have HA := Bvh hA; have HB2 := Bvh hb2; clear hA hb2 y0 y1 y2 y3 y4 y5 y6 y7)
 clear pf0 pg0 pf1 pg1 pf2 pg2 pf3 pg3 pf4 pg4 pf5 pg5 pf6 pg6 pf7 pg7 e0 e1 e2 e3 e4 e5 e6 e7 e8
 obtain ⟨Wa, HWA, HA, HYA, HZA, HTA, HBA, HSA, HFA, HQA, HNA, HDA, HMA⟩ := Awo HB0.out HY.out HZ.out HT.out HSZ.out HF.out HQ.out HN.out HD.out HM.out HO0.out HA.out HB2.out
 rw [HWA.out]
 obtain ⟨e0, e1, e2, e3, e4, e5, e6, e7, e8⟩ := HYA.out.cell
 obtain ⟨y0, y1, y2, y3, y4, y5, y6, y7⟩ := HA.out.cell
 rw [HKK.out] at e0
 go_upto_region 13 with (first
  | (go_at_call 51; (with_reducible refine (Ajn q n1 cr d1 pk HFA.out HQA.out HNA.out HP.out HOK.out (by omega) HG.out).mono ?_); rintro e w3 ⟨A3, c3, rfl, hv3, hb3⟩; have HV3 := Bvh hv3; have HB3 := Bvh hb3; have hf2 := (HYA.out.below hb3).cell.2.2.2.2.2.1; clear hv3 hb3)
  | (go_at_call 30; (with_reducible refine (xget d.f2 HV3.out (by omega) HGET.out).mono ?_); rintro e w4 ⟨Ag, cg, rfl, hv4, hb4⟩; have HV4 := Bvh hv4; have HB4 := Bvh hb4; clear hv4 hb4))
 have HBW := Bvh (Aq1 HB3.out HB4.out)
 have HXB := Bvh (HA.out.below HBW.out)
 have HYB := Bvh (HYA.out.below HBW.out)
 have HZB := Bvh (HZA.out.below HBW.out)
 have HTB := Bvh (HTA.out.below HBW.out)
 have HBB := Bvh (Aq1 HBA.out HBW.out)
 have HSB := Bvh (Nat.le_trans HSA.out HBW.out.size)
 have HFB := Bvh (Kd.V_below HFA.out HBW.out)
 have HQB := Bvh (Kd.V_below HQA.out HBW.out)
 have HNB := Bvh (Kd.V_below HNA.out HBW.out)
 have HDB := Bvh (Kd.V_below HDA.out HBW.out)
 have HMB := Bvh (Kd.V_below HMA.out HBW.out)
 have HVB := Bvh (V_P (b := 0) (ok2 := Out Pf (w.heap.size + 4)) (e2 := 38) (b2 := 0) (Kd.V_below HV3.out HB4.out) (fun k hk => hk.elim .inl fun h => .inr (Nat.le_trans HSA.out h)))
 have HGB := Bvh (V_P (b := 0) (ok2 := Out Pf (w.heap.size + 4)) (e2 := 5) (b2 := 0) HV4.out (fun k hk => hk.elim (fun h => h.elim .inl fun h => .inr (Nat.le_trans HSA.out h)) fun h => .inr (Nat.le_trans HSA.out (Nat.le_trans HB3.out.size h))))
 clear HV3 HV4 HB3 HB4 hf2 e0 e1 e2 e3 e4 e5 e6 e7 e8 y0 y1 y2 y3 y4 y5 y6 y7
 obtain ⟨e0, e1, e2, e3, e4, e5, e6, e7, e8⟩ := HYB.out.cell
 obtain ⟨y0, y1, y2, y3, y4, y5, y6, y7⟩ := HXB.out.cell
 rw [HKK.out] at e0
 have HH := Bvh hH
 have HQQ := Bvh hQQ
 clear hH hQQ
 go_upto_region 32 with (go_at_call 26; (with_reducible refine (xdrop d.f2 HFB.out (by omega) HH.out).mono ?_); rintro e w5 ⟨Ah, ch, rfl, hv5, hb5⟩; obtain ⟨pf0, pg0, hx5⟩ := VarX.set1 (HXB.out.below hb5) 0 (.slice Ah H.length ch) rfl; have HXS6 := Bvh hx5; have HV5 := Bvh (V_P (b := 0) (ok2 := Out Pf (w.heap.size + 4)) (e2 := 38) (b2 := 0) hv5 (fun k hk => hk.elim .inl fun h => .inr (Nat.le_trans HSB.out h))); have HB5 := Bvh hb5; clear hv5 hb5 hx5 e0 e1 e2 e3 e4 e5 e6 e7 e8 y0 y1 y2 y3 y4 y5 y6 y7)
 have HX6 := Bvh (show VarX (w5.setCell ⟨w.heap.size, 0, none⟩ (.slice Ah H.length ch)) w.heap.size (.slice Ah H.length ch) (.slice A1 P.length c1) (.int .i64 q) (.int .i64 n1) (.slice A4 nn.length c4) (.int .i64 cr) (.bool d1) (.int .i64 pk) from HXS6.out)
 have HY6 := Bvh (show VarD (w5.setCell ⟨w.heap.size, 0, none⟩ (.slice Ah H.length ch)) (w.heap.size + 1) d A5 c5 A7 c7 from by show _ = _; rw [Below.heap_setCell _ ⟨w.heap.size, 0, none⟩ _ _ (show w.heap.size + 1 ≠ w.heap.size by omega)]; exact HYB.out.below HB5.out)
 have HZ6 := Bvh (show VarX (w5.setCell ⟨w.heap.size, 0, none⟩ (.slice Ah H.length ch)) (w.heap.size + 1 + 1) (.slice none 0 0) (.slice none 0 0) (.int .i64 0) (.int .i64 0) (.slice none 0 0) (.int .i64 0) (.bool false) (.int .i64 0) from by show _ = _; rw [Below.heap_setCell _ ⟨w.heap.size, 0, none⟩ _ _ (show w.heap.size + 1 + 1 ≠ w.heap.size by omega)]; exact HZB.out.below HB5.out)
 have HT6 := Bvh (show VarT (w5.setCell ⟨w.heap.size, 0, none⟩ (.slice Ah H.length ch)) (w.heap.size + 1 + 1 + 1) (.int .i64 0) (.slice none 0 0) (.slice none 0 0) from by show _ = _; rw [Below.heap_setCell _ ⟨w.heap.size, 0, none⟩ _ _ (show w.heap.size + 1 + 1 + 1 ≠ w.heap.size by omega)]; exact HTB.out.below HB5.out)
 have HB6 := Bvh (Aqg (Aq1 HBB.out HB5.out) (Nat.le_refl w.heap.size) 0 (.slice Ah H.length ch))
 have HS6 := Bvh (show w.heap.size + 4 ≤ (w5.setCell ⟨w.heap.size, 0, none⟩ (.slice Ah H.length ch)).heap.size by rw [Ajc]; exact Nat.le_trans HSB.out HB5.out.size)
 have HF6 := Bvh (Aqo (g := w.heap.size) (j := 0) (u := .slice Ah H.length ch) (HV5.out) HO0.out)
 have HQ6 := Bvh (Aqo (g := w.heap.size) (j := 0) (u := .slice Ah H.length ch) (V_in (n := w.heap.size + 4) (e2 := 25) (b2 := 0) (Kd.V_below HQB.out HB5.out)) HO0.out)
 have HN6 := Bvh (Aqo (g := w.heap.size) (j := 0) (u := .slice Ah H.length ch) (V_in (n := w.heap.size + 4) (e2 := 3) (b2 := 0) (Kd.V_below HNB.out HB5.out)) HO0.out)
 generalize (w5.setCell ⟨w.heap.size, 0, none⟩ (.slice Ah H.length ch)) = w6 at HX6 HY6 HZ6 HT6 HB6 HS6 HF6 HQ6 HN6 ⊢
 clear pf0 pg0 HXS6
 obtain ⟨e0, e1, e2, e3, e4, e5, e6, e7, e8⟩ := HY6.out.cell
 obtain ⟨y0, y1, y2, y3, y4, y5, y6, y7⟩ := HX6.out.cell
 have hpl : P.length ≤ 1000 := by omega
 go_upto_region 33 with (go_at_call 87; (with_reducible refine (Bzh d.f2 HQ6.out hpl HQQ.out).mono ?_); rintro e w7 ⟨Aq, cq, rfl, hv7, hb7⟩; obtain ⟨pf0, pg0, hx7⟩ := VarX.set1 (HX6.out.below hb7) 1 (.slice Aq Q.length cq) rfl; have HXS8 := Bvh hx7; have HV7 := Bvh (Aj4 (e2 := 25) (b2 := 0) hv7 HS6.out); have HB7 := Bvh hb7; clear hv7 hb7 hx7 e0 e1 e2 e3 e4 e5 e6 e7 e8 y0 y1 y2 y3 y4 y5 y6 y7)
 have HX8 := Bvh (show VarX (w7.setCell ⟨w.heap.size, 1, none⟩ (.slice Aq Q.length cq)) w.heap.size (.slice Ah H.length ch) (.slice Aq Q.length cq) (.int .i64 q) (.int .i64 n1) (.slice A4 nn.length c4) (.int .i64 cr) (.bool d1) (.int .i64 pk) from HXS8.out)
 have HY8 := Bvh (show VarD (w7.setCell ⟨w.heap.size, 1, none⟩ (.slice Aq Q.length cq)) (w.heap.size + 1) d A5 c5 A7 c7 from by show _ = _; rw [Below.heap_setCell _ ⟨w.heap.size, 1, none⟩ _ _ (show w.heap.size + 1 ≠ w.heap.size by omega)]; exact HY6.out.below HB7.out)
 have HZ8 := Bvh (show VarX (w7.setCell ⟨w.heap.size, 1, none⟩ (.slice Aq Q.length cq)) (w.heap.size + 1 + 1) (.slice none 0 0) (.slice none 0 0) (.int .i64 0) (.int .i64 0) (.slice none 0 0) (.int .i64 0) (.bool false) (.int .i64 0) from by show _ = _; rw [Below.heap_setCell _ ⟨w.heap.size, 1, none⟩ _ _ (show w.heap.size + 1 + 1 ≠ w.heap.size by omega)]; exact HZ6.out.below HB7.out)
 have HT8 := Bvh (show VarT (w7.setCell ⟨w.heap.size, 1, none⟩ (.slice Aq Q.length cq)) (w.heap.size + 1 + 1 + 1) (.int .i64 0) (.slice none 0 0) (.slice none 0 0) from by show _ = _; rw [Below.heap_setCell _ ⟨w.heap.size, 1, none⟩ _ _ (show w.heap.size + 1 + 1 + 1 ≠ w.heap.size by omega)]; exact HT6.out.below HB7.out)
 have HB8 := Bvh (Aqg (Aq1 HB6.out HB7.out) (Nat.le_refl w.heap.size) 1 (.slice Aq Q.length cq))
 have HS8 := Bvh (show w.heap.size + 4 ≤ (w7.setCell ⟨w.heap.size, 1, none⟩ (.slice Aq Q.length cq)).heap.size by rw [Ajc]; exact Nat.le_trans HS6.out HB7.out.size)
 have HF8 := Bvh (Aqo (g := w.heap.size) (j := 1) (u := .slice Aq Q.length cq) (Kd.V_below HF6.out HB7.out) HO0.out)
 have HQ8 := Bvh (Aqo (g := w.heap.size) (j := 1) (u := .slice Aq Q.length cq) (HV7.out) HO0.out)
 have HN8 := Bvh (Aqo (g := w.heap.size) (j := 1) (u := .slice Aq Q.length cq) (Kd.V_below HN6.out HB7.out) HO0.out)
 generalize (w7.setCell ⟨w.heap.size, 1, none⟩ (.slice Aq Q.length cq)) = w8 at HX8 HY8 HZ8 HT8 HB8 HS8 HF8 HQ8 HN8 ⊢
 clear pf0 pg0 HXS8
 obtain ⟨y0, y1, y2, y3, y4, y5, y6, y7⟩ := HX8.out.cell
 obtain ⟨⟨pf0, pg0, pf1, pg1, pf2, pg2, pf3, pg3, pf4, pg4, pf5, pg5, pf6, pg6, pf7, pg7⟩, ⟨pt0, pt1, pt2, pt3, pt4, pt5⟩, hFX, hFT⟩ := fin2 HZ8.out HT8.out (.slice Ah H.length ch) (.slice Aq Q.length cq) (.int .i64 q) (.int .i64 n1) (.slice A4 nn.length c4) (.int .i64 cr) (.bool d1) (.int .i64 pk) (.int .i64 0) (.slice none 0 0) (.slice none 0 0)
 have HFX := Bvh hFX
 have HFT := Bvh hFT
 clear hFX hFT
 go_wp2
 refine bodyPost_ret (Aza rfl _ _ (w.heap.size + 1 + 1) (w.heap.size + 1 + 1 + 1) 71 73 #[.slice Ah H.length ch, .slice Aq Q.length cq, .int .i64 q, .int .i64 n1, .slice A4 nn.length c4, .int .i64 cr, .bool d1, .int .i64 pk] #[.int .i64 0, .slice none 0 0, .slice none 0 0] (0, 0) (0, 0) _ _ rfl HFX.out Try.underlying71 rfl (by kernel_rfl) rfl HFT.out Try.underlying73 rfl (by kernel_rfl)) rfl ?_
 exact ⟨Ah, ch, Aq, cq, A4, c4, none, 0, none, 0, rfl, V_P (b := 0) (Aqo (Aqo (Aqo (Axe (HF8.out) HO2.out _ _ _ _ _ _ _ _) HO3.out) HO3.out) HO3.out) (fun k hk => hk.elim .inl fun h => .inr (Nat.le_trans hle4 h)), V_P (b := 0) (Aqo (Aqo (Aqo (Axe (HQ8.out) HO2.out _ _ _ _ _ _ _ _) HO3.out) HO3.out) HO3.out) (fun k hk => hk.elim .inl fun h => .inr (Nat.le_trans hle4 h)), V_P (b := 0) (Aqo (Aqo (Aqo (Axe (HN8.out) HO2.out _ _ _ _ _ _ _ _) HO3.out) HO3.out) HO3.out) (fun k hk => hk.elim .inl fun h => .inr (Nat.le_trans hle4 h)), Kd.V_nil _ _ _ _ _, Kd.V_nil _ _ _ _ _, Aqg (Aqg (Aqg (Ax5 (HB8.out) hle2 _ _ _ _ _ _ _ _) hle3 0 _) hle3 1 _) hle3 2 _⟩
end
end
section
section
variable {w : World}
theorem xdo6 (A0 : Option Addr) (c0 : Nat) (F : List S38) (A1 : Option Addr) (c1 : Nat) (P : List S25) (q n : Int) (A4 : Option Addr) (c4 : Nat) (nn : List Int) (cr : Int) (dw : Bool) (pk : Int) (d : S76) (A5 : Option Addr) (c5 : Nat) (A7 : Option Addr) (c7 : Nat) (Pf : Nat → Prop) (hlt : ∀ k, Pf k → k < w.heap.size) (hF : Kd.V k38 38 w 0 Pf (.slice A0 F.length c0) F) (hQ : Kd.V k25 25 w 0 Pf (.slice A1 P.length c1) P) (hN : Kd.V (Kd.int .i64) 3 w 0 Pf (.slice A4 nn.length c4) nn) (hD : Kd.V (Kd.int .u8) 5 w 0 Pf (.slice A5 d.f1.f3.length c5) d.f1.f3) (hM : Kd.V (Kd.int .i64) 3 w 0 Pf (.slice A7 d.f4.length c7) d.f4) (hP : ∀ x ∈ P, x.f3.length ≤ 1000) (hd : okL F) (hl : F.length + P.length ≤ 980) (hx : d.f1.f3.length ≤ 1000) (hnl : nn.length ≤ 1000) (h0 : 0 ≤ n) (h1 : n ≤ 1000) (n1 : Int) (d1 : Bool) (hask : askX n cr nn dw = (n1, d1, 0)) (G : List S38) (hG : Azd F P = G) (gb : List Int) (gi : Bool) (hget : getT G d.f2 = (gb, gi)) (hGl : G.length ≤ 1000) (hk : d.f0 = 6) (nm : List ByteArray) (hnm : G.map (·.f0) = nm) :
 Calls Try.prog 49 #[.agg #[.slice A0 F.length c0, .slice A1 P.length c1, .int .i64 q, .int .i64 n, .slice A4 nn.length c4, .int .i64 cr, .bool dw, .int .i64 pk], .agg #[.int .i64 d.f0, .string d.f1.f0, .int .i64 d.f1.f1, .int .i64 d.f1.f2, .slice A5 d.f1.f3.length c5, .string d.f2, .string d.f3, .slice A7 d.f4.length c7, .int .i64 d.f5]] w fun e w' => Avi Pf w F P q n1 nn cr d1 pk 0 [] nm e w' := by
 have HG := Bvh hG
 have HGET := Bvh hget
 clear hG hget
 have HASK := Bvh hask
 clear hask
 have HKK := Bvh hk
 clear hk
 obtain ⟨W, HW, HB0, HX, HY, HZ, HT, HSZ, HF, HQ, HN, HD, HM, HO0, HO2, HO3, HOLT⟩ := Ajb A0 c0 F A1 c1 P q n A4 c4 nn cr dw pk d A5 c5 A7 c7 Pf hlt hF hQ hN hD hM
 have HP := Bvh hP
 have HOK := Bvh hd
 have HLT := Bvh hlt
 have hle2 : w.heap.size ≤ w.heap.size + 1 + 1 := by omega
 have hle3 : w.heap.size ≤ w.heap.size + 1 + 1 + 1 := by omega
 have hle4 : w.heap.size ≤ w.heap.size + 4 := by omega
 clear hF hQ hN hD hM hP hd hlt
 go_enter Try.func49, Try.ntmps49
 go_upto_region 1 with fail
 rw [HW.out]
 obtain ⟨e0, e1, e2, e3, e4, e5, e6, e7, e8⟩ := HY.out.cell
 obtain ⟨y0, y1, y2, y3, y4, y5, y6, y7⟩ := HX.out.cell
 rw [HKK.out] at e0
 go_upto_region 9 with (go_at_call 83; (with_reducible refine (Azc A0 F.length c0 A1 P.length c1 q n A4 c4 nn cr dw pk n1 d1 0 HASK.out (Kd.V_reads' HN.out).2.2 (Kd.V_reads' HN.out).2.1 hnl h0 h1).mono ?_); rintro e w2 ⟨rfl, hb2⟩; obtain ⟨pf0, pg0, pf1, pg1, pf2, pg2, pf3, pg3, pf4, pg4, pf5, pg5, pf6, pg6, pf7, pg7, hA⟩ := (HX.out.below hb2).put (.slice A0 F.length c0) (.slice A1 P.length c1) (.int .i64 q) (.int .i64 n1) (.slice A4 nn.length c4) (.int .i64 cr) (.bool d1) (.int .i64 pk); have HA := Bvh hA; have HB2 := Bvh hb2; clear hA hb2 y0 y1 y2 y3 y4 y5 y6 y7)
 clear pf0 pg0 pf1 pg1 pf2 pg2 pf3 pg3 pf4 pg4 pf5 pg5 pf6 pg6 pf7 pg7 e0 e1 e2 e3 e4 e5 e6 e7 e8
 obtain ⟨Wa, HWA, HA, HYA, HZA, HTA, HBA, HSA, HFA, HQA, HNA, HDA, HMA⟩ := Awo HB0.out HY.out HZ.out HT.out HSZ.out HF.out HQ.out HN.out HD.out HM.out HO0.out HA.out HB2.out
 rw [HWA.out]
 obtain ⟨e0, e1, e2, e3, e4, e5, e6, e7, e8⟩ := HYA.out.cell
 obtain ⟨y0, y1, y2, y3, y4, y5, y6, y7⟩ := HA.out.cell
 rw [HKK.out] at e0
 go_upto_region 13 with (first
  | (go_at_call 51; (with_reducible refine (Ajn q n1 cr d1 pk HFA.out HQA.out HNA.out HP.out HOK.out (by omega) HG.out).mono ?_); rintro e w3 ⟨A3, c3, rfl, hv3, hb3⟩; have HV3 := Bvh hv3; have HB3 := Bvh hb3; have hf2 := (HYA.out.below hb3).cell.2.2.2.2.2.1; clear hv3 hb3)
  | (go_at_call 30; (with_reducible refine (xget d.f2 HV3.out (by omega) HGET.out).mono ?_); rintro e w4 ⟨Ag, cg, rfl, hv4, hb4⟩; have HV4 := Bvh hv4; have HB4 := Bvh hb4; clear hv4 hb4))
 have HBW := Bvh (Aq1 HB3.out HB4.out)
 have HXB := Bvh (HA.out.below HBW.out)
 have HYB := Bvh (HYA.out.below HBW.out)
 have HZB := Bvh (HZA.out.below HBW.out)
 have HTB := Bvh (HTA.out.below HBW.out)
 have HBB := Bvh (Aq1 HBA.out HBW.out)
 have HSB := Bvh (Nat.le_trans HSA.out HBW.out.size)
 have HFB := Bvh (Kd.V_below HFA.out HBW.out)
 have HQB := Bvh (Kd.V_below HQA.out HBW.out)
 have HNB := Bvh (Kd.V_below HNA.out HBW.out)
 have HDB := Bvh (Kd.V_below HDA.out HBW.out)
 have HMB := Bvh (Kd.V_below HMA.out HBW.out)
 have HVB := Bvh (V_P (b := 0) (ok2 := Out Pf (w.heap.size + 4)) (e2 := 38) (b2 := 0) (Kd.V_below HV3.out HB4.out) (fun k hk => hk.elim .inl fun h => .inr (Nat.le_trans HSA.out h)))
 have HGB := Bvh (V_P (b := 0) (ok2 := Out Pf (w.heap.size + 4)) (e2 := 5) (b2 := 0) HV4.out (fun k hk => hk.elim (fun h => h.elim .inl fun h => .inr (Nat.le_trans HSA.out h)) fun h => .inr (Nat.le_trans HSA.out (Nat.le_trans HB3.out.size h))))
 clear HV3 HV4 HB3 HB4 hf2 e0 e1 e2 e3 e4 e5 e6 e7 e8 y0 y1 y2 y3 y4 y5 y6 y7
 obtain ⟨e0, e1, e2, e3, e4, e5, e6, e7, e8⟩ := HYB.out.cell
 obtain ⟨y0, y1, y2, y3, y4, y5, y6, y7⟩ := HXB.out.cell
 rw [HKK.out] at e0
 have HNM := Bvh hnm
 clear hnm
 go_upto_region 18 with fail
 go_region_law (first | (go_simp; go_at_call 34; (with_reducible refine (xnames (Kd.V_drew HVB.out) (by omega) HNM.out).mono ?_); rintro e w5 ⟨An, cn, rfl, hv5, hb5⟩; have HB5 := Bvh (Aq1 (Aq5 (Below.refl w4.heap.size w4)) hb5); have HV5 := Bvh hv5; obtain ⟨r0, r1, r2, r3, r4, r5, r6, r7⟩ := (HXB.out.below HB5.out).cell; obtain ⟨⟨pf0, pg0, pf1, pg1, pf2, pg2, pf3, pg3, pf4, pg4, pf5, pg5, pf6, pg6, pf7, pg7⟩, ⟨pt0, pt1, pt2, pt3, pt4, pt5⟩, hFX, hFT⟩ := fin2 (HZB.out.below HB5.out) (HTB.out.below HB5.out) (.slice A0 F.length c0) (.slice A1 P.length c1) (.int .i64 q) (.int .i64 n1) (.slice A4 nn.length c4) (.int .i64 cr) (.bool d1) (.int .i64 pk) (.int .i64 0) (.slice none 0 0) (.slice An nm.length cn); have HFX := Bvh hFX; have HFT := Bvh hFT; clear hFX hFT; clear hv5 hb5))
 all_goals
  go_wp2
  refine bodyPost_ret (Aza rfl _ _ (w.heap.size + 1 + 1) (w.heap.size + 1 + 1 + 1) 71 73 #[.slice A0 F.length c0, .slice A1 P.length c1, .int .i64 q, .int .i64 n1, .slice A4 nn.length c4, .int .i64 cr, .bool d1, .int .i64 pk] #[.int .i64 0, .slice none 0 0, .slice An nm.length cn] (0, 0) (0, 0) _ _ rfl HFX.out Try.underlying71 rfl (by kernel_rfl) rfl HFT.out Try.underlying73 rfl (by kernel_rfl)) rfl ?_
  exact ⟨A0, c0, A1, c1, A4, c4, none, 0, An, cn, rfl, V_P (b := 0) (Aqo (Aqo (Aqo (Axe (V_in (n := w.heap.size + 4) (e2 := 38) (b2 := 0) (Kd.V_below HFB.out HB5.out)) HO2.out _ _ _ _ _ _ _ _) HO3.out) HO3.out) HO3.out) (fun k hk => hk.elim .inl fun h => .inr (Nat.le_trans hle4 h)), V_P (b := 0) (Aqo (Aqo (Aqo (Axe (V_in (n := w.heap.size + 4) (e2 := 25) (b2 := 0) (Kd.V_below HQB.out HB5.out)) HO2.out _ _ _ _ _ _ _ _) HO3.out) HO3.out) HO3.out) (fun k hk => hk.elim .inl fun h => .inr (Nat.le_trans hle4 h)), V_P (b := 0) (Aqo (Aqo (Aqo (Axe (V_in (n := w.heap.size + 4) (e2 := 3) (b2 := 0) (Kd.V_below HNB.out HB5.out)) HO2.out _ _ _ _ _ _ _ _) HO3.out) HO3.out) HO3.out) (fun k hk => hk.elim .inl fun h => .inr (Nat.le_trans hle4 h)), Kd.V_nil _ _ _ _ _, V_P (b := 0) (Aqo (Aqo (Aqo (Axe (V_P (b := 0) (ok2 := Out Pf (w.heap.size + 4)) (e2 := 9) (b2 := 0) HV5.out (fun k hk => .inr (Nat.le_trans HSB.out (Nat.le_trans (Aq5 (Below.refl w4.heap.size w4)).size hk)))) HO2.out _ _ _ _ _ _ _ _) HO3.out) HO3.out) HO3.out) (fun k hk => hk.elim .inl fun h => .inr (Nat.le_trans hle4 h)), Aqg (Aqg (Aqg (Ax5 (Aq1 HBB.out HB5.out) hle2 _ _ _ _ _ _ _ _) hle3 0 _) hle3 1 _) hle3 2 _⟩
end
end
section
section
variable {w : World}
theorem asked_x (s : SSt) : ∃ n1 d1 bad, askX s.calls s.crash s.fails s.down = (n1, d1, bad) ∧ asked s = ({ s with calls := n1, down := d1 }, bad) := by
 obtain ⟨sa, pe, q, n, fa, cr, dn, pk⟩ := s
 unfold askX asked
 by_cases h1 : dn = true
 · simp only [h1, if_true]
   exact ⟨_, _, _, rfl, rfl⟩
 · by_cases h2 : n + 1 = cr
   · simp only [h1, h2, if_true, if_false, Bool.false_eq_true]
     exact ⟨_, _, _, rfl, rfl⟩
   · by_cases h3 : n + 1 ∈ fa
     · simp only [h1, h2, h3, if_true, if_false, Bool.false_eq_true]
       exact ⟨_, _, _, rfl, rfl⟩
     · simp only [h1, h2, h3, if_true, if_false, Bool.false_eq_true]
       exact ⟨_, _, _, rfl, rfl⟩
theorem Bkf (p : S31 → Bool) (p2 : S25 → Bool) (hp : ∀ x, p2 (to25 x) = p x) (l : List S31) : (l.map to25).filter p2 = (l.filter p).map to25 := by
 induction l with
 | nil => rfl
 | cons x l ih =>
   simp only [List.map_cons, List.filter_cons, hp, ih]
   cases p x <;> rfl
theorem ren_map (a b : ByteArray) (l : List S31) : (l.map to25).map (Bxz a b) = (l.map (renW a b)).map to25 := by
 induction l with
 | nil => rfl
 | cons x l ih =>
   simp only [List.map_cons, ih]
   congr 1
   unfold Bxz renW Aj9 ownW to25
   cases (x.f0.toList == a.toList) <;> rfl
theorem own_keep (name : ByteArray) (l : List S31) : ((l.map to25).filter (Aj9 name)).map to31 = l.filter fun x => !othW name x := by
 rw [Bkf (fun x => !othW name x) (Aj9 name) (fun x => by unfold Aj9 othW to25; cases h : (x.f0.toList == name.toList) <;> simp_all [bne]), Aw5]
theorem Bqq (name : ByteArray) (l : List S31) : ((l.map to25).filter fun x => !Aj9 name x) = (l.filter fun x => !ownW name x).map to25 := Bkf _ _ (fun x => rfl) l
theorem moved_x (a b : ByteArray) (l : List S31) : Ak9 a b (l.map to25) = ((l.filter fun x => !ownW b x).map (renW a b)).map to25 := by
 unfold Ak9
 rw [Bqq, ren_map]
theorem write_x (s : SSt) (x : S25) : Bqz s.safe (s.pend.map to25) s.quota s.peak x = ((doB s (to31 x)).2, (doB s (to31 x)).1.pend.map to25, (doB s (to31 x)).1.peak) := by
 have hG : Azd s.safe (s.pend.map to25) = Aq8 s := by unfold Azd Aq8; rw [Aw5]
 unfold Bqz doB doE
 rw [hG]
 by_cases h1 : (x.f1 = 2 ∨ x.f1 = 3) ∧ (getT (Aq8 s) x.f0).2 = false
 · rw [if_pos h1, if_pos (show (getT (Aq8 s) (to31 x).f0).2 = false ∧ ((to31 x).f1 = 2 ∨ (to31 x).f1 = 3) from ⟨h1.2, h1.1⟩)]
   rfl
 rw [if_neg h1, if_neg (show ¬ ((getT (Aq8 s) (to31 x).f0).2 = false ∧ ((to31 x).f1 = 2 ∨ (to31 x).f1 = 3)) from fun h => h1 ⟨h.2, h.1⟩)]
 by_cases h2 : (doT (Aq8 s) (to31 x) (-1)).2 ≠ 0
 · rw [if_pos h2, if_pos h2, if_neg h2]
 rw [if_neg h2, if_neg h2]
 by_cases h3 : s.quota < Axs (doT (Aq8 s) (to31 x) (-1)).1 ∧ Axs (Aq8 s) < Axs (doT (Aq8 s) (to31 x) (-1)).1
 · rw [if_pos h3, if_pos h3]
   rfl
 · rw [if_neg h3, if_neg h3, if_pos rfl]
   simp only [List.map_append, List.map_cons, List.map_nil]
   rfl
theorem doB_same (s : SSt) (x : S31) : (doB s x).1 = { s with pend := (doB s x).1.pend, peak := (doB s x).1.peak } := by
 unfold doB
 split <;> rfl
theorem xdoS (s : SSt) (d : S76) (A0 : Option Addr) (c0 : Nat) (A1 : Option Addr) (c1 : Nat) (A4 : Option Addr) (c4 : Nat) (A5 : Option Addr) (c5 : Nat) (A7 : Option Addr) (c7 : Nat) (Pf : Nat → Prop) (hlt : ∀ k, Pf k → k < w.heap.size)
 (hF : Kd.V k38 38 w 0 Pf (.slice A0 s.safe.length c0) s.safe) (hQ : Kd.V k25 25 w 0 Pf (.slice A1 (s.pend.map to25).length c1) (s.pend.map to25)) (hN : Kd.V (Kd.int .i64) 3 w 0 Pf (.slice A4 s.fails.length c4) s.fails) (hD : Kd.V (Kd.int .u8) 5 w 0 Pf (.slice A5 d.f1.f3.length c5) d.f1.f3) (hM : Kd.V (Kd.int .i64) 3 w 0 Pf (.slice A7 d.f4.length c7) d.f4)
 (hf : Fit s) (hpx : ∀ x ∈ s.pend, x.f3.length ≤ 1000) (hls : s.safe.length + s.pend.length ≤ 980) (hx : d.f1.f3.length ≤ 1000) (hnl : s.fails.length ≤ 1000) (hk1 : 1 ≤ d.f0) (hk8 : d.f0 ≤ 8) :
 Calls Try.prog 49 #[.agg #[.slice A0 s.safe.length c0, .slice A1 (s.pend.map to25).length c1, .int .i64 s.quota, .int .i64 s.calls, .slice A4 s.fails.length c4, .int .i64 s.crash, .bool s.down, .int .i64 s.peak], .agg #[.int .i64 d.f0, .string d.f1.f0, .int .i64 d.f1.f1, .int .i64 d.f1.f2, .slice A5 d.f1.f3.length c5, .string d.f2, .string d.f3, .slice A7 d.f4.length c7, .int .i64 d.f5]] w fun e w' => Avi Pf w (doS s d).1.safe ((doS s d).1.pend.map to25) (doS s d).1.quota (doS s d).1.calls (doS s d).1.fails (doS s d).1.crash (doS s d).1.down (doS s d).1.peak (doS s d).2.1 (doS s d).2.2.1 (doS s d).2.2.2 e w' := by
 have hl : s.safe.length + (s.pend.map to25).length ≤ 980 := by rw [List.length_map]; exact hls
 have hd := hf.safe
 have h0 := hf.calls0
 have h1 := hf.calls1
 have hP : ∀ x ∈ (s.pend.map to25), x.f3.length ≤ 1000 := fun x hx => by
  obtain ⟨y, hy, rfl⟩ := List.mem_map.mp hx
  exact hpx y hy
 have hG : Azd s.safe (s.pend.map to25) = Aq8 s := by unfold Azd Aq8; rw [Aw5]
 by_cases k7 : d.f0 = 7
 · rw [show doS s d = (Aka s d.f4, 0, [], []) from by unfold doS; simp only [k7]; rfl]
   exact xdo7 A0 c0 s.safe A1 c1 (s.pend.map to25) s.quota s.calls A4 c4 s.fails s.crash s.down s.peak d A5 c5 A7 c7 Pf hlt hF hQ hN hD hM hP hd hl hx hnl h0 h1 k7 (Az0 (Ajj d.f4) 0 s.safe s.pend) (by rw [Aw5]) _ rfl
 by_cases k8 : d.f0 = 8
 · rw [show doS s d = (Bj8 s d.f4 d.f5, 0, [], []) from by unfold doS; simp only [k8]; rfl]
   exact xdo8 A0 c0 s.safe A1 c1 (s.pend.map to25) s.quota s.calls A4 c4 s.fails s.crash s.down s.peak d A5 c5 A7 c7 Pf hlt hF hQ hN hD hM hP hd hl hx hnl h0 h1 k8
 obtain ⟨n1, d1, bad, hask, has⟩ := asked_x s
 have has1 : (asked s).1 = { s with calls := n1, down := d1 } := by rw [has]
 have has2 : (asked s).2 = bad := by rw [has]
 by_cases hb : bad ≠ 0
 · have hb2 : (asked s).2 ≠ 0 := by rw [has2]; exact hb
   have hdo : doS s d = ({ s with calls := n1, down := d1 }, bad, [], []) := by
    rw [← has1, ← has2]
    unfold doS doR Aky Akg Avo Aj8 Ajp ofR
    simp only [if_pos hb2]
    have : d.f0 = 1 ∨ d.f0 = 2 ∨ d.f0 = 3 ∨ d.f0 = 4 ∨ d.f0 = 5 ∨ d.f0 = 6 := by omega
    rcases this with h | h | h | h | h | h <;> simp only [h] <;> rfl
   rw [hdo]
   exact xdo_err A0 c0 s.safe A1 c1 (s.pend.map to25) s.quota s.calls A4 c4 s.fails s.crash s.down s.peak d A5 c5 A7 c7 Pf hlt hF hQ hN hD hM hP hd hl hx hnl h0 h1 n1 d1 bad hask ⟨k7, k8, trivial⟩ (bne_iff_ne.mpr hb)
 have hb : bad = 0 := by simpa using hb
 subst hb
 have hb2 : ¬ (asked s).2 ≠ 0 := by rw [has2]; simp
 by_cases k1 : d.f0 = 1
 · have hw : doR s (to31 d.f1) = doB (asked s).1 (to31 d.f1) := by unfold doR; rw [if_neg hb2]
   have hdo : doS s d = ((doB (asked s).1 (to31 d.f1)).1, (doB (asked s).1 (to31 d.f1)).2, [], []) := by
    rw [← hw]
    unfold doS
    rw [if_pos k1]
    rfl
   rw [hdo, doB_same, has1]
   exact xdo1 A0 c0 s.safe A1 c1 (s.pend.map to25) s.quota s.calls A4 c4 s.fails s.crash s.down s.peak d A5 c5 A7 c7 Pf hlt hF hQ hN hD hM hP hd hl hx hnl h0 h1 n1 d1 hask (Aq8 s) hG _ _ rfl (Axt hf).2 k1 _ _ _ (write_x { s with calls := n1, down := d1 } d.f1)
 by_cases k6 : d.f0 = 6
 · have hdo : doS s d = ({ s with calls := n1, down := d1 }, 0, [], (Aq8 s).map (·.f0)) := by
    rw [← has1]
    unfold doS Ajp
    rw [if_neg hb2]
    simp only [k6]
    rfl
   rw [hdo]
   exact xdo6 A0 c0 s.safe A1 c1 (s.pend.map to25) s.quota s.calls A4 c4 s.fails s.crash s.down s.peak d A5 c5 A7 c7 Pf hlt hF hQ hN hD hM hP hd hl hx hnl h0 h1 n1 d1 hask (Aq8 s) hG _ _ rfl (Axt hf).2 k6 _ rfl
 by_cases hgi : (getT (Aq8 s) d.f2).2 = false
 · have hdo : doS s d = ({ s with calls := n1, down := d1 }, 4, [], []) := by
    rw [← has1]
    have hr : Aj8 s d.f2 = ((asked s).1, 4, []) := by unfold Aj8; rw [if_neg hb2, if_neg (by rw [hgi]; simp)]
    have hs : Aky s d.f2 = ((asked s).1, 4) := Akr has2 hgi
    have hm : Akg s d.f2 d.f3 = ((asked s).1, 4) := Akr has2 hgi
    have hp : Avo s d.f2 = ((asked s).1, 4) := Akr has2 hgi
    unfold doS
    rw [hr, hs, hm, hp]
    have : d.f0 = 2 ∨ d.f0 = 3 ∨ d.f0 = 4 ∨ d.f0 = 5 := by omega
    rcases this with h | h | h | h <;> simp only [h] <;> rfl
   rw [hdo]
   exact xdo_none A0 c0 s.safe A1 c1 (s.pend.map to25) s.quota s.calls A4 c4 s.fails s.crash s.down s.peak d A5 c5 A7 c7 Pf hlt hF hQ hN hD hM hP hd hl hx hnl h0 h1 n1 d1 hask (Aq8 s) hG _ _ rfl (Axt hf).2 ⟨k7, k8, k1, k6, trivial⟩ hgi
 have hgt : (getT (Aq8 s) d.f2).2 = true := by simpa using hgi
 by_cases k2 : d.f0 = 2
 · have hdo : doS s d = (Bxr { s with calls := n1, down := d1 } d.f2, 0, [], []) := by
    rw [← has1]
    unfold doS Aky
    rw [Avs has2 hgt]
    simp only [k2]
    rfl
   rw [hdo]
   exact xdo2 A0 c0 s.safe A1 c1 (s.pend.map to25) s.quota s.calls A4 c4 s.fails s.crash s.down s.peak d A5 c5 A7 c7 Pf hlt hF hQ hN hD hM hP hd hl hx hnl h0 h1 n1 d1 hask (Aq8 s) hG _ _ rfl (Axt hf).2 k2 hgt (Az0 (fun _ => -1) 0 s.safe (s.pend.filter fun x => !othW d.f2 x)) (by rw [own_keep]) _ (Bqq d.f2 s.pend)
 by_cases k3 : d.f0 = 3
 · have hdo : doS s d = ((Akg s d.f2 d.f3).1, (Akg s d.f2 d.f3).2, [], []) := by
    unfold doS
    simp only [k3]
    rfl
   rw [hdo]
   unfold Akg
   rw [Avs has2 hgt, has1]
   by_cases m1 : d.f3.size < 1
   · rw [if_pos (.inl m1)]
     exact Bj3 A0 c0 s.safe A1 c1 (s.pend.map to25) s.quota s.calls A4 c4 s.fails s.crash s.down s.peak d A5 c5 A7 c7 Pf hlt hF hQ hN hD hM hP hd hl hx hnl h0 h1 n1 d1 hask (Aq8 s) hG _ _ rfl (Axt hf).2 k3 hgt (decide_eq_true (by omega))
   by_cases m2 : 40 < d.f3.size
   · rw [if_pos (.inr m2)]
     exact Bk1 A0 c0 s.safe A1 c1 (s.pend.map to25) s.quota s.calls A4 c4 s.fails s.crash s.down s.peak d A5 c5 A7 c7 Pf hlt hF hQ hN hD hM hP hd hl hx hnl h0 h1 n1 d1 hask (Aq8 s) hG _ _ rfl (Axt hf).2 k3 hgt (decide_eq_false (by omega)) (decide_eq_true (by omega))
   rw [if_neg (by omega)]
   by_cases m3 : (d.f2.toList == d.f3.toList) = true
   · rw [if_pos m3]
     exact Bk0 A0 c0 s.safe A1 c1 (s.pend.map to25) s.quota s.calls A4 c4 s.fails s.crash s.down s.peak d A5 c5 A7 c7 Pf hlt hF hQ hN hD hM hP hd hl hx hnl h0 h1 n1 d1 hask (Aq8 s) hG _ _ rfl (Axt hf).2 k3 hgt (decide_eq_false (by omega)) (decide_eq_false (by omega)) m3
   · rw [if_neg m3]
     exact xdo3 A0 c0 s.safe A1 c1 (s.pend.map to25) s.quota s.calls A4 c4 s.fails s.crash s.down s.peak d A5 c5 A7 c7 Pf hlt hF hQ hN hD hM hP hd hl hx hnl h0 h1 n1 d1 hask (Aq8 s) hG _ _ rfl (Axt hf).2 k3 hgt (decide_eq_false (by omega)) (decide_eq_false (by omega)) (by simpa using m3) _ rfl _ (moved_x d.f2 d.f3 s.pend)
 by_cases k4 : d.f0 = 4
 · have hdo : doS s d = (Bjp { s with calls := n1, down := d1 } d.f2, 0, [], []) := by
    rw [← has1]
    unfold doS Avo
    rw [Avs has2 hgt]
    simp only [k4]
    rfl
   rw [hdo]
   exact xdo4 A0 c0 s.safe A1 c1 (s.pend.map to25) s.quota s.calls A4 c4 s.fails s.crash s.down s.peak d A5 c5 A7 c7 Pf hlt hF hQ hN hD hM hP hd hl hx hnl h0 h1 n1 d1 hask (Aq8 s) hG _ _ rfl (Axt hf).2 k4 hgt _ rfl _ (Bqq d.f2 s.pend)
 have hdo : doS s d = ({ s with calls := n1, down := d1 }, 0, (getT (Aq8 s) d.f2).1, []) := by
  have k5 : d.f0 = 5 := by omega
  rw [← has1]
  unfold doS Aj8
  rw [if_neg hb2, if_pos hgt]
  simp only [k5]
  rfl
 rw [hdo]
 exact xdo5 A0 c0 s.safe A1 c1 (s.pend.map to25) s.quota s.calls A4 c4 s.fails s.crash s.down s.peak d A5 c5 A7 c7 Pf hlt hF hQ hN hD hM hP hd hl hx hnl h0 h1 n1 d1 hask (Aq8 s) hG _ _ rfl (Axt hf).2 ⟨k7, k8, k1, k6, k2, k3, k4, trivial⟩ hgt
end
end
section
attribute [local go_sem] Axk Axr Az3 Az7 Axj Axi Axz Axy
def Azj.f (k : Nat) (a0_0 : Int) (l0_1 : List Int) (l0_2 : List ByteArray) (a1_0 : Int) (l1_1 : List Int) (l1_2 : List ByteArray) : Option (Bool) := if a0_0 = a1_0 then (if (strOfNums l0_1).toList = (strOfNums l1_1).toList then ((Aqq.f k l0_2 l1_2).bind fun t591 => (some t591)) else (some false)) else (some false)
theorem Azj.calls (k : Nat) (a0_0 : Int) (A0_1 : Option Addr) (c0_1 : Nat) (l0_1 : List Int) (A0_2 : Option Addr) (c0_2 : Nat) (l0_2 : List ByteArray) (a1_0 : Int) (A1_1 : Option Addr) (c1_1 : Nat) (l1_1 : List Int) (A1_2 : Option Addr) (c1_2 : Nat) (l1_2 : List ByteArray) (r : Bool) (w : World) (hr0_1 : Kd.C (Kd.int .u8) w A0_1 l0_1.length l0_1) (hc0_1 : l0_1.length ≤ c0_1) (hr0_2 : Kd.C Kd.string w A0_2 l0_2.length l0_2) (hc0_2 : l0_2.length ≤ c0_2) (hr1_1 : Kd.C (Kd.int .u8) w A1_1 l1_1.length l1_1) (hc1_1 : l1_1.length ≤ c1_1) (hr1_2 : Kd.C Kd.string w A1_2 l1_2.length l1_2) (hc1_2 : l1_2.length ≤ c1_2) (h : Azj.f k a0_0 l0_1 l0_2 a1_0 l1_1 l1_2 = some r) :
 Calls Try.prog 50 #[.agg #[.int .i64 a0_0, .slice A0_1 l0_1.length c0_1, .slice A0_2 l0_2.length c0_2], .agg #[.int .i64 a1_0, .slice A1_1 l1_1.length c1_1, .slice A1_2 l1_2.length c1_2]] w fun e w' => e = .returned (.bool r) ∧ Below w.heap.size w w' := by
 have hu73 := Try.underlying73
 have HR0_1 := Bvh hr0_1
 have HC0_1 := Bvh hc0_1
 clear hr0_1 hc0_1
 have HR0_2 := Bvh hr0_2
 have HC0_2 := Bvh hc0_2
 clear hr0_2 hc0_2
 have HR1_1 := Bvh hr1_1
 have HC1_1 := Bvh hc1_1
 clear hr1_1 hc1_1
 have HR1_2 := Bvh hr1_2
 have HC1_2 := Bvh hc1_2
 clear hr1_2 hc1_2
 have HB := Bvh (Below.refl w.heap.size w)
 have H : (if a0_0 = a1_0 then (if (strOfNums l0_1).toList = (strOfNums l1_1).toList then ((Aqq.f k l0_2 l1_2).bind fun t591 => (some t591)) else (some false)) else (some false)) = some r := h
 clear h
 by_cases c3 : a0_0 = a1_0
 · rw [if_pos c3] at H
   have c3b0 : (a0_0 == a1_0) = true := beq_iff_eq.mpr c3
   have c3b1 : (a0_0 != a1_0) = false := bne_eq_false_iff_eq.mpr c3
   clear c3
   by_cases c4 : (strOfNums l0_1).toList = (strOfNums l1_1).toList
   · rw [if_pos c4] at H
     have c4b0 : ((strOfNums l0_1).toList == (strOfNums l1_1).toList) = true := beq_iff_eq.mpr c4
     have c4b1 : ((strOfNums l0_1).toList != (strOfNums l1_1).toList) = false := bne_eq_false_iff_eq.mpr c4
     clear c4
     replace H := Option.bind_eq_some_iff.mp H
     obtain ⟨t591, A50, H⟩ := H
     replace H : (some t591) = some r := H
     have A5 := Bvh A50
     clear A50
     obtain rfl := Option.some.inj H
     go_enter Try.func50, Try.ntmps50
     go_wp2_with (first | ((with_reducible refine Ax1 (N := 2) rfl ?_); refine Axd ?hg (N := 2) ?hd (cs := #[.int .i64 a0_0, .slice A0_1 l0_1.length c0_1, .slice A0_2 l0_2.length c0_2]) (t := 73) ?hr ?_; (case hd => rfl); (case hg => rfl); (case hr => first | (go_simp; done) | (go_simp; rfl)); intro gb589 hg w6 hbox hb; have n0_ := Bvh (Aq1 (by repeat (first | (with_reducible first | exact HB.out | apply Aq4 | apply Aq7 | apply Aq5) | exact HB.out)) hb); have n1_ := Bvh (hbox); have n2_ := Bvh ((by rw [hg]; exact (Aqb (by repeat (first | (with_reducible first | exact HB.out | apply Aq4 | apply Aq7 | apply Aq5) | exact HB.out))) : w.heap.size ≤ gb589)); have n3_ := Bvh ((by rw [hg]; exact (Aqb (by repeat (first | (with_reducible first | exact HB.out | apply Aq4 | apply Aq7 | apply Aq5) | exact HB.out))) : w.heap.size ≤ gb589)); clear HB; have HB := n0_; have BK589 := n1_; have GW589 := n2_; have GE589 := n3_; clear n0_ n1_ n2_ n3_; clear hb hbox hg) | ((with_reducible refine Ax1 (N := 3) rfl ?_); refine Axd ?hg (N := 3) ?hd (cs := #[.int .i64 a1_0, .slice A1_1 l1_1.length c1_1, .slice A1_2 l1_2.length c1_2]) (t := 73) ?hr ?_; (case hd => rfl); (case hg => rfl); (case hr => first | (go_simp; done) | (go_simp; rfl)); intro gb590 hg w7 hbox hb; have n0_ := Bvh (Ajl (g := gb589) (o := .cells #[.int .i64 a0_0, .slice A0_1 l0_1.length c0_1, .slice A0_2 l0_2.length c0_2] 73 (0, 0)) (by (with_reducible repeat (first | refine Axg ?_ _ | refine Axu ?_ | refine Aqe ?_ _)); exact BK589.out) hb); have n1_ := Bvh (Aq1 (by repeat (first | (with_reducible first | exact HB.out | apply Aq4 | apply Aq7 | apply Aq5 | refine Ax2 ?_ GE589.out) | exact HB.out)) hb); have n2_ := Bvh (hbox); have n3_ := Bvh ((by rw [hg]; exact (Aqb (by repeat (first | (with_reducible first | exact HB.out | apply Aq4 | apply Aq7 | apply Aq5 | refine Ax2 ?_ GE589.out) | exact HB.out))) : w.heap.size ≤ gb590)); have n4_ := Bvh ((by rw [hg]; exact (Aqb (by repeat (first | (with_reducible first | exact HB.out | apply Aq4 | apply Aq7 | apply Aq5 | refine Ax2 ?_ GE589.out) | exact HB.out))) : w.heap.size ≤ gb590)); have n5_ := Bvh ((by rw [hg]; exact Nat.ne_of_lt (Ax7 (g := gb589) (o := .cells #[.int .i64 a0_0, .slice A0_1 l0_1.length c0_1, .slice A0_2 l0_2.length c0_2] 73 (0, 0)) (by (with_reducible repeat (first | refine Axg ?_ _ | refine Axu ?_ | refine Aqe ?_ _)); exact BK589.out)) : gb589 ≠ gb590)); have n6_ := Bvh ((by rw [hg]; exact Nat.ne_of_gt (Ax7 (g := gb589) (o := .cells #[.int .i64 a0_0, .slice A0_1 l0_1.length c0_1, .slice A0_2 l0_2.length c0_2] 73 (0, 0)) (by (with_reducible repeat (first | refine Axg ?_ _ | refine Axu ?_ | refine Aqe ?_ _)); exact BK589.out)) : gb590 ≠ gb589)); clear BK589; clear HB; have BK589 := n0_; have HB := n1_; have BK590 := n2_; have GW590 := n3_; have GE590 := n4_; have NB589_590 := n5_; have NB590_589 := n6_; clear n0_ n1_ n2_ n3_ n4_ n5_ n6_; clear hb hbox hg; have hnb8 := NB589_590.out; have hnc8 := NB590_589.out; have hcz9_0 : w7.cell? ⟨gb589, 0, none⟩ = some (.int .i64 a0_0) := (Aq3 BK589.out 0).trans rfl; have hcz9_1 : w7.cell? ⟨gb589, 1, none⟩ = some (.slice A0_1 l0_1.length c0_1) := (Aq3 BK589.out 1).trans rfl; have hcz9_2 : w7.cell? ⟨gb589, 2, none⟩ = some (.slice A0_2 l0_2.length c0_2) := (Aq3 BK589.out 2).trans rfl; have hfz9_0 := Aq2 BK589.out 0; have hfz9_1 := Aq2 BK589.out 1; have hfz9_2 := Aq2 BK589.out 2; have hcz10_0 : w7.cell? ⟨gb590, 0, none⟩ = some (.int .i64 a1_0) := (Aq3 BK590.out 0).trans rfl; have hcz10_1 : w7.cell? ⟨gb590, 1, none⟩ = some (.slice A1_1 l1_1.length c1_1) := (Aq3 BK590.out 1).trans rfl; have hcz10_2 : w7.cell? ⟨gb590, 2, none⟩ = some (.slice A1_2 l1_2.length c1_2) := (Aq3 BK590.out 2).trans rfl; have hfz10_0 := Aq2 BK590.out 0; have hfz10_1 := Aq2 BK590.out 1; have hfz10_2 := Aq2 BK590.out 2; (have hcv11 := Kd.C_string (P := Try.prog) (A := A0_1) (c := c0_1) Try.underlying23 Try.underlying5 Try.underlying9 (Kd.C_below HR0_1.out HB.out)); (have hcv11b := fun n_ : Nat => Kd.C_string (P := Try.prog) (A := A0_1) (c := c0_1) Try.underlying23 Try.underlying5 Try.underlying9 (Kd.C_drewN (Kd.C_below HR0_1.out HB.out) n_)); (try simp only [World.drewN_drewN] at hcv11b); (have hcv12 := Kd.C_string (P := Try.prog) (A := A1_1) (c := c1_1) Try.underlying23 Try.underlying5 Try.underlying9 (Kd.C_below HR1_1.out HB.out)); (have hcv12b := fun n_ : Nat => Kd.C_string (P := Try.prog) (A := A1_1) (c := c1_1) Try.underlying23 Try.underlying5 Try.underlying9 (Kd.C_drewN (Kd.C_below HR1_1.out HB.out) n_)); (try simp only [World.drewN_drewN] at hcv12b)) | (go_at_call 32; (with_reducible refine (Aqq.calls k _ _ l0_2 _ _ l1_2 t591 _ ?side1 ?side2 ?side3 ?side4 A5.out).mono ?_); (case side1 => repeat (first | exact (Kd.C_below HR0_2.out HB.out) | (with_reducible refine Kd.C_alloc ?_ _) | (with_reducible refine Kd.C_drewN ?_ _) | (with_reducible refine Kd.C_drew ?_))); (case side2 => exact HC0_2.out); (case side3 => repeat (first | exact (Kd.C_below HR1_2.out HB.out) | (with_reducible refine Kd.C_alloc ?_ _) | (with_reducible refine Kd.C_drewN ?_ _) | (with_reducible refine Kd.C_drew ?_))); (case side4 => exact HC1_2.out); rintro e w' ⟨rfl, ⟨nd, rfl⟩⟩))
     go_ret
     exact ⟨by first | rfl | (simp [Aqj, Aqi] <;> rfl) | (simp [*, Aqj, Aqi] <;> rfl), by repeat (first | (with_reducible first | exact HB.out | apply Aq4 | apply Aq7 | apply Aq5 | refine Ax2 ?_ GE589.out | refine Ax2 ?_ GE590.out) | exact HB.out)⟩
   · rw [if_neg c4] at H
     have c4b0 : ((strOfNums l0_1).toList == (strOfNums l1_1).toList) = false := beq_eq_false_iff_ne.mpr c4
     have c4b1 : ((strOfNums l0_1).toList != (strOfNums l1_1).toList) = true := bne_iff_ne.mpr c4
     obtain rfl := Option.some.inj H
     go_enter Try.func50, Try.ntmps50
     go_wp2_with (first | ((with_reducible refine Ax1 (N := 2) rfl ?_); refine Axd ?hg (N := 2) ?hd (cs := #[.int .i64 a0_0, .slice A0_1 l0_1.length c0_1, .slice A0_2 l0_2.length c0_2]) (t := 73) ?hr ?_; (case hd => rfl); (case hg => rfl); (case hr => first | (go_simp; done) | (go_simp; rfl)); intro gb589 hg w13 hbox hb; have n0_ := Bvh (Aq1 (by repeat (first | (with_reducible first | exact HB.out | apply Aq4 | apply Aq7 | apply Aq5) | exact HB.out)) hb); have n1_ := Bvh (hbox); have n2_ := Bvh ((by rw [hg]; exact (Aqb (by repeat (first | (with_reducible first | exact HB.out | apply Aq4 | apply Aq7 | apply Aq5) | exact HB.out))) : w.heap.size ≤ gb589)); have n3_ := Bvh ((by rw [hg]; exact (Aqb (by repeat (first | (with_reducible first | exact HB.out | apply Aq4 | apply Aq7 | apply Aq5) | exact HB.out))) : w.heap.size ≤ gb589)); clear HB; have HB := n0_; have BK589 := n1_; have GW589 := n2_; have GE589 := n3_; clear n0_ n1_ n2_ n3_; clear hb hbox hg) | ((with_reducible refine Ax1 (N := 3) rfl ?_); refine Axd ?hg (N := 3) ?hd (cs := #[.int .i64 a1_0, .slice A1_1 l1_1.length c1_1, .slice A1_2 l1_2.length c1_2]) (t := 73) ?hr ?_; (case hd => rfl); (case hg => rfl); (case hr => first | (go_simp; done) | (go_simp; rfl)); intro gb590 hg w14 hbox hb; have n0_ := Bvh (Ajl (g := gb589) (o := .cells #[.int .i64 a0_0, .slice A0_1 l0_1.length c0_1, .slice A0_2 l0_2.length c0_2] 73 (0, 0)) (by (with_reducible repeat (first | refine Axg ?_ _ | refine Axu ?_ | refine Aqe ?_ _)); exact BK589.out) hb); have n1_ := Bvh (Aq1 (by repeat (first | (with_reducible first | exact HB.out | apply Aq4 | apply Aq7 | apply Aq5 | refine Ax2 ?_ GE589.out) | exact HB.out)) hb); have n2_ := Bvh (hbox); have n3_ := Bvh ((by rw [hg]; exact (Aqb (by repeat (first | (with_reducible first | exact HB.out | apply Aq4 | apply Aq7 | apply Aq5 | refine Ax2 ?_ GE589.out) | exact HB.out))) : w.heap.size ≤ gb590)); have n4_ := Bvh ((by rw [hg]; exact (Aqb (by repeat (first | (with_reducible first | exact HB.out | apply Aq4 | apply Aq7 | apply Aq5 | refine Ax2 ?_ GE589.out) | exact HB.out))) : w.heap.size ≤ gb590)); have n5_ := Bvh ((by rw [hg]; exact Nat.ne_of_lt (Ax7 (g := gb589) (o := .cells #[.int .i64 a0_0, .slice A0_1 l0_1.length c0_1, .slice A0_2 l0_2.length c0_2] 73 (0, 0)) (by (with_reducible repeat (first | refine Axg ?_ _ | refine Axu ?_ | refine Aqe ?_ _)); exact BK589.out)) : gb589 ≠ gb590)); have n6_ := Bvh ((by rw [hg]; exact Nat.ne_of_gt (Ax7 (g := gb589) (o := .cells #[.int .i64 a0_0, .slice A0_1 l0_1.length c0_1, .slice A0_2 l0_2.length c0_2] 73 (0, 0)) (by (with_reducible repeat (first | refine Axg ?_ _ | refine Axu ?_ | refine Aqe ?_ _)); exact BK589.out)) : gb590 ≠ gb589)); clear BK589; clear HB; have BK589 := n0_; have HB := n1_; have BK590 := n2_; have GW590 := n3_; have GE590 := n4_; have NB589_590 := n5_; have NB590_589 := n6_; clear n0_ n1_ n2_ n3_ n4_ n5_ n6_; clear hb hbox hg; have hnb15 := NB589_590.out; have hnc15 := NB590_589.out; have hcz16_0 : w14.cell? ⟨gb589, 0, none⟩ = some (.int .i64 a0_0) := (Aq3 BK589.out 0).trans rfl; have hcz16_1 : w14.cell? ⟨gb589, 1, none⟩ = some (.slice A0_1 l0_1.length c0_1) := (Aq3 BK589.out 1).trans rfl; have hcz16_2 : w14.cell? ⟨gb589, 2, none⟩ = some (.slice A0_2 l0_2.length c0_2) := (Aq3 BK589.out 2).trans rfl; have hfz16_0 := Aq2 BK589.out 0; have hfz16_1 := Aq2 BK589.out 1; have hfz16_2 := Aq2 BK589.out 2; have hcz17_0 : w14.cell? ⟨gb590, 0, none⟩ = some (.int .i64 a1_0) := (Aq3 BK590.out 0).trans rfl; have hcz17_1 : w14.cell? ⟨gb590, 1, none⟩ = some (.slice A1_1 l1_1.length c1_1) := (Aq3 BK590.out 1).trans rfl; have hcz17_2 : w14.cell? ⟨gb590, 2, none⟩ = some (.slice A1_2 l1_2.length c1_2) := (Aq3 BK590.out 2).trans rfl; have hfz17_0 := Aq2 BK590.out 0; have hfz17_1 := Aq2 BK590.out 1; have hfz17_2 := Aq2 BK590.out 2; (have hcv18 := Kd.C_string (P := Try.prog) (A := A0_1) (c := c0_1) Try.underlying23 Try.underlying5 Try.underlying9 (Kd.C_below HR0_1.out HB.out)); (have hcv18b := fun n_ : Nat => Kd.C_string (P := Try.prog) (A := A0_1) (c := c0_1) Try.underlying23 Try.underlying5 Try.underlying9 (Kd.C_drewN (Kd.C_below HR0_1.out HB.out) n_)); (try simp only [World.drewN_drewN] at hcv18b); (have hcv19 := Kd.C_string (P := Try.prog) (A := A1_1) (c := c1_1) Try.underlying23 Try.underlying5 Try.underlying9 (Kd.C_below HR1_1.out HB.out)); (have hcv19b := fun n_ : Nat => Kd.C_string (P := Try.prog) (A := A1_1) (c := c1_1) Try.underlying23 Try.underlying5 Try.underlying9 (Kd.C_drewN (Kd.C_below HR1_1.out HB.out) n_)); (try simp only [World.drewN_drewN] at hcv19b)))
     go_ret
     exact ⟨by first | rfl | (simp [Aqj, Aqi] <;> rfl) | (simp [*, Aqj, Aqi] <;> rfl), by exact HB.out⟩
 · rw [if_neg c3] at H
   have c3b0 : (a0_0 == a1_0) = false := beq_eq_false_iff_ne.mpr c3
   have c3b1 : (a0_0 != a1_0) = true := bne_iff_ne.mpr c3
   obtain rfl := Option.some.inj H
   go_enter Try.func50, Try.ntmps50
   go_wp2_with (first | ((with_reducible refine Ax1 (N := 2) rfl ?_); refine Axd ?hg (N := 2) ?hd (cs := #[.int .i64 a0_0, .slice A0_1 l0_1.length c0_1, .slice A0_2 l0_2.length c0_2]) (t := 73) ?hr ?_; (case hd => rfl); (case hg => rfl); (case hr => (go_simp; rfl)); intro gb589 hg w20 hbox hb; have n0_ := Bvh (Aq1 HB.out hb); have n1_ := Bvh (hbox); have n2_ := Bvh ((by rw [hg]; exact (Aqb HB.out) : w.heap.size ≤ gb589)); have n3_ := Bvh ((by rw [hg]; exact (Aqb HB.out) : w.heap.size ≤ gb589)); clear HB; have HB := n0_; have BK589 := n1_; have GW589 := n2_; have GE589 := n3_; clear n0_ n1_ n2_ n3_; clear hb hbox hg) | ((with_reducible refine Ax1 (N := 3) rfl ?_); refine Axd ?hg (N := 3) ?hd (cs := #[.int .i64 a1_0, .slice A1_1 l1_1.length c1_1, .slice A1_2 l1_2.length c1_2]) (t := 73) ?hr ?_; (case hd => rfl); (case hg => rfl); (case hr => (go_simp; rfl)); intro gb590 hg w21 hbox hb; have n0_ := Bvh (Ajl (g := gb589) (o := .cells #[.int .i64 a0_0, .slice A0_1 l0_1.length c0_1, .slice A0_2 l0_2.length c0_2] 73 (0, 0)) BK589.out hb); have n1_ := Bvh (Aq1 HB.out hb); have n2_ := Bvh (hbox); have n3_ := Bvh ((by rw [hg]; exact (Aqb HB.out) : w.heap.size ≤ gb590)); have n4_ := Bvh ((by rw [hg]; exact (Aqb HB.out) : w.heap.size ≤ gb590)); have n5_ := Bvh ((by rw [hg]; exact Nat.ne_of_lt (Ax7 (g := gb589) (o := .cells #[.int .i64 a0_0, .slice A0_1 l0_1.length c0_1, .slice A0_2 l0_2.length c0_2] 73 (0, 0)) BK589.out) : gb589 ≠ gb590)); have n6_ := Bvh ((by rw [hg]; exact Nat.ne_of_gt (Ax7 (g := gb589) (o := .cells #[.int .i64 a0_0, .slice A0_1 l0_1.length c0_1, .slice A0_2 l0_2.length c0_2] 73 (0, 0)) BK589.out) : gb590 ≠ gb589)); clear BK589; clear HB; have BK589 := n0_; have HB := n1_; have BK590 := n2_; have GW590 := n3_; have GE590 := n4_; have NB589_590 := n5_; have NB590_589 := n6_; clear n0_ n1_ n2_ n3_ n4_ n5_ n6_; clear hb hbox hg; have hnb22 := NB589_590.out; have hnc22 := NB590_589.out; have hcz23_0 : w21.cell? ⟨gb589, 0, none⟩ = some (.int .i64 a0_0) := (Aq3 BK589.out 0).trans rfl; have hcz23_1 : w21.cell? ⟨gb589, 1, none⟩ = some (.slice A0_1 l0_1.length c0_1) := (Aq3 BK589.out 1).trans rfl; have hcz23_2 : w21.cell? ⟨gb589, 2, none⟩ = some (.slice A0_2 l0_2.length c0_2) := (Aq3 BK589.out 2).trans rfl; have hfz23_0 := Aq2 BK589.out 0; have hfz23_1 := Aq2 BK589.out 1; have hfz23_2 := Aq2 BK589.out 2; have hcz24_0 : w21.cell? ⟨gb590, 0, none⟩ = some (.int .i64 a1_0) := (Aq3 BK590.out 0).trans rfl; have hcz24_1 : w21.cell? ⟨gb590, 1, none⟩ = some (.slice A1_1 l1_1.length c1_1) := (Aq3 BK590.out 1).trans rfl; have hcz24_2 : w21.cell? ⟨gb590, 2, none⟩ = some (.slice A1_2 l1_2.length c1_2) := (Aq3 BK590.out 2).trans rfl; have hfz24_0 := Aq2 BK590.out 0; have hfz24_1 := Aq2 BK590.out 1; have hfz24_2 := Aq2 BK590.out 2))
   go_ret
   exact ⟨by first | rfl | (simp [Aqj, Aqi] <;> rfl) | (simp [*, Aqj, Aqi] <;> rfl), by repeat (first | (with_reducible first | exact HB.out | apply Aq4 | apply Aq7 | apply Aq5 | refine Ax2 ?_ GE589.out | refine Ax2 ?_ GE590.out) | exact HB.out)⟩
end
section
structure Inv2 (s : SSt) : Prop where
 pend : ∀ x ∈ s.pend, x.f3.length ≤ 1000
 fails : s.fails.length ≤ 1000
theorem Inv2.new (q : Int) : Inv2 (newD q) := ⟨fun x hx => by simp [newD] at hx, by simp [newD]⟩
theorem Inv2.asked {s : SSt} (h : Inv2 s) : Inv2 (P.asked s).1 := by
 obtain ⟨-, h2, -, -, -, h6, -⟩ := Bqg s
 exact ⟨by rw [h2]; exact h.pend, by rw [h6]; exact h.fails⟩
theorem Inv2.ofR {s : SSt} (h : Inv2 s) (name : ByteArray) (k : SSt → SSt × Int) (hk : ∀ s1 : SSt, Inv2 s1 → Inv2 (k s1).1) : Inv2 (P.ofR s name k).1 := by
 unfold P.ofR
 split
 · exact h.asked
 · split
   · exact hk _ h.asked
   · exact h.asked
theorem Inv2.done {s : SSt} (h : Inv2 s) {d : S76} (hd : okD d) : Inv2 (doS s d).1 := by
 have hw := hd.w
 have hn := hd.nums
 unfold doS
 split
 · show Inv2 (doR s (wOf d)).1
   unfold doR
   split
   · exact h.asked
   · unfold doB
     split
     · refine ⟨fun x hx => ?_, h.asked.fails⟩
       rcases List.mem_append.1 hx with hx | hx
       · exact h.asked.pend x hx
       · rw [List.mem_singleton.1 hx]
         show d.f1.f3.length ≤ 1000
         omega
     · exact h.asked
 split
 · exact h.ofR _ _ fun s1 h1 => ⟨fun x hx => h1.pend x (List.mem_filter.1 hx).1, h1.fails⟩
 split
 · refine h.ofR _ _ fun s1 h1 => ?_
   split
   · exact h1
   split
   · exact h1
   · refine ⟨fun x hx => ?_, h1.fails⟩
     obtain ⟨y, hy, rfl⟩ := List.mem_map.1 hx
     have := h1.pend y (List.mem_filter.1 hy).1
     unfold renW
     split <;> exact this
 split
 · exact h.ofR _ _ fun s1 h1 => ⟨fun x hx => h1.pend x (List.mem_filter.1 hx).1, h1.fails⟩
 split
 · show Inv2 (Aj8 s d.f2).1
   unfold Aj8
   split
   · exact h.asked
   split <;> exact h.asked
 split
 · show Inv2 (Ajp s).1
   unfold Ajp
   split <;> exact h.asked
 split
 · exact ⟨fun x hx => by simp [Aka] at hx, by simp [Aka]⟩
 · exact ⟨h.pend, show d.f4.length ≤ 1000 by omega⟩
theorem Inv2.run {s : SSt} {l : List S76} (h : Inv2 s) (hl : ∀ d ∈ l, okD d) (i : Nat) : Inv2 (runS s (l.take i)) := by
 induction i with
 | zero => exact h
 | succ i ih =>
   by_cases hi : i < l.length
   · rw [Aw7 _ _ _ hi]
     exact ih.done (hl _ (List.getElem_mem hi))
   · rw [List.take_of_length_le (by omega)] at ih ⊢
     exact ih
theorem Bxy (a : Int) (l : List Int) (ns : List ByteArray) (hl : ns.length ≤ 1000000) : ∃ k, Azj.f k a l ns a l ns = some true := by
 unfold Azj.f
 obtain ⟨k, hk⟩ := Avr ns hl ns.length 0 (by omega)
 refine ⟨k, ?_⟩
 rw [if_pos rfl, if_pos rfl]
 unfold Aqq.f
 rw [if_pos rfl]
 show (Aqq.l0 k ns ns 0).bind _ = _
 rw [show (0 : Int) = ((0 : Nat) : Int) from rfl, hk]
 rfl
section
variable {w : World}
theorem Bx0 {A1 : Option Addr} {c1 : Nat} {A2 : Option Addr} {c2 : Nat} {A3 : Option Addr} {c3 : Nat} {A4 : Option Addr} {c4 : Nat} {e1 e2 e3 e4 b1 b2 b3 b4 : Nat} {o1 o2 o3 o4 : Nat → Prop} (a : Int) (l : List Int) (ns : List ByteArray) (hl : ns.length ≤ 1000000)
 (h1 : Kd.V (Kd.int .u8) e1 w b1 o1 (.slice A1 l.length c1) l) (h2 : Kd.V Kd.string e2 w b2 o2 (.slice A2 ns.length c2) ns) (h3 : Kd.V (Kd.int .u8) e3 w b3 o3 (.slice A3 l.length c3) l) (h4 : Kd.V Kd.string e4 w b4 o4 (.slice A4 ns.length c4) ns) :
 Calls Try.prog 50 #[.agg #[.int .i64 a, .slice A1 l.length c1, .slice A2 ns.length c2], .agg #[.int .i64 a, .slice A3 l.length c3, .slice A4 ns.length c4]] w fun e w' => e = .returned (.bool true) ∧ Below w.heap.size w w' := by
 obtain ⟨k, hk⟩ := Bxy a l ns hl
 exact Azj.calls k a A1 c1 l A2 c2 ns a A3 c3 l A4 c4 ns true w (Kd.V_reads' h1).2.2 (Kd.V_reads' h1).2.1 (Kd.V_reads' h2).2.2 (Kd.V_reads' h2).2.1 (Kd.V_reads' h3).2.2 (Kd.V_reads' h3).2.1 (Kd.V_reads' h4).2.2 (Kd.V_reads' h4).2.1 hk
end
end
section
structure Both (a : Nat) (B : Nat → Prop) (g b : Nat) (s t : SSt) (w : World) (A0 : Option Addr) (c0 : Nat) (A1 : Option Addr) (c1 : Nat) (A4 : Option Addr) (c4 : Nat) : Prop where
 rep : Rep B g s w
 lo : ∀ k, B k → a ≤ k ∧ k < w.heap.size
 nb : ¬ B b
 box : VarX w b (.slice A0 t.safe.length c0) (.slice A1 (t.pend.map to25).length c1) (.int .i64 t.quota) (.int .i64 t.calls) (.slice A4 t.fails.length c4) (.int .i64 t.crash) (.bool t.down) (.int .i64 t.peak)
 hF : Kd.V k38 38 w 0 (fun k => ¬ B k ∧ k ≠ b) (.slice A0 t.safe.length c0) t.safe
 hQ : Kd.V k25 25 w 0 (fun k => ¬ B k ∧ k ≠ b) (.slice A1 (t.pend.map to25).length c1) (t.pend.map to25)
 hN : Kd.V (Kd.int .i64) 3 w 0 (fun k => ¬ B k ∧ k ≠ b) (.slice A4 t.fails.length c4) t.fails
section
variable {a : Nat} {B : Nat → Prop} {g b : Nat} {s s' t t' : SSt} {w w1 w2 : World} {A0 : Option Addr} {c0 : Nat} {A1 : Option Addr} {c1 : Nat} {A4 : Option Addr} {c4 : Nat} {B0 : Option Addr} {d0 : Nat} {B1 : Option Addr} {d1 : Nat} {B4 : Option Addr} {d4 : Nat}
theorem Both.below (h : Both a B g b s t w A0 c0 A1 c1 A4 c4) (hb : Below w.heap.size w w1) : Both a B g b s t w1 A0 c0 A1 c1 A4 c4 :=
 ⟨h.rep.below hb, fun k hk => ⟨(h.lo k hk).1, Nat.lt_of_lt_of_le (h.lo k hk).2 hb.size⟩, h.nb, h.box.below hb, Kd.V_below h.hF hb, Kd.V_below h.hQ hb, Kd.V_below h.hN hb⟩
def Bzf (B : Nat → Prop) (n : Nat) : Nat → Prop := fun k => B k ∨ n ≤ k
theorem up_new (B : Nat → Prop) (n : Nat) : Up (Bzf B n) n := fun k hk => .inr hk
def NewTo (B : Nat → Prop) (n m : Nat) : Nat → Prop := fun k => Bzf B n k ∧ k < m
theorem Both.open (h : Both a B g b s t w A0 c0 A1 c1 A4 c4) : Rep (Bzf B w.heap.size) g s w := h.rep.less fun k hk _ => .inl hk
theorem Bvd {α : Type} {d : Kd α} {e : Nat} {m : Nat} {v : Value} {xs : List α} (h : Kd.V d e w 0 (fun k => ¬ B k ∧ k ≠ b) v xs) (hl : BelS (Bzf B w.heap.size) w w1) : Kd.V d e w1 0 (fun k => ¬ NewTo B w.heap.size m k ∧ k ≠ b) v xs :=
 V_P (b := 0) (Kd.V_step (Kd.V_bound h) fun k hk hlt => hl.block k hlt fun hB => hB.elim hk.1.1 fun hn => absurd hlt (Nat.not_lt.2 hn)) fun k hk => ⟨fun hB => hB.1.elim hk.1.1 fun hn => absurd hk.2 (Nat.not_lt.2 hn), hk.1.2⟩
theorem Both.real (h : Both a B g b s t w A0 c0 A1 c1 A4 c4) (ha : a ≤ w.heap.size) (hr : Rep (Bzf B w.heap.size) g s' w1) (hl : BelS (Bzf B w.heap.size) w w1) : Both a (NewTo B w.heap.size w1.heap.size) g b s' t w1 A0 c0 A1 c1 A4 c4 := by
 have hbw := Ax7 h.box
 refine ⟨hr.less fun k hk hlt => ⟨hk, hlt⟩, fun k hk => ⟨hk.1.elim (fun hB => (h.lo k hB).1) fun hn => Nat.le_trans ha hn, hk.2⟩, fun hB => hB.1.elim h.nb fun hn => absurd hbw (Nat.not_lt.2 hn), ?_, Bvd h.hF hl, Bvd h.hQ hl, Bvd h.hN hl⟩
 exact (hl.block b hbw fun hB => hB.elim h.nb fun hn => absurd hbw (Nat.not_lt.2 hn)).trans h.box
theorem VarX.but {A0 A1 A4 : Option Addr} {n0 c0 n1 c1 n4 c4 : Nat} {q n cr pk : Int} {dw : Bool} (h : VarX w b (.slice A0 n0 c0) (.slice A1 n1 c1) (.int .i64 q) (.int .i64 n) (.slice A4 n4 c4) (.int .i64 cr) (.bool dw) (.int .i64 pk)) (y0 y1 y2 y3 y4 y5 y6 y7 : Value) : But b w ((((((((w.setCell ⟨b, 0, none⟩ y0).setCell ⟨b, 1, none⟩ y1).setCell ⟨b, 2, none⟩ y2).setCell ⟨b, 3, none⟩ y3).setCell ⟨b, 4, none⟩ y4).setCell ⟨b, 5, none⟩ y5).setCell ⟨b, 6, none⟩ y6).setCell ⟨b, 7, none⟩ y7) := by
 refine ⟨⟨_, _, _, h, fun j u hu => ?_⟩, fun k hk => Axo _ _ _ _ _ _ _ _ hk⟩
 have hj : j < 8 := by
  have := (Array.getElem?_eq_some_iff.1 hu).1
  simpa using this
 obtain rfl | rfl | rfl | rfl | rfl | rfl | rfl | rfl : j = 0 ∨ j = 1 ∨ j = 2 ∨ j = 3 ∨ j = 4 ∨ j = 5 ∨ j = 6 ∨ j = 7 := by omega
 all_goals
  simp at hu
  subst hu
  exact ⟨fun s => by simp, fun i => by simp⟩
theorem Awt {α : Type} {d : Kd α} {e : Nat} {v : Value} {xs : List α} (h : Kd.V d e w 0 (fun k => ¬ B k ∧ k ≠ b) v xs) (y0 y1 y2 y3 y4 y5 y6 y7 : Value) : Kd.V d e ((((((((w.setCell ⟨b, 0, none⟩ y0).setCell ⟨b, 1, none⟩ y1).setCell ⟨b, 2, none⟩ y2).setCell ⟨b, 3, none⟩ y3).setCell ⟨b, 4, none⟩ y4).setCell ⟨b, 5, none⟩ y5).setCell ⟨b, 6, none⟩ y6).setCell ⟨b, 7, none⟩ y7) 0 (fun k => ¬ B k ∧ k ≠ b) v xs :=
 Kd.V_step h fun k hk _ => Axo _ _ _ _ _ _ _ _ hk.2
theorem Both.upd (h : Both a B g b s t w A0 c0 A1 c1 A4 c4) (hF : Kd.V k38 38 w 0 (fun k => ¬ B k ∧ k ≠ b) (.slice B0 t'.safe.length d0) t'.safe) (hQ : Kd.V k25 25 w 0 (fun k => ¬ B k ∧ k ≠ b) (.slice B1 (t'.pend.map to25).length d1) (t'.pend.map to25)) (hN : Kd.V (Kd.int .i64) 3 w 0 (fun k => ¬ B k ∧ k ≠ b) (.slice B4 t'.fails.length d4) t'.fails) :
 Both a B g b s t' ((((((((w.setCell ⟨b, 0, none⟩ (.slice B0 t'.safe.length d0)).setCell ⟨b, 1, none⟩ (.slice B1 (t'.pend.map to25).length d1)).setCell ⟨b, 2, none⟩ (.int .i64 t'.quota)).setCell ⟨b, 3, none⟩ (.int .i64 t'.calls)).setCell ⟨b, 4, none⟩ (.slice B4 t'.fails.length d4)).setCell ⟨b, 5, none⟩ (.int .i64 t'.crash)).setCell ⟨b, 6, none⟩ (.bool t'.down)).setCell ⟨b, 7, none⟩ (.int .i64 t'.peak)) B0 d0 B1 d1 B4 d4 := by
 obtain ⟨-, -, -, -, -, -, -, -, -, -, -, -, -, -, -, -, hx⟩ := h.box.put (.slice B0 t'.safe.length d0) (.slice B1 (t'.pend.map to25).length d1) (.int .i64 t'.quota) (.int .i64 t'.calls) (.slice B4 t'.fails.length d4) (.int .i64 t'.crash) (.bool t'.down) (.int .i64 t'.peak)
 obtain ⟨mv, sv, pv, hr⟩ := h.rep
 refine ⟨⟨mv, sv, pv, hr.pokeB (h.box.but _ _ _ _ _ _ _ _) (Ak0 _ _ _ _ _ _ _ _) h.box (by decide) (by decide)⟩, fun k hk => ⟨(h.lo k hk).1, ?_⟩, h.nb, hx, Awt hF _ _ _ _ _ _ _ _, Awt hQ _ _ _ _ _ _ _ _, Awt hN _ _ _ _ _ _ _ _⟩
 rw [Ak0]
 exact (h.lo k hk).2
end
end
section
section
variable {w : World}
theorem Bkc (A : Option Addr) (c : Nat) (l : List S76) (hC : Kd.C k76 w A l.length l) (hc : l.length ≤ c) (q : Int) {kf : Nat} (hkf : Aqh.f kf l = some false) :
 Calls Try.prog 11 #[.slice A l.length c, .int .i64 q] w fun e w' => e = .returned (.bool true) ∧ Below w.heap.size w w' := by
 have HC := Bvh hC
 have HKF := Bvh hkf
 clear hC hkf
 go_enter Try.func11, Try.ntmps11
 go_wp2_with (first
  | (go_at_call 37; (with_reducible refine (Bze _).mono ?_); rintro e w1 ⟨rfl, hb1⟩; have HB1 := Bvh hb1; clear hb1)
  | (go_at_call 38; (with_reducible refine (Aqh.calls kf A c l false _ (Kd.C_below HC.out HB1.out) hc HKF.out).mono ?_); rintro e w2 ⟨rfl, hb2⟩; have HB2 := Bvh (Aq1 HB1.out hb2); clear hb2))
 go_ret
 exact ⟨rfl, HB2.out⟩
theorem Bkb (A : Option Addr) (c : Nat) (l : List S76) (hC : Kd.C k76 w A l.length l) (hc : l.length ≤ c) (q : Int) {kf : Nat} (hkf : Aqh.f kf l = some true) (hq : q < 0) :
 Calls Try.prog 11 #[.slice A l.length c, .int .i64 q] w fun e w' => e = .returned (.bool true) ∧ Below w.heap.size w w' := by
 have HC := Bvh hC
 have HKF := Bvh hkf
 clear hC hkf
 go_enter Try.func11, Try.ntmps11
 go_wp2_with (first
  | (go_at_call 37; (with_reducible refine (Bze _).mono ?_); rintro e w1 ⟨rfl, hb1⟩; have HB1 := Bvh hb1; clear hb1)
  | (go_at_call 38; (with_reducible refine (Aqh.calls kf A c l true _ (Kd.C_below HC.out HB1.out) hc HKF.out).mono ?_); rintro e w2 ⟨rfl, hb2⟩; have HB2 := Bvh (Aq1 HB1.out hb2); clear hb2)
  | (go_at_call 47; (with_reducible refine (new_none q hq).mono ?_); rintro e w3 ⟨rfl, hb3⟩; have HB3 := Bvh (Aq1 HB2.out hb3); clear hb3))
 go_ret
 exact ⟨rfl, HB3.out⟩
end
end
section
section
variable {B : Nat → Prop} {g b : Nat} {s t s2 : SSt} {w w0 w1 : World} {A0 : Option Addr} {c0 : Nat} {A1 : Option Addr} {c1 : Nat} {A4 : Option Addr} {c4 : Nat}
theorem Both.glo {a : Nat} (h : Both a B g b s t w A0 c0 A1 c1 A4 c4) : a ≤ g := by
 obtain ⟨_, _, _, hr⟩ := h.rep
 exact (h.lo g hr.hg).1
theorem Bjw {a : Nat} (h : Both a B g b s t w A0 c0 A1 c1 A4 c4) (ha : a ≤ w.heap.size) (hb : Below a w0 w) (hl : BelS (Bzf B w.heap.size) w w1) : Below a w0 w1 :=
 ⟨hl.os.trans hb.os, hl.tape.trans hb.tape, hl.output.trans hb.output, Nat.le_trans hb.size hl.size, fun k hk => (hl.block k (Nat.lt_of_lt_of_le hk ha) fun hB => hB.elim (fun hB => absurd hk (Nat.not_lt.2 (h.lo k hB).1)) fun hn => absurd (Nat.lt_of_lt_of_le hk ha) (Nat.not_lt.2 hn)).trans (hb.block k hk)⟩
theorem plays_do {n : Nat} {er : Int} {dt : List Int} {nm : List ByteArray} (d : S76) (A5 : Option Addr) (c5 : Nat) (A7 : Option Addr) (c7 : Nat) (ht : doS s d = (s2, er, dt, nm)) (h : Both w0.heap.size B g b s t w A0 c0 A1 c1 A4 c4) (hi : Inv n s) (hn : n ≤ 999) (hd : okD d) (hb0 : Below w0.heap.size w0 w)
 (hC5 : (Kd.int .u8).C w0 A5 d.f1.f3.length d.f1.f3) (hc5 : d.f1.f3.length ≤ c5) (hC7 : (Kd.int .i64).C w0 A7 d.f4.length d.f4) (hw7 : ∀ n ∈ d.f4, (Lit.int .i64 n).wf = true) :
 Calls Try.prog 48 #[.pointer (some ⟨g, 0, none⟩), .agg #[.int .i64 d.f0, .string d.f1.f0, .int .i64 d.f1.f1, .int .i64 d.f1.f2, .slice A5 d.f1.f3.length c5, .string d.f2, .string d.f3, .slice A7 d.f4.length c7, .int .i64 d.f5]] w fun e w' => ∃ Ay cy Az cz, e = .returned (.agg #[.int .i64 er, .slice Ay dt.length cy, .slice Az nm.length cz]) ∧
  Both w0.heap.size (NewTo B w.heap.size w'.heap.size) g b s2 t w' A0 c0 A1 c1 A4 c4 ∧ Kd.V (Kd.int .u8) 5 w' 0 (fun k => w.heap.size ≤ k) (.slice Ay dt.length cy) dt ∧ Kd.V Kd.string 9 w' 0 (fun k => w.heap.size ≤ k) (.slice Az nm.length cz) nm ∧ Below w0.heap.size w0 w' ∧ w.heap.size ≤ w'.heap.size := by
 refine (do_at d A5 c5 A7 c7 h.open hi hn (up_new B _) hd (fun k hk => hb0.block k hk) h.glo hC5 hc5 hC7 hw7).mono ?_
 rintro e w' ⟨y, z, rfl, hy, hz, hr, hl⟩
 rw [ht] at hy hz hr ⊢
 obtain ⟨Ay, cy, rfl⟩ := Kd.R_slice hy
 obtain ⟨Az, cz, rfl⟩ := Kd.R_slice hz
 exact ⟨Ay, cy, Az, cz, rfl, h.real hb0.size hr hl, V_P (b := 0) (Kd.R_V (base' := 0) (Kd.R_mono (Kd.R_bound hy) (fun k hk => hk.2.1))) (fun k hk => hk), V_P (b := 0) (Kd.R_V (base' := 0) (Kd.R_mono (Kd.R_bound hz) (fun k hk => hk.2.1))) (fun k hk => hk), Bjw h hb0.size hb0 hl, hl.size⟩
end
end
section
section
variable {w w1 : World}
theorem deedV {B : Nat → Prop} {g b : Nat} {s t : SSt} {w0 : World} {A0 : Option Addr} {c0 : Nat} {A1 : Option Addr} {c1 : Nat} {A4 : Option Addr} {c4 e : Nat} {kd : IntKind} {A : Option Addr} {c : Nat} {xs : List Int} (h : Both w0.heap.size B g b s t w A0 c0 A1 c1 A4 c4) (hb0 : Below w0.heap.size w0 w) (hb : w0.heap.size ≤ b) (hC : (Kd.int kd).C w0 A xs.length xs) (hc : xs.length ≤ c) : Kd.V (Kd.int kd) e w 0 (fun k => ¬ B k ∧ k ≠ b) (.slice A xs.length c) xs :=
 Kd.V_mk hc (Kd.F_mono (Kd.F_step (Kd.C_F (Kd.heap_int kd) hC) fun k hk _ => hb0.block k hk) fun k hk => ⟨fun hB => absurd hk (Nat.not_lt.2 (h.lo k hB).1), fun he => absurd hk (Nat.not_lt.2 (he ▸ hb))⟩)
theorem Bq9 {b : Nat} (y0 y1 y2 : Value) {k : Nat} (hk : k ≠ b) : (((w.setCell ⟨b, 0, none⟩ y0).setCell ⟨b, 1, none⟩ y1).setCell ⟨b, 2, none⟩ y2).heap[k]? = w.heap[k]? := by
 rw [Below.heap_setCell _ ⟨b, 2, none⟩ _ k hk, Below.heap_setCell _ ⟨b, 1, none⟩ _ k hk, Below.heap_setCell _ ⟨b, 0, none⟩ _ k hk]
theorem Awd {b : Nat} (y0 y1 y2 : Value) : (((w.setCell ⟨b, 0, none⟩ y0).setCell ⟨b, 1, none⟩ y1).setCell ⟨b, 2, none⟩ y2).heap.size = w.heap.size := by simp [World.setCell]
theorem Bj5 {n b : Nat} {w0 : World} (h : Below n w0 w) (hb : n ≤ b) (y0 y1 y2 : Value) : Below n w0 (((w.setCell ⟨b, 0, none⟩ y0).setCell ⟨b, 1, none⟩ y1).setCell ⟨b, 2, none⟩ y2) := Aqg (Aqg (Aqg h hb 0 y0) hb 1 y1) hb 2 y2
def FP (B : Nat → Prop) (b n m p : Nat) : Nat → Prop := fun k => (((¬ B k ∧ k ≠ b) ∧ k < n) ∨ m ≤ k) ∧ k < p
def Told5 (B : Nat → Prop) (b n m p : Nat) (w : World) (T : SSt) (Q : List S25) (er : Int) (dt : List Int) (nm : List ByteArray) (U0 : Option Addr) (z0 : Nat) (U1 : Option Addr) (z1 : Nat) (U4 : Option Addr) (z4 : Nat) (U5 : Option Addr) (z5 : Nat) (U6 : Option Addr) (z6 : Nat) : Prop :=
 n ≤ m ∧ p ≤ w.heap.size ∧ Kd.V k38 38 w 0 (FP B b n m p) (.slice U0 T.safe.length z0) T.safe ∧ Kd.V k25 25 w 0 (FP B b n m p) (.slice U1 Q.length z1) Q ∧ Kd.V (Kd.int .i64) 3 w 0 (FP B b n m p) (.slice U4 T.fails.length z4) T.fails ∧ Kd.V (Kd.int .u8) 5 w 0 (FP B b n m p) (.slice U5 dt.length z5) dt ∧ Kd.V Kd.string 9 w 0 (FP B b n m p) (.slice U6 nm.length z6) nm
section
variable {B : Nat → Prop} {g b a n m p : Nat} {s t T : SSt} {P Q : List S25} {er : Int} {dt : List Int} {nm : List ByteArray} {U0 : Option Addr} {z0 : Nat} {U1 : Option Addr} {z1 : Nat} {U4 : Option Addr} {z4 : Nat} {U5 : Option Addr} {z5 : Nat} {U6 : Option Addr} {z6 : Nat} {A0 : Option Addr} {c0 : Nat} {A1 : Option Addr} {c1 : Nat} {A4 : Option Addr} {c4 : Nat}
theorem Told5.below (h : Told5 B b n m p w T Q er dt nm U0 z0 U1 z1 U4 z4 U5 z5 U6 z6) (hb : Below w.heap.size w w1) : Told5 B b n m p w1 T Q er dt nm U0 z0 U1 z1 U4 z4 U5 z5 U6 z6 := by
 obtain ⟨h1, h2, v0, v1, v4, v5, v6⟩ := h
 exact ⟨h1, Nat.le_trans h2 hb.size, Kd.V_below v0 hb, Kd.V_below v1 hb, Kd.V_below v4 hb, Kd.V_below v5 hb, Kd.V_below v6 hb⟩
theorem Told5.store {gb : Nat} (h : Told5 B b n m p w T Q er dt nm U0 z0 U1 z1 U4 z4 U5 z5 U6 z6) (hz : w1.heap.size = w.heap.size) (ho : ∀ k, k ≠ gb → w1.heap[k]? = w.heap[k]?) (hne : ∀ k, FP B b n m p k → k ≠ gb) : Told5 B b n m p w1 T Q er dt nm U0 z0 U1 z1 U4 z4 U5 z5 U6 z6 := by
 obtain ⟨h1, h2, v0, v1, v4, v5, v6⟩ := h
 have hs : ∀ k, FP B b n m p k → k < w.heap.size → w1.heap[k]? = w.heap[k]? := fun k hk _ => ho k (hne k hk)
 exact ⟨h1, by rw [hz]; exact h2, Kd.V_step v0 hs, Kd.V_step v1 hs, Kd.V_step v4 hs, Kd.V_step v5 hs, Kd.V_step v6 hs⟩
theorem Bk5 {gb : Nat} (h1 : n ≤ gb) (h2 : gb < m ∨ p ≤ gb) : ∀ k, FP B b n m p k → k ≠ gb := by
 rintro k ⟨h3, h4⟩ rfl
 rcases h3 with h3 | h3
 · omega
 · omega
theorem Bj6 {n0 : Nat} {s2 : SSt} (hP : t.pend.map to25 = P) (hQ : s2.pend.map to25 = Q) (d : S76) (A5 : Option Addr) (c5 : Nat) (A7 : Option Addr) (c7 : Nat) (ht : doS t d = (s2, er, dt, nm)) (h : Both a B g b s t w A0 c0 A1 c1 A4 c4) (hw : Below w.heap.size w w1) (hi : Inv n0 t) (hn : n0 ≤ 900) (hi2 : Inv2 t) (hd : okD d)
 (hD : Kd.V (Kd.int .u8) 5 w 0 (fun k => ¬ B k ∧ k ≠ b) (.slice A5 d.f1.f3.length c5) d.f1.f3) (hM : Kd.V (Kd.int .i64) 3 w 0 (fun k => ¬ B k ∧ k ≠ b) (.slice A7 d.f4.length c7) d.f4) :
 Calls Try.prog 49 #[.agg #[.slice A0 t.safe.length c0, .slice A1 P.length c1, .int .i64 t.quota, .int .i64 t.calls, .slice A4 t.fails.length c4, .int .i64 t.crash, .bool t.down, .int .i64 t.peak], .agg #[.int .i64 d.f0, .string d.f1.f0, .int .i64 d.f1.f1, .int .i64 d.f1.f2, .slice A5 d.f1.f3.length c5, .string d.f2, .string d.f3, .slice A7 d.f4.length c7, .int .i64 d.f5]] w1 fun e w' =>
  ∃ U0 z0 U1 z1 U4 z4 U5 z5 U6 z6, e = .returned (.tuple #[.agg #[.slice U0 s2.safe.length z0, .slice U1 Q.length z1, .int .i64 s2.quota, .int .i64 s2.calls, .slice U4 s2.fails.length z4, .int .i64 s2.crash, .bool s2.down, .int .i64 s2.peak], .agg #[.int .i64 er, .slice U5 dt.length z5, .slice U6 nm.length z6]]) ∧
   Told5 B b w.heap.size w1.heap.size w'.heap.size w' s2 Q er dt nm U0 z0 U1 z1 U4 z4 U5 z5 U6 z6 ∧ Below w1.heap.size w1 w' := by
 subst hP hQ
 have hl := hi.len
 have hfit := hi.fit (by omega)
 refine (xdoS t d A0 c0 A1 c1 A4 c4 A5 c5 A7 c7 (fun k => (¬ B k ∧ k ≠ b) ∧ k < w.heap.size) (fun k hk => Nat.lt_of_lt_of_le hk.2 hw.size) (Kd.V_below (Kd.V_bound h.hF) hw) (Kd.V_below (Kd.V_bound h.hQ) hw) (Kd.V_below (Kd.V_bound h.hN) hw) (Kd.V_below (Kd.V_bound hD) hw) (Kd.V_below (Kd.V_bound hM) hw) hfit hi2.pend (by omega) (by have := hd.w; omega) hi2.fails hd.k1 hd.k8).mono ?_
 rw [ht]
 rintro e w' ⟨B0, d0, B1, d1, B4, d4, Ay, cy, Az, cz, rfl, v0, v1, v4, vy, vz, hb⟩
 exact ⟨B0, d0, B1, d1, B4, d4, Ay, cy, Az, cz, rfl, ⟨hw.size, Nat.le_refl _, V_P (b := 0) (Kd.V_bound v0) (fun k hk => hk), V_P (b := 0) (Kd.V_bound v1) (fun k hk => hk), V_P (b := 0) (Kd.V_bound v4) (fun k hk => hk), V_P (b := 0) (Kd.V_bound vy) (fun k hk => hk), V_P (b := 0) (Kd.V_bound vz) (fun k hk => hk)⟩, hb⟩
theorem Both.updT {wb : World} (h : Both a B g b s t wb A0 c0 A1 c1 A4 c4) (hb : Below wb.heap.size wb w) (hQ : T.pend.map to25 = Q) (h5 : Told5 B b wb.heap.size m p w T Q er dt nm U0 z0 U1 z1 U4 z4 U5 z5 U6 z6) :
 Both a B g b s T ((((((((w.setCell ⟨b, 0, none⟩ (.slice U0 T.safe.length z0)).setCell ⟨b, 1, none⟩ (.slice U1 Q.length z1)).setCell ⟨b, 2, none⟩ (.int .i64 T.quota)).setCell ⟨b, 3, none⟩ (.int .i64 T.calls)).setCell ⟨b, 4, none⟩ (.slice U4 T.fails.length z4)).setCell ⟨b, 5, none⟩ (.int .i64 T.crash)).setCell ⟨b, 6, none⟩ (.bool T.down)).setCell ⟨b, 7, none⟩ (.int .i64 T.peak)) U0 z0 U1 z1 U4 z4 ∧ Kd.V (Kd.int .u8) 5 ((((((((w.setCell ⟨b, 0, none⟩ (.slice U0 T.safe.length z0)).setCell ⟨b, 1, none⟩ (.slice U1 Q.length z1)).setCell ⟨b, 2, none⟩ (.int .i64 T.quota)).setCell ⟨b, 3, none⟩ (.int .i64 T.calls)).setCell ⟨b, 4, none⟩ (.slice U4 T.fails.length z4)).setCell ⟨b, 5, none⟩ (.int .i64 T.crash)).setCell ⟨b, 6, none⟩ (.bool T.down)).setCell ⟨b, 7, none⟩ (.int .i64 T.peak)) 0 (fun k => ¬ B k ∧ k ≠ b) (.slice U5 dt.length z5) dt ∧ Kd.V Kd.string 9 ((((((((w.setCell ⟨b, 0, none⟩ (.slice U0 T.safe.length z0)).setCell ⟨b, 1, none⟩ (.slice U1 Q.length z1)).setCell ⟨b, 2, none⟩ (.int .i64 T.quota)).setCell ⟨b, 3, none⟩ (.int .i64 T.calls)).setCell ⟨b, 4, none⟩ (.slice U4 T.fails.length z4)).setCell ⟨b, 5, none⟩ (.int .i64 T.crash)).setCell ⟨b, 6, none⟩ (.bool T.down)).setCell ⟨b, 7, none⟩ (.int .i64 T.peak)) 0 (fun k => ¬ B k ∧ k ≠ b) (.slice U6 nm.length z6) nm := by
 subst hQ
 obtain ⟨h1, h2, v0, v1, v4, v5, v6⟩ := h5
 have hbw := Ax7 h.box
 have hP : ∀ k, FP B b wb.heap.size m p k → ¬ B k ∧ k ≠ b := by
  rintro k ⟨h3 | h3, h4⟩
  · exact h3.1
  · exact ⟨fun hB => absurd (h.lo k hB).2 (by omega), by omega⟩
 exact ⟨(h.below hb).upd (V_P (b := 0) v0 hP) (V_P (b := 0) v1 hP) (V_P (b := 0) v4 hP), Awt (V_P (b := 0) v5 hP) _ _ _ _ _ _ _ _, Awt (V_P (b := 0) v6 hP) _ _ _ _ _ _ _ _⟩
theorem Bkw {G : List S38} (hQ : T.pend.map to25 = Q) (hG : Aq8 T = G) : Azd T.safe Q = G := by
 subst hQ hG
 unfold Azd Aq8
 rw [Aw5]
theorem Bkv {s : SSt} (h : Fit s) : (Aq8 s).length ≤ 1000000 := by
 have := (Axt h).2
 omega
theorem told_few {n : Nat} {s s2 : SSt} {d : S76} (h : doS s d = (s2, er, dt, nm)) (hi : Inv n s) (hn : n ≤ 999) : nm.length ≤ 1000000 := by
 have hf := (Axt (hi.fit (by omega))).2
 have he : nm = (doS s d).2.2.2 := by rw [h]
 subst he
 clear h
 unfold doS
 split
 · exact Nat.zero_le _
 split
 · exact Nat.zero_le _
 split
 · exact Nat.zero_le _
 split
 · exact Nat.zero_le _
 split
 · exact Nat.zero_le _
 split
 · show (Ajp s).2.2.length ≤ 1000000
   unfold Ajp
   split
   · exact Nat.zero_le _
   · rw [List.length_map]
     omega
 split <;> exact Nat.zero_le _
theorem pend_few {s : SSt} (hQ : s.pend.map to25 = Q) (h : Inv2 s) : ∀ x ∈ Q, x.f3.length ≤ 1000 := by
 subst hQ
 intro x hx
 obtain ⟨y, hy, rfl⟩ := List.mem_map.1 hx
 exact h.pend y hy
theorem len_few {s : SSt} (hQ : s.pend.map to25 = Q) (h : Inv 20 s) : s.safe.length + Q.length ≤ 1000 := by
 subst hQ
 have := h.len
 rw [List.length_map]
 omega
theorem safe_few {s : SSt} (h : Inv 20 s) : s.safe.length ≤ 1000000 := by
 have := h.len
 omega
theorem Both.hQP (h : Both a B g b s t w A0 c0 A1 c1 A4 c4) (hP : t.pend.map to25 = P) : Kd.V k25 25 w 0 (fun k => ¬ B k ∧ k ≠ b) (.slice A1 P.length c1) P := by
 subst hP
 exact h.hQ
theorem pend_is {w : World} (hQ : T.pend.map to25 = Q) (h : Rep B g T w) : Calls Try.prog 46 #[.pointer (some ⟨g, 0, none⟩)] w fun e w' => e = .returned (.int .i64 (Q.length : Int)) ∧ Below w.heap.size w w' := by
 subst hQ
 rw [List.length_map]
 exact Bqn h
theorem Both.boxP (h : Both a B g b s t w A0 c0 A1 c1 A4 c4) (hP : t.pend.map to25 = P) : VarX w b (.slice A0 t.safe.length c0) (.slice A1 P.length c1) (.int .i64 t.quota) (.int .i64 t.calls) (.slice A4 t.fails.length c4) (.int .i64 t.crash) (.bool t.down) (.int .i64 t.peak) := by
 subst hP
 exact h.box
end
end
def Ajd.T12 : Bool × List (List Nat × List Nat) := (true, [([], []), ([], []), ([], []), ([1, 2], [1, 2]), ([3], [3]), ([0, 4], [0, 4]), ([5], [5]), ([6], [6]), ([6], [6]), ([], []), ([], []), ([9, 7, 5, 0, 1, 2, 3, 4, 5, 6, 7, 9, 10], [7, 9]), ([10, 8, 11, 0, 1, 2, 3, 4, 5, 6, 7, 8, 9, 10, 11], [8, 10])])
def Ajd.B12 : List Nat := [0, 0, 0, 6, 14, 31, 63, 127, 127, 0, 0, 1791, 4095]
theorem Ajd.tab12 : rtab .any (opsOf Try.f11 12) = Ajd.T12 := by kernel_rfl
theorem Ajd.bits12 : Ake Ajd.T12.2 Ajd.B12 = true := by kernel_rfl
section
variable {w : World}
theorem Ajd (A : Option Addr) (c : Nat) (l : List S76) (hC : Kd.C k76 w A l.length l) (hc : l.length ≤ c) (hw : ∀ d ∈ l, ∀ n ∈ d.f4, (Lit.int .i64 n).wf = true) (q : Int) {kf : Nat} (hkf : Aqh.f kf l = some true) (hl : l.length ≤ 20) (hd : ∀ d ∈ l, okD d) (hq : 0 ≤ q) :
 Calls Try.prog 11 #[.slice A l.length c, .int .i64 q] w fun e w' => e = .returned (.bool true) ∧ Below w.heap.size w w' := by
 have HC := Bvh hC
 have HKF := Bvh hkf
 have HWF := Bvh hw
 have HD := Bvh hd
 clear hC hkf hw hd
 go_enter Try.func11, Try.ntmps11
 go_wp2_with (first
  | (go_at_call 37; (with_reducible refine (Bze _).mono ?_); rintro e w1 ⟨rfl, hb1⟩; have HB1 := Bvh hb1; clear hb1)
  | (go_at_call 38; (with_reducible refine (Aqh.calls kf A c l true _ (Kd.C_below HC.out HB1.out) hc HKF.out).mono ?_); rintro e w2 ⟨rfl, hb2⟩; have HB2 := Bvh (Aq1 HB1.out hb2); clear hb2)
  | (go_at_call 47; (with_reducible refine (Bx6 q hq).mono ?_); rintro e w3 ⟨rfl, hr3, hb3⟩; have HB3 := Bvh (Aq1 HB2.out hb3); have HS3 := Bvh hb3.size; have HR3 := Bvh hr3; clear hb3 hr3))
 obtain ⟨b7, hb7⟩ : ∃ b7, w3.heap.size = b7 := ⟨_, rfl⟩
 have HBO := Bvh (show Both w.heap.size (fun k => k = w2.heap.size) w2.heap.size b7 (newD q) (newD q) (w3.alloc (.cells #[.slice none 0 0, .slice none 0 0, .int .i64 q, .int .i64 0, .slice none 0 0, .int .i64 0, .bool false, .int .i64 0] 71)) none 0 none 0 none 0 from
  ⟨(HR3.out (fun k => k = w2.heap.size) rfl).below (Aq4 (Below.refl _ _) _), fun k hk => ⟨by rw [show k = w2.heap.size from hk]; exact HB2.out.size, by rw [show k = w2.heap.size from hk, World.size_alloc]; exact Nat.lt_succ_of_lt (HR3.out (fun k => k = w2.heap.size) rfl).lt⟩, fun he => by have := (HR3.out (fun k => k = w2.heap.size) rfl).lt; have he : b7 = w2.heap.size := he; omega,
   by rw [← hb7]; exact heap_alloc_new _ _, Kd.V_nil _ _ _ _ _, Kd.V_nil _ _ _ _ _, Kd.V_nil _ _ _ _ _⟩)
 have HB4 := Bvh (show Below w.heap.size w (w3.alloc (.cells #[.slice none 0 0, .slice none 0 0, .int .i64 q, .int .i64 0, .slice none 0 0, .int .i64 0, .bool false, .int .i64 0] 71)) from Aq4 HB3.out _)
 have HB7 := Bvh (show w.heap.size ≤ b7 by rw [← hb7]; exact HB3.out.size)
 simp only [hb7]
 generalize w3.alloc (.cells #[.slice none 0 0, .slice none 0 0, .int .i64 q, .int .i64 0, .slice none 0 0, .int .i64 0, .bool false, .int .i64 0] 71) = W4 at HBO HB4 ⊢
 generalize w2.heap.size = g at HBO ⊢
 clear HR3 HS3 HB3 hb7
 go_loopg [8] l.length (fun kq v8 w' => ∃ i : Nat, v8 = .int .i64 i ∧ i + kq = l.length ∧ ∃ (B : Nat → Prop) (A0 : Option Addr) (c0 : Nat) (A1 : Option Addr) (c1 : Nat) (A4 : Option Addr) (c4 : Nat), Aside0 (Both w.heap.size B g b7 (runS (newD q) (l.take i)) (runS (newD q) (l.take i)) w' A0 c0 A1 c1 A4 c4) ∧ Aside0 (Below w.heap.size w w'))
 case atStart => exact ⟨0, rfl, by omega, _, _, _, _, _, _, _, HBO, HB4⟩
 case round =>
  obtain ⟨i, rfl, hi, B, A0, c0, A1, c1, A4, c4, HBO1, HB⟩ := hrel
  clear HBO HB4
  by_cases hlt : i < l.length
  · obtain ⟨k1, rfl⟩ : ∃ k1, gk = k1 + 1 := ⟨gk - 1, by omega⟩
    obtain ⟨ad, A5, c5, A7, c7, e1, hx0, hx1, hx2, hx3, hx4, hx5, hx6, hx7, hx8, hc5, hC5, hc7, hC7⟩ := Avh HC.out (i : Int) (by omega) (by omega)
    cases e1
    rw [Int.toNat_natCast] at hx0 hx1 hx2 hx3 hx4 hx5 hx6 hx7 hx8
    obtain ⟨x, hxe⟩ : ∃ x, Ax6 l (i : Int) = x := ⟨_, rfl⟩
    rw [hxe] at hx0 hx1 hx2 hx3 hx4 hx5 hx6 hx7 hx8 hc5 hC5 hc7 hC7
    have HDC := Bvh (show (∀ w1, Below w.heap.size w w1 → w1.cell? (ad.add (i * 9)) = some (.int .i64 x.f0) ∧ w1.cell? ⟨(ad.add (i * 9)).block, (ad.add (i * 9)).off + 1, none⟩ = some (.string x.f1.f0) ∧ w1.cell? ⟨(ad.add (i * 9)).block, (ad.add (i * 9)).off + 2, none⟩ = some (.int .i64 x.f1.f1) ∧ w1.cell? ⟨(ad.add (i * 9)).block, (ad.add (i * 9)).off + 3, none⟩ = some (.int .i64 x.f1.f2) ∧ w1.cell? ⟨(ad.add (i * 9)).block, (ad.add (i * 9)).off + 4, none⟩ = some (.slice A5 x.f1.f3.length c5) ∧ w1.cell? ⟨(ad.add (i * 9)).block, (ad.add (i * 9)).off + 5, none⟩ = some (.string x.f2) ∧ w1.cell? ⟨(ad.add (i * 9)).block, (ad.add (i * 9)).off + 6, none⟩ = some (.string x.f3) ∧ w1.cell? ⟨(ad.add (i * 9)).block, (ad.add (i * 9)).off + 7, none⟩ = some (.slice A7 x.f4.length c7) ∧ w1.cell? ⟨(ad.add (i * 9)).block, (ad.add (i * 9)).off + 8, none⟩ = some (.int .i64 x.f5)) from
     fun w1 hb => ⟨Aqd hb hx0, Aqd hb hx1, Aqd hb hx2, Aqd hb hx3, Aqd hb hx4, Aqd hb hx5, Aqd hb hx6, Aqd hb hx7, Aqd hb hx8⟩)
    clear hx0 hx1 hx2 hx3 hx4 hx5 hx6 hx7 hx8
    have hxm : x ∈ l ∧ runS (newD q) (l.take (i + 1)) = (doS (runS (newD q) (l.take i)) x).1 := by
     rw [Bk9 l i hlt] at hxe
     exact ⟨hxe ▸ List.getElem_mem hlt, by rw [Aw7 _ _ _ hlt, hxe]⟩
    have HI := Bvh (((Inv.new q).run HD.out i).more (m := 20) (by omega))
    have HI2 := Bvh ((Inv2.new q).run HD.out i)
    have HJ := Bvh (((Inv.new q).run HD.out (i + 1)).more (m := 20) (by omega))
    have HJ2 := Bvh ((Inv2.new q).run HD.out (i + 1))
    have HXM := Bvh hxm
    obtain ⟨S, hS⟩ : ∃ S, runS (newD q) (l.take i) = S := ⟨_, rfl⟩
    obtain ⟨T, hT⟩ : ∃ T, runS (newD q) (l.take (i + 1)) = T := ⟨_, rfl⟩
    obtain ⟨⟨T2, er, dt, nm⟩, hdo⟩ : ∃ r, doS S x = r := ⟨_, rfl⟩
    have HT := Bvh hT
    rw [hS] at HBO1 HI HI2 HXM
    rw [hT] at HJ HJ2 HXM
    rw [hdo] at HXM
    obtain rfl : T = T2 := HXM.out.2
    have HDO := Bvh hdo
    have HX5 := Bvh hC5
    have HX7 := Bvh hC7
    clear hxe hxm hC5 hC7 hS hT hdo
    obtain ⟨x0, x1, x2, x3, x4, x5, x6, x7, x8⟩ := HDC.out _ HB.out
    go_upto_region 12 with (go_at_call 48; (with_reducible refine (plays_do (w0 := w) x A5 c5 A7 c7 HDO.out HBO1.out HI.out (by omega) (HD.out _ HXM.out.1) HB.out HX5.out hc5 HX7.out (HWF.out _ HXM.out.1)).mono ?_); rintro e wa ⟨Ay, cy, Az, cz, rfl, hbo, hvy, hvz, hba, hsz⟩; have HBO2 := Bvh hbo; have HVY := Bvh hvy; have HVZ := Bvh hvz; have HBA := Bvh hba; have HSZ := Bvh hsz; clear hbo hvy hvz hba hsz x0 x1 x2 x3 x4 x5 x6 x7 x8)
    have HBO3 := Bvh (HBO2.out.below (Aq4 (Below.refl _ _) (.cells #[.int .i64 er, .slice Ay dt.length cy, .slice Az nm.length cz] 73)))
    have HT9 := Bvh (show VarT (wa.alloc (.cells #[.int .i64 er, .slice Ay dt.length cy, .slice Az nm.length cz] 73)) wa.heap.size (.int .i64 er) (.slice Ay dt.length cy) (.slice Az nm.length cz) from heap_alloc_new _ _)
    have HB3 := Bvh (show Below w.heap.size w (wa.alloc (.cells #[.int .i64 er, .slice Ay dt.length cy, .slice Az nm.length cz] 73)) from Aq4 HBA.out _)
    have HVY3 := Bvh (Kd.V_below HVY.out (Aq4 (Below.refl _ _) (.cells #[.int .i64 er, .slice Ay dt.length cy, .slice Az nm.length cz] 73)))
    have HVZ3 := Bvh (Kd.V_below HVZ.out (Aq4 (Below.refl _ _) (.cells #[.int .i64 er, .slice Ay dt.length cy, .slice Az nm.length cz] 73)))
    have HN9 := Bvh (show b7 < wa.heap.size from Ax7 HBO2.out.box)
    have HN8 := Bvh (Ax7 HBO1.out.box)
    generalize NewTo B wr.heap.size wa.heap.size = B2 at HBO3
    generalize wa.alloc (.cells #[.int .i64 er, .slice Ay dt.length cy, .slice Az nm.length cz] 73) = wb at HBO3 HT9 HB3 HVY3 HVZ3 ⊢
    clear HBO2 HVY HVZ HBA HSZ HBO1 HB
    obtain ⟨P, hP⟩ : ∃ P, S.pend.map to25 = P := ⟨_, rfl⟩
    obtain ⟨Q, hQ⟩ : ∃ Q, T.pend.map to25 = Q := ⟨_, rfl⟩
    have HP := Bvh hP
    have HQ := Bvh hQ
    clear hP hQ
    refine Ak8 (n := 13) (S := fun w' => True) (ds := []) #[false, false, false, false, false, false, false, false, false, false, false, false, false] (by kernel_rfl) rfl rfl trivial (fun hHeld => ?_)
    refine Bk4 Ajd.tab12 Ajd.bits12 (fun HT_ HW_ => ?_)
    have F0 : Below wb.heap.size wb wb.drew := Aq5 (Below.refl _ _)
    have FE := trivial
    have FG := trivial
    refine Axh (i := 1) (N := some 42) (v := ?_) (a' := ?_) #[false, true, false, false, false, false, false, false, false, false, false, false, false] rfl rfl (Bva HT_.out (by kernel_rfl)) (fun _ _ _ h => h) (Or.inl ⟨by rfl, ?_⟩) ?_ ?_
    rotate_left
    · intro w'
      go_simp
      with_reducible rfl
    rotate_left
    · simp only [Act.put, Bvi, Bvj, Bvk, Aqv, Aqw]
      rfl
    refine Axh (i := 2) (N := some 43) (v := ?_) (a' := ?_) #[false, true, true, false, false, false, false, false, false, false, false, false, false] rfl rfl (Bva HT_.out (by kernel_rfl)) (fun _ _ _ h => h) (Or.inl ⟨by rfl, ?_⟩) ?_ ?_
    rotate_left
    · intro w'
      go_simp
      with_reducible rfl
    rotate_left
    · simp only [Act.put, Bvi, Bvj, Bvk, Aqv, Aqw]
      rfl
    refine Axh (i := 3) (N := some 44) (v := ?_) (a' := ?_) #[false, true, true, true, false, false, false, false, false, false, false, false, false] rfl rfl (Bva HT_.out (by kernel_rfl)) (fun _ _ _ h => h) (Or.inl ⟨by rfl, ?_⟩) ?_ ?_
    rotate_left
    · intro w'
      go_simp
      with_reducible rfl
    rotate_left
    · simp only [Act.put, Bvi, Bvj, Bvk, Aqv, Aqw]
      rfl
    refine inv_at [0, 4, 5, 6, 7, 8, 9, 10, 11, 12] (fun a0_ b a w' => ∃ (gb9 : Nat) (gb10 : Nat) (m5 : Nat) (p5 : Nat) (U0 : Option Addr) (U1 : Option Addr) (U4 : Option Addr) (U5 : Option Addr) (U6 : Option Addr) (z0 : Nat) (z1 : Nat) (z4 : Nat) (z5 : Nat) (z6 : Nat) (m5_ : Value) (m6_ : Value) (m7_ : Value) (m8_ : Value) (m9_ : Value) (m10_ : Value), a = Azt a0_ b [(0, 41, .agg #[.slice A0 S.safe.length c0, .slice A1 P.length c1, .int .i64 S.quota, .int .i64 S.calls, .slice A4 S.fails.length c4, .int .i64 S.crash, .bool S.down, .int .i64 S.peak]), (4, 45, .agg #[.int .i64 x.f0, .string x.f1.f0, .int .i64 x.f1.f1, .int .i64 x.f1.f2, .slice A5 x.f1.f3.length c5, .string x.f2, .string x.f3, .slice A7 x.f4.length c7, .int .i64 x.f5]), (5, 46, m5_), (6, 40, m6_), (7, 47, m7_), (8, 48, m8_), (9, 10, m9_), (10, 11, m10_)] ∧ (Below wb.heap.size wb w') ∧ (b 9 = true → wb.heap.size ≤ gb9 ∧ gb9 < w'.heap.size) ∧ (b 9 = true → b 11 = false → VarX w' gb9 (.slice none 0 0) (.slice none 0 0) (.int .i64 0) (.int .i64 0) (.slice none 0 0) (.int .i64 0) (.bool false) (.int .i64 0)) ∧ (b 11 = true → VarX w' gb9 (.slice U0 T.safe.length z0) (.slice U1 Q.length z1) (.int .i64 T.quota) (.int .i64 T.calls) (.slice U4 T.fails.length z4) (.int .i64 T.crash) (.bool T.down) (.int .i64 T.peak)) ∧ (b 10 = true → wb.heap.size ≤ gb10 ∧ gb10 < w'.heap.size) ∧ (b 10 = true → b 12 = false → VarT w' gb10 (.int .i64 0) (.slice none 0 0) (.slice none 0 0)) ∧ (b 12 = true → VarT w' gb10 (.int .i64 er) (.slice U5 dt.length z5) (.slice U6 nm.length z6)) ∧ (b 5 = true → Told5 B2 b7 wb.heap.size m5 p5 w' T Q er dt nm U0 z0 U1 z1 U4 z4 U5 z5 U6 z6) ∧ ((b 5 = true → b 9 = true → gb9 < m5 ∨ p5 ≤ gb9)) ∧ ((b 5 = true → b 10 = true → gb10 < m5 ∨ p5 ≤ gb10)) ∧ (b 5 = true → (m5_ : Value) = .tuple #[.agg #[.slice U0 T.safe.length z0, .slice U1 Q.length z1, .int .i64 T.quota, .int .i64 T.calls, .slice U4 T.fails.length z4, .int .i64 T.crash, .bool T.down, .int .i64 T.peak], .agg #[.int .i64 er, .slice U5 dt.length z5, .slice U6 nm.length z6]]) ∧ (b 6 = true → (m6_ : Value) = .tuple #[.agg #[.slice U0 T.safe.length z0, .slice U1 Q.length z1, .int .i64 T.quota, .int .i64 T.calls, .slice U4 T.fails.length z4, .int .i64 T.crash, .bool T.down, .int .i64 T.peak], .agg #[.int .i64 er, .slice U5 dt.length z5, .slice U6 nm.length z6]]) ∧ (b 7 = true → (m7_ : Value) = .agg #[.slice U0 T.safe.length z0, .slice U1 Q.length z1, .int .i64 T.quota, .int .i64 T.calls, .slice U4 T.fails.length z4, .int .i64 T.crash, .bool T.down, .int .i64 T.peak]) ∧ (b 8 = true → (m8_ : Value) = .agg #[.int .i64 er, .slice U5 dt.length z5, .slice U6 nm.length z6]) ∧ (b 9 = true → (m9_ : Value) = .pointer (some ⟨gb9, 0, none⟩)) ∧ (b 10 = true → (m10_ : Value) = .pointer (some ⟨gb10, 0, none⟩))) HT_.out HW_.out (by kernel_rfl) (by kernel_rfl) ?_ ?_ ?_
    · exact ⟨0, 0, 0, 0, none, none, none, none, none, 0, 0, 0, 0, 0, .bool false, .bool false, .bool false, .bool false, .bool false, .bool false, by simp only [Azt, Bool.false_eq_true, if_false], F0, fun h_ => absurd h_ (by decide), fun h_ => absurd h_ (by decide), fun h_ => absurd h_ (by decide), fun h_ => absurd h_ (by decide), fun h_ => absurd h_ (by decide), fun h_ => absurd h_ (by decide), fun h_ => absurd h_ (by decide), fun h_ _ => absurd h_ (by decide), fun h_ _ => absurd h_ (by decide), fun h_ => absurd h_ (by decide), fun h_ => absurd h_ (by decide), fun h_ => absurd h_ (by decide), fun h_ => absurd h_ (by decide), fun h_ => absurd h_ (by decide), fun h_ => absurd h_ (by decide)⟩
    · skip
      clear F0 FE FG
      refine Azq ?_ ?_
      · rintro b a w' ⟨gb9, gb10, m5, p5, U0, U1, U4, U5, U6, z0, z1, z4, z5, z6, m5_, m6_, m7_, m8_, m9_, m10_, ha, Q_F0, Q_F9, Q_FZ, Q_FX, Q_F10, Q_FY, Q_FT, Q_F5, Q_FE, Q_FG, Q_X5_, Q_X6_, Q_X7_, Q_X8_, Q_X9_, Q_X10_⟩ hb_ hon hoff
        refine ⟨_, rfl, fun K hK => ?_⟩
        have e7 : a.tmps[7]? = some (.pointer (some ⟨b7, 0, none⟩)) := by rw [ha]; exact (Ajz rfl).trans rfl
        replace ha := Bvh ha
        have F0 := Bvh Q_F0
        have FE := Bvh Q_FE
        have FG := Bvh Q_FG
        obtain ⟨y0, y1, y2, y3, y4, y5, y6, y7⟩ := ((HBO3.out.below F0.out).boxP HP.out).cell
        refine Avq (w1 := w') (v := .agg #[.slice A0 S.safe.length c0, .slice A1 P.length c1, .int .i64 S.quota, .int .i64 S.calls, .slice A4 S.fails.length c4, .int .i64 S.crash, .bool S.down, .int .i64 S.peak]) (by rfl) rfl ?_ ?_
        · go_simp
          (try simp only [Aqv])
          try rfl
        refine hK.out _ _ ⟨gb9, gb10, m5, p5, U0, U1, U4, U5, U6, z0, z1, z4, z5, z6, m5_, m6_, m7_, m8_, m9_, m10_, (by rw [ha.out]; exact Aj5 0 hb_ rfl rfl rfl), Q_F0, Q_F9, Q_FZ, fun h0_ => absurd ((hoff 11 (by kernel_rfl)).symm.trans h0_) (by decide), Q_F10, Q_FY, fun h0_ => absurd ((hoff 12 (by kernel_rfl)).symm.trans h0_) (by decide), fun h0_ => absurd ((hoff 5 (by kernel_rfl)).symm.trans h0_) (by decide), Q_FE, Q_FG, fun h0_ => absurd ((hoff 5 (by kernel_rfl)).symm.trans h0_) (by decide), fun h0_ => absurd ((hoff 6 (by kernel_rfl)).symm.trans h0_) (by decide), fun h0_ => absurd ((hoff 7 (by kernel_rfl)).symm.trans h0_) (by decide), fun h0_ => absurd ((hoff 8 (by kernel_rfl)).symm.trans h0_) (by decide), Q_X9_, Q_X10_⟩
      refine Azq ?_ ?_
      · rintro b a w' ⟨gb9, gb10, m5, p5, U0, U1, U4, U5, U6, z0, z1, z4, z5, z6, m5_, m6_, m7_, m8_, m9_, m10_, ha, Q_F0, Q_F9, Q_FZ, Q_FX, Q_F10, Q_FY, Q_FT, Q_F5, Q_FE, Q_FG, Q_X5_, Q_X6_, Q_X7_, Q_X8_, Q_X9_, Q_X10_⟩ hb_ hon hoff
        refine ⟨_, rfl, fun K hK => ?_⟩
        have e44 : a.tmps[44]? = some (.pointer (some (ad.add (i * 9)))) := by rw [ha]; exact (Ajz rfl).trans rfl
        replace ha := Bvh ha
        have F0 := Bvh Q_F0
        have FE := Bvh Q_FE
        have FG := Bvh Q_FG
        obtain ⟨x0, x1, x2, x3, x4, x5, x6, x7, x8⟩ := HDC.out _ (Aq1 HB3.out F0.out)
        refine Avq (w1 := w') (v := .agg #[.int .i64 x.f0, .string x.f1.f0, .int .i64 x.f1.f1, .int .i64 x.f1.f2, .slice A5 x.f1.f3.length c5, .string x.f2, .string x.f3, .slice A7 x.f4.length c7, .int .i64 x.f5]) (by rfl) rfl ?_ ?_
        · go_simp
          (try simp only [Aqv])
          try rfl
        refine hK.out _ _ ⟨gb9, gb10, m5, p5, U0, U1, U4, U5, U6, z0, z1, z4, z5, z6, m5_, m6_, m7_, m8_, m9_, m10_, (by rw [ha.out]; exact Aj5 1 hb_ rfl rfl rfl), Q_F0, Q_F9, Q_FZ, fun h0_ => absurd ((hoff 11 (by kernel_rfl)).symm.trans h0_) (by decide), Q_F10, Q_FY, fun h0_ => absurd ((hoff 12 (by kernel_rfl)).symm.trans h0_) (by decide), fun h0_ => absurd ((hoff 5 (by kernel_rfl)).symm.trans h0_) (by decide), Q_FE, Q_FG, fun h0_ => absurd ((hoff 5 (by kernel_rfl)).symm.trans h0_) (by decide), fun h0_ => absurd ((hoff 6 (by kernel_rfl)).symm.trans h0_) (by decide), fun h0_ => absurd ((hoff 7 (by kernel_rfl)).symm.trans h0_) (by decide), fun h0_ => absurd ((hoff 8 (by kernel_rfl)).symm.trans h0_) (by decide), Q_X9_, Q_X10_⟩
      refine Azq ?_ ?_
      · rintro b a w' ⟨gb9, gb10, m5, p5, U0, U1, U4, U5, U6, z0, z1, z4, z5, z6, m5_, m6_, m7_, m8_, m9_, m10_, ha, Q_F0, Q_F9, Q_FZ, Q_FX, Q_F10, Q_FY, Q_FT, Q_F5, Q_FE, Q_FG, Q_X5_, Q_X6_, Q_X7_, Q_X8_, Q_X9_, Q_X10_⟩ hb_ hon hoff
        refine ⟨_, rfl, fun K hK => ?_⟩
        have e41 : a.tmps[41]? = some (.agg #[.slice A0 S.safe.length c0, .slice A1 P.length c1, .int .i64 S.quota, .int .i64 S.calls, .slice A4 S.fails.length c4, .int .i64 S.crash, .bool S.down, .int .i64 S.peak]) := by rw [ha]; exact Aj2 (e := (0, 41, .agg #[.slice A0 S.safe.length c0, .slice A1 P.length c1, .int .i64 S.quota, .int .i64 S.calls, .slice A4 S.fails.length c4, .int .i64 S.crash, .bool S.down, .int .i64 S.peak])) 0 rfl rfl (hon 0 (by kernel_rfl)) rfl
        have e45 : a.tmps[45]? = some (.agg #[.int .i64 x.f0, .string x.f1.f0, .int .i64 x.f1.f1, .int .i64 x.f1.f2, .slice A5 x.f1.f3.length c5, .string x.f2, .string x.f3, .slice A7 x.f4.length c7, .int .i64 x.f5]) := by rw [ha]; exact Aj2 (e := (4, 45, .agg #[.int .i64 x.f0, .string x.f1.f0, .int .i64 x.f1.f1, .int .i64 x.f1.f2, .slice A5 x.f1.f3.length c5, .string x.f2, .string x.f3, .slice A7 x.f4.length c7, .int .i64 x.f5])) 1 rfl rfl (hon 4 (by kernel_rfl)) rfl
        replace ha := Bvh ha
        have F0 := Bvh Q_F0
        have FE := Bvh Q_FE
        have FG := Bvh Q_FG
        refine Avn Try.func49 (by kernel_rfl) rfl #[.agg #[.slice A0 S.safe.length c0, .slice A1 P.length c1, .int .i64 S.quota, .int .i64 S.calls, .slice A4 S.fails.length c4, .int .i64 S.crash, .bool S.down, .int .i64 S.peak], .agg #[.int .i64 x.f0, .string x.f1.f0, .int .i64 x.f1.f1, .int .i64 x.f1.f2, .slice A5 x.f1.f3.length c5, .string x.f2, .string x.f3, .slice A7 x.f4.length c7, .int .i64 x.f5]] (by rfl) rfl rfl (by first | (simp only [List.map_toArray, List.map_cons, List.map_nil, Act.eval, Array.getD_eq_getD_getElem?, Option.getD_some, e41, e45]; done) | (simp only [List.map_toArray, List.map_cons, List.map_nil, Act.eval, Array.getD_eq_getD_getElem?, Option.getD_some, e41, e45]; rfl)) ?_
        refine (Bj6 HP.out HQ.out x A5 c5 A7 c7 HDO.out HBO3.out F0.out HI.out (by omega) HI2.out (HD.out _ HXM.out.1) (deedV (e := 5) HBO3.out HB3.out HB7.out HX5.out hc5) (deedV (e := 3) HBO3.out HB3.out HB7.out HX7.out hc7)).mono ?_
        rintro e w5 ⟨U0', z0', U1', z1', U4', z4', U5', z5', U6', z6', rfl, hT5, hb5⟩
        refine ⟨_, rfl, ?_⟩
        refine hK.out _ _ ⟨gb9, gb10, w'.heap.size, w5.heap.size, U0', U1', U4', U5', U6', z0', z1', z4', z5', z6', (.tuple #[.agg #[.slice U0' T.safe.length z0', .slice U1' Q.length z1', .int .i64 T.quota, .int .i64 T.calls, .slice U4' T.fails.length z4', .int .i64 T.crash, .bool T.down, .int .i64 T.peak], .agg #[.int .i64 er, .slice U5' dt.length z5', .slice U6' nm.length z6']]), m6_, m7_, m8_, m9_, m10_, (by rw [ha.out]; exact Aj5 2 hb_ rfl rfl rfl), Aq1 F0.out hb5, fun h0_ => ⟨(Q_F9 h0_).1, Nat.lt_of_lt_of_le (Q_F9 h0_).2 hb5.size⟩, fun h0_ h1_ => (Q_FZ h0_ h1_).below hb5, fun h0_ => absurd ((hoff 11 (by kernel_rfl)).symm.trans h0_) (by decide), fun h0_ => ⟨(Q_F10 h0_).1, Nat.lt_of_lt_of_le (Q_F10 h0_).2 hb5.size⟩, fun h0_ h1_ => Aqn hb5 (Q_FY h0_ h1_), fun h0_ => absurd ((hoff 12 (by kernel_rfl)).symm.trans h0_) (by decide), fun _ => hT5, fun _ h => .inl (Q_F9 h).2, fun _ h => .inl (Q_F10 h).2, fun _ => rfl, fun h0_ => absurd ((hoff 6 (by kernel_rfl)).symm.trans h0_) (by decide), fun h0_ => absurd ((hoff 7 (by kernel_rfl)).symm.trans h0_) (by decide), fun h0_ => absurd ((hoff 8 (by kernel_rfl)).symm.trans h0_) (by decide), Q_X9_, Q_X10_⟩
      refine Azq ?_ ?_
      · rintro b a w' ⟨gb9, gb10, m5, p5, U0, U1, U4, U5, U6, z0, z1, z4, z5, z6, m5_, m6_, m7_, m8_, m9_, m10_, ha, Q_F0, Q_F9, Q_FZ, Q_FX, Q_F10, Q_FY, Q_FT, Q_F5, Q_FE, Q_FG, Q_X5_, Q_X6_, Q_X7_, Q_X8_, Q_X9_, Q_X10_⟩ hb_ hon hoff
        refine ⟨_, rfl, fun K hK => ?_⟩
        have e46 : a.tmps[46]? = some (m5_) := by rw [ha]; exact Aj2 (e := (5, 46, m5_)) 2 rfl rfl (hon 5 (by kernel_rfl)) rfl
        rw [Q_X5_ (hon 5 (by kernel_rfl))] at e46
        replace ha := Bvh ha
        have F0 := Bvh Q_F0
        have F5 := Bvh (Q_F5 (hon 5 (by kernel_rfl)))
        have FE := Bvh Q_FE
        have FG := Bvh Q_FG
        refine Avq (w1 := w') (v := .tuple #[.agg #[.slice U0 T.safe.length z0, .slice U1 Q.length z1, .int .i64 T.quota, .int .i64 T.calls, .slice U4 T.fails.length z4, .int .i64 T.crash, .bool T.down, .int .i64 T.peak], .agg #[.int .i64 er, .slice U5 dt.length z5, .slice U6 nm.length z6]]) (by rfl) rfl ?_ ?_
        · go_simp
          (try simp only [Aqv])
          try rfl
        refine hK.out _ _ ⟨gb9, gb10, m5, p5, U0, U1, U4, U5, U6, z0, z1, z4, z5, z6, m5_, (.tuple #[.agg #[.slice U0 T.safe.length z0, .slice U1 Q.length z1, .int .i64 T.quota, .int .i64 T.calls, .slice U4 T.fails.length z4, .int .i64 T.crash, .bool T.down, .int .i64 T.peak], .agg #[.int .i64 er, .slice U5 dt.length z5, .slice U6 nm.length z6]]), m7_, m8_, m9_, m10_, (by rw [ha.out]; exact Aj5 3 hb_ rfl rfl rfl), Q_F0, Q_F9, Q_FZ, fun h0_ => absurd ((hoff 11 (by kernel_rfl)).symm.trans h0_) (by decide), Q_F10, Q_FY, fun h0_ => absurd ((hoff 12 (by kernel_rfl)).symm.trans h0_) (by decide), Q_F5, Q_FE, Q_FG, Q_X5_, fun _ => rfl, fun h0_ => absurd ((hoff 7 (by kernel_rfl)).symm.trans h0_) (by decide), fun h0_ => absurd ((hoff 8 (by kernel_rfl)).symm.trans h0_) (by decide), Q_X9_, Q_X10_⟩
      refine Azq ?_ ?_
      · rintro b a w' ⟨gb9, gb10, m5, p5, U0, U1, U4, U5, U6, z0, z1, z4, z5, z6, m5_, m6_, m7_, m8_, m9_, m10_, ha, Q_F0, Q_F9, Q_FZ, Q_FX, Q_F10, Q_FY, Q_FT, Q_F5, Q_FE, Q_FG, Q_X5_, Q_X6_, Q_X7_, Q_X8_, Q_X9_, Q_X10_⟩ hb_ hon hoff
        refine ⟨_, rfl, fun K hK => ?_⟩
        have e40 : a.tmps[40]? = some (m6_) := by rw [ha]; exact Aj2 (e := (6, 40, m6_)) 3 rfl rfl (hon 6 (by kernel_rfl)) rfl
        rw [Q_X6_ (hon 6 (by kernel_rfl))] at e40
        replace ha := Bvh ha
        have F0 := Bvh Q_F0
        have F5 := Bvh (Q_F5 (hon 5 (by kernel_rfl)))
        have FE := Bvh Q_FE
        have FG := Bvh Q_FG
        refine Avq (w1 := w') (v := .agg #[.slice U0 T.safe.length z0, .slice U1 Q.length z1, .int .i64 T.quota, .int .i64 T.calls, .slice U4 T.fails.length z4, .int .i64 T.crash, .bool T.down, .int .i64 T.peak]) (by rfl) rfl ?_ ?_
        · go_simp
          (try simp only [Aqv])
          try rfl
        refine hK.out _ _ ⟨gb9, gb10, m5, p5, U0, U1, U4, U5, U6, z0, z1, z4, z5, z6, m5_, m6_, (.agg #[.slice U0 T.safe.length z0, .slice U1 Q.length z1, .int .i64 T.quota, .int .i64 T.calls, .slice U4 T.fails.length z4, .int .i64 T.crash, .bool T.down, .int .i64 T.peak]), m8_, m9_, m10_, (by rw [ha.out]; exact Aj5 4 hb_ rfl rfl rfl), Q_F0, Q_F9, Q_FZ, fun h0_ => absurd ((hoff 11 (by kernel_rfl)).symm.trans h0_) (by decide), Q_F10, Q_FY, fun h0_ => absurd ((hoff 12 (by kernel_rfl)).symm.trans h0_) (by decide), Q_F5, Q_FE, Q_FG, Q_X5_, Q_X6_, fun _ => rfl, Q_X8_, Q_X9_, Q_X10_⟩
      refine Azq ?_ ?_
      · rintro b a w' ⟨gb9, gb10, m5, p5, U0, U1, U4, U5, U6, z0, z1, z4, z5, z6, m5_, m6_, m7_, m8_, m9_, m10_, ha, Q_F0, Q_F9, Q_FZ, Q_FX, Q_F10, Q_FY, Q_FT, Q_F5, Q_FE, Q_FG, Q_X5_, Q_X6_, Q_X7_, Q_X8_, Q_X9_, Q_X10_⟩ hb_ hon hoff
        refine ⟨_, rfl, fun K hK => ?_⟩
        have e40 : a.tmps[40]? = some (m6_) := by rw [ha]; exact Aj2 (e := (6, 40, m6_)) 3 rfl rfl (hon 6 (by kernel_rfl)) rfl
        rw [Q_X6_ (hon 6 (by kernel_rfl))] at e40
        replace ha := Bvh ha
        have F0 := Bvh Q_F0
        have F5 := Bvh (Q_F5 (hon 5 (by kernel_rfl)))
        have FE := Bvh Q_FE
        have FG := Bvh Q_FG
        refine Avq (w1 := w') (v := .agg #[.int .i64 er, .slice U5 dt.length z5, .slice U6 nm.length z6]) (by rfl) rfl ?_ ?_
        · go_simp
          (try simp only [Aqv])
          try rfl
        refine hK.out _ _ ⟨gb9, gb10, m5, p5, U0, U1, U4, U5, U6, z0, z1, z4, z5, z6, m5_, m6_, m7_, (.agg #[.int .i64 er, .slice U5 dt.length z5, .slice U6 nm.length z6]), m9_, m10_, (by rw [ha.out]; exact Aj5 5 hb_ rfl rfl rfl), Q_F0, Q_F9, Q_FZ, Q_FX, Q_F10, Q_FY, fun h0_ => absurd ((hoff 12 (by kernel_rfl)).symm.trans h0_) (by decide), Q_F5, Q_FE, Q_FG, Q_X5_, Q_X6_, Q_X7_, fun _ => rfl, Q_X9_, Q_X10_⟩
      refine Azq ?_ ?_
      · rintro b a w' ⟨gb9, gb10, m5, p5, U0, U1, U4, U5, U6, z0, z1, z4, z5, z6, m5_, m6_, m7_, m8_, m9_, m10_, ha, Q_F0, Q_F9, Q_FZ, Q_FX, Q_F10, Q_FY, Q_FT, Q_F5, Q_FE, Q_FG, Q_X5_, Q_X6_, Q_X7_, Q_X8_, Q_X9_, Q_X10_⟩ hb_ hon hoff
        refine ⟨_, rfl, fun K hK => ?_⟩
        replace ha := Bvh ha
        have F0 := Bvh Q_F0
        have FE := Bvh Q_FE
        have FG := Bvh Q_FG
        refine Avq (w1 := w'.alloc (.cells #[.slice none 0 0, .slice none 0 0, .int .i64 0, .int .i64 0, .slice none 0 0, .int .i64 0, .bool false, .int .i64 0] 71)) (v := .pointer (some ⟨w'.heap.size, 0, none⟩)) (by rfl) rfl ?_ ?_
        · go_simp
          try rfl
        refine hK.out _ _ ⟨w'.heap.size, gb10, m5, p5, U0, U1, U4, U5, U6, z0, z1, z4, z5, z6, m5_, m6_, m7_, m8_, (.pointer (some ⟨w'.heap.size, 0, none⟩)), m10_, (by rw [ha.out]; exact Aj5 6 hb_ rfl rfl rfl), Aq4 F0.out _, fun _ => ⟨F0.out.size, by rw [World.size_alloc]; exact Nat.lt_succ_self _⟩, fun _ _ => heap_alloc_new _ _, fun h0_ => absurd ((hoff 11 (by kernel_rfl)).symm.trans h0_) (by decide), fun h0_ => ⟨(Q_F10 h0_).1, by rw [World.size_alloc]; exact Nat.lt_succ_of_lt (Q_F10 h0_).2⟩, fun h0_ h1_ => Aqe (Q_FY h0_ h1_) _, fun h0_ => absurd ((hoff 12 (by kernel_rfl)).symm.trans h0_) (by decide), fun h0_ => (Q_F5 h0_).below (Aq4 (Below.refl _ _) _), fun h _ => .inr (Q_F5 h).2.1, Q_FG, Q_X5_, Q_X6_, Q_X7_, Q_X8_, fun _ => rfl, Q_X10_⟩
      refine Azq ?_ ?_
      · rintro b a w' ⟨gb9, gb10, m5, p5, U0, U1, U4, U5, U6, z0, z1, z4, z5, z6, m5_, m6_, m7_, m8_, m9_, m10_, ha, Q_F0, Q_F9, Q_FZ, Q_FX, Q_F10, Q_FY, Q_FT, Q_F5, Q_FE, Q_FG, Q_X5_, Q_X6_, Q_X7_, Q_X8_, Q_X9_, Q_X10_⟩ hb_ hon hoff
        refine ⟨_, rfl, fun K hK => ?_⟩
        replace ha := Bvh ha
        have F0 := Bvh Q_F0
        have FE := Bvh Q_FE
        have FG := Bvh Q_FG
        refine Avq (w1 := w'.alloc (.cells #[.int .i64 0, .slice none 0 0, .slice none 0 0] 73)) (v := .pointer (some ⟨w'.heap.size, 0, none⟩)) (by rfl) rfl ?_ ?_
        · go_simp
          try rfl
        refine hK.out _ _ ⟨gb9, w'.heap.size, m5, p5, U0, U1, U4, U5, U6, z0, z1, z4, z5, z6, m5_, m6_, m7_, m8_, m9_, (.pointer (some ⟨w'.heap.size, 0, none⟩)), (by rw [ha.out]; exact Aj5 7 hb_ rfl rfl rfl), Aq4 F0.out _, fun h0_ => ⟨(Q_F9 h0_).1, by rw [World.size_alloc]; exact Nat.lt_succ_of_lt (Q_F9 h0_).2⟩, fun h0_ h1_ => Aqe (Q_FZ h0_ h1_) _, fun h0_ => absurd ((hoff 11 (by kernel_rfl)).symm.trans h0_) (by decide), fun _ => ⟨F0.out.size, by rw [World.size_alloc]; exact Nat.lt_succ_self _⟩, fun _ _ => heap_alloc_new _ _, fun h0_ => absurd ((hoff 12 (by kernel_rfl)).symm.trans h0_) (by decide), fun h0_ => (Q_F5 h0_).below (Aq4 (Below.refl _ _) _), Q_FE, fun h _ => .inr (Q_F5 h).2.1, Q_X5_, Q_X6_, Q_X7_, Q_X8_, Q_X9_, fun _ => rfl⟩
      refine Azq ?_ ?_
      · rintro b a w' ⟨gb9, gb10, m5, p5, U0, U1, U4, U5, U6, z0, z1, z4, z5, z6, m5_, m6_, m7_, m8_, m9_, m10_, ha, Q_F0, Q_F9, Q_FZ, Q_FX, Q_F10, Q_FY, Q_FT, Q_F5, Q_FE, Q_FG, Q_X5_, Q_X6_, Q_X7_, Q_X8_, Q_X9_, Q_X10_⟩ hb_ hon hoff
        refine ⟨_, rfl, fun K hK => ?_⟩
        have e10 : a.tmps[10]? = some (m9_) := by rw [ha]; exact Aj2 (e := (9, 10, m9_)) 6 rfl rfl (hon 9 (by kernel_rfl)) rfl
        rw [Q_X9_ (hon 9 (by kernel_rfl))] at e10
        have e47 : a.tmps[47]? = some (m7_) := by rw [ha]; exact Aj2 (e := (7, 47, m7_)) 4 rfl rfl (hon 7 (by kernel_rfl)) rfl
        rw [Q_X7_ (hon 7 (by kernel_rfl))] at e47
        replace ha := Bvh ha
        have F0 := Bvh Q_F0
        have F9 := Bvh (Q_F9 (hon 9 (by kernel_rfl)))
        have FZ := Bvh (Q_FZ (hon 9 (by kernel_rfl)) hb_)
        have F10 := Bvh (Q_F10 (hon 10 (by kernel_rfl)))
        have FY := Bvh (Q_FY (hon 10 (by kernel_rfl)) (hoff 12 (by kernel_rfl)))
        have F5 := Bvh (Q_F5 (hon 5 (by kernel_rfl)))
        have FE := Bvh Q_FE
        have FG := Bvh Q_FG
        obtain ⟨pf0, pg0, pf1, pg1, pf2, pg2, pf3, pg3, pf4, pg4, pf5, pg5, pf6, pg6, pf7, pg7, hA⟩ := FZ.out.put (.slice U0 T.safe.length z0) (.slice U1 Q.length z1) (.int .i64 T.quota) (.int .i64 T.calls) (.slice U4 T.fails.length z4) (.int .i64 T.crash) (.bool T.down) (.int .i64 T.peak)
        have HA := Bvh hA
        clear hA
        refine Avl (w1 := ((((((((w'.setCell ⟨gb9, 0, none⟩ (.slice U0 T.safe.length z0)).setCell ⟨gb9, 1, none⟩ (.slice U1 Q.length z1)).setCell ⟨gb9, 2, none⟩ (.int .i64 T.quota)).setCell ⟨gb9, 3, none⟩ (.int .i64 T.calls)).setCell ⟨gb9, 4, none⟩ (.slice U4 T.fails.length z4)).setCell ⟨gb9, 5, none⟩ (.int .i64 T.crash)).setCell ⟨gb9, 6, none⟩ (.bool T.down)).setCell ⟨gb9, 7, none⟩ (.int .i64 T.peak))) (by rfl) rfl ?_ ?_
        · go_simp
          try rfl
        refine hK.out _ _ ⟨gb9, gb10, m5, p5, U0, U1, U4, U5, U6, z0, z1, z4, z5, z6, m5_, m6_, m7_, m8_, m9_, m10_, (by rw [ha.out]; exact Awc (v := undef) rfl), Ax5 F0.out F9.out.1 _ _ _ _ _ _ _ _, fun _ => ⟨F9.out.1, by rw [Ak0]; exact F9.out.2⟩, fun _ h1_ => absurd ((Avj b 11).symm.trans h1_) (by decide), fun _ => HA.out, fun _ => ⟨F10.out.1, by rw [Ak0]; exact F10.out.2⟩, fun _ _ => (Axo _ _ _ _ _ _ _ _ (Akx FY.out FZ.out (by decide))).trans FY.out, fun h0_ => absurd ((hoff 12 (by kernel_rfl)).symm.trans h0_) (by decide), fun _ => F5.out.store (Ak0 _ _ _ _ _ _ _ _) (fun k hk => Axo _ _ _ _ _ _ _ _ hk) (Bk5 F9.out.1 (Q_FE (hon 5 (by kernel_rfl)) (hon 9 (by kernel_rfl)))), Q_FE, Q_FG, Q_X5_, Q_X6_, Q_X7_, Q_X8_, Q_X9_, Q_X10_⟩
      refine Azq ?_ ?_
      · rintro b a w' ⟨gb9, gb10, m5, p5, U0, U1, U4, U5, U6, z0, z1, z4, z5, z6, m5_, m6_, m7_, m8_, m9_, m10_, ha, Q_F0, Q_F9, Q_FZ, Q_FX, Q_F10, Q_FY, Q_FT, Q_F5, Q_FE, Q_FG, Q_X5_, Q_X6_, Q_X7_, Q_X8_, Q_X9_, Q_X10_⟩ hb_ hon hoff
        refine ⟨_, rfl, fun K hK => ?_⟩
        have e11 : a.tmps[11]? = some (m10_) := by rw [ha]; exact Aj2 (e := (10, 11, m10_)) 7 rfl rfl (hon 10 (by kernel_rfl)) rfl
        rw [Q_X10_ (hon 10 (by kernel_rfl))] at e11
        have e48 : a.tmps[48]? = some (m8_) := by rw [ha]; exact Aj2 (e := (8, 48, m8_)) 5 rfl rfl (hon 8 (by kernel_rfl)) rfl
        rw [Q_X8_ (hon 8 (by kernel_rfl))] at e48
        replace ha := Bvh ha
        have F0 := Bvh Q_F0
        have F9 := Bvh (Q_F9 (hon 9 (by kernel_rfl)))
        have FX := Bvh (Q_FX (hon 11 (by kernel_rfl)))
        have F10 := Bvh (Q_F10 (hon 10 (by kernel_rfl)))
        have FY := Bvh (Q_FY (hon 10 (by kernel_rfl)) hb_)
        have F5 := Bvh (Q_F5 (hon 5 (by kernel_rfl)))
        have FE := Bvh Q_FE
        have FG := Bvh Q_FG
        obtain ⟨pf0, pg0, pf1, pg1, pf2, pg2, hA⟩ := VarT.facts FY.out (.int .i64 er) (.slice U5 dt.length z5) (.slice U6 nm.length z6)
        have HA := Bvh hA
        clear hA
        refine Avl (w1 := (((w'.setCell ⟨gb10, 0, none⟩ (.int .i64 er)).setCell ⟨gb10, 1, none⟩ (.slice U5 dt.length z5)).setCell ⟨gb10, 2, none⟩ (.slice U6 nm.length z6))) (by rfl) rfl ?_ ?_
        · go_simp
          try rfl
        refine hK.out _ _ ⟨gb9, gb10, m5, p5, U0, U1, U4, U5, U6, z0, z1, z4, z5, z6, m5_, m6_, m7_, m8_, m9_, m10_, (by rw [ha.out]; exact Awc (v := undef) rfl), Bj5 F0.out F10.out.1 _ _ _, fun _ => ⟨F9.out.1, by rw [Awd]; exact F9.out.2⟩, fun _ h1_ => absurd ((hon 11 (by kernel_rfl)).symm.trans h1_) (by decide), fun _ => (Bq9 _ _ _ (Akx FX.out FY.out (by decide))).trans FX.out, fun _ => ⟨F10.out.1, by rw [Awd]; exact F10.out.2⟩, fun _ h1_ => absurd ((Avj b 12).symm.trans h1_) (by decide), fun _ => HA.out, fun _ => F5.out.store (Awd _ _ _) (fun k hk => Bq9 _ _ _ hk) (Bk5 F10.out.1 (Q_FG (hon 5 (by kernel_rfl)) (hon 10 (by kernel_rfl)))), Q_FE, Q_FG, Q_X5_, Q_X6_, Q_X7_, Q_X8_, Q_X9_, Q_X10_⟩
      exact Bk6
    · rintro b a w' hall ⟨gb9, gb10, m5, p5, U0, U1, U4, U5, U6, z0, z1, z4, z5, z6, m5_, m6_, m7_, m8_, m9_, m10_, ha, Q_F0, Q_F9, Q_FZ, Q_FX, Q_F10, Q_FY, Q_FT, Q_F5, Q_FE, Q_FG, Q_X5_, Q_X6_, Q_X7_, Q_X8_, Q_X9_, Q_X10_⟩
      clear F0 FE FG
      have hb0_ := hall 0 (by kernel_rfl)
      have hb4_ := hall 4 (by kernel_rfl)
      have hb5_ := hall 5 (by kernel_rfl)
      have hb6_ := hall 6 (by kernel_rfl)
      have hb7_ := hall 7 (by kernel_rfl)
      have hb8_ := hall 8 (by kernel_rfl)
      have hb9_ := hall 9 (by kernel_rfl)
      have hb10_ := hall 10 (by kernel_rfl)
      have hb11_ := hall 11 (by kernel_rfl)
      have hb12_ := hall 12 (by kernel_rfl)
      subst ha
      obtain rfl := Q_X5_ hb5_
      obtain rfl := Q_X6_ hb6_
      obtain rfl := Q_X7_ hb7_
      obtain rfl := Q_X8_ hb8_
      obtain rfl := Q_X9_ hb9_
      obtain rfl := Q_X10_ hb10_
      simp only [Azt, hb0_, hb4_, hb5_, hb6_, hb7_, hb8_, hb9_, hb10_, hb11_, hb12_, if_true, Act.put, Bvi, Bvj, Bvk]
      have F0 := Bvh Q_F0
      clear Q_F0
      have F9 := Bvh (Q_F9 hb9_)
      clear Q_F9
      clear Q_FZ
      have FX := Bvh (Q_FX hb11_)
      clear Q_FX
      have F10 := Bvh (Q_F10 hb10_)
      clear Q_F10
      clear Q_FY
      have FT := Bvh (Q_FT hb12_)
      clear Q_FT
      have F5 := Bvh (Q_F5 hb5_)
      clear Q_F5
      have FE := Bvh Q_FE
      clear Q_FE
      have FG := Bvh Q_FG
      clear Q_FG
      clear hall hb0_ hb4_ hb5_ hb6_ hb7_ hb8_ hb9_ hb10_ hb11_ hb12_
      clear FE FG
      have HBB := Bvh (HBO3.out.updT F0.out HQ.out F5.out)
      have HB5 := Bvh (Aq1 HB3.out F0.out)
      have HTY := Bvh (show VarT ((((((((w'.setCell ⟨b7, 0, none⟩ (.slice U0 T.safe.length z0)).setCell ⟨b7, 1, none⟩ (.slice U1 Q.length z1)).setCell ⟨b7, 2, none⟩ (.int .i64 T.quota)).setCell ⟨b7, 3, none⟩ (.int .i64 T.calls)).setCell ⟨b7, 4, none⟩ (.slice U4 T.fails.length z4)).setCell ⟨b7, 5, none⟩ (.int .i64 T.crash)).setCell ⟨b7, 6, none⟩ (.bool T.down)).setCell ⟨b7, 7, none⟩ (.int .i64 T.peak)) wa.heap.size (.int .i64 er) (.slice Ay dt.length cy) (.slice Az nm.length cz) from (Axo _ _ _ _ _ _ _ _ (Nat.ne_of_gt HN9.out)).trans (HT9.out.below F0.out))
      have HTX := Bvh (show VarT ((((((((w'.setCell ⟨b7, 0, none⟩ (.slice U0 T.safe.length z0)).setCell ⟨b7, 1, none⟩ (.slice U1 Q.length z1)).setCell ⟨b7, 2, none⟩ (.int .i64 T.quota)).setCell ⟨b7, 3, none⟩ (.int .i64 T.calls)).setCell ⟨b7, 4, none⟩ (.slice U4 T.fails.length z4)).setCell ⟨b7, 5, none⟩ (.int .i64 T.crash)).setCell ⟨b7, 6, none⟩ (.bool T.down)).setCell ⟨b7, 7, none⟩ (.int .i64 T.peak)) gb10 (.int .i64 er) (.slice U5 dt.length z5) (.slice U6 nm.length z6) from (Axo _ _ _ _ _ _ _ _ (Akx FT.out (HBO3.out.below F0.out).box (by decide))).trans FT.out)
      have HVY := Bvh (Kd.V_step (w1 := ((((((((w'.setCell ⟨b7, 0, none⟩ (.slice U0 T.safe.length z0)).setCell ⟨b7, 1, none⟩ (.slice U1 Q.length z1)).setCell ⟨b7, 2, none⟩ (.int .i64 T.quota)).setCell ⟨b7, 3, none⟩ (.int .i64 T.calls)).setCell ⟨b7, 4, none⟩ (.slice U4 T.fails.length z4)).setCell ⟨b7, 5, none⟩ (.int .i64 T.crash)).setCell ⟨b7, 6, none⟩ (.bool T.down)).setCell ⟨b7, 7, none⟩ (.int .i64 T.peak))) (Kd.V_below HVY3.out F0.out) (fun k hk _ => Axo _ _ _ _ _ _ _ _ (by have := HN8.out; omega)))
      have HVZ := Bvh (Kd.V_step (w1 := ((((((((w'.setCell ⟨b7, 0, none⟩ (.slice U0 T.safe.length z0)).setCell ⟨b7, 1, none⟩ (.slice U1 Q.length z1)).setCell ⟨b7, 2, none⟩ (.int .i64 T.quota)).setCell ⟨b7, 3, none⟩ (.int .i64 T.calls)).setCell ⟨b7, 4, none⟩ (.slice U4 T.fails.length z4)).setCell ⟨b7, 5, none⟩ (.int .i64 T.crash)).setCell ⟨b7, 6, none⟩ (.bool T.down)).setCell ⟨b7, 7, none⟩ (.int .i64 T.peak))) (Kd.V_below HVZ3.out F0.out) (fun k hk _ => Axo _ _ _ _ _ _ _ _ (by have := HN8.out; omega)))
      have HB6 := Bvh (Ax5 HB5.out HB7.out (.slice U0 T.safe.length z0) (.slice U1 Q.length z1) (.int .i64 T.quota) (.int .i64 T.calls) (.slice U4 T.fails.length z4) (.int .i64 T.crash) (.bool T.down) (.int .i64 T.peak))
      obtain ⟨g0, g1, g2, g3, g4, g5, g6, g7⟩ := VarX.cell FX.out
      obtain ⟨pf0, pg0, pf1, pg1, pf2, pg2, pf3, pg3, pf4, pg4, pf5, pg5, pf6, pg6, pf7, pg7, hA⟩ := ((HBO3.out.below F0.out).boxP HP.out).put (.slice U0 T.safe.length z0) (.slice U1 Q.length z1) (.int .i64 T.quota) (.int .i64 T.calls) (.slice U4 T.fails.length z4) (.int .i64 T.crash) (.bool T.down) (.int .i64 T.peak)
      clear hA
      go_upto_region 14 with fail
      clear g0 g1 g2 g3 g4 g5 g6 g7 pf0 pg0 pf1 pg1 pf2 pg2 pf3 pg3 pf4 pg4 pf5 pg5 pf6 pg6 pf7 pg7 FX F5 F0 F9 F10 FT
      generalize ((((((((w'.setCell ⟨b7, 0, none⟩ (.slice U0 T.safe.length z0)).setCell ⟨b7, 1, none⟩ (.slice U1 Q.length z1)).setCell ⟨b7, 2, none⟩ (.int .i64 T.quota)).setCell ⟨b7, 3, none⟩ (.int .i64 T.calls)).setCell ⟨b7, 4, none⟩ (.slice U4 T.fails.length z4)).setCell ⟨b7, 5, none⟩ (.int .i64 T.crash)).setCell ⟨b7, 6, none⟩ (.bool T.down)).setCell ⟨b7, 7, none⟩ (.int .i64 T.peak)) = wS at HBB HTY HTX HVY HVZ HB6 ⊢
      clear Q_X5_ Q_X6_ Q_X7_ Q_X8_ Q_X9_ Q_X10_
      have HRP := Bvh HBB.out.1.rep
      have HSS := Bvh (show ∀ w', Below wS.heap.size wS w' → (fun w' => w'.cell? ⟨wa.heap.size, 0, none⟩ = some (.int .i64 er) ∧ w'.cell? ⟨wa.heap.size, 1, none⟩ = some (.slice Ay dt.length cy) ∧ w'.cell? ⟨wa.heap.size, 2, none⟩ = some (.slice Az nm.length cz) ∧ w'.cell? ⟨gb10, 0, none⟩ = some (.int .i64 er) ∧ w'.cell? ⟨gb10, 1, none⟩ = some (.slice U5 dt.length z5) ∧ w'.cell? ⟨gb10, 2, none⟩ = some (.slice U6 nm.length z6) ∧ w'.cell? ⟨b7, 0, none⟩ = some (.slice U0 T.safe.length z0) ∧ w'.cell? ⟨b7, 1, none⟩ = some (.slice U1 Q.length z1) ∧ w'.cell? ⟨b7, 2, none⟩ = some (.int .i64 T.quota) ∧ w'.cell? ⟨b7, 3, none⟩ = some (.int .i64 T.calls) ∧ w'.cell? ⟨b7, 4, none⟩ = some (.slice U4 T.fails.length z4) ∧ w'.cell? ⟨b7, 5, none⟩ = some (.int .i64 T.crash) ∧ w'.cell? ⟨b7, 6, none⟩ = some (.bool T.down) ∧ w'.cell? ⟨b7, 7, none⟩ = some (.int .i64 T.peak) ∧ Below wS.heap.size wS w') w' from fun w' hb => by
       obtain ⟨a0, a1, a2⟩ := (VarT.below HTY.out hb).cells
       obtain ⟨d0, d1, d2⟩ := (VarT.below HTX.out hb).cells
       obtain ⟨e0, e1, e2, e3, e4, e5, e6, e7⟩ := ((HBB.out.1.boxP HQ.out).below hb).cell
       exact ⟨a0, a1, a2, d0, d1, d2, e0, e1, e2, e3, e4, e5, e6, e7, hb⟩)
      obtain ⟨F, hF⟩ : ∃ F, Aq8 T = F := ⟨_, rfl⟩
      have HFX := Bvh (Bkw HQ.out hF)
      have HF := Bvh hF
      have HFL := Bvh (show F.length ≤ 1000000 from hF ▸ Bkv (HJ.out.fit (by omega)))
      have HNM := Bvh (show nm.length ≤ 1000000 from told_few HDO.out HI.out (by omega))
      clear hF
      go_region_held3 (fun w' => w'.cell? ⟨wa.heap.size, 0, none⟩ = some (.int .i64 er) ∧ w'.cell? ⟨wa.heap.size, 1, none⟩ = some (.slice Ay dt.length cy) ∧ w'.cell? ⟨wa.heap.size, 2, none⟩ = some (.slice Az nm.length cz) ∧ w'.cell? ⟨gb10, 0, none⟩ = some (.int .i64 er) ∧ w'.cell? ⟨gb10, 1, none⟩ = some (.slice U5 dt.length z5) ∧ w'.cell? ⟨gb10, 2, none⟩ = some (.slice U6 nm.length z6) ∧ w'.cell? ⟨b7, 0, none⟩ = some (.slice U0 T.safe.length z0) ∧ w'.cell? ⟨b7, 1, none⟩ = some (.slice U1 Q.length z1) ∧ w'.cell? ⟨b7, 2, none⟩ = some (.int .i64 T.quota) ∧ w'.cell? ⟨b7, 3, none⟩ = some (.int .i64 T.calls) ∧ w'.cell? ⟨b7, 4, none⟩ = some (.slice U4 T.fails.length z4) ∧ w'.cell? ⟨b7, 5, none⟩ = some (.int .i64 T.crash) ∧ w'.cell? ⟨b7, 6, none⟩ = some (.bool T.down) ∧ w'.cell? ⟨b7, 7, none⟩ = some (.int .i64 T.peak) ∧ Below wS.heap.size wS w')
       (first
         | exact HSS.out _ (Aq5 (Below.refl _ _))
         | (go_split_ands
            first
             | exact HSS.out _ (Aq1 (by assumption) hb54)
             | exact HSS.out _ (Aq1 (by assumption) hb53)
             | exact HSS.out _ (Aq1 (by assumption) hb52)
             | exact HSS.out _ (Aq1 (by assumption) hb46)
             | exact HSS.out _ (Aq1 (by assumption) hb21)
             | exact HSS.out _ (Aq1 (by assumption) hb45)
             | exact HSS.out _ (Aq1 (by assumption) hb20)
             | exact HSS.out _ (Aq1 (by assumption) hb51)
             | exact HSS.out _ (Aq1 (by assumption) hb42)
             | exact HSS.out _ (Aq1 (by assumption) hb50))
         | go_keep)
       (first
         | (go_split_ands; go_at_call 50; (with_reducible refine (Bx0 er dt nm HNM.out (Kd.V_below HVY.out (by assumption)) (Kd.V_below HVZ.out (by assumption)) (Kd.V_below HBB.out.2.1 (by assumption)) (Kd.V_below HBB.out.2.2 (by assumption))).mono ?_); rintro e w50 ⟨rfl, hb50⟩)
         | (go_split_ands; go_at_call 42; (with_reducible refine (files_at (HRP.out.below (by assumption)) (HJ.out.fit (by omega)) HF.out).mono ?_); rintro e w42 ⟨AF, cF, rfl, hvF, hb42⟩)
         | (go_split_ands; go_at_call 51; (with_reducible refine (Ajn _ _ _ _ _ (Kd.V_below HBB.out.1.hF (by assumption)) (Kd.V_below (HBB.out.1.hQP HQ.out) (by assumption)) (Kd.V_below HBB.out.1.hN (by assumption)) (pend_few HQ.out HJ2.out) HJ.out.safe (len_few HQ.out HJ.out) HFX.out).mono ?_); rintro e w51 ⟨AG, cG, rfl, hvG, hb51⟩)
         | (go_split_ands; go_at_call 20; (with_reducible refine (Bq6 F HFL.out (Kd.V_below hvF hb51) hvG).mono ?_); rintro e w20 ⟨rfl, hb20⟩)
         | (go_split_ands; go_at_call 45; (with_reducible refine (safe_at (HRP.out.below (by assumption)) (HJ.out.fit (by omega)) rfl).mono ?_); rintro e w45 ⟨AS, cS, rfl, hvS, hb45⟩)
         | (go_split_ands; go_at_call 20; (with_reducible refine (Bq6 T.safe (safe_few HJ.out) hvS (Kd.V_below HBB.out.1.hF (by assumption))).mono ?_); rintro e w21 ⟨rfl, hb21⟩)
         | (go_split_ands; go_at_call 46; (with_reducible refine (pend_is HQ.out (HRP.out.below (by assumption))).mono ?_); rintro e w46 ⟨rfl, hb46⟩)
         | (go_split_ands; go_at_call 52; (with_reducible refine (Awr (HRP.out.below (by assumption))).mono ?_); rintro e w52 ⟨rfl, hb52⟩)
         | (go_split_ands; go_at_call 53; (with_reducible refine (Bjq (HRP.out.below (by assumption))).mono ?_); rintro e w53 ⟨rfl, hb53⟩)
         | (go_split_ands; go_at_call 54; (with_reducible refine (Bqa (HRP.out.below (by assumption))).mono ?_); rintro e w54 ⟨rfl, hb54⟩))
      have hbw : Below wS.heap.size wS w54 := by go_split_ands; assumption
      have HBO7 := Bvh (show Both w.heap.size B2 g b7 (runS (newD q) (l.take (i + 1))) (runS (newD q) (l.take (i + 1))) w54 U0 z0 U1 z1 U4 z4 from HT.out ▸ HBB.out.1.below hbw)
      have HB8 := Bvh (show Below w.heap.size w w54 from Aq1 HB6.out hbw)
      clear hbw
      go_wp2
      go_roundg k1
      case measure => omega
      case rel => exact ⟨i + 1, by go_num, by omega, B2, U0, z0, U1, z1, U4, z4, HBO7, HB8⟩
  · have hge : l.length ≤ i := by omega
    clear hlt
    go_wp2
    go_ret
    exact ⟨rfl, HB.out⟩
end
end
section
theorem plays_calls {w : World} (A : Option Addr) (c : Nat) (l : List S76) (hC : Kd.C k76 w A l.length l) (hc : l.length ≤ c) (hw : ∀ d ∈ l, ∀ n ∈ d.f4, (Lit.int .i64 n).wf = true) (q : Int) (_hq : (Lit.int .i64 q).wf = true) :
 Calls Try.prog 11 #[.slice A l.length c, .int .i64 q] w fun e w' => e = .returned (.bool true) ∧ Below w.heap.size w w' := by
 obtain ⟨kf, b, hkf, hb⟩ := fewD l
 cases b
 · exact Bkc A c l hC hc q hkf
 · by_cases hq0 : q < 0
   · exact Bkb A c l hC hc q hkf hq0
   · exact Ajd A c l hC hc hw q hkf (hb rfl).1 (hb rfl).2 (by omega)
end
section
open Go.ChangeShapes Go.WideShapes Go.ChangeAt
section
variable {H : Type} {enc : TypeId × Value → H} {W : World} {base : Nat} {sp : Nat → Bool} {held : Bool}
theorem Bjy {w : World} {a : Addr} {zs : List Int} {len : Nat} (hl : len ≤ zs.length) (hm : len ≤ 9223372036854775807) (hc : ∀ i, i < zs.length → w.cell? (a.add i) = some (.int .u8 (zs.getD i 0))) : (Kd.int .u8).C w (some a) len (zs.take len) := by
 refine ⟨by simp; omega, hm, fun _ => ⟨a, rfl, fun j p hj => ⟨[.int .u8 p], rfl, rfl, fun i u hu => ?_⟩⟩⟩
 have hi : i = 0 := by
  rcases Nat.eq_zero_or_pos i with h | h
  · exact h
  · rw [List.getElem?_eq_none (by simp; omega)] at hu; cases hu
 subst hi
 have hu' : u = .int .u8 p := by simpa using hu.symm
 subst hu'
 rw [show (Kd.int .u8).sz = 1 from rfl, Nat.mul_one, Nat.add_zero]
 have hj1 : j < (zs.take len).length := (List.getElem?_eq_some_iff.1 hj).1
 have hj2 : j < zs.length := by simp at hj1; omega
 rw [hc j hj2]
 rw [List.getElem?_take] at hj
 split at hj
 · simp [List.getD, hj]
 · cases hj
theorem Bjd {fuel : Nat} {cs : List Value} {x : DataW H × List MemPlace} (h : DataW.trod enc Try.prog W base sp held fuel 23 cs = some x) :
 ∃ (A : Option Addr) (cap : Nat) (xs : List Int), cs = [.slice A xs.length cap] ∧ xs.length ≤ cap ∧ (Kd.int .u8).C W A xs.length xs ∧ ∀ n ∈ xs, 0 ≤ n ∧ n < 256 := by
 rcases open_ints Try.underlying23 Try.underlying5 (by kernel_rfl) h with ⟨rfl, _⟩ | ⟨a, l, c, zs, rfl, _, hl, hm, hz, _, hcell, hwz⟩
 · exact ⟨none, 0, [], rfl, Nat.le_refl _, Kd.C_nil _ _, by simp⟩
 · have hlz : l ≤ zs.length := by rw [hz]; split <;> omega
   have hlm : l ≤ 9223372036854775807 := by have : c ≤ 9223372036854775807 := hm; omega
   have ht : (zs.take l).length = l := by simp; omega
   refine ⟨some a, c, zs.take l, by rw [ht], by omega, by rw [ht]; exact Bjy hlz hlm hcell, fun n hn => ?_⟩
   have := hwz n (List.mem_of_mem_take hn)
   have h2 : (decide (IntKind.u8.min ≤ n) && decide (n ≤ IntKind.u8.max)) = true := this
   have e1 : IntKind.u8.min = 0 := by decide
   have e2 : IntKind.u8.max = 255 := by decide
   rw [e1, e2] at h2
   simp only [Bool.and_eq_true, decide_eq_true_eq] at h2
   omega
end
end
section
open Go.ChangeShapes Go.WideShapes Go.ChangeAt
section
variable {H : Type} {enc : TypeId × Value → H} {W : World} {base : Nat} {sp : Nat → Bool} {held : Bool}
theorem Bvf {w : World} {a : Addr} {zs : List Int} {len : Nat} (hl : len ≤ zs.length) (hm : len ≤ 9223372036854775807) (hc : ∀ i, i < zs.length → w.cell? (a.add i) = some (.int .i64 (zs.getD i 0))) : (Kd.int .i64).C w (some a) len (zs.take len) := by
 refine ⟨by simp; omega, hm, fun _ => ⟨a, rfl, fun j p hj => ⟨[.int .i64 p], rfl, rfl, fun i u hu => ?_⟩⟩⟩
 have hi : i = 0 := by
  rcases Nat.eq_zero_or_pos i with h | h
  · exact h
  · rw [List.getElem?_eq_none (by simp; omega)] at hu; cases hu
 subst hi
 have hu' : u = .int .i64 p := by simpa using hu.symm
 subst hu'
 rw [show (Kd.int .i64).sz = 1 from rfl, Nat.mul_one, Nat.add_zero]
 have hj1 : j < (zs.take len).length := (List.getElem?_eq_some_iff.1 hj).1
 have hj2 : j < zs.length := by simp at hj1; omega
 rw [hc j hj2]
 rw [List.getElem?_take] at hj
 split at hj
 · simp [List.getD, hj]
 · cases hj
theorem Bkh {fuel : Nat} {cs : List Value} {x : DataW H × List MemPlace} (h : DataW.trod enc Try.prog W base sp held fuel 56 cs = some x) :
 ∃ (A : Option Addr) (cap : Nat) (xs : List Int), cs = [.slice A xs.length cap] ∧ xs.length ≤ cap ∧ (Kd.int .i64).C W A xs.length xs ∧ ∀ n ∈ xs, (Lit.int .i64 n).wf = true := by
 rcases open_ints Try.underlying56 Try.underlying3 (by kernel_rfl) h with ⟨rfl, _⟩ | ⟨a, l, c, zs, rfl, _, hl, hm, hz, _, hcell, hwz⟩
 · exact ⟨none, 0, [], rfl, Nat.le_refl _, Kd.C_nil _ _, by simp⟩
 · have hlz : l ≤ zs.length := by rw [hz]; split <;> omega
   have hlm : l ≤ 9223372036854775807 := by have : c ≤ 9223372036854775807 := hm; omega
   have ht : (zs.take l).length = l := by simp; omega
   exact ⟨some a, c, zs.take l, by rw [ht], by omega, by rw [ht]; exact Bvf hlz hlm hcell, fun n hn => hwz n (List.mem_of_mem_take hn)⟩
theorem list9 {α : Type} {cs : List α} (h : cs.length = 9) : ∃ c0 c1 c2 c3 c4 c5 c6 c7 c8, cs = [c0, c1, c2, c3, c4, c5, c6, c7, c8] := by
 match cs, h with
 | [c0, c1, c2, c3, c4, c5, c6, c7, c8], _ => exact ⟨_, _, _, _, _, _, _, _, _, rfl⟩
theorem list6 {α : Type} {cs : List α} (h : cs.length = 6) : ∃ c0 c1 c2 c3 c4 c5, cs = [c0, c1, c2, c3, c4, c5] := by
 match cs, h with
 | [c0, c1, c2, c3, c4, c5], _ => exact ⟨_, _, _, _, _, _, rfl⟩
def inDeed (W : World) (d : S76) (A4 : Option Addr) (c4 : Nat) (A7 : Option Addr) (c7 : Nat) : Prop :=
 d.f1.f3.length ≤ c4 ∧ (Kd.int .u8).C W A4 d.f1.f3.length d.f1.f3 ∧ d.f4.length ≤ c7 ∧ (Kd.int .i64).C W A7 d.f4.length d.f4 ∧ (∀ n ∈ d.f1.f3, 0 ≤ n ∧ n < 256) ∧ (∀ n ∈ d.f4, (Lit.int .i64 n).wf = true) ∧
  (Lit.int .i64 d.f0).wf = true ∧ (Lit.int .i64 d.f1.f1).wf = true ∧ (Lit.int .i64 d.f1.f2).wf = true ∧ (Lit.int .i64 d.f5).wf = true
theorem Bki {fuel : Nat} {cs : List Value} {x : DataW H × List MemPlace} (h : DataW.trod enc Try.prog W base sp held fuel 76 cs = some x) :
 ∃ (d : S76) (A4 : Option Addr) (c4 : Nat) (A7 : Option Addr) (c7 : Nat), cs = [.int .i64 d.f0, .string d.f1.f0, .int .i64 d.f1.f1, .int .i64 d.f1.f2, .slice A4 d.f1.f3.length c4, .string d.f2, .string d.f3, .slice A7 d.f4.length c7, .int .i64 d.f5] ∧ inDeed W d A4 c4 A7 c7 := by
 obtain ⟨xs, n, _, _, hl, hlen, hf⟩ := DataW.trod_struct Try.underlying76 h
 obtain ⟨v0, v1, v2, v3, v4, v5, v6, v7, v8, rfl⟩ := list9 (hl.trans (show Try.prog.cellsOf 76 = 9 by kernel_rfl))
 obtain ⟨y0, y1, y2, y3, y4, y5, rfl⟩ := list6 (hlen.trans rfl)
 have e3 : Try.prog.cellsOf 3 = 1 := by kernel_rfl
 have e9 : Try.prog.cellsOf 9 = 1 := by kernel_rfl
 have e25 : Try.prog.cellsOf 25 = 4 := by kernel_rfl
 have e56 : Try.prog.cellsOf 56 = 1 := by kernel_rfl
 have e23 : Try.prog.cellsOf 23 = 1 := by kernel_rfl
 have t0 : DataW.trod enc Try.prog W base sp held n 3 [v0] = some y0 := by simpa [e3] using hf 0 _ rfl
 have t1 : DataW.trod enc Try.prog W base sp held n 25 [v1, v2, v3, v4] = some y1 := by simpa [e25] using hf 1 _ rfl
 have t2 : DataW.trod enc Try.prog W base sp held n 9 [v5] = some y2 := by simpa [e9] using hf 2 _ rfl
 have t3 : DataW.trod enc Try.prog W base sp held n 9 [v6] = some y3 := by simpa [e9] using hf 3 _ rfl
 have t4 : DataW.trod enc Try.prog W base sp held n 56 [v7] = some y4 := by simpa [e56] using hf 4 _ rfl
 have t5 : DataW.trod enc Try.prog W base sp held n 3 [v8] = some y5 := by simpa [e3] using hf 5 _ rfl
 obtain ⟨z0, z1, z2, z3, m, _, _, u0, u1, u2, u3⟩ := Go.Joins.trod_struct4 Try.underlying25 t1
 have u0' : DataW.trod enc Try.prog W base sp held m 9 [v1] = some z0 := by simpa [e9] using u0
 have u1' : DataW.trod enc Try.prog W base sp held m 3 [v2] = some z1 := by simpa [e3] using u1
 have u2' : DataW.trod enc Try.prog W base sp held m 3 [v3] = some z2 := by simpa [e3] using u2
 have u3' : DataW.trod enc Try.prog W base sp held m 23 [v4] = some z3 := by simpa [e23] using u3
 obtain ⟨i, hi, _, wi⟩ := DataW.trod_int Try.underlying3 t0
 obtain ⟨s1, hs1, _, _⟩ := DataW.trod_string Try.underlying9 u0'
 obtain ⟨i1, hi1, _, wi1⟩ := DataW.trod_int Try.underlying3 u1'
 obtain ⟨i2, hi2, _, wi2⟩ := DataW.trod_int Try.underlying3 u2'
 obtain ⟨A4, c4, l4, hv4, hc4, hC4, hb4⟩ := Bjd u3'
 obtain ⟨s2, hs2, _, _⟩ := DataW.trod_string Try.underlying9 t2
 obtain ⟨s3, hs3, _, _⟩ := DataW.trod_string Try.underlying9 t3
 obtain ⟨A7, c7, l7, hv7, hc7, hC7, hb7⟩ := Bkh t4
 obtain ⟨i5, hi5, _, wi5⟩ := DataW.trod_int Try.underlying3 t5
 simp only [List.cons.injEq, and_true] at hi hs1 hi1 hi2 hv4 hs2 hs3 hv7 hi5
 exact ⟨⟨i, ⟨s1, i1, i2, l4⟩, s2, s3, l7, i5⟩, A4, c4, A7, c7, by rw [hi, hs1, hi1, hi2, hv4, hs2, hs3, hv7, hi5], hc4, hC4, hc7, hC7, hb4, hb7, wi, wi1, wi2, wi5⟩
end
end
section
open Go.ChangeShapes Go.WideShapes Go.ChangeAt
section
variable {H : Type} {enc : TypeId × Value → H} {W : World} {base : Nat} {sp : Nat → Bool} {held : Bool}
def Bv6 (d : S76) : Prop := (∀ n ∈ d.f1.f3, 0 ≤ n ∧ n < 256) ∧ (∀ n ∈ d.f4, (Lit.int .i64 n).wf = true) ∧ (Lit.int .i64 d.f0).wf = true ∧ (Lit.int .i64 d.f1.f1).wf = true ∧ (Lit.int .i64 d.f1.f2).wf = true ∧ (Lit.int .i64 d.f5).wf = true
theorem Bjc {fuel : Nat} {cs : List Value} {x : DataW H × List MemPlace} (h : DataW.trod enc Try.prog W base sp held fuel 54 cs = some x) :
 ∃ (A : Option Addr) (cap : Nat) (xs : List S76), cs = [.slice A xs.length cap] ∧ xs.length ≤ cap ∧ k76.C W A xs.length xs ∧ ∀ y ∈ xs, Bv6 y := by
 rcases Go.Deep.open_slice Try.underlying54 h with ⟨rfl, _⟩ | ⟨a, l, c, m, n, D, Pl, rfl, _, hl, hm, hmm, _, hx⟩
 · exact ⟨none, 0, [], rfl, Nat.le_refl _, Kd.C_nil _ _, by simp⟩
 · have hlm : l ≤ m := by rw [hmm]; split <;> omega
   have hl63 : l ≤ 9223372036854775807 := by have : c ≤ 9223372036854775807 := hm; omega
   have ce : Try.prog.cellsOf 76 = 9 := by kernel_rfl
   have each : ∀ i, i < l → ∃ q : S76 × List Value, (∀ j u, q.2[j]? = some u → W.cell? (a.add (i * 9 + j)) = some u) ∧ k76.K W q.1 q.2 ∧ Bv6 q.1 := by
    intro i hi
    obtain ⟨cs', h1, h2⟩ := hx i (by omega)
    rw [ce] at h1
    obtain ⟨_, hlen, hcell⟩ := World.cells?_some h1
    obtain ⟨d, A4, c4, A7, c7, rfl, hc4, hC4, hc7, hC7, hrest⟩ := Bki h2
    refine ⟨(d, _), fun j u hj => ?_, k76_mk W d hc4 hC4 hc7 hC7, hrest⟩
    have hjl : j < 9 := by
     have := (List.getElem?_eq_some_iff.1 hj).1
     exact this
    have := hcell j hjl
    rw [Go.Deep.add_add] at this
    rw [this]
    exact hj
   haveI : Inhabited S76 := ⟨z76⟩
   obtain ⟨q, hq⟩ := Go.Deep.choose_lt each
   have hlen : ((List.range l).map fun i => (q i).1).length = l := by simp
   refine ⟨some a, c, (List.range l).map fun i => (q i).1, by rw [hlen], by omega, ?_, ?_⟩
   · rw [hlen]
     refine ⟨hlen, hl63, fun _ => ⟨a, rfl, fun j p hj => ?_⟩⟩
     have hjl : j < l := by
      have := (List.getElem?_eq_some_iff.1 hj).1
      rwa [hlen] at this
     have hp : p = (q j).1 := by simpa [hjl] using hj.symm
     subst hp
     obtain ⟨g0, g1, _⟩ := hq j hjl
     exact ⟨(q j).2, k76.K_len g1, g1, g0⟩
   · intro y hy
     obtain ⟨i, hi, rfl⟩ := List.mem_map.1 hy
     exact (hq i (List.mem_range.1 hi)).2.2
def inDeeds (W : World) (A : Option Addr) (len cap : Nat) (xs : List S76) : Prop := len = xs.length ∧ xs.length ≤ cap ∧ k76.C W A xs.length xs ∧ ∀ y ∈ xs, Bv6 y
theorem in_deeds {A : Option Addr} {len cap : Nat} {d : DataW H} {p : List MemPlace} (h : DataW.Trod enc Try.prog W base sp held 54 (.slice A len cap) d p) : ∃ xs, inDeeds W A len cap xs := by
 obtain ⟨fuel, hf⟩ := h
 obtain ⟨A', c', xs, e1, e2, e3, e4⟩ := Bjc hf
 simp only [Value.cells, List.cons.injEq, Value.slice.injEq, and_true] at e1
 obtain ⟨rfl, rfl, rfl⟩ := e1
 exact ⟨xs, rfl, e2, e3, e4⟩
end
end
end Go.Proofs.Ytcgeioingikeeaa.P
