/- Cut out of this seat's own texts and of the words that the kit's print laid for it, by a program of this seat (wip/tools/shake.py): what the claim needs of them. -/
import Derived.Test.YtcgeioingikeeaaVr3
import Derived.Laws.StructEq
import Derived.Maps.Views
import Derived.Lib.SlBytesConst
import Derived.Lib.Strings
open Go.RowKit Go.Proofs.YtcgeioingikeeaaW.PrintWords Go.Proofs.YtcgeioingikeeaaW.PrintLast Go.Proofs.YtcgeioingikeeaaW.PrintMore
set_option linter.unusedSimpArgs false
set_option linter.unusedVariables false
set_option maxHeartbeats 16000000
set_option maxRecDepth 100000
namespace Go.Proofs.Ytcgeioingikeeaa.P
section
section
variable {B : Nat → Prop} {g : Nat} {s : SSt} {w : World} {name : ByteArray} {mv sv pv : Value}
def Aj8 (s : SSt) (name : ByteArray) : SSt × Int × List Int :=
 if (asked s).2 ≠ 0 then ((asked s).1, (asked s).2, []) else if (getT (Aq8 s) name).2 = true then ((asked s).1, 0, (getT (Aq8 s) name).1) else ((asked s).1, 4, [])
theorem RepAt.beside {s' : SSt} {w1 w2 : World} {b : Nat} (h : RepAt B g s w mv sv pv) (h1 : RepAt B g s' w1 mv sv pv) (hk : Axl g w w1) (hb : w.heap.size ≤ b) (h2 : ∀ k, k ≠ b → w2.heap[k]? = w1.heap[k]?) (e1 : s'.safe = s.safe) (e2 : s'.pend = s.pend) (e3 : s'.fails = s.fails) : RepAt B g s' w2 mv sv pv := by
 have hg := Ax7 h.blk
 refine h.upd (fun k hlt hkg => (h2 k (by omega)).trans (hk.2 k hlt hkg)) ?_ e1 e2 e3
 rw [h2 g (by omega)]
 exact h1.blk
theorem Bz1 (A : Option Addr) (n c : Nat) (b0 : Nat) (x : Value) (hb : w.heap[b0]? = some (.cells #[x] 23 (0, 0))) :
 Calls Try.prog 92 #[.slice A n c, .pointer (some ⟨b0, 0, none⟩)] w fun e w' => e = .returned (.int .i64 0) ∧ w' = w.setCell ⟨b0, 0, none⟩ (.slice A n c) := by
 have hc : w.cell? ⟨b0, 0, none⟩ = some x := by rw [cell_of_row w b0 _ _ 23 (0, 0) hb]; rfl
 have hf := Aq2 hb 0
 clear hb
 go_enter Try.func92, Try.ntmps92
 go_wp2
 go_ret
 exact ⟨rfl, rfl⟩
theorem Bq8 (h : Rep B g s w) (hf : Fit s) (hf1 : Fit (asked s).1) (hBw : Up B w.heap.size) :
 Calls Try.prog 68 #[.pointer (some ⟨g, 0, none⟩), .string name] w fun e w' => ∃ v, e = .returned (.tuple #[v, .int .i64 (Aj8 s name).2.1]) ∧ Kd.R (Kd.int .u8) 5 w' w.heap.size (fun _ => True) v (Aj8 s name).2.2 ∧ Rep B g (Aj8 s name).1 w' ∧ BelS B w w' := by
 obtain ⟨mv, sv, pv, h⟩ := h
 have H := Bvh h
 have HF := Bvh hf
 have HF1 := Bvh hf1
 have hg0 : g < w.heap.size := Ax7 h.blk
 clear h hf hf1
 have hw1 : Below w.heap.size w (w.alloc (.cells #[.slice none 0 0] 23)) := Aq4 (Below.refl _ _) _
 have hb1 : (w.alloc (.cells #[.slice none 0 0] 23)).heap[w.heap.size]? = some (.cells #[.slice none 0 0] 23 (0, 0)) := heap_alloc_new _ _
 have HW1 := Bvh hw1
 have HB1 := Bvh hb1
 clear hw1 hb1
 by_cases ha : (asked s).2 = 0
 · cases hok : (getT (Aq8 s) name).2
   · have hR : Aj8 s name = ((asked s).1, 4, []) := by unfold Aj8; rw [if_neg (by simp [ha]), if_neg (by simp [hok])]
     rw [hR]
     have HA := Bvh ha
     have HOK := Bvh hok
     clear hR ha hok
     go_enter Try.func68, Try.ntmps68
     go_wp2_with (go_at_call 69; refine (Bkl w.heap.size (H.out.below HW1.out) HF.out HF1.out (Up.le hBw HW1.out.size) HA.out HOK.out).mono ?_; rintro e w7 ⟨r, rfl, rfl, hr7, hb7, hk7⟩; have hcb : w7.cell? ⟨w.heap.size, 0, none⟩ = some (.slice none 0 0) := (by rw [cell_of_row w7 _ _ _ 23 (0, 0) (Aqt HB1.out hk7 (by omega))]; rfl); have HR7 := Bvh hr7; have HB7 := Bvh (Aqc (Aqk hBw HW1.out) hb7); clear hr7 hb7 hk7)
     go_ret2
     exact ⟨_, rfl, Kd.R_nil _ _ _ _ _, HR7.out, HB7.out⟩
   · have hR : Aj8 s name = ((asked s).1, 0, (getT (Aq8 s) name).1) := by unfold Aj8; rw [if_neg (by simp [ha]), if_pos hok]
     rw [hR]
     have HA := Bvh ha
     have HOK := Bvh hok
     have HAS := Bvh (Bqw ha)
     clear hR ha hok
     have hcall : Calls Try.prog 69 #[.pointer (some ⟨g, 0, none⟩), .string name, (.func (.func 92) #[] #[.pointer (some ⟨w.heap.size, 0, none⟩)])] (w.alloc (.cells #[.slice none 0 0] 23)) fun e w' => ∃ r, e = .returned (.int .i64 r) ∧ (r = 0 ∧ Rep B g (asked s).1 w' ∧ BelS B (w.alloc (.cells #[.slice none 0 0] 23)) w' ∧ ∃ A n c, w'.cell? ⟨w.heap.size, 0, none⟩ = some (.slice A n c) ∧ Kd.R (Kd.int .u8) 5 w' w.heap.size (fun _ => True) (.slice A n c) (getT (Aq8 s) name).1) := by
      refine of_ok92 w.heap.size (fun r w' => r = 0 ∧ Rep B g (asked s).1 w' ∧ BelS B (w.alloc (.cells #[.slice none 0 0] 23)) w' ∧ ∃ A n c, w'.cell? ⟨w.heap.size, 0, none⟩ = some (.slice A n c) ∧ Kd.R (Kd.int .u8) 5 w' w.heap.size (fun _ => True) (.slice A n c) (getT (Aq8 s) name).1) (H.out.below HW1.out) HF.out HF1.out (Up.le hBw HW1.out.size) HA.out HOK.out ?_
      intro w1 v hr1 hb1 hk1 hv
      have hbk := Aqt HB1.out hk1 (by omega)
      obtain ⟨A, c, rfl⟩ := Kd.R_slice hv
      refine (Bz1 A _ c w.heap.size _ hbk).mono ?_
      rintro e w2 ⟨rfl, rfl⟩
      have hset := Axb hbk 0 (.slice A (getT (Aq8 s) name).1.length c)
      refine ⟨0, rfl, rfl, ⟨mv, sv, pv, ?_⟩, Aqz hb1 (hBw _ (Nat.le_refl _)) 0 _, A, (getT (Aq8 s) name).1.length, c, ?_, ?_⟩
      · exact H.out.beside hr1 ((Axl.of_below HW1.out).trans hk1) (Nat.le_refl _) (fun k hk => Below.heap_setCell _ _ _ _ hk) (by rw [HAS.out]) (by rw [HAS.out]) (by rw [HAS.out])
      · rw [cell_of_row _ _ _ _ 23 (0, 0) hset]; rfl
      · exact Kd.R_set (Kd.R_lower hv HW1.out.size) hbk (by decide) 0 _
     have HC := Bvh hcall
     clear hcall
     go_enter Try.func68, Try.ntmps68
     go_wp2_with (go_at_call 69; refine (Aside0.out HC).mono ?_; rintro e w7 ⟨r, rfl, rfl, hr7, hb7, A7, n7, c7, hc7, hv7⟩; have HR7 := Bvh hr7; have HB7 := Bvh (Aqc (Aqk hBw HW1.out) hb7); have HV7 := Bvh hv7; clear hr7 hb7 hv7)
     go_ret2
     exact ⟨_, rfl, HV7.out, HR7.out, HB7.out⟩
 · have hR : Aj8 s name = ((asked s).1, (asked s).2, []) := by unfold Aj8; rw [if_pos ha]
   rw [hR]
   have HA := Bvh ha
   clear hR ha
   go_enter Try.func68, Try.ntmps68
   go_wp2_with (go_at_call 69; refine (of_err92 w.heap.size ⟨mv, sv, pv, H.out.below HW1.out⟩ HF.out (Up.le hBw HW1.out.size) HA.out).mono ?_; rintro e w7 ⟨r, rfl, rfl, hr7, hb7, hk7⟩; have hcb : w7.cell? ⟨w.heap.size, 0, none⟩ = some (.slice none 0 0) := (by rw [cell_of_row w7 _ _ _ 23 (0, 0) (Aqt HB1.out hk7 (by omega))]; rfl); have HR7 := Bvh hr7; have HB7 := Bvh (Aqc (Aqk hBw HW1.out) hb7); clear hr7 hb7 hk7)
   go_ret2
   exact ⟨_, rfl, Kd.R_nil _ _ _ _ _, HR7.out, HB7.out⟩
end
end
section
theorem Az5 (i : Nat) (h : i < 4611686018427387904) : wrap64 ((i : Int) + 1) = ((i + 1 : Nat) : Int) := by unfold wrap64; omega
theorem rd_at (l : List S38) (j : Nat) (h : j < l.length) : Aqf l (j : Int) = l[j] := by simp [Aqf, h, List.getD]
end
section
def getL (l : List S38) (n : ByteArray) : List Int × Bool := match l.find? (Ax8 n) with | some x => (x.f1, true) | none => ([], false)
theorem Bku {l : List S38} {n : ByteArray} {x : S38} (h : l.find? (Ax8 n) = some x) : getL l n = (x.f1, true) := by unfold getL; rw [h]
end
section
attribute [local go_sem] Axk Axr Az3 Az7 Axj Axi Axz Axy
def Aq9.l0 : Nat → List (S38) → ByteArray → Int → Option (List Int × Bool)
 | 0, _, _, _ => none
 | k + 1, x0, x1, x6 => if x6 < (x0.length : Int) then (if 0 ≤ x6 then (if ((Aqf x0 x6).f0).toList = x1.toList then (some ((Aqf x0 x6).f1, true)) else (Aq9.l0 k x0 x1 (wrap64 (x6 + 1)))) else (none)) else (some (([] : List Int), false))
def Aq9.f (k : Nat) (l0 : List (S38)) (a1 : ByteArray) : Option (List Int × Bool) := Aq9.l0 k l0 a1 0
theorem Aq9.mono_l : ∀ k, (∀ y0 y1 y2, LeO (Aq9.l0 k y0 y1 y2) (Aq9.l0 (k + 1) y0 y1 y2))
 | 0 => fun _ _ _ r h => by simp [Aq9.l0] at h
 | k + 1 => by
   have ih0 := Aq9.mono_l k
   · intro y0 y1 y2
     unfold Aq9.l0
     repeat' first
     | (with_reducible exact ih0 _ _ _)
     | (with_reducible exact LeO.refl _)
     | (with_reducible exact LeO.none _)
     | (with_reducible refine LeO.ite ?_ ?_)
     | (with_reducible refine LeO.bind ?_ (fun _ => ?_))
     | exact ih0 _ _ _
     | exact LeO.none _
     | refine LeO.ite ?_ ?_
     | refine LeO.bind ?_ (fun _ => ?_)
theorem Aq9.mono : ∀ a0 a1 k, LeO (Aq9.f k a0 a1) (Aq9.f (k + 1) a0 a1) := by
 intro a0 a1 k
 have ih0 := Aq9.mono_l k
 unfold Aq9.f
 repeat' first
  | (with_reducible exact ih0 _ _ _)
  | (with_reducible exact LeO.refl _)
  | (with_reducible exact LeO.none _)
  | (with_reducible refine LeO.ite ?_ ?_)
  | (with_reducible refine LeO.bind ?_ (fun _ => ?_))
  | exact ih0 _ _ _
  | exact LeO.none _
  | refine LeO.ite ?_ ?_
  | refine LeO.bind ?_ (fun _ => ?_)
theorem Aq9.calls (k : Nat) (P0_ : Nat → Prop) (A0 : Option Addr) (c0 : Nat) (l0 : List (S38)) (a1 : ByteArray) (r1 : List Int) (r2 : Bool) (w : World) (hs0 : Kd.V k38 38 w w.heap.size (fun k_ => P0_ k_) (.slice A0 l0.length c0) l0) (h : Aq9.f k l0 a1 = some (r1, r2)) :
 Calls Try.prog 30 #[.slice A0 l0.length c0, .string a1] w fun e w' => ∃ v0_ : Value, e = .returned (.tuple #[v0_, .bool r2]) ∧ Kd.V (Kd.int .u8) 5 w' w.heap.size (fun k_ => (P0_ k_ ∨ w.heap.size ≤ k_)) v0_ r1 ∧ Below w.heap.size w w' := by
 have HO0 := Bvh (show Kd.V k38 38 w w.heap.size (fun k_ => (P0_ k_ ∨ w.heap.size ≤ k_)) (.slice A0 l0.length c0) l0 from Kd.V_mono hs0 (fun k_ hk => .inl hk))
 have HB := Bvh (Below.refl w.heap.size w)
 have H : (Aq9.l0 k l0 a1 0) = some (r1, r2) := h
 clear h
 have H' := Bvh H
 clear H
 go_enter Try.func30, Try.ntmps30
 go_wp2
 go_loopg [6] k (fun kq v6 w' => ∃ (x6_1 : Int), v6 = .int .i64 x6_1 ∧ Aside0 (Aq9.l0 kq l0 a1 x6_1 = some (r1, r2)) ∧ Aside0 (kq ≤ k) ∧ Aside0 (Kd.V k38 38 w' w.heap.size (fun k_ => (P0_ k_ ∨ w.heap.size ≤ k_)) (.slice A0 l0.length c0) l0) ∧ Aside0 (Below w.heap.size w w'))
 case atStart => exact ⟨(0), rfl, H', ⟨Nat.le_refl _⟩, HO0, HB⟩
 case round =>
  clear H'
  obtain ⟨x6_1, rfl, HA, HK1, HO_0, HB⟩ := hrel
  cases gk with
  | zero => exact absurd HA.out (by simp [Aq9.l0])
  | succ k1 =>
    have H := HA.out
    clear HA
    simp only [Aq9.l0] at H
    by_cases c3 : x6_1 < (l0.length : Int)
    · rw [if_pos c3] at H
      have c3b0 : decide (x6_1 < (l0.length : Int)) = true := decide_eq_true c3
      clear c3
      by_cases c4 : 0 ≤ x6_1
      · rw [if_pos c4] at H
        have c4b0 : decide (0 ≤ x6_1) = true := decide_eq_true c4
        clear c4
        by_cases c5 : ((Aqf l0 x6_1).f0).toList = a1.toList
        · rw [if_pos c5] at H
          have c5b0 : (((Aqf l0 x6_1).f0).toList == a1.toList) = true := beq_iff_eq.mpr c5
          have c5b1 : (((Aqf l0 x6_1).f0).toList != a1.toList) = false := bne_eq_false_iff_eq.mpr c5
          clear c5
          simp only [Option.some.injEq, Prod.mk.injEq] at H
          obtain ⟨rfl, rfl⟩ := H
          have p132 : 0 ≤ (x6_1 : Int) := of_decide_eq_true (by first | (with_reducible assumption) | assumption)
          have q132 : x6_1 < (l0.length : Int) := of_decide_eq_true (by first | (with_reducible assumption) | assumption)
          obtain ⟨ad132, A132_1, c132_1, e132, hx132_0, hx132_1, hl132_1, hi132_1⟩ := Azf (Kd.V_reads' HO_0.out).2.2 x6_1 p132 q132
          cases e132
          obtain ⟨ce132, hce132, hMe132, hcc132⟩ := Kd.V_get HO_0.out z38 x6_1 p132 (by first | exact q132 | exact of_decide_eq_true (by first | (with_reducible assumption) | assumption) | (have e_ := (Kd.V_reads' HO_0.out).1; omega))
          obtain ⟨ua132_1, uc132_1, rfl, ul132_1, ge132_1⟩ := Azv hMe132
          have hv132_1 := hcc132 1 _ rfl
          rw [Ax3 _ _ 1 (by omega)] at hv132_1
          replace hv132_1 := Option.some.inj (hv132_1.symm.trans hx132_1)
          injection hv132_1 with hva_ hvn_ hvc_
          rw [hva_] at ge132_1
          rw [hvc_] at ul132_1
          have HL132_1 := Bvh (show Kd.V (Kd.int .u8) 5 _ w.heap.size _ _ ((Aqf l0 x6_1).f1) from Kd.V_mk ul132_1 ge132_1)
          clear hva_ hvn_ hvc_ ge132_1 ul132_1
          clear hcc132 hce132
          have HR132_1 := Bvh hi132_1
          have HC132_1 := Bvh hl132_1
          clear hi132_1 hl132_1
          replace p132 := eq_true p132
          replace q132 := eq_true q132
          have p133 : 0 ≤ (x6_1 : Int) := of_decide_eq_true (by first | (with_reducible assumption) | assumption)
          have q133 : x6_1 < (l0.length : Int) := of_decide_eq_true (by first | (with_reducible assumption) | assumption)
          obtain ⟨ad133, A133_1, c133_1, e133, hx133_0, hx133_1, hl133_1, hi133_1⟩ := Azf (Kd.V_reads' HO_0.out).2.2 x6_1 p133 q133
          obtain rfl : ad132 = ad133 := (by injection e133)
          obtain ⟨ce133, hce133, hMe133, hcc133⟩ := Kd.V_get HO_0.out z38 x6_1 p133 (by first | exact q133 | exact of_decide_eq_true (by first | (with_reducible assumption) | assumption) | (have e_ := (Kd.V_reads' HO_0.out).1; omega))
          obtain ⟨ua133_1, uc133_1, rfl, ul133_1, ge133_1⟩ := Azv hMe133
          have hv133_1 := hcc133 1 _ rfl
          rw [Ax3 _ _ 1 (by omega)] at hv133_1
          replace hv133_1 := Option.some.inj (hv133_1.symm.trans hx133_1)
          injection hv133_1 with hva_ hvn_ hvc_
          rw [hva_] at ge133_1
          rw [hvc_] at ul133_1
          have HL133_1 := Bvh (show Kd.V (Kd.int .u8) 5 _ w.heap.size _ _ ((Aqf l0 x6_1).f1) from Kd.V_mk ul133_1 ge133_1)
          clear hva_ hvn_ hvc_ ge133_1 ul133_1
          clear hcc133 hce133
          have HR133_1 := Bvh hi133_1
          have HC133_1 := Bvh hl133_1
          clear hi133_1 hl133_1
          replace p133 := eq_true p133
          replace q133 := eq_true q133
          have ea_ := Option.some.inj (hx132_1.symm.trans hx133_1)
          injection ea_ with ea_ en_ ec_
          subst ea_
          subst ec_
          clear en_
          go_wp2
          go_ret2
          exact ⟨_, by first | rfl | (simp [Aqj, Aqi] <;> rfl) | (simp [*, Aqj, Aqi] <;> rfl), by exact HL133_1.out, by exact HB.out⟩
        · rw [if_neg c5] at H
          have c5b0 : (((Aqf l0 x6_1).f0).toList == a1.toList) = false := beq_eq_false_iff_ne.mpr c5
          have c5b1 : (((Aqf l0 x6_1).f0).toList != a1.toList) = true := bne_iff_ne.mpr c5
          have H' := Bvh H
          clear H
          have p132 : 0 ≤ (x6_1 : Int) := of_decide_eq_true (by first | (with_reducible assumption) | assumption)
          have q132 : x6_1 < (l0.length : Int) := of_decide_eq_true (by first | (with_reducible assumption) | assumption)
          obtain ⟨ad132, A132_1, c132_1, e132, hx132_0, hx132_1, hl132_1, hi132_1⟩ := Azf (Kd.V_reads' HO_0.out).2.2 x6_1 p132 q132
          cases e132
          obtain ⟨ce132, hce132, hMe132, hcc132⟩ := Kd.V_get HO_0.out z38 x6_1 p132 (by first | exact q132 | exact of_decide_eq_true (by first | (with_reducible assumption) | assumption) | (have e_ := (Kd.V_reads' HO_0.out).1; omega))
          obtain ⟨ua132_1, uc132_1, rfl, ul132_1, ge132_1⟩ := Azv hMe132
          have hv132_1 := hcc132 1 _ rfl
          rw [Ax3 _ _ 1 (by omega)] at hv132_1
          replace hv132_1 := Option.some.inj (hv132_1.symm.trans hx132_1)
          injection hv132_1 with hva_ hvn_ hvc_
          rw [hva_] at ge132_1
          rw [hvc_] at ul132_1
          have HL132_1 := Bvh (show Kd.V (Kd.int .u8) 5 _ w.heap.size _ _ ((Aqf l0 x6_1).f1) from Kd.V_mk ul132_1 ge132_1)
          clear hva_ hvn_ hvc_ ge132_1 ul132_1
          clear hcc132 hce132
          have HR132_1 := Bvh hi132_1
          have HC132_1 := Bvh hl132_1
          clear hi132_1 hl132_1
          replace p132 := eq_true p132
          replace q132 := eq_true q132
          go_wp2
          go_roundg k1
          case measure => have := HK1.out; omega
          case rel => exact ⟨(wrap64 (x6_1 + 1)), rfl, H', ⟨by have := HK1.out; omega⟩, HO_0, HB⟩
      · rw [if_neg c4] at H
        exact absurd H (by simp)
    · rw [if_neg c3] at H
      have c3b0 : decide (x6_1 < (l0.length : Int)) = false := decide_eq_false c3
      clear c3
      simp only [Option.some.injEq, Prod.mk.injEq] at H
      obtain ⟨rfl, rfl⟩ := H
      go_wp2
      go_ret2
      exact ⟨_, by first | rfl | (simp [Aqj, Aqi] <;> rfl) | (simp [*, Aqj, Aqi] <;> rfl), Kd.V_nil _ _ _ _ _, by exact HB.out⟩
end
section
attribute [local go_sem] Axk Axr Az3 Az7 Axj Axi Axz Axy
def Aqy.l0 : Nat → List (S38) → List (S38) → Int → Option (Bool)
 | 0, _, _, _ => none
 | k + 1, x0, x1, x5 => if x5 < (x0.length : Int) then (if 0 ≤ x5 then (if x5 < (x1.length : Int) then (if ((Aqf x0 x5).f0).toList = ((Aqf x1 x5).f0).toList then (if (strOfNums ((Aqf x0 x5).f1)).toList = (strOfNums ((Aqf x1 x5).f1)).toList then (Aqy.l0 k x0 x1 (wrap64 (x5 + 1))) else (some false)) else (some false)) else (none)) else (none)) else (some true)
def Aqy.f (k : Nat) (l0 : List (S38)) (l1 : List (S38)) : Option (Bool) := if (l0.length : Int) = (l1.length : Int) then (Aqy.l0 k l0 l1 0) else (some false)
theorem Aqy.calls (k : Nat) (A0 : Option Addr) (c0 : Nat) (l0 : List (S38)) (A1 : Option Addr) (c1 : Nat) (l1 : List (S38)) (r : Bool) (w : World) (hr0 : Kd.C k38 w A0 l0.length l0) (hc0 : l0.length ≤ c0) (hr1 : Kd.C k38 w A1 l1.length l1) (hc1 : l1.length ≤ c1) (h : Aqy.f k l0 l1 = some r) :
 Calls Try.prog 20 #[.slice A0 l0.length c0, .slice A1 l1.length c1] w fun e w' => e = .returned (.bool r) ∧ Axa w w' := by
 have HR0 := Bvh hr0
 have HC0 := Bvh hc0
 clear hr0 hc0
 have HR1 := Bvh hr1
 have HC1 := Bvh hc1
 clear hr1 hc1
 have H : (if (l0.length : Int) = (l1.length : Int) then (Aqy.l0 k l0 l1 0) else (some false)) = some r := h
 clear h
 by_cases c3 : (l0.length : Int) = (l1.length : Int)
 · rw [if_pos c3] at H
   have c3b0 : ((l0.length : Int) == (l1.length : Int)) = true := beq_iff_eq.mpr c3
   have c3b1 : ((l0.length : Int) != (l1.length : Int)) = false := bne_eq_false_iff_eq.mpr c3
   have c3b2 : (l0.length == l1.length) = true := by first | simpa using c3 | (simp at c3 ⊢; omega)
   clear c3
   have H' := Bvh H
   clear H
   go_enter Try.func20, Try.ntmps20
   go_wp2
   repeat (go_quiet (fail); try go_wp2)
   go_loopg [5] k (fun kq v5 w' => ∃ (x5_1 : Int), v5 = .int .i64 x5_1 ∧ Aside0 (Aqy.l0 kq l0 l1 x5_1 = some r) ∧ Aside0 (kq ≤ k) ∧ Axa w w')
   case atStart => exact ⟨(0), rfl, H', ⟨Nat.le_refl _⟩, by repeat (first | exact Axa.refl _ | apply Axa.step)⟩
   case round =>
    clear H'
    obtain ⟨x5_1, rfl, HA, HK1, ⟨m1, rfl⟩⟩ := hrel
    cases gk with
    | zero => exact absurd HA.out (by simp [Aqy.l0])
    | succ k1 =>
      have H := HA.out
      clear HA
      simp only [Aqy.l0] at H
      by_cases c4 : x5_1 < (l0.length : Int)
      · rw [if_pos c4] at H
        have c4b0 : decide (x5_1 < (l0.length : Int)) = true := decide_eq_true c4
        clear c4
        by_cases c5 : 0 ≤ x5_1
        · rw [if_pos c5] at H
          have c5b0 : decide (0 ≤ x5_1) = true := decide_eq_true c5
          clear c5
          by_cases c6 : x5_1 < (l1.length : Int)
          · rw [if_pos c6] at H
            have c6b0 : decide (x5_1 < (l1.length : Int)) = true := decide_eq_true c6
            clear c6
            by_cases c7 : ((Aqf l0 x5_1).f0).toList = ((Aqf l1 x5_1).f0).toList
            · rw [if_pos c7] at H
              have c7b0 : (((Aqf l0 x5_1).f0).toList == ((Aqf l1 x5_1).f0).toList) = true := beq_iff_eq.mpr c7
              have c7b1 : (((Aqf l0 x5_1).f0).toList != ((Aqf l1 x5_1).f0).toList) = false := bne_eq_false_iff_eq.mpr c7
              clear c7
              by_cases c8 : (strOfNums ((Aqf l0 x5_1).f1)).toList = (strOfNums ((Aqf l1 x5_1).f1)).toList
              · rw [if_pos c8] at H
                have c8b0 : ((strOfNums ((Aqf l0 x5_1).f1)).toList == (strOfNums ((Aqf l1 x5_1).f1)).toList) = true := beq_iff_eq.mpr c8
                have c8b1 : ((strOfNums ((Aqf l0 x5_1).f1)).toList != (strOfNums ((Aqf l1 x5_1).f1)).toList) = false := bne_eq_false_iff_eq.mpr c8
                clear c8
                have H' := Bvh H
                clear H
                have p159 : 0 ≤ (x5_1 : Int) := of_decide_eq_true (by first | (with_reducible assumption) | assumption)
                have q159 : x5_1 < (l0.length : Int) := of_decide_eq_true (by first | (with_reducible assumption) | assumption)
                obtain ⟨ad159, A159_1, c159_1, e159, hx159_0, hx159_1, hl159_1, hi159_1⟩ := Azf HR0.out x5_1 p159 q159
                cases e159
                have HR159_1 := Bvh hi159_1
                have HC159_1 := Bvh hl159_1
                clear hi159_1 hl159_1
                replace p159 := eq_true p159
                replace q159 := eq_true q159
                have p160 : 0 ≤ (x5_1 : Int) := of_decide_eq_true (by first | (with_reducible assumption) | assumption)
                have q160 : x5_1 < (l1.length : Int) := of_decide_eq_true (by first | (with_reducible assumption) | assumption)
                obtain ⟨ad160, A160_1, c160_1, e160, hx160_0, hx160_1, hl160_1, hi160_1⟩ := Azf HR1.out x5_1 p160 q160
                cases e160
                have HR160_1 := Bvh hi160_1
                have HC160_1 := Bvh hl160_1
                clear hi160_1 hl160_1
                replace p160 := eq_true p160
                replace q160 := eq_true q160
                have p161 : 0 ≤ (x5_1 : Int) := of_decide_eq_true (by first | (with_reducible assumption) | assumption)
                have q161 : x5_1 < (l0.length : Int) := of_decide_eq_true (by first | (with_reducible assumption) | assumption)
                obtain ⟨ad161, A161_1, c161_1, e161, hx161_0, hx161_1, hl161_1, hi161_1⟩ := Azf HR0.out x5_1 p161 q161
                obtain rfl : ad159 = ad161 := (by injection e161)
                have HR161_1 := Bvh hi161_1
                have HC161_1 := Bvh hl161_1
                clear hi161_1 hl161_1
                replace p161 := eq_true p161
                replace q161 := eq_true q161
                have ea_ := Option.some.inj (hx159_1.symm.trans hx161_1)
                injection ea_ with ea_ en_ ec_
                subst ea_
                subst ec_
                clear en_
                (have hcv9 := Kd.C_string (P := Try.prog) (A := A159_1) (c := c159_1) Try.underlying23 Try.underlying5 Try.underlying9 HR161_1.out); (have hcv9b := fun n_ : Nat => Kd.C_string (P := Try.prog) (A := A159_1) (c := c159_1) Try.underlying23 Try.underlying5 Try.underlying9 (Kd.C_drewN HR161_1.out n_)); (try simp only [World.drewN_drewN] at hcv9b)
                have p162 : 0 ≤ (x5_1 : Int) := of_decide_eq_true (by first | (with_reducible assumption) | assumption)
                have q162 : x5_1 < (l1.length : Int) := of_decide_eq_true (by first | (with_reducible assumption) | assumption)
                obtain ⟨ad162, A162_1, c162_1, e162, hx162_0, hx162_1, hl162_1, hi162_1⟩ := Azf HR1.out x5_1 p162 q162
                obtain rfl : ad160 = ad162 := (by injection e162)
                have HR162_1 := Bvh hi162_1
                have HC162_1 := Bvh hl162_1
                clear hi162_1 hl162_1
                replace p162 := eq_true p162
                replace q162 := eq_true q162
                have ea_ := Option.some.inj (hx160_1.symm.trans hx162_1)
                injection ea_ with ea_ en_ ec_
                subst ea_
                subst ec_
                clear en_
                (have hcv10 := Kd.C_string (P := Try.prog) (A := A160_1) (c := c160_1) Try.underlying23 Try.underlying5 Try.underlying9 HR162_1.out); (have hcv10b := fun n_ : Nat => Kd.C_string (P := Try.prog) (A := A160_1) (c := c160_1) Try.underlying23 Try.underlying5 Try.underlying9 (Kd.C_drewN HR162_1.out n_)); (try simp only [World.drewN_drewN] at hcv10b)
                go_wp2
                repeat (go_quiet (fail); try go_wp2)
                go_roundg k1
                case measure => have := HK1.out; omega
                case rel => exact ⟨(wrap64 (x5_1 + 1)), rfl, H', ⟨by have := HK1.out; omega⟩, by repeat (first | exact Axa.refl _ | apply Axa.step)⟩
              · rw [if_neg c8] at H
                have c8b0 : ((strOfNums ((Aqf l0 x5_1).f1)).toList == (strOfNums ((Aqf l1 x5_1).f1)).toList) = false := beq_eq_false_iff_ne.mpr c8
                have c8b1 : ((strOfNums ((Aqf l0 x5_1).f1)).toList != (strOfNums ((Aqf l1 x5_1).f1)).toList) = true := bne_iff_ne.mpr c8
                obtain rfl := Option.some.inj H
                have p159 : 0 ≤ (x5_1 : Int) := of_decide_eq_true (by first | (with_reducible assumption) | assumption)
                have q159 : x5_1 < (l0.length : Int) := of_decide_eq_true (by first | (with_reducible assumption) | assumption)
                obtain ⟨ad159, A159_1, c159_1, e159, hx159_0, hx159_1, hl159_1, hi159_1⟩ := Azf HR0.out x5_1 p159 q159
                cases e159
                have HR159_1 := Bvh hi159_1
                have HC159_1 := Bvh hl159_1
                clear hi159_1 hl159_1
                replace p159 := eq_true p159
                replace q159 := eq_true q159
                have p160 : 0 ≤ (x5_1 : Int) := of_decide_eq_true (by first | (with_reducible assumption) | assumption)
                have q160 : x5_1 < (l1.length : Int) := of_decide_eq_true (by first | (with_reducible assumption) | assumption)
                obtain ⟨ad160, A160_1, c160_1, e160, hx160_0, hx160_1, hl160_1, hi160_1⟩ := Azf HR1.out x5_1 p160 q160
                cases e160
                have HR160_1 := Bvh hi160_1
                have HC160_1 := Bvh hl160_1
                clear hi160_1 hl160_1
                replace p160 := eq_true p160
                replace q160 := eq_true q160
                have p161 : 0 ≤ (x5_1 : Int) := of_decide_eq_true (by first | (with_reducible assumption) | assumption)
                have q161 : x5_1 < (l0.length : Int) := of_decide_eq_true (by first | (with_reducible assumption) | assumption)
                obtain ⟨ad161, A161_1, c161_1, e161, hx161_0, hx161_1, hl161_1, hi161_1⟩ := Azf HR0.out x5_1 p161 q161
                obtain rfl : ad159 = ad161 := (by injection e161)
                have HR161_1 := Bvh hi161_1
                have HC161_1 := Bvh hl161_1
                clear hi161_1 hl161_1
                replace p161 := eq_true p161
                replace q161 := eq_true q161
                have ea_ := Option.some.inj (hx159_1.symm.trans hx161_1)
                injection ea_ with ea_ en_ ec_
                subst ea_
                subst ec_
                clear en_
                (have hcv11 := Kd.C_string (P := Try.prog) (A := A159_1) (c := c159_1) Try.underlying23 Try.underlying5 Try.underlying9 HR161_1.out); (have hcv11b := fun n_ : Nat => Kd.C_string (P := Try.prog) (A := A159_1) (c := c159_1) Try.underlying23 Try.underlying5 Try.underlying9 (Kd.C_drewN HR161_1.out n_)); (try simp only [World.drewN_drewN] at hcv11b)
                have p162 : 0 ≤ (x5_1 : Int) := of_decide_eq_true (by first | (with_reducible assumption) | assumption)
                have q162 : x5_1 < (l1.length : Int) := of_decide_eq_true (by first | (with_reducible assumption) | assumption)
                obtain ⟨ad162, A162_1, c162_1, e162, hx162_0, hx162_1, hl162_1, hi162_1⟩ := Azf HR1.out x5_1 p162 q162
                obtain rfl : ad160 = ad162 := (by injection e162)
                have HR162_1 := Bvh hi162_1
                have HC162_1 := Bvh hl162_1
                clear hi162_1 hl162_1
                replace p162 := eq_true p162
                replace q162 := eq_true q162
                have ea_ := Option.some.inj (hx160_1.symm.trans hx162_1)
                injection ea_ with ea_ en_ ec_
                subst ea_
                subst ec_
                clear en_
                (have hcv12 := Kd.C_string (P := Try.prog) (A := A160_1) (c := c160_1) Try.underlying23 Try.underlying5 Try.underlying9 HR162_1.out); (have hcv12b := fun n_ : Nat => Kd.C_string (P := Try.prog) (A := A160_1) (c := c160_1) Try.underlying23 Try.underlying5 Try.underlying9 (Kd.C_drewN HR162_1.out n_)); (try simp only [World.drewN_drewN] at hcv12b)
                go_wp2
                repeat (go_quiet (fail); try go_wp2)
                go_ret
                exact ⟨by first | rfl | (simp; done) | (simp [*]; done), by repeat (first | exact Axa.refl _ | apply Axa.step)⟩
            · rw [if_neg c7] at H
              have c7b0 : (((Aqf l0 x5_1).f0).toList == ((Aqf l1 x5_1).f0).toList) = false := beq_eq_false_iff_ne.mpr c7
              have c7b1 : (((Aqf l0 x5_1).f0).toList != ((Aqf l1 x5_1).f0).toList) = true := bne_iff_ne.mpr c7
              obtain rfl := Option.some.inj H
              have p159 : 0 ≤ (x5_1 : Int) := of_decide_eq_true (by first | (with_reducible assumption) | assumption)
              have q159 : x5_1 < (l0.length : Int) := of_decide_eq_true (by first | (with_reducible assumption) | assumption)
              obtain ⟨ad159, A159_1, c159_1, e159, hx159_0, hx159_1, hl159_1, hi159_1⟩ := Azf HR0.out x5_1 p159 q159
              cases e159
              have HR159_1 := Bvh hi159_1
              have HC159_1 := Bvh hl159_1
              clear hi159_1 hl159_1
              replace p159 := eq_true p159
              replace q159 := eq_true q159
              have p160 : 0 ≤ (x5_1 : Int) := of_decide_eq_true (by first | (with_reducible assumption) | assumption)
              have q160 : x5_1 < (l1.length : Int) := of_decide_eq_true (by first | (with_reducible assumption) | assumption)
              obtain ⟨ad160, A160_1, c160_1, e160, hx160_0, hx160_1, hl160_1, hi160_1⟩ := Azf HR1.out x5_1 p160 q160
              cases e160
              have HR160_1 := Bvh hi160_1
              have HC160_1 := Bvh hl160_1
              clear hi160_1 hl160_1
              replace p160 := eq_true p160
              replace q160 := eq_true q160
              go_wp2
              repeat (go_quiet (fail); try go_wp2)
              go_ret
              exact ⟨by first | rfl | (simp; done) | (simp [*]; done), by repeat (first | exact Axa.refl _ | apply Axa.step)⟩
          · rw [if_neg c6] at H
            exact absurd H (by simp)
        · rw [if_neg c5] at H
          exact absurd H (by simp)
      · rw [if_neg c4] at H
        have c4b0 : decide (x5_1 < (l0.length : Int)) = false := decide_eq_false c4
        clear c4
        obtain rfl := Option.some.inj H
        go_wp2
        repeat (go_quiet (fail); try go_wp2)
        go_ret
        exact ⟨by first | rfl | (simp; done) | (simp [*]; done), by repeat (first | exact Axa.refl _ | apply Axa.step)⟩
 · rw [if_neg c3] at H
   have c3b0 : ((l0.length : Int) == (l1.length : Int)) = false := beq_eq_false_iff_ne.mpr c3
   have c3b1 : ((l0.length : Int) != (l1.length : Int)) = true := bne_iff_ne.mpr c3
   have c3b2 : (l0.length == l1.length) = false := by first | simpa using c3 | (simp at c3 ⊢; omega)
   obtain rfl := Option.some.inj H
   go_enter Try.func20, Try.ntmps20
   go_wp2
   repeat (go_quiet (fail); try go_wp2)
   go_ret
   exact ⟨by first | rfl | (simp; done) | (simp [*]; done), by repeat (first | exact Axa.refl _ | apply Axa.step)⟩
end
section
attribute [local go_sem] Axk Axr Az3 Az7 Axj Axi Axz Axy
def Aqq.l0 : Nat → List ByteArray → List ByteArray → Int → Option (Bool)
 | 0, _, _, _ => none
 | k + 1, x0, x1, x5 => if x5 < (x0.length : Int) then (if 0 ≤ x5 then (if x5 < (x1.length : Int) then (if (rdOf ByteArray.empty x0 x5).toList = (rdOf ByteArray.empty x1 x5).toList then (Aqq.l0 k x0 x1 (wrap64 (x5 + 1))) else (some false)) else (none)) else (none)) else (some true)
def Aqq.f (k : Nat) (l0 : List ByteArray) (l1 : List ByteArray) : Option (Bool) := if (l0.length : Int) = (l1.length : Int) then (Aqq.l0 k l0 l1 0) else (some false)
theorem Aqq.calls (k : Nat) (A0 : Option Addr) (c0 : Nat) (l0 : List ByteArray) (A1 : Option Addr) (c1 : Nat) (l1 : List ByteArray) (r : Bool) (w : World) (hr0 : Kd.C Kd.string w A0 l0.length l0) (hc0 : l0.length ≤ c0) (hr1 : Kd.C Kd.string w A1 l1.length l1) (hc1 : l1.length ≤ c1) (h : Aqq.f k l0 l1 = some r) :
 Calls Try.prog 32 #[.slice A0 l0.length c0, .slice A1 l1.length c1] w fun e w' => e = .returned (.bool r) ∧ Axa w w' := by
 have HR0 := Bvh hr0
 have HC0 := Bvh hc0
 clear hr0 hc0
 have HR1 := Bvh hr1
 have HC1 := Bvh hc1
 clear hr1 hc1
 have H : (if (l0.length : Int) = (l1.length : Int) then (Aqq.l0 k l0 l1 0) else (some false)) = some r := h
 clear h
 by_cases c3 : (l0.length : Int) = (l1.length : Int)
 · rw [if_pos c3] at H
   have c3b0 : ((l0.length : Int) == (l1.length : Int)) = true := beq_iff_eq.mpr c3
   have c3b1 : ((l0.length : Int) != (l1.length : Int)) = false := bne_eq_false_iff_eq.mpr c3
   have c3b2 : (l0.length == l1.length) = true := by first | simpa using c3 | (simp at c3 ⊢; omega)
   clear c3
   have H' := Bvh H
   clear H
   go_enter Try.func32, Try.ntmps32
   go_wp2
   repeat (go_quiet (fail); try go_wp2)
   go_loopg [5] k (fun kq v5 w' => ∃ (x5_1 : Int), v5 = .int .i64 x5_1 ∧ Aside0 (Aqq.l0 kq l0 l1 x5_1 = some r) ∧ Aside0 (kq ≤ k) ∧ Axa w w')
   case atStart => exact ⟨(0), rfl, H', ⟨Nat.le_refl _⟩, by repeat (first | exact Axa.refl _ | apply Axa.step)⟩
   case round =>
    clear H'
    obtain ⟨x5_1, rfl, HA, HK1, ⟨m1, rfl⟩⟩ := hrel
    cases gk with
    | zero => exact absurd HA.out (by simp [Aqq.l0])
    | succ k1 =>
      have H := HA.out
      clear HA
      simp only [Aqq.l0] at H
      by_cases c4 : x5_1 < (l0.length : Int)
      · rw [if_pos c4] at H
        have c4b0 : decide (x5_1 < (l0.length : Int)) = true := decide_eq_true c4
        clear c4
        by_cases c5 : 0 ≤ x5_1
        · rw [if_pos c5] at H
          have c5b0 : decide (0 ≤ x5_1) = true := decide_eq_true c5
          clear c5
          by_cases c6 : x5_1 < (l1.length : Int)
          · rw [if_pos c6] at H
            have c6b0 : decide (x5_1 < (l1.length : Int)) = true := decide_eq_true c6
            clear c6
            by_cases c7 : (rdOf ByteArray.empty l0 x5_1).toList = (rdOf ByteArray.empty l1 x5_1).toList
            · rw [if_pos c7] at H
              have c7b0 : ((rdOf ByteArray.empty l0 x5_1).toList == (rdOf ByteArray.empty l1 x5_1).toList) = true := beq_iff_eq.mpr c7
              have c7b1 : ((rdOf ByteArray.empty l0 x5_1).toList != (rdOf ByteArray.empty l1 x5_1).toList) = false := bne_eq_false_iff_eq.mpr c7
              clear c7
              have H' := Bvh H
              clear H
              have p280 : 0 ≤ (x5_1 : Int) := of_decide_eq_true (by first | (with_reducible assumption) | assumption)
              have q280 : x5_1 < (l0.length : Int) := of_decide_eq_true (by first | (with_reducible assumption) | assumption)
              obtain ⟨ad280, e280, hx280_0⟩ := Kd.at_string HR0.out x5_1 p280 q280
              cases e280
              replace p280 := eq_true p280
              replace q280 := eq_true q280
              have p281 : 0 ≤ (x5_1 : Int) := of_decide_eq_true (by first | (with_reducible assumption) | assumption)
              have q281 : x5_1 < (l1.length : Int) := of_decide_eq_true (by first | (with_reducible assumption) | assumption)
              obtain ⟨ad281, e281, hx281_0⟩ := Kd.at_string HR1.out x5_1 p281 q281
              cases e281
              replace p281 := eq_true p281
              replace q281 := eq_true q281
              go_wp2
              repeat (go_quiet (fail); try go_wp2)
              go_roundg k1
              case measure => have := HK1.out; omega
              case rel => exact ⟨(wrap64 (x5_1 + 1)), rfl, H', ⟨by have := HK1.out; omega⟩, by repeat (first | exact Axa.refl _ | apply Axa.step)⟩
            · rw [if_neg c7] at H
              have c7b0 : ((rdOf ByteArray.empty l0 x5_1).toList == (rdOf ByteArray.empty l1 x5_1).toList) = false := beq_eq_false_iff_ne.mpr c7
              have c7b1 : ((rdOf ByteArray.empty l0 x5_1).toList != (rdOf ByteArray.empty l1 x5_1).toList) = true := bne_iff_ne.mpr c7
              obtain rfl := Option.some.inj H
              have p280 : 0 ≤ (x5_1 : Int) := of_decide_eq_true (by first | (with_reducible assumption) | assumption)
              have q280 : x5_1 < (l0.length : Int) := of_decide_eq_true (by first | (with_reducible assumption) | assumption)
              obtain ⟨ad280, e280, hx280_0⟩ := Kd.at_string HR0.out x5_1 p280 q280
              cases e280
              replace p280 := eq_true p280
              replace q280 := eq_true q280
              have p281 : 0 ≤ (x5_1 : Int) := of_decide_eq_true (by first | (with_reducible assumption) | assumption)
              have q281 : x5_1 < (l1.length : Int) := of_decide_eq_true (by first | (with_reducible assumption) | assumption)
              obtain ⟨ad281, e281, hx281_0⟩ := Kd.at_string HR1.out x5_1 p281 q281
              cases e281
              replace p281 := eq_true p281
              replace q281 := eq_true q281
              go_wp2
              repeat (go_quiet (fail); try go_wp2)
              go_ret
              exact ⟨by first | rfl | (simp; done) | (simp [*]; done), by repeat (first | exact Axa.refl _ | apply Axa.step)⟩
          · rw [if_neg c6] at H
            exact absurd H (by simp)
        · rw [if_neg c5] at H
          exact absurd H (by simp)
      · rw [if_neg c4] at H
        have c4b0 : decide (x5_1 < (l0.length : Int)) = false := decide_eq_false c4
        clear c4
        obtain rfl := Option.some.inj H
        go_wp2
        repeat (go_quiet (fail); try go_wp2)
        go_ret
        exact ⟨by first | rfl | (simp; done) | (simp [*]; done), by repeat (first | exact Axa.refl _ | apply Axa.step)⟩
 · rw [if_neg c3] at H
   have c3b0 : ((l0.length : Int) == (l1.length : Int)) = false := beq_eq_false_iff_ne.mpr c3
   have c3b1 : ((l0.length : Int) != (l1.length : Int)) = true := bne_iff_ne.mpr c3
   have c3b2 : (l0.length == l1.length) = false := by first | simpa using c3 | (simp at c3 ⊢; omega)
   obtain rfl := Option.some.inj H
   go_enter Try.func32, Try.ntmps32
   go_wp2
   repeat (go_quiet (fail); try go_wp2)
   go_ret
   exact ⟨by first | rfl | (simp; done) | (simp [*]; done), by repeat (first | exact Axa.refl _ | apply Axa.step)⟩
end
section
attribute [local go_sem] Axk Axr Az3 Az7 Axj Axi Axz Axy
def Aqx.l0 : Nat → List (S38) → List ByteArray → Int → Option (List ByteArray)
 | 0, _, _, _ => none
 | k + 1, x0, x3, x4 => if x4 < (x0.length : Int) then (if 0 ≤ x4 then (if x3.length < 8796093022208 then (Aqx.l0 k x0 (x3 ++ [(Aqf x0 x4).f0]) (wrap64 (x4 + 1))) else (none)) else (none)) else (some x3)
def Aqx.f (k : Nat) (l0 : List (S38)) : Option (List ByteArray) := Aqx.l0 k l0 ([] : List ByteArray) 0
theorem Aqx.calls (k : Nat) (A0 : Option Addr) (c0 : Nat) (l0 : List (S38)) (r : List ByteArray) (w : World) (hr0 : Kd.C k38 w A0 l0.length l0) (hc0 : l0.length ≤ c0) (h : Aqx.f k l0 = some r) :
 Calls Try.prog 34 #[.slice A0 l0.length c0] w fun e w' => ∃ v0_ : Value, e = .returned (v0_) ∧ Kd.R Kd.string 9 w' w.heap.size (fun _ => True) v0_ r ∧ Below w.heap.size w w' := by
 have HR0 := Bvh hr0
 have HC0 := Bvh hc0
 clear hr0 hc0
 have HB := Bvh (Below.refl w.heap.size w)
 have H : (Aqx.l0 k l0 ([] : List ByteArray) 0) = some r := h
 clear h
 have H' := Bvh H
 clear H
 go_enter Try.func34, Try.ntmps34
 go_wp2
 go_loopg [3, 4] k (fun kq v3 v4 w' => ∃ (x3_1 : List ByteArray) (x4_1 : Int), v4 = .int .i64 x4_1 ∧ Aside0 (Aqx.l0 kq l0 x3_1 x4_1 = some r) ∧ Aside0 (kq ≤ k) ∧ Aside0 (Kd.R Kd.string 9 w' w.heap.size (fun _ => True) v3 x3_1) ∧ Aside0 (Below w.heap.size w w'))
 case atStart => exact ⟨(([] : List ByteArray)), (0), rfl, H', ⟨Nat.le_refl _⟩, ⟨by first | exact Kd.R_nil _ _ _ _ _ | exact Kd.N_nil _ _ _ _ _ | exact Kd.V_nil _ _ _ _ _ | exact Kd.Q_nil _ _ _ _ _ | exact Kd.S_nil _ _ _ _ _⟩, HB⟩
 case round =>
  clear H'
  obtain ⟨x3_1, x4_1, rfl, HA, HK1, HO_3, HB⟩ := hrel
  cases gk with
  | zero => exact absurd HA.out (by simp [Aqx.l0])
  | succ k1 =>
    have H := HA.out
    clear HA
    simp only [Aqx.l0] at H
    by_cases c2 : x4_1 < (l0.length : Int)
    · rw [if_pos c2] at H
      have c2b0 : decide (x4_1 < (l0.length : Int)) = true := decide_eq_true c2
      clear c2
      by_cases c3 : 0 ≤ x4_1
      · rw [if_pos c3] at H
        have c3b0 : decide (0 ≤ x4_1) = true := decide_eq_true c3
        clear c3
        by_cases c4 : x3_1.length < 8796093022208
        · rw [if_pos c4] at H
          have LMc4 := Bvh c4
          clear c4
          obtain ⟨y288, hy288⟩ : ∃ y_ : List ByteArray, y_ = (x3_1 ++ [(Aqf l0 x4_1).f0]) := ⟨_, rfl⟩
          replace H : (Aqx.l0 k1 l0 y288 (wrap64 (x4_1 + 1))) = some r := by first | (rw [hy288]; with_reducible exact H) | (have H2_ := (Option.bind_some _ _).symm.trans H; rw [hy288]; with_reducible exact H2_) | (have H2_ := (Option.bind_some _ _).symm.trans H; with_reducible exact H2_) | with_reducible exact H | (rw [hy288]; exact H) | exact H
          have Ny288 := Bvh hy288
          clear hy288
          have H' := Bvh H
          clear H
          have p287 : 0 ≤ (x4_1 : Int) := of_decide_eq_true (by first | (with_reducible assumption) | assumption)
          have q287 : x4_1 < (l0.length : Int) := of_decide_eq_true (by first | (with_reducible assumption) | assumption)
          obtain ⟨ad287, A287_1, c287_1, e287, hx287_0, hx287_1, hl287_1, hi287_1⟩ := Azf HR0.out x4_1 p287 q287
          cases e287
          replace hx287_0 := (HB.out.cell (World.block_lt_of_cell? w _ hx287_0)).trans hx287_0
          replace hx287_1 := (HB.out.cell (World.block_lt_of_cell? w _ hx287_1)).trans hx287_1
          have HR287_1 := Bvh hi287_1
          have HC287_1 := Bvh hl287_1
          clear hi287_1 hl287_1
          replace p287 := eq_true p287
          replace q287 := eq_true q287
          go_wp2_with (first | ((with_reducible refine Axc (b := .append) (xs := #[.tmp 11, .tmp 17]) rfl ?_); at_builtin; refine Kd.R_append Kd.string (w0 := w) w.heap.size rfl (.tmp 11) (.tmp 17) 48 9 (.string ⟨#[]⟩) 16 rfl Try.underlying48 info9 rfl (by decide) (by omega) u3 x3_1 ((Aqf l0 x4_1).f0) [.string ((Aqf l0 x4_1).f0)] (fun _ => True) (fun _ => False) rfl rfl ?aP (fun _ hk => hk.elim) ?aF ?aO ?aB ?aS ?aL ?_; (case aP => exact rfl); (case aB => exact HB.out); (case aF => exact (fun _ _ => trivial)); (case aO => exact HO_3.out); (case aS => exact (Aqb HB.out)); (case aL => have := LMc4.out; omega); intro v289 w5 ho hb hg hat; rw [← Ny288.out] at ho; have n0_ := Bvh (hb); have n1_ := Bvh (ho); clear HB; clear HO_3; have HB := n0_; have HO290 := n1_; clear n0_ n1_; clear ho hb hg hat))
          go_roundg k1
          case measure => have := HK1.out; omega
          case rel => exact ⟨(y288), (wrap64 (x4_1 + 1)), rfl, H', ⟨by have := HK1.out; omega⟩, HO290, HB⟩
        · rw [if_neg c4] at H
          exact absurd H (by simp)
      · rw [if_neg c3] at H
        exact absurd H (by simp)
    · rw [if_neg c2] at H
      have c2b0 : decide (x4_1 < (l0.length : Int)) = false := decide_eq_false c2
      clear c2
      obtain rfl := Option.some.inj H
      go_wp2
      go_ret
      exact ⟨_, by first | rfl | (simp [Aqj, Aqi] <;> rfl) | (simp [*, Aqj, Aqi] <;> rfl), by exact HO_3.out, by exact HB.out⟩
end
section
attribute [local go_sem] Axk Axr Az3 Az7 Axj Axi Axz Axy
def Ax9.l0 : Nat → List (S38) → Int → Int → Option (Int)
 | 0, _, _, _ => none
 | k + 1, x0, x3, x4 => if x4 < (x0.length : Int) then (if 0 ≤ x4 then (Ax9.l0 k x0 (wrap64 (x3 + (((Aqf x0 x4).f1).length : Int))) (wrap64 (x4 + 1))) else (none)) else (some x3)
def Ax9.f (k : Nat) (l0 : List (S38)) : Option (Int) := Ax9.l0 k l0 0 0
theorem Ax9.calls (k : Nat) (A0 : Option Addr) (c0 : Nat) (l0 : List (S38)) (r : Int) (w : World) (hr0 : Kd.C k38 w A0 l0.length l0) (hc0 : l0.length ≤ c0) (h : Ax9.f k l0 = some r) :
 Calls Try.prog 36 #[.slice A0 l0.length c0] w fun e w' => e = .returned (.int .i64 r) ∧ Axa w w' := by
 have HR0 := Bvh hr0
 have HC0 := Bvh hc0
 clear hr0 hc0
 have H : (Ax9.l0 k l0 0 0) = some r := h
 clear h
 have H' := Bvh H
 clear H
 go_enter Try.func36, Try.ntmps36
 go_wp2
 go_loopg [3, 4] k (fun kq v3 v4 w' => ∃ (x3_1 : Int) (x4_1 : Int), v3 = .int .i64 x3_1 ∧ v4 = .int .i64 x4_1 ∧ Aside0 (Ax9.l0 kq l0 x3_1 x4_1 = some r) ∧ Aside0 (kq ≤ k) ∧ Axa w w')
 case atStart => exact ⟨(0), (0), (by first | rfl | (simp; done) | (simp [*]; done)), (by first | rfl | (simp; done) | (simp [*]; done)), H', ⟨Nat.le_refl _⟩, by repeat (first | exact Axa.refl _ | apply Axa.step)⟩
 case round =>
  clear H'
  obtain ⟨x3_1, x4_1, rfl, rfl, HA, HK1, ⟨m1, rfl⟩⟩ := hrel
  cases gk with
  | zero => exact absurd HA.out (by simp [Ax9.l0])
  | succ k1 =>
    have H := HA.out
    clear HA
    simp only [Ax9.l0] at H
    by_cases c2 : x4_1 < (l0.length : Int)
    · rw [if_pos c2] at H
      have c2b0 : decide (x4_1 < (l0.length : Int)) = true := decide_eq_true c2
      clear c2
      by_cases c3 : 0 ≤ x4_1
      · rw [if_pos c3] at H
        have c3b0 : decide (0 ≤ x4_1) = true := decide_eq_true c3
        clear c3
        have H' := Bvh H
        clear H
        have p293 : 0 ≤ (x4_1 : Int) := of_decide_eq_true (by first | (with_reducible assumption) | assumption)
        have q293 : x4_1 < (l0.length : Int) := of_decide_eq_true (by first | (with_reducible assumption) | assumption)
        obtain ⟨ad293, A293_1, c293_1, e293, hx293_0, hx293_1, hl293_1, hi293_1⟩ := Azf HR0.out x4_1 p293 q293
        cases e293
        have HR293_1 := Bvh hi293_1
        have HC293_1 := Bvh hl293_1
        clear hi293_1 hl293_1
        replace p293 := eq_true p293
        replace q293 := eq_true q293
        go_wp2
        go_roundg k1
        case measure => have := HK1.out; omega
        case rel => exact ⟨(wrap64 (x3_1 + (((Aqf l0 x4_1).f1).length : Int))), (wrap64 (x4_1 + 1)), (by first | rfl | (simp; done) | (simp [*]; done)), (by first | rfl | (simp; done) | (simp [*]; done)), H', ⟨by have := HK1.out; omega⟩, by repeat (first | exact Axa.refl _ | apply Axa.step)⟩
      · rw [if_neg c3] at H
        exact absurd H (by simp)
    · rw [if_neg c2] at H
      have c2b0 : decide (x4_1 < (l0.length : Int)) = false := decide_eq_false c2
      clear c2
      obtain rfl := Option.some.inj H
      go_wp2
      go_ret
      exact ⟨by first | rfl | (simp; done) | (simp [*]; done), by repeat (first | exact Axa.refl _ | apply Axa.step)⟩
end
section
theorem Akk (l : List S38) (i : Nat) (h : i < l.length) : l.drop i = Aqf l (i : Int) :: l.drop (i + 1) := by rw [rd_at l i h, List.drop_eq_getElem_cons h]
theorem Bzm (l : List S38) (n : ByteArray) (hl : l.length ≤ 1000000) : ∀ m i : Nat, i + m = l.length → ∃ k, Aq9.l0 k l n i = some (getL (l.drop i) n)
 | 0, i, hi => ⟨1, by rw [Aq9.l0, if_neg (by omega), List.drop_eq_nil_of_le (by omega)]; rfl⟩
 | m + 1, i, hi => by
   rw [Akk l i (by omega)]
   by_cases h : ((Aqf l (i : Int)).f0).toList = n.toList
   · refine ⟨1, ?_⟩
     rw [Aq9.l0, if_pos (by omega), if_pos (by omega), if_pos h, Bku (x := Aqf l (i : Int)) (by rw [List.find?_cons, show Ax8 n (Aqf l (i : Int)) = true from beq_iff_eq.mpr h])]
   · obtain ⟨k, hk⟩ := Bzm l n hl m (i + 1) (by omega)
     refine ⟨k + 1, ?_⟩
     rw [Aq9.l0, if_pos (by omega), if_pos (by omega), if_neg h, Az5 i (by omega), hk]
     unfold getL
     rw [List.find?_cons, show Ax8 n (Aqf l (i : Int)) = false from beq_eq_false_iff_ne.mpr h]
theorem Bk8 (l : List S38) (n : ByteArray) (hl : l.length ≤ 1000000) : ∃ k, Aq9.f k l n = some (getL l n) := by
 obtain ⟨k, hk⟩ := Bzm l n hl l.length 0 (by omega)
 exact ⟨k, by rw [List.drop_zero] at hk; exact hk⟩
theorem namesA (l : List S38) (hl : l.length ≤ 1000000) : ∀ m i : Nat, ∀ acc : List ByteArray, i + m = l.length → acc.length ≤ i → ∃ k, Axn.l0 k acc l (l.length : Int) i = some (acc ++ (l.drop i).map (·.f0))
 | 0, i, acc, hi, ha => ⟨1, by rw [Axn.l0, if_neg (by omega), List.drop_eq_nil_of_le (by omega)]; simp⟩
 | m + 1, i, acc, hi, ha => by
   obtain ⟨k, hk⟩ := namesA l hl m (i + 1) (acc ++ [(Aqf l i).f0]) (by omega) (by simp; omega)
   refine ⟨k + 1, ?_⟩
   rw [Axn.l0, if_pos (by omega), if_pos (by omega), if_pos (by omega), if_pos (by omega), Az5 i (by omega), hk, Akk l i (by omega)]
   simp
theorem namesB (l : List S38) (hl : l.length ≤ 1000000) : ∀ m i : Nat, ∀ acc : List ByteArray, i + m = l.length → acc.length ≤ i → ∃ k, Aqx.l0 k l acc i = some (acc ++ (l.drop i).map (·.f0))
 | 0, i, acc, hi, ha => ⟨1, by rw [Aqx.l0, if_neg (by omega), List.drop_eq_nil_of_le (by omega)]; simp⟩
 | m + 1, i, acc, hi, ha => by
   obtain ⟨k, hk⟩ := namesB l hl m (i + 1) (acc ++ [(Aqf l i).f0]) (by omega) (by simp; omega)
   refine ⟨k + 1, ?_⟩
   rw [Aqx.l0, if_pos (by omega), if_pos (by omega), if_pos (by omega), Az5 i (by omega), hk, Akk l i (by omega)]
   simp
theorem Avr (x : List ByteArray) (hl : x.length ≤ 1000000) : ∀ m i : Nat, i + m = x.length → ∃ k, Aqq.l0 k x x i = some true
 | 0, i, hi => ⟨1, by rw [Aqq.l0, if_neg (by omega)]⟩
 | m + 1, i, hi => by
   obtain ⟨k, hk⟩ := Avr x hl m (i + 1) (by omega)
   refine ⟨k + 1, ?_⟩
   rw [Aqq.l0, if_pos (by omega), if_pos (by omega), if_pos (by omega), if_pos rfl, Az5 i (by omega), hk]
def sumW (acc : Int) : List S38 → Int
 | [] => acc
 | x :: l => sumW (wrap64 (acc + (x.f1.length : Int))) l
theorem sizeA (l : List S38) (hl : l.length ≤ 1000000) : ∀ m i : Nat, ∀ acc : Int, i + m = l.length → ∃ k, Axf.l0 k acc l (l.length : Int) i = some (sumW acc (l.drop i))
 | 0, i, acc, hi => ⟨1, by rw [Axf.l0, if_neg (by omega), List.drop_eq_nil_of_le (by omega)]; rfl⟩
 | m + 1, i, acc, hi => by
   obtain ⟨k, hk⟩ := sizeA l hl m (i + 1) (wrap64 (acc + ((Aqf l i).f1.length : Int))) (by omega)
   refine ⟨k + 1, ?_⟩
   rw [Axf.l0, if_pos (by omega), if_pos (by omega), if_pos (by omega), Az5 i (by omega), hk, Akk l i (by omega)]
   rfl
theorem sizeB (l : List S38) (hl : l.length ≤ 1000000) : ∀ m i : Nat, ∀ acc : Int, i + m = l.length → ∃ k, Ax9.l0 k l acc i = some (sumW acc (l.drop i))
 | 0, i, acc, hi => ⟨1, by rw [Ax9.l0, if_neg (by omega), List.drop_eq_nil_of_le (by omega)]; rfl⟩
 | m + 1, i, acc, hi => by
   obtain ⟨k, hk⟩ := sizeB l hl m (i + 1) (wrap64 (acc + ((Aqf l i).f1.length : Int))) (by omega)
   refine ⟨k + 1, ?_⟩
   rw [Ax9.l0, if_pos (by omega), if_pos (by omega), Az5 i (by omega), hk, Akk l i (by omega)]
   rfl
end
section
section
variable {B : Nat → Prop} {g : Nat} {s : SSt} {w : World} {name : ByteArray}
def newD (q : Int) : SSt := ⟨[], [], q, 0, [], 0, false, 0⟩
def Axs (l : List S38) : Int := sumW 0 l
theorem Av6 (l : List S38) (hl : l.length ≤ 1000000) : ∃ k, Axf.f k l = some (Axs l) := by
 obtain ⟨k, hk⟩ := sizeA l hl l.length 0 0 (by omega)
 rw [List.drop_zero] at hk
 exact ⟨k, hk⟩
def Aka (s : SSt) (ks : List Int) : SSt := ⟨Az0 (Ajj ks) 0 s.safe s.pend, [], s.quota, 0, [], 0, false, mx s.peak (Axs (Az0 (Ajj ks) 0 s.safe s.pend))⟩
theorem new_none (q : Int) (hq : q < 0) : Calls Try.prog 47 #[.int .i64 q] w fun e w' => e = .returned (.pointer none) ∧ Below w.heap.size w w' := by
 go_enter Try.func47, Try.ntmps47
 go_wp2
 go_ret
 exact ⟨rfl, Below.refl _ _⟩
theorem Bx6 (q : Int) (hq : 0 ≤ q) : Calls Try.prog 47 #[.int .i64 q] w fun e w' => e = .returned (.pointer (some ⟨w.heap.size, 0, none⟩)) ∧ (∀ B : Nat → Prop, B w.heap.size → Rep B w.heap.size (newD q) w') ∧ Below w.heap.size w w' := by
 have hR : ∀ w1 : World, w1.heap[w.heap.size]? = some (.cells #[.map none, .int .i64 0, .int .i64 0, .slice none 0 0, .slice none 0 0, .int .i64 q, .int .i64 0, .bool false] 106 (0, 0)) → (∀ B : Nat → Prop, B w.heap.size → Rep B w.heap.size (newD q) w1) := fun w1 hb B hB =>
  ⟨.map none, .slice none 0 0, .slice none 0 0, hB, hb, .inl ⟨rfl, rfl⟩, Kd.V_nil _ _ _ _ _, Bjx _ _ _ _ _, fun k hk => nomatch hk⟩
 have HR := Bvh hR
 clear hR
 go_enter Try.func47, Try.ntmps47
 go_wp2
 go_ret
 exact ⟨rfl, HR.out _ (heap_alloc_new _ _), Aq4 (Below.refl _ _) _⟩
theorem Awp (A : Option Addr) (c : Nat) (ks : List Int) (h : Rep B g s w) (hf : Fit s) (hBw : Up B w.heap.size) (hk : (Kd.int .i64).C w A ks.length ks) :
 Calls Try.prog 44 #[.pointer (some ⟨g, 0, none⟩), .slice A ks.length c] w fun e w' => e = .returned (.tuple #[]) ∧ Rep B g (Aka s ks) w' ∧ BelS B w w' := by
 obtain ⟨mv, sv, pv, h⟩ := h
 obtain ⟨As, cs, rfl⟩ := Kd.V_slice h.safe
 obtain ⟨Ap, cp, rfl⟩ := Az1 h.pend
 have hlen := hf.len
 have hw1 : Below w.heap.size w (w.alloc (.cells #[.slice A ks.length c] 56)) := Aq4 (Below.refl _ _) _
 have hb1 : VarK (w.alloc (.cells #[.slice A ks.length c] 56)) w.heap.size A c ks := ⟨heap_alloc_new _ _, Kd.C_below hk hw1⟩
 have hg0 : g < w.heap.size := Ax7 h.blk
 have H := Bvh h
 have HF := Bvh hf
 have HW1 := Bvh hw1
 have HB1 := Bvh hb1
 clear h hf hw1 hb1 hk
 go_enter Try.func44, Try.ntmps44
 go_wp2_with fail
 have hR1 := H.out.below HW1.out
 have hb1 := HB1.out
 have hBw1 : Up B (w.alloc (.cells #[.slice A ks.length c] 56)).heap.size := Up.le hBw HW1.out.size
 have hB1 := Aqk hBw HW1.out
 generalize w.alloc (.cells #[.slice A ks.length c] 56) = w1 at hR1 hb1 hBw1 hB1 ⊢
 generalize w.heap.size = b at hb1 ⊢
 refine Ak8 (n := 14) (S := (fun w' => w'.cell? ⟨g, 3, none⟩ = some (.slice As s.safe.length cs) ∧ w'.cell? ⟨g, 4, none⟩ = some (.slice Ap s.pend.length cp))) (ds := [13]) #[false, false, false, false, false, false, false, false, false, false, false, false, false, false] (by kernel_rfl) rfl rfl ⟨(hR1.below (Aq5 (Below.refl _ _))).cells.2.2.2.1, (hR1.below (Aq5 (Below.refl _ _))).cells.2.2.2.2.1⟩ (fun hHeld => ?_)
 refine Axh (i := 0) (N := some 6) (v := ?_) (a' := ?_) #[true, false, false, false, false, false, false, false, false, false, false, false, false, false] rfl rfl (by kernel_rfl) (fun _ _ _ h => h) (Or.inl ⟨by rfl, ?_⟩) ?_ ?_
 rotate_left
 · intro w'
   go_simp
   with_reducible rfl
 rotate_left
 · simp only [Act.put, Bvi, Bvj, Bvk, Aqv, Aqw]
   rfl
 refine Axh (i := 1) (N := some 7) (v := ?_) (a' := ?_) #[true, true, false, false, false, false, false, false, false, false, false, false, false, false] rfl rfl (by kernel_rfl) (fun _ _ _ h => h) (Or.inl ⟨by rfl, ?_⟩) ?_ ?_
 rotate_left
 · intro w'
   go_simp
   with_reducible rfl
 rotate_left
 · simp only [Act.put, Bvi, Bvj, Bvk, Aqv, Aqw]
   rfl
 refine Axh (i := 2) (N := some 8) (v := ?_) (a' := ?_) #[true, true, true, false, false, false, false, false, false, false, false, false, false, false] rfl rfl (by kernel_rfl) (fun _ _ _ h => h) (Or.inl ⟨by rfl, ?_⟩) ?_ ?_
 rotate_left
 · intro w'
   go_simp
   with_reducible rfl
 rotate_left
 · simp only [Act.put, Bvi, Bvj, Bvk, Aqv, Aqw]
   rfl
 refine Axh (i := 3) (N := some 9) (v := ?_) (a' := ?_) #[true, true, true, true, false, false, false, false, false, false, false, false, false, false] rfl rfl (by kernel_rfl) (fun _ _ _ h => h) (Or.inl ⟨by rfl, ?_⟩) ?_ ?_
 rotate_left
 · intro w'
   go_simp
   with_reducible rfl
 rotate_left
 · simp only [Act.put, Bvi, Bvj, Bvk, Aqv, Aqw]
   rfl
 refine Axh (i := 5) (N := some 11) (v := ?_) (a' := ?_) #[true, true, true, true, false, true, false, false, false, false, false, false, false, false] rfl rfl (by kernel_rfl) (fun _ _ _ h => h) (Or.inl ⟨by rfl, ?_⟩) ?_ ?_
 rotate_left
 · intro w'
   go_simp
   with_reducible rfl
 rotate_left
 · simp only [Act.put, Bvi, Bvj, Bvk, Aqv, Aqw]
   rfl
 refine Axh (i := 6) (N := some 12) (v := ?_) (a' := ?_) #[true, true, true, true, false, true, true, false, false, false, false, false, false, false] rfl rfl (by kernel_rfl) (fun _ _ _ h => h) (Or.inl ⟨by rfl, ?_⟩) ?_ ?_
 rotate_left
 · intro w'
   go_simp
   with_reducible rfl
 rotate_left
 · simp only [Act.put, Bvi, Bvj, Bvk, Aqv, Aqw]
   rfl
 refine Axh (i := 7) (N := some 13) (v := ?_) (a' := ?_) #[true, true, true, true, false, true, true, true, false, false, false, false, false, false] rfl rfl (by kernel_rfl) (fun _ _ _ h => h) (Or.inl ⟨by rfl, ?_⟩) ?_ ?_
 rotate_left
 · intro w'
   go_simp
   with_reducible rfl
 rotate_left
 · simp only [Act.put, Bvi, Bvj, Bvk, Aqv, Aqw]
   rfl
 refine Axh (i := 9) (N := some 15) (v := ?_) (a' := ?_) #[true, true, true, true, false, true, true, true, false, true, false, false, false, false] rfl rfl (by kernel_rfl) (fun _ _ _ h => h) (Or.inl ⟨by rfl, ?_⟩) ?_ ?_
 rotate_left
 · intro w'
   go_simp
   with_reducible rfl
 rotate_left
 · simp only [Act.put, Bvi, Bvj, Bvk, Aqv, Aqw]
   rfl
 refine take_ (i := 4) (N := some 10) (v := ?_) (a' := ?_) #[true, true, true, true, true, true, true, true, false, true, false, false, false, false] rfl rfl (by kernel_rfl) (fun _ _ _ h => h) (Or.inl ⟨by rfl, ?_⟩) hHeld ?_ ?_
 rotate_left
 · rintro w' ⟨s0, s1⟩
   go_simp
   with_reducible rfl
 rotate_left
 · simp only [Act.put, Bvi, Bvj, Bvk, Aqv, Aqw]
   rfl
 refine take_ (i := 8) (N := some 14) (v := ?_) (a' := ?_) #[true, true, true, true, true, true, true, true, true, true, false, false, false, false] rfl rfl (by kernel_rfl) (fun _ _ _ h => h) (Or.inl ⟨by rfl, ?_⟩) hHeld ?_ ?_
 rotate_left
 · rintro w' ⟨s0, s1⟩
   go_simp
   with_reducible rfl
 rotate_left
 · simp only [Act.put, Bvi, Bvj, Bvk, Aqv, Aqw]
   rfl
 refine one_ (i := 10) (N := some 16) #[true, true, true, true, true, true, true, true, true, true, true, false, false, false] rfl rfl (by kernel_rfl) (by decide) (fun K hK => ?_)
 refine Avn Try.func74 (by kernel_rfl) rfl #[.slice As s.safe.length cs, .slice Ap s.pend.length cp, .func (.func 78) #[] #[.pointer (some ⟨b, 0, none⟩)]] (by rfl) rfl rfl (by (try simp only [List.map_toArray, List.map_cons, List.map_nil]); first | done | rfl) ?_
 refine (Bjr (fun k => k ≠ g ∧ some k ≠ (Value.slice Ap s.pend.length cp).ownBlock) As cs s.safe Ap cp s.pend ks b c A _ (Azn (Kd.V_drew hR1.safe)) (Kd.V_reads' (O_V (Azp hR1.pend (Aq5 (Below.refl _ _))))).2.2 (Kd.V_reads' (O_V hR1.pend)).2.1 (hb1.below (Aq5 (Below.refl _ _))) (by omega) HF.out.safe HF.out.pend).mono ?_
 rintro e w5 ⟨v5, rfl, hV5, hb5⟩
 refine ⟨_, rfl, ?_⟩
 have hb15 : Below w1.heap.size w1 w5 := Aq1 (Aq5 (Below.refl _ _)) hb5
 refine hK.out _ _ ⟨(hR1.below hb15).cells.2.2.2.1, (hR1.below hb15).cells.2.2.2.2.1⟩ (fun hHeld => ?_)
 have hR5 := hR1.below hb15
 clear hK K
 refine Avb (a' := ?_) ?_ ?_
 rotate_left
 · show Act.put _ (some 16) _ = _
   simp only [Act.put, Bvi, Bvj, Bvk, Aqv, Aqw]
   rfl
 refine Axh (i := 11) (N := some 17) (v := ?_) (a' := ?_) #[true, true, true, true, true, true, true, true, true, true, true, true, false, false] rfl rfl (by kernel_rfl) (fun _ _ _ h => h) (Or.inl ⟨by rfl, ?_⟩) ?_ ?_
 rotate_left
 · intro w'
   go_simp
   with_reducible rfl
 rotate_left
 · simp only [Act.put, Bvi, Bvj, Bvk, Aqv, Aqw]
   rfl
 refine Axh (i := 12) (N := some 18) (v := ?_) (a' := ?_) #[true, true, true, true, true, true, true, true, true, true, true, true, true, false] rfl rfl (by kernel_rfl) (fun _ _ _ h => h) (Or.inl ⟨by rfl, ?_⟩) ?_ ?_
 rotate_left
 · intro w'
   go_simp
   with_reducible rfl
 rotate_left
 · simp only [Act.put, Bvi, Bvj, Bvk, Aqv, Aqw]
   rfl
 refine Awj (i := 13) (N := none) #[true, true, true, true, true, true, true, true, true, true, true, true, true, true] rfl rfl (by kernel_rfl) (by decide) (fun K hK => ?_)
 have hfr := Aq2 hR5.blk 3
 have hcl := hR5.cells.2.2.2.1
 obtain ⟨A5, c5, rfl⟩ := Kd.V_slice hV5
 refine Avl (w1 := ?_) (by rfl) rfl ?_ ?_
 rotate_left
 · go_simp
   rfl
 refine hK.out _ _ ?_
 clear hK K
 refine Awn (by kernel_rfl) ?_
 obtain ⟨l5, hl5⟩ : ∃ l5, l5 = Az0 (Ajj ks) 0 s.safe s.pend := ⟨_, rfl⟩
 have hdl : okL l5 ∧ l5.length ≤ 1000 := by
  rw [hl5]
  have := Akt (Ajj ks) s.pend 0 s.safe HF.out.safe
  exact ⟨this.1, by omega⟩
 rw [← hl5] at hV5
 have HL5 := Bvh hl5
 have hv5 : Kd.V k38 38 w5 0 (fun k => k ≠ g ∧ some k ≠ (Value.slice Ap s.pend.length cp).ownBlock) (.slice A5 l5.length c5) l5 := Azn (Kd.V_mono hV5 (fun k hk => hk.elim id (fun hk => hR1.fresh hk)))
 have hR := hR5.setSafe hv5
 have hBB : BelS B w (w5.setCell ⟨g, 3, none⟩ (.slice A5 l5.length c5)) := Aqz (Aqc hB1 (Aqk hBw1 hb15)) H.out.hg 3 _
 obtain ⟨kz, hkz⟩ := Av6 l5 (by omega)
 have HKZ := Bvh hkz
 rw [← hl5]
 clear hfr hcl hHeld hV5 hv5 hkz
 generalize w5.setCell ⟨g, 3, none⟩ (.slice A5 l5.length c5) = w6 at hR hBB ⊢
 have hb6 := hR.blk
 have hb7 := Axb hb6 4 (.slice none 0 0)
 have hb8 := Axb hb7 0 (.map none)
 have hb9 := Axb hb8 1 (.int .i64 0)
 have hb10 := Axb hb9 2 (.int .i64 0)
 have hb11 := Axb hb10 7 (.bool false)
 have hR11 : RepAt B g { safe := l5, pend := [], quota := s.quota, calls := 0, fails := [], crash := 0, down := false, peak := s.peak } (((((w6.setCell ⟨g, 4, none⟩ (.slice none 0 0)).setCell ⟨g, 0, none⟩ (.map none)).setCell ⟨g, 1, none⟩ (.int .i64 0)).setCell ⟨g, 2, none⟩ (.int .i64 0)).setCell ⟨g, 7, none⟩ (.bool false)) (.map none) (.slice A5 l5.length c5) (.slice none 0 0) := by
  refine ⟨hR.hg, hb11, .inl ⟨rfl, rfl⟩, ?_, Bjx _ _ _ _ _, fun k hk => nomatch hk⟩
  refine Kd.V_step (Kd.V_mono hR.safe (fun k hk => ⟨hk.1, fun h => nomatch h⟩)) (fun k h1 hlt => ?_)
  rw [Below.heap_setCell _ _ _ _ h1.1, Below.heap_setCell _ _ _ _ h1.1, Below.heap_setCell _ _ _ _ h1.1, Below.heap_setCell _ _ _ _ h1.1, Below.heap_setCell _ _ _ _ h1.1]
 have hB11 : BelS B w (((((w6.setCell ⟨g, 4, none⟩ (.slice none 0 0)).setCell ⟨g, 0, none⟩ (.map none)).setCell ⟨g, 1, none⟩ (.int .i64 0)).setCell ⟨g, 2, none⟩ (.int .i64 0)).setCell ⟨g, 7, none⟩ (.bool false)) :=
  Aqz (Aqz (Aqz (Aqz (Aqz hBB H.out.hg 4 _) H.out.hg 0 _) H.out.hg 1 _) H.out.hg 2 _) H.out.hg 7 _
 have hf4 := Aq2 hb6 4
 have hf0 := Aq2 hb7 0
 have hf1 := Aq2 hb8 1
 have hf2 := Aq2 hb9 2
 have hf7 := Aq2 hb10 7
 have hc4 : w6.cell? ⟨g, 4, none⟩ = some _ := hR.cells.2.2.2.2.1
 have hc0 : (w6.setCell ⟨g, 4, none⟩ (.slice none 0 0)).cell? ⟨g, 0, none⟩ = some mv := by rw [cell_of_row _ g _ _ 106 (0, 0) hb7]; rfl
 have hc1 : ((w6.setCell ⟨g, 4, none⟩ (.slice none 0 0)).setCell ⟨g, 0, none⟩ (.map none)).cell? ⟨g, 1, none⟩ = some (.int .i64 s.crash) := by rw [cell_of_row _ g _ _ 106 (0, 0) hb8]; rfl
 have hc2 : (((w6.setCell ⟨g, 4, none⟩ (.slice none 0 0)).setCell ⟨g, 0, none⟩ (.map none)).setCell ⟨g, 1, none⟩ (.int .i64 0)).cell? ⟨g, 2, none⟩ = some (.int .i64 s.calls) := by rw [cell_of_row _ g _ _ 106 (0, 0) hb9]; rfl
 have hc7 : ((((w6.setCell ⟨g, 4, none⟩ (.slice none 0 0)).setCell ⟨g, 0, none⟩ (.map none)).setCell ⟨g, 1, none⟩ (.int .i64 0)).setCell ⟨g, 2, none⟩ (.int .i64 0)).cell? ⟨g, 7, none⟩ = some (.bool s.down) := by rw [cell_of_row _ g _ _ 106 (0, 0) hb10]; rfl
 have HR11 := Bvh hR11
 have HB11 := Bvh hB11
 have HHR := Bvh hR
 clear hR11 hB11 hb6 hb7 hb8 hb9 hb10 hb11 hR hR5 hR1 hl5 hBB hb5 hb15 hB1
 go_wp2_with fail
 clear hf4 hf0 hf1 hf2 hf7 hc4 hc0 hc1 hc2 hc7 HHR
 generalize ((((w6.setCell ⟨g, 4, none⟩ (.slice none 0 0)).setCell ⟨g, 0, none⟩ (.map none)).setCell ⟨g, 1, none⟩ (.int .i64 0)).setCell ⟨g, 2, none⟩ (.int .i64 0)).setCell ⟨g, 7, none⟩ (.bool false) = w7 at HR11 HB11 ⊢
 have hR7 := HR11.out
 have hBw7 : Up B w7.heap.size := Up.le hBw HB11.out.size
 refine Ak8 (n := 14) (S := (fun w' => w'.cell? ⟨g, 3, none⟩ = some (.slice A5 l5.length c5) ∧ w'.cell? ⟨g, 6, none⟩ = some (.int .i64 s.peak))) (ds := [13]) #[false, false, false, false, false, false, false, false, false, false, false, false, false, false] (by kernel_rfl) rfl rfl ⟨(hR7.below (Aq5 (Below.refl _ _))).cells.2.2.2.1, (hR7.below (Aq5 (Below.refl _ _))).cells.2.2.2.2.2.2.1⟩ (fun hHeld => ?_)
 refine Axh (i := 0) (N := some 29) (v := ?_) (a' := ?_) #[true, false, false, false, false, false, false, false, false, false, false, false, false, false] rfl rfl (by kernel_rfl) (fun _ _ _ h => h) (Or.inl ⟨by rfl, ?_⟩) ?_ ?_
 rotate_left
 · intro w'
   go_simp
   with_reducible rfl
 rotate_left
 · simp only [Act.put, Bvi, Bvj, Bvk, Aqv, Aqw]
   rfl
 refine Axh (i := 1) (N := some 30) (v := ?_) (a' := ?_) #[true, true, false, false, false, false, false, false, false, false, false, false, false, false] rfl rfl (by kernel_rfl) (fun _ _ _ h => h) (Or.inl ⟨by rfl, ?_⟩) ?_ ?_
 rotate_left
 · intro w'
   go_simp
   with_reducible rfl
 rotate_left
 · simp only [Act.put, Bvi, Bvj, Bvk, Aqv, Aqw]
   rfl
 refine Axh (i := 2) (N := some 31) (v := ?_) (a' := ?_) #[true, true, true, false, false, false, false, false, false, false, false, false, false, false] rfl rfl (by kernel_rfl) (fun _ _ _ h => h) (Or.inl ⟨by rfl, ?_⟩) ?_ ?_
 rotate_left
 · intro w'
   go_simp
   with_reducible rfl
 rotate_left
 · simp only [Act.put, Bvi, Bvj, Bvk, Aqv, Aqw]
   rfl
 refine Axh (i := 3) (N := some 32) (v := ?_) (a' := ?_) #[true, true, true, true, false, false, false, false, false, false, false, false, false, false] rfl rfl (by kernel_rfl) (fun _ _ _ h => h) (Or.inl ⟨by rfl, ?_⟩) ?_ ?_
 rotate_left
 · intro w'
   go_simp
   with_reducible rfl
 rotate_left
 · simp only [Act.put, Bvi, Bvj, Bvk, Aqv, Aqw]
   rfl
 refine Axh (i := 5) (N := some 34) (v := ?_) (a' := ?_) #[true, true, true, true, false, true, false, false, false, false, false, false, false, false] rfl rfl (by kernel_rfl) (fun _ _ _ h => h) (Or.inl ⟨by rfl, ?_⟩) ?_ ?_
 rotate_left
 · intro w'
   go_simp
   with_reducible rfl
 rotate_left
 · simp only [Act.put, Bvi, Bvj, Bvk, Aqv, Aqw]
   rfl
 refine Axh (i := 6) (N := some 35) (v := ?_) (a' := ?_) #[true, true, true, true, false, true, true, false, false, false, false, false, false, false] rfl rfl (by kernel_rfl) (fun _ _ _ h => h) (Or.inl ⟨by rfl, ?_⟩) ?_ ?_
 rotate_left
 · intro w'
   go_simp
   with_reducible rfl
 rotate_left
 · simp only [Act.put, Bvi, Bvj, Bvk, Aqv, Aqw]
   rfl
 refine Axh (i := 7) (N := some 36) (v := ?_) (a' := ?_) #[true, true, true, true, false, true, true, true, false, false, false, false, false, false] rfl rfl (by kernel_rfl) (fun _ _ _ h => h) (Or.inl ⟨by rfl, ?_⟩) ?_ ?_
 rotate_left
 · intro w'
   go_simp
   with_reducible rfl
 rotate_left
 · simp only [Act.put, Bvi, Bvj, Bvk, Aqv, Aqw]
   rfl
 refine take_ (i := 4) (N := some 33) (v := ?_) (a' := ?_) #[true, true, true, true, true, true, true, true, false, false, false, false, false, false] rfl rfl (by kernel_rfl) (fun _ _ _ h => h) (Or.inl ⟨by rfl, ?_⟩) hHeld ?_ ?_
 rotate_left
 · rintro w' ⟨s0, s1⟩
   go_simp
   with_reducible rfl
 rotate_left
 · simp only [Act.put, Bvi, Bvj, Bvk, Aqv, Aqw]
   rfl
 refine take_ (i := 8) (N := some 37) (v := ?_) (a' := ?_) #[true, true, true, true, true, true, true, true, true, false, false, false, false, false] rfl rfl (by kernel_rfl) (fun _ _ _ h => h) (Or.inl ⟨by rfl, ?_⟩) hHeld ?_ ?_
 rotate_left
 · rintro w' ⟨s0, s1⟩
   go_simp
   with_reducible rfl
 rotate_left
 · simp only [Act.put, Bvi, Bvj, Bvk, Aqv, Aqw]
   rfl
 refine one_ (i := 9) (N := some 38) #[true, true, true, true, true, true, true, true, true, true, false, false, false, false] rfl rfl (by kernel_rfl) (by decide) (fun K hK => ?_)
 refine Avn Try.func35 (by kernel_rfl) rfl #[.slice A5 l5.length c5] (by rfl) rfl rfl (by (try simp only [List.map_toArray, List.map_cons, List.map_nil]); first | done | rfl) ?_
 refine (Axf.calls kz A5 c5 l5 (Axs l5) _ (Kd.V_reads' (Kd.V_drew hR7.safe)).2.2 (Kd.V_reads' hR7.safe).2.1 HKZ.out).mono ?_
 rintro e w8 ⟨rfl, hb8⟩
 refine ⟨_, rfl, ?_⟩
 have hb78 : Below w7.heap.size w7 w8 := Aq1 (Aq5 (Below.refl _ _)) hb8
 refine hK.out _ _ ⟨(hR7.below hb78).cells.2.2.2.1, (hR7.below hb78).cells.2.2.2.2.2.2.1⟩ (fun hHeld => ?_)
 have hR8 := hR7.below hb78
 clear hK K
 refine Avb (a' := ?_) ?_ ?_
 rotate_left
 · show Act.put _ (some 38) _ = _
   simp only [Act.put, Bvi, Bvj, Bvk, Aqv, Aqw]
   rfl
 refine Axh (i := 10) (N := some 39) (v := ?_) (a' := ?_) #[true, true, true, true, true, true, true, true, true, true, true, false, false, false] rfl rfl (by kernel_rfl) (fun _ _ _ h => h) (Or.inl ⟨by rfl, ?_⟩) ?_ ?_
 rotate_left
 · intro w'
   go_simp
   with_reducible rfl
 rotate_left
 · simp only [Act.put, Bvi, Bvj, Bvk, Aqv, Aqw]
   rfl
 refine Axh (i := 11) (N := some 40) (v := ?_) (a' := ?_) #[true, true, true, true, true, true, true, true, true, true, true, true, false, false] rfl rfl (by kernel_rfl) (fun _ _ _ h => h) (Or.inl ⟨by rfl, ?_⟩) ?_ ?_
 rotate_left
 · intro w'
   go_simp
   with_reducible rfl
 rotate_left
 · simp only [Act.put, Bvi, Bvj, Bvk, Aqv, Aqw]
   rfl
 refine Axh (i := 12) (N := some 41) (v := ?_) (a' := ?_) #[true, true, true, true, true, true, true, true, true, true, true, true, true, false] rfl rfl (by kernel_rfl) (fun _ _ _ h => h) (Or.inl ⟨by rfl, ?_⟩) ?_ ?_
 rotate_left
 · intro w'
   go_simp
   with_reducible rfl
 rotate_left
 · simp only [Act.put, Bvi, Bvj, Bvk, Aqv, Aqw]
   rfl
 refine Awj (i := 13) (N := none) #[true, true, true, true, true, true, true, true, true, true, true, true, true, true] rfl rfl (by kernel_rfl) (by decide) (fun K hK => ?_)
 have hfr := Aq2 hR8.blk 6
 have hcl := hR8.cells.2.2.2.2.2.2.1
 refine Avl (w1 := ?_) (by rfl) rfl ?_ ?_
 rotate_left
 · go_simp
   rfl
 refine hK.out _ _ ?_
 clear hK K
 refine Awn (by kernel_rfl) ?_
 have hend : RepAt B g (Aka s ks) (w8.setCell ⟨g, 6, none⟩ (.int .i64 (mx s.peak (Axs l5)))) (.map none) (.slice A5 l5.length c5) (.slice none 0 0) := by
  have hcd : Aka s ks = { safe := l5, pend := [], quota := s.quota, calls := 0, fails := [], crash := 0, down := false, peak := mx s.peak (Axs l5) } := by rw [HL5.out]; rfl
  rw [hcd]
  exact hR8.upd (fun k _ hk => Below.heap_setCell _ _ _ _ hk) (Axb hR8.blk 6 _) rfl rfl rfl
 have hBe : BelS B w (w8.setCell ⟨g, 6, none⟩ (.int .i64 (mx s.peak (Axs l5)))) := Aqz (Aqc HB11.out (Aqk hBw7 hb78)) H.out.hg 6 _
 go_wp2_with fail
 all_goals go_end0
 · have hm : mx s.peak (Axs l5) = Axs l5 := by unfold mx; split <;> omega
   rw [hm] at hend hBe
   exact ⟨rfl, ⟨_, _, _, hend⟩, hBe⟩
 · have hm : mx s.peak (Axs l5) = s.peak := by unfold mx; split <;> omega
   rw [hm] at hend hBe
   exact ⟨rfl, ⟨_, _, _, hend⟩, hBe⟩
end
end
section
def Odd (cs : Array Value) : Prop := ∀ (j : Nat) (u : Value), cs[j]? = some u → (∀ s : ByteArray, u ≠ Value.string s) ∧ ∀ i : Int, u ≠ Value.int IntKind.u8 i
structure But (b : Nat) (W W2 : World) : Prop where
 odd : ∃ cs t fr, W.heap[b]? = some (Obj.cells cs t fr) ∧ Odd cs
 same : ∀ k, k ≠ b → W2.heap[k]? = W.heap[k]?
theorem But.cell {b : Nat} {W W2 : World} (h : But b W W2) {a : Addr} {u : Value} (hu : W.cell? a = some u) (ho : (∃ s : ByteArray, u = Value.string s) ∨ ∃ i : Int, u = Value.int IntKind.u8 i) : a.block ≠ b := by
 intro he
 obtain ⟨cs, t, fr, hb, hodd⟩ := h.odd
 unfold World.cell? at hu
 rw [he, hb] at hu
 simp only at hu
 split at hu
 · cases hu
 · obtain ⟨h1, h2⟩ := hodd _ _ hu
   rcases ho with ⟨s, rfl⟩ | ⟨i, rfl⟩
   · exact h1 s rfl
   · exact h2 i rfl
theorem But.cell2 {b : Nat} {W W2 : World} (h : But b W W2) {a : Addr} (ha : a.block ≠ b) : W2.cell? a = W.cell? a := by
 unfold World.cell?
 rw [h.same _ ha]
theorem Bvc (a : Addr) (n : Nat) : (a.add n).block = a.block := by
 unfold Addr.add
 split <;> rfl
theorem But.reads {α : Type} {d : Kd α} {b : Nat} {W W2 : World} (h : But b W W2) (hz : 0 < d.sz) (hK : ∀ x c, d.K W x c → d.K W2 x c ∧ ∃ u, c[0]? = some u ∧ ((∃ s : ByteArray, u = Value.string s) ∨ ∃ i : Int, u = Value.int IntKind.u8 i)) {A : Option Addr} {n : Nat} {xs : List α} (hC : d.C W A n xs) : d.C W2 A n xs := by
 obtain ⟨h1, h2, h3⟩ := hC
 refine ⟨h1, h2, fun hn => ?_⟩
 obtain ⟨ad, e, hc⟩ := h3 hn
 refine ⟨ad, e, fun j p hj => ?_⟩
 obtain ⟨c, hl, hk, hcell⟩ := hc j p hj
 obtain ⟨hk2, u, hu, ho⟩ := hK p c hk
 refine ⟨c, hl, hk2, fun i v hv => ?_⟩
 have hb := h.cell (hcell 0 u hu) ho
 rw [Bvc] at hb
 rw [h.cell2 (by rw [Bvc]; exact hb)]
 exact hcell i v hv
theorem But.bytes {b : Nat} {W W2 : World} (h : But b W W2) {A : Option Addr} {n : Nat} {xs : List Int} (hC : (Kd.int .u8).C W A n xs) : (Kd.int .u8).C W2 A n xs :=
 h.reads (d := Kd.int .u8) (by decide) (fun x c hk => by
  have hk' : c = [.int .u8 x] := hk
  subst hk'
  exact ⟨rfl, _, rfl, .inr ⟨x, rfl⟩⟩) hC
theorem But.K38 {b : Nat} {W W2 : World} (h : But b W W2) {x : S38} {c : List Value} (hk : k38.K W x c) : k38.K W2 x c ∧ ∃ u, c[0]? = some u ∧ ((∃ s : ByteArray, u = Value.string s) ∨ ∃ i : Int, u = Value.int IntKind.u8 i) := by
 obtain ⟨A, n, rfl, hl, hC⟩ := Avc hk
 exact ⟨k38_mk W2 x hl (h.bytes hC), _, rfl, .inl ⟨_, rfl⟩⟩
theorem But.K31 {b : Nat} {W W2 : World} (h : But b W W2) {x : S31} {c : List Value} (hk : k31.K W x c) : k31.K W2 x c ∧ ∃ u, c[0]? = some u ∧ ((∃ s : ByteArray, u = Value.string s) ∨ ∃ i : Int, u = Value.int IntKind.u8 i) := by
 obtain ⟨A, n, rfl, hl, hC⟩ := Avd hk
 exact ⟨k31_mk W2 x hl (h.bytes hC), _, rfl, .inl ⟨_, rfl⟩⟩
theorem But.C38 {b : Nat} {W W2 : World} (h : But b W W2) {A : Option Addr} {n : Nat} {xs : List S38} (hC : k38.C W A n xs) : k38.C W2 A n xs := h.reads (by decide) (fun _ _ hk => h.K38 hk) hC
theorem But.foot {P : World → Prop} {w w1 : World} {ok : Nat → Prop} {b : Nat} (h : But b w w1) (hsz : w1.heap.size = w.heap.size) (hf : Foot P w ok) (hP : ∀ W W2 : World, But b W W2 → P W → P W2) : Foot P w1 ok := by
 intro W' hW
 obtain ⟨cs, t, fr, hb, hodd⟩ := h.odd
 have hblt : b < w.heap.size := Ax7 hb
 by_cases hok : ok b
 · have hWb := hW b hok (by omega)
   have hlt : b < W'.heap.size := by
    have hx := Array.getElem?_eq_getElem (xs := w1.heap) (i := b) (by omega)
    rw [hx] at hWb
    exact (Array.getElem?_eq_some_iff.1 hWb).1
   have hpb : ({ W' with heap := W'.heap.set b (Obj.cells cs t fr) hlt } : World).heap[b]? = some (Obj.cells cs t fr) := by simp
   have hpo : ∀ k, k ≠ b → ({ W' with heap := W'.heap.set b (Obj.cells cs t fr) hlt } : World).heap[k]? = W'.heap[k]? := fun k hk => by
    show (W'.heap.set b (Obj.cells cs t fr) hlt)[k]? = _
    rw [Array.getElem?_set_ne hlt (Ne.symm hk)]
   refine hP _ W' ⟨⟨cs, t, fr, hpb, hodd⟩, fun k hk => (hpo k hk).symm⟩ (hf _ fun k hk hklt => ?_)
   by_cases hkb : k = b
   · subst hkb; rw [hpb, hb]
   · rw [hpo k hkb, hW k hk (by omega), h.same k hkb]
 · refine hf W' fun k hk hklt => ?_
   have hkb : k ≠ b := fun he => hok (he ▸ hk)
   rw [hW k hk (by omega), h.same k hkb]
theorem Bzr {w : World} {base e b : Nat} {size n : Nat} {v : Value} {xs : List Value} (h : w.ownsRow base e size v n xs) {cs : Array Value} {t : Nat} {fr : Nat × Nat} (hb : w.heap[b]? = some (Obj.cells cs t fr)) (ht : t ≠ e) : v.ownBlock ≠ some b := fun he => by
 obtain ⟨cells, hc⟩ := Azu h b he
 rw [hb] at hc
 injection hc with hc
 injection hc with _ hc
 exact ht hc
theorem RepAt.pokeB {B : Nat → Prop} {g b : Nat} {s : SSt} {w w1 : World} {mv sv pv : Value} (h : RepAt B g s w mv sv pv) (hB : But b w w1) (hsz : w1.heap.size = w.heap.size) {cs : Array Value} {t : Nat} {fr : Nat × Nat} (hb : w.heap[b]? = some (Obj.cells cs t fr)) (h1 : t ≠ 106) (h2 : t ≠ 31) : RepAt B g s w1 mv sv pv := by
 have hgb : g ≠ b := fun he => by
  have := h.blk
  rw [he, hb] at this
  injection this with this
  injection this with _ this
  exact h1 this
 refine ⟨h.hg, (hB.same g hgb).trans h.blk, h.map.move ⟨_, _, _, hb⟩ (fun k _ hk => hB.same k hk), ?_, ?_, h.own⟩
 · exact Kd.V_map h.safe (fun A hf => hB.foot hsz hf (fun W W2 hb2 hc => hb2.C38 hc))
 · obtain ⟨inner, ho, hr⟩ := h.pend
   exact ⟨inner, Bqp ho (fun k hk => hB.same k (fun he => Bzr ho hb h2 (by rw [hk, he]))), hr.imp_ fun x c hx => hB.foot hsz hx (fun W W2 hb2 hk => (hb2.K31 hk).1)⟩
theorem But.R_bytes {b : Nat} {w w1 : World} (hB : But b w w1) {base : Nat} {ok : Nat → Prop} {v : Value} {xs : List Int} (h : (Kd.int .u8).R 5 w base ok v xs) {cs : Array Value} {t : Nat} {fr : Nat × Nat} (hb : w.heap[b]? = some (Obj.cells cs t fr)) (ht : t ≠ 5) : (Kd.int .u8).R 5 w1 base ok v xs := by
 refine Kd.R_mono (Kd.R_move (Kd.R_bound h) fun k hk => hB.same k fun he => ?_) (fun _ hk => hk.1)
 obtain ⟨_, _, _, q, hq, cells, hc⟩ := hk
 have hq5 : q = 5 := by simpa [Kd.int, Kd.scalar] using hq
 rw [he, hb] at hc
 injection hc with hc
 injection hc with _ hc
 exact ht (hc.trans hq5)
theorem But.R_names {b : Nat} {w w1 : World} (hB : But b w w1) {base : Nat} {ok : Nat → Prop} {v : Value} {xs : List ByteArray} (h : Kd.string.R 9 w base ok v xs) {cs : Array Value} {t : Nat} {fr : Nat × Nat} (hb : w.heap[b]? = some (Obj.cells cs t fr)) (ht : t ≠ 9) : Kd.string.R 9 w1 base ok v xs := by
 refine Kd.R_mono (Kd.R_move (Kd.R_bound h) fun k hk => hB.same k fun he => ?_) (fun _ hk => hk.1)
 obtain ⟨_, _, _, q, hq, cells, hc⟩ := hk
 have hq5 : q = 9 := by simpa [Kd.string, Kd.scalar] using hq
 rw [he, hb] at hc
 injection hc with hc
 injection hc with _ hc
 exact ht (hc.trans hq5)
end
section
section
variable {B : Nat → Prop} {g : Nat} {s : SSt} {w : World} {mv sv pv : Value}
def VarW (w : World) (b : Nat) (x : S31) (A : Option Addr) (c : Nat) : Prop := w.heap[b]? = some (.cells #[.string x.f0, .int .i64 x.f1, .int .i64 x.f2, .slice A x.f3.length c] 31 (0, 0))
theorem VarW.below {w w1 : World} {b c : Nat} {x : S31} {A : Option Addr} (h : VarW w b x A c) (hb : Below w.heap.size w w1) : VarW w1 b x A c := Aqn hb h
theorem VarW.cell {w : World} {b c : Nat} {x : S31} {A : Option Addr} (h : VarW w b x A c) : w.cell? ⟨b, 0, none⟩ = some (.string x.f0) ∧ w.cell? ⟨b, 1, none⟩ = some (.int .i64 x.f1) ∧ w.cell? ⟨b, 2, none⟩ = some (.int .i64 x.f2) ∧ w.cell? ⟨b, 3, none⟩ = some (.slice A x.f3.length c) := by
 refine ⟨?_, ?_, ?_, ?_⟩ <;> (rw [cell_of_row w b _ _ 31 (0, 0) h]; rfl)
theorem O_snoc31 {W w1 : World} {ok : Nat → Prop} {v v1 : Value} {xs : List S31} {x : S31} {seg : List Value} {inner : List Value}
 (hr : Reps (fun x c => Kd.FK k31 W (fun k => ok k ∧ some k ≠ v.ownBlock) x c) 4 xs inner) (hx : Kd.FK k31 W (fun k => ok k ∧ some k ≠ v.ownBlock) x seg)
 (hown : w1.ownsRow 0 31 4 v1 (xs.length + 1) (inner ++ seg)) (hg : W.grownBy w1 v.ownBlock) (hat : v1.ownBlock = v.ownBlock ∨ v1.ownBlock = some W.heap.size) : O k31 31 w1 0 ok v1 (xs ++ [x]) := by
 refine ⟨inner ++ seg, by rw [List.length_append]; exact hown, ?_⟩
 exact O_put (hr.imp_ fun y c' hy => Ajx hy hg hat) (Ajx hx hg hat) (Ajs hx).1
theorem Bv0 (l : List S38) (x : S31) (keep : Int) (_ : okL l) : (doT l x keep).1.length ≤ l.length + 1 := by
 unfold doT
 split
 · simp
 · unfold Aze
   split
   · simp
   · by_cases h0 : (Axp x.f3 keep).length = 0 ∧ x.f3.length > 0
     · rw [if_pos h0]; simp
     · rw [if_neg h0]; exact Bqm _ _ _
def doE (s : SSt) (x : S31) : Int :=
 if (getT (Aq8 s) x.f0).2 = false ∧ (x.f1 = 2 ∨ x.f1 = 3) then 4 else
  if (doT (Aq8 s) x (-1)).2 ≠ 0 then (doT (Aq8 s) x (-1)).2 else
   if s.quota < Axs (doT (Aq8 s) x (-1)).1 ∧ Axs (Aq8 s) < Axs (doT (Aq8 s) x (-1)).1 then 8 else 0
def doB (s : SSt) (x : S31) : SSt × Int :=
 if doE s x = 0 then ({ s with pend := s.pend ++ [x], peak := mx s.peak (Axs (doT (Aq8 s) x (-1)).1) }, 0) else (s, doE s x)
end
end
section
section
variable {B : Nat → Prop} {g : Nat} {s : SSt} {w : World} {mv sv pv : Value}
theorem Bv2 (x : S31) (A3 : Option Addr) (c3 b0 b1 : Nat) {s0 : SSt} {w0 : World} (h0 : RepAt B g s0 w0 mv sv pv) (hk0 : Axl g w0 w) (hb1 : w0.heap.size ≤ b1) (hB0 : Up B w0.heap.size) (e1 : s.safe = s0.safe) (e2 : s.pend = s0.pend) (e3 : s.fails = s0.fails)
 (h : RepAt B g s w mv sv pv) (hf : Fit s) (hx : x.f3.length ≤ 1000) (hp : VarP w b0 g) (hn : VarW w b1 x A3 c3) (hF : Kd.F (Kd.int .u8) w (fun k => k ≠ g) A3 x.f3.length x.f3) (hc3 : x.f3.length ≤ c3) (hok : (getT (Aq8 s) x.f0).2 = false) (h2 : x.f1 = 2) :
 Calls Try.prog 91 #[.pointer (some ⟨b0, 0, none⟩), .pointer (some ⟨b1, 0, none⟩)] w fun e w' => ∃ r, e = .returned (.int .i64 r) ∧ r = (doB s x).2 ∧ Rep B g (doB s x).1 w' ∧ BelS B w w' := by
 obtain ⟨Ap, cp, rfl⟩ := Az1 h.pend
 have hBw : Up B w.heap.size := Up.le hB0 hk0.1
 have hg0 : g < w0.heap.size := Ax7 h0.blk
 have hlen := hf.len
 have hfl : okL (Aq8 s) ∧ (Aq8 s).length ≤ 1000 := Axt hf
 have hget := Bq1 (Aq8 s) x.f0 (by omega) hfl.1
 have hdo := Bxd (Aq8 s) x (-1) (by omega) hfl.1 (by omega)
 have hdk := Bqe (Aq8 s) x (-1) hfl.1
 obtain ⟨kz, hkz⟩ := Av6 (Aq8 s) (by omega)
 have hE : doE s x = 4 := by unfold doE; rw [if_pos ⟨hok, by omega⟩]
 have hB : doB s x = (s, 4) := by unfold doB; rw [hE]; rfl
 rw [hB]
 rw [hok] at hget
 have hq2 : (x.f1 == 2) = true := by simpa using h2
 have HOK := Bvh hok
 have HEB := Bvh (And.intro hE hB)
 clear hok h2 hE hB
 have hp0 := hp.cell
 obtain ⟨hx0, hx1, hx2, hx3⟩ := hn.cell
 have H := Bvh h
 have H0 := Bvh h0
 have HK0 := Bvh hk0
 have HE := Bvh (And.intro e1 (And.intro e2 e3))
 have HF := Bvh hf
 have HP := Bvh hp
 have HN := Bvh hn
 have HFx := Bvh hF
 have HGET := Bvh hget
 have HDO := Bvh hdo
 have HDK := Bvh hdk
 have HKZ := Bvh hkz
 clear h h0 hk0 hf hp hn hF hget hdo hdk hkz e1 e2 e3
 go_enter Try.func91, Try.ntmps91
 go_wp2_with (first
  | (go_at_call 42; refine (Az4 ⟨mv, sv, _, H.out⟩ HF.out).mono ?_; rintro e w1 ⟨v1, rfl, hV1, hb1w⟩; obtain ⟨A1, c1, rfl⟩ := Kd.V_slice hV1; obtain ⟨hx0, hx1, hx2, hx3⟩ := (HN.out.below hb1w).cell; have HV1 := Bvh hV1; have HB1 := Bvh hb1w; clear hV1 hb1w)
  | (go_at_call 28; refine (Aqs.calls A1 c1 (Aq8 s) x.f0 _ _ _ (Kd.V_reads' HV1.out).2.2 (Kd.V_reads' HV1.out).2.1 HGET.out).mono ?_; rintro e w2 ⟨v2, rfl, hR2, hb2⟩; obtain ⟨A2, c2, rfl⟩ := Kd.R_slice hR2; obtain ⟨hx0, hx1, hx2, hx3⟩ := (HN.out.below (Aq1 HB1.out hb2)).cell; have HB12 := Bvh hb2; have HB2 := Bvh (Aq1 HB1.out hb2); clear hR2 hb2))
 go_ret
 exact ⟨4, rfl, rfl, ⟨mv, sv, _, H.out.below HB2.out⟩, Aqk hBw HB2.out⟩
end
end
section
section
variable {B : Nat → Prop} {g : Nat} {s : SSt} {w : World} {mv sv pv : Value}
theorem Bv1 (x : S31) (A3 : Option Addr) (c3 b0 b1 : Nat) {s0 : SSt} {w0 : World} (h0 : RepAt B g s0 w0 mv sv pv) (hk0 : Axl g w0 w) (hb1 : w0.heap.size ≤ b1) (hB0 : Up B w0.heap.size) (e1 : s.safe = s0.safe) (e2 : s.pend = s0.pend) (e3 : s.fails = s0.fails)
 (h : RepAt B g s w mv sv pv) (hf : Fit s) (hx : x.f3.length ≤ 1000) (hp : VarP w b0 g) (hn : VarW w b1 x A3 c3) (hF : Kd.F (Kd.int .u8) w (fun k => k ≠ g) A3 x.f3.length x.f3) (hc3 : x.f3.length ≤ c3) (hok : (getT (Aq8 s) x.f0).2 = false) (h2 : x.f1 = 3) :
 Calls Try.prog 91 #[.pointer (some ⟨b0, 0, none⟩), .pointer (some ⟨b1, 0, none⟩)] w fun e w' => ∃ r, e = .returned (.int .i64 r) ∧ r = (doB s x).2 ∧ Rep B g (doB s x).1 w' ∧ BelS B w w' := by
 obtain ⟨Ap, cp, rfl⟩ := Az1 h.pend
 have hBw : Up B w.heap.size := Up.le hB0 hk0.1
 have hg0 : g < w0.heap.size := Ax7 h0.blk
 have hlen := hf.len
 have hfl : okL (Aq8 s) ∧ (Aq8 s).length ≤ 1000 := Axt hf
 have hget := Bq1 (Aq8 s) x.f0 (by omega) hfl.1
 have hdo := Bxd (Aq8 s) x (-1) (by omega) hfl.1 (by omega)
 have hdk := Bqe (Aq8 s) x (-1) hfl.1
 obtain ⟨kz, hkz⟩ := Av6 (Aq8 s) (by omega)
 have hE : doE s x = 4 := by unfold doE; rw [if_pos ⟨hok, by omega⟩]
 have hB : doB s x = (s, 4) := by unfold doB; rw [hE]; rfl
 rw [hB]
 rw [hok] at hget
 have hq2 : (x.f1 == 2) = false := by rw [h2]; rfl
 have hq3 : (x.f1 == 3) = true := by simpa using h2
 have HOK := Bvh hok
 have HEB := Bvh (And.intro hE hB)
 clear hok h2 hE hB
 have hp0 := hp.cell
 obtain ⟨hx0, hx1, hx2, hx3⟩ := hn.cell
 have H := Bvh h
 have H0 := Bvh h0
 have HK0 := Bvh hk0
 have HE := Bvh (And.intro e1 (And.intro e2 e3))
 have HF := Bvh hf
 have HP := Bvh hp
 have HN := Bvh hn
 have HFx := Bvh hF
 have HGET := Bvh hget
 have HDO := Bvh hdo
 have HDK := Bvh hdk
 have HKZ := Bvh hkz
 clear h h0 hk0 hf hp hn hF hget hdo hdk hkz e1 e2 e3
 go_enter Try.func91, Try.ntmps91
 go_wp2_with (first
  | (go_at_call 42; refine (Az4 ⟨mv, sv, _, H.out⟩ HF.out).mono ?_; rintro e w1 ⟨v1, rfl, hV1, hb1w⟩; obtain ⟨A1, c1, rfl⟩ := Kd.V_slice hV1; obtain ⟨hx0, hx1, hx2, hx3⟩ := (HN.out.below hb1w).cell; have HV1 := Bvh hV1; have HB1 := Bvh hb1w; clear hV1 hb1w)
  | (go_at_call 28; refine (Aqs.calls A1 c1 (Aq8 s) x.f0 _ _ _ (Kd.V_reads' HV1.out).2.2 (Kd.V_reads' HV1.out).2.1 HGET.out).mono ?_; rintro e w2 ⟨v2, rfl, hR2, hb2⟩; obtain ⟨A2, c2, rfl⟩ := Kd.R_slice hR2; obtain ⟨hx0, hx1, hx2, hx3⟩ := (HN.out.below (Aq1 HB1.out hb2)).cell; have HB12 := Bvh hb2; have HB2 := Bvh (Aq1 HB1.out hb2); clear hR2 hb2))
 go_ret
 exact ⟨4, rfl, rfl, ⟨mv, sv, _, H.out.below HB2.out⟩, Aqk hBw HB2.out⟩
end
end
section
section
variable {B : Nat → Prop} {g : Nat} {s : SSt} {w : World} {mv sv pv : Value}
theorem do1_err (x : S31) (A3 : Option Addr) (c3 b0 b1 : Nat) {s0 : SSt} {w0 : World} (h0 : RepAt B g s0 w0 mv sv pv) (hk0 : Axl g w0 w) (hb1 : w0.heap.size ≤ b1) (hB0 : Up B w0.heap.size) (e1 : s.safe = s0.safe) (e2 : s.pend = s0.pend) (e3 : s.fails = s0.fails)
 (h : RepAt B g s w mv sv pv) (hf : Fit s) (hx : x.f3.length ≤ 1000) (hp : VarP w b0 g) (hn : VarW w b1 x A3 c3) (hF : Kd.F (Kd.int .u8) w (fun k => k ≠ g) A3 x.f3.length x.f3) (hc3 : x.f3.length ≤ c3) (hno : ¬ ((getT (Aq8 s) x.f0).2 = false ∧ (x.f1 = 2 ∨ x.f1 = 3))) (hokc : ((getT (Aq8 s) x.f0).2 = true ∧ True ∧ True) ∨ ((getT (Aq8 s) x.f0).2 = false ∧ (x.f1 == 2) = false ∧ (x.f1 == 3) = false)) (he : (doT (Aq8 s) x (-1)).2 ≠ 0) :
 Calls Try.prog 91 #[.pointer (some ⟨b0, 0, none⟩), .pointer (some ⟨b1, 0, none⟩)] w fun e w' => ∃ r, e = .returned (.int .i64 r) ∧ r = (doB s x).2 ∧ Rep B g (doB s x).1 w' ∧ BelS B w w' := by
 obtain ⟨Ap, cp, rfl⟩ := Az1 h.pend
 have hBw : Up B w.heap.size := Up.le hB0 hk0.1
 have hg0 : g < w0.heap.size := Ax7 h0.blk
 have hlen := hf.len
 have hfl : okL (Aq8 s) ∧ (Aq8 s).length ≤ 1000 := Axt hf
 have hget := Bq1 (Aq8 s) x.f0 (by omega) hfl.1
 have hdo := Bxd (Aq8 s) x (-1) (by omega) hfl.1 (by omega)
 have hdk := Bqe (Aq8 s) x (-1) hfl.1
 obtain ⟨kz, hkz⟩ := Av6 (Aq8 s) (by omega)
 have hE : doE s x = (doT (Aq8 s) x (-1)).2 := by unfold doE; rw [if_neg hno, if_pos he]
 have hB : doB s x = (s, (doT (Aq8 s) x (-1)).2) := by unfold doB; rw [hE, if_neg he]
 rw [hB]
 obtain ⟨⟨n2, r2⟩, hdr⟩ : ∃ r, doT (Aq8 s) x (-1) = r := ⟨_, rfl⟩
 rw [hdr] at hdo hdk he ⊢
 simp only at hdo hdk he ⊢
 have hn2 : n2.length ≤ 1001 := by
  have := Bv0 (Aq8 s) x (-1) hfl.1
  rw [hdr] at this
  simp only at this
  omega
 obtain ⟨kd, hkd⟩ := Av6 n2 (by omega)
 have HKD := Bvh hkd
 have hce : (r2 == 0) = false := by simpa using he
 have hcn : (r2 != 0) = true := by simpa using he
 have HEB := Bvh (And.intro hE hB)
 have HDR := Bvh hdr
 clear hE hB hdr he hkd
 rcases hokc with ⟨hok, hq2, hq3⟩ | ⟨hok, hq2, hq3⟩
 all_goals
  rw [hok] at hget
  clear hno
  have hp0 := hp.cell
  obtain ⟨hx0, hx1, hx2, hx3⟩ := hn.cell
  have H := Bvh h
  have H0 := Bvh h0
  have HK0 := Bvh hk0
  have HE := Bvh (And.intro e1 (And.intro e2 e3))
  have HF := Bvh hf
  have HP := Bvh hp
  have HN := Bvh hn
  have HFx := Bvh hF
  have HGET := Bvh hget
  have HDO := Bvh hdo
  have HDK := Bvh hdk
  have HKZ := Bvh hkz
  clear h h0 hk0 hf hp hn hF hget hdo hdk hkz e1 e2 e3
  go_enter Try.func91, Try.ntmps91
  go_wp2_with (first
   | (go_at_call 42; refine (Az4 ⟨mv, sv, _, H.out⟩ HF.out).mono ?_; rintro e w1 ⟨v1, rfl, hV1, hb1w⟩; obtain ⟨A1, c1, rfl⟩ := Kd.V_slice hV1; obtain ⟨hx0, hx1, hx2, hx3⟩ := (HN.out.below hb1w).cell; have HV1 := Bvh hV1; have HB1 := Bvh hb1w; clear hV1 hb1w)
   | (go_at_call 28; refine (Aqs.calls A1 c1 (Aq8 s) x.f0 _ _ _ (Kd.V_reads' HV1.out).2.2 (Kd.V_reads' HV1.out).2.1 HGET.out).mono ?_; rintro e w2 ⟨v2, rfl, hR2, hb2⟩; obtain ⟨A2, c2, rfl⟩ := Kd.R_slice hR2; obtain ⟨hx0, hx1, hx2, hx3⟩ := (HN.out.below (Aq1 HB1.out hb2)).cell; have HB12 := Bvh hb2; have HB2 := Bvh (Aq1 HB1.out hb2); clear hR2 hb2)
   | (go_at_call 17; refine (Aj0.calls (fun k => w.heap.size ≤ k) A1 c1 (Aq8 s) x.f0 x.f1 x.f2 A3 c3 x.f3 (-1) _ _ _ (Azn (Kd.V_below HV1.out HB12.out)) (Kd.F_now (Kd.F_below HFx.out HB2.out)) hc3 HDO.out).mono ?_; rintro e w3 ⟨v3, rfl, hV3, hb3⟩; obtain ⟨A4, c4, rfl⟩ := Kd.V_slice hV3; have hp0 := (HP.out.below (Aq1 HB2.out hb3)).cell; obtain ⟨hx0, hx1, hx2, hx3⟩ := (HN.out.below (Aq1 HB2.out hb3)).cell; have HV3 := Bvh hV3; have HB13 := Bvh (Aq1 HB12.out hb3); have HB3 := Bvh (Aq1 HB2.out hb3); clear hV3 hb3)
   | (go_at_call 35; with_reducible refine (Axf.calls kd A4 c4 _ (Axs n2) _ (Kd.V_reads' HV3.out).2.2 (Kd.V_reads' HV3.out).2.1 HKD.out).mono ?_; rintro e w4 ⟨rfl, hb4⟩; have hp0 := (HP.out.below (Aq1 HB3.out hb4)).cell; obtain ⟨hx0, hx1, hx2, hx3⟩ := (HN.out.below (Aq1 HB3.out hb4)).cell; have hq := (H.out.below (Aq1 HB3.out hb4)).cells.2.2.2.2.2.1; have HB14 := Bvh (Aq1 HB13.out hb4); have HB4 := Bvh (Aq1 HB3.out hb4); clear hb4))
  go_ret
  exact ⟨_, rfl, rfl, ⟨mv, sv, _, H.out.below HB4.out⟩, Aqk hBw HB4.out⟩
end
end
section
section
variable {B : Nat → Prop} {g : Nat} {s : SSt} {w : World} {mv sv pv : Value}
theorem do1_full (x : S31) (A3 : Option Addr) (c3 b0 b1 : Nat) {s0 : SSt} {w0 : World} (h0 : RepAt B g s0 w0 mv sv pv) (hk0 : Axl g w0 w) (hb1 : w0.heap.size ≤ b1) (hB0 : Up B w0.heap.size) (e1 : s.safe = s0.safe) (e2 : s.pend = s0.pend) (e3 : s.fails = s0.fails)
 (h : RepAt B g s w mv sv pv) (hf : Fit s) (hx : x.f3.length ≤ 1000) (hp : VarP w b0 g) (hn : VarW w b1 x A3 c3) (hF : Kd.F (Kd.int .u8) w (fun k => k ≠ g) A3 x.f3.length x.f3) (hc3 : x.f3.length ≤ c3) (hno : ¬ ((getT (Aq8 s) x.f0).2 = false ∧ (x.f1 = 2 ∨ x.f1 = 3))) (hokc : ((getT (Aq8 s) x.f0).2 = true ∧ True ∧ True) ∨ ((getT (Aq8 s) x.f0).2 = false ∧ (x.f1 == 2) = false ∧ (x.f1 == 3) = false)) (he : (doT (Aq8 s) x (-1)).2 = 0) (hq1 : s.quota < Axs (doT (Aq8 s) x (-1)).1) (hq4 : Axs (Aq8 s) < Axs (doT (Aq8 s) x (-1)).1) :
 Calls Try.prog 91 #[.pointer (some ⟨b0, 0, none⟩), .pointer (some ⟨b1, 0, none⟩)] w fun e w' => ∃ r, e = .returned (.int .i64 r) ∧ r = (doB s x).2 ∧ Rep B g (doB s x).1 w' ∧ BelS B w w' := by
 obtain ⟨Ap, cp, rfl⟩ := Az1 h.pend
 have hBw : Up B w.heap.size := Up.le hB0 hk0.1
 have hg0 : g < w0.heap.size := Ax7 h0.blk
 have hlen := hf.len
 have hfl : okL (Aq8 s) ∧ (Aq8 s).length ≤ 1000 := Axt hf
 have hget := Bq1 (Aq8 s) x.f0 (by omega) hfl.1
 have hdo := Bxd (Aq8 s) x (-1) (by omega) hfl.1 (by omega)
 have hdk := Bqe (Aq8 s) x (-1) hfl.1
 obtain ⟨kz, hkz⟩ := Av6 (Aq8 s) (by omega)
 have hE : doE s x = 8 := by unfold doE; rw [if_neg hno, if_neg (by simp [he]), if_pos ⟨hq1, hq4⟩]
 have hB : doB s x = (s, 8) := by unfold doB; rw [hE]; rfl
 rw [hB]
 obtain ⟨⟨n2, r2⟩, hdr⟩ : ∃ r, doT (Aq8 s) x (-1) = r := ⟨_, rfl⟩
 rw [hdr] at hdo hdk he hq1 hq4
 simp only at hdo hdk he hq1 hq4
 obtain rfl := he
 have hn2 := (hdk rfl).2
 obtain ⟨kd, hkd⟩ := Av6 n2 (by omega)
 have HKD := Bvh hkd
 have HEB := Bvh (And.intro hE hB)
 have HDR := Bvh hdr
 clear hE hB hdr hkd
 rcases hokc with ⟨hok, hq2, hq3⟩ | ⟨hok, hq2, hq3⟩
 all_goals
  rw [hok] at hget
  clear hno
  have hp0 := hp.cell
  obtain ⟨hx0, hx1, hx2, hx3⟩ := hn.cell
  have H := Bvh h
  have H0 := Bvh h0
  have HK0 := Bvh hk0
  have HE := Bvh (And.intro e1 (And.intro e2 e3))
  have HF := Bvh hf
  have HP := Bvh hp
  have HN := Bvh hn
  have HFx := Bvh hF
  have HGET := Bvh hget
  have HDO := Bvh hdo
  have HDK := Bvh hdk
  have HKZ := Bvh hkz
  clear h h0 hk0 hf hp hn hF hget hdo hdk hkz e1 e2 e3
  go_enter Try.func91, Try.ntmps91
  go_wp2_with (first
   | (go_at_call 42; refine (Az4 ⟨mv, sv, _, H.out⟩ HF.out).mono ?_; rintro e w1 ⟨v1, rfl, hV1, hb1w⟩; obtain ⟨A1, c1, rfl⟩ := Kd.V_slice hV1; obtain ⟨hx0, hx1, hx2, hx3⟩ := (HN.out.below hb1w).cell; have HV1 := Bvh hV1; have HB1 := Bvh hb1w; clear hV1 hb1w)
   | (go_at_call 28; refine (Aqs.calls A1 c1 (Aq8 s) x.f0 _ _ _ (Kd.V_reads' HV1.out).2.2 (Kd.V_reads' HV1.out).2.1 HGET.out).mono ?_; rintro e w2 ⟨v2, rfl, hR2, hb2⟩; obtain ⟨A2, c2, rfl⟩ := Kd.R_slice hR2; obtain ⟨hx0, hx1, hx2, hx3⟩ := (HN.out.below (Aq1 HB1.out hb2)).cell; have HB12 := Bvh hb2; have HB2 := Bvh (Aq1 HB1.out hb2); clear hR2 hb2)
   | (go_at_call 17; refine (Aj0.calls (fun k => w.heap.size ≤ k) A1 c1 (Aq8 s) x.f0 x.f1 x.f2 A3 c3 x.f3 (-1) _ _ _ (Azn (Kd.V_below HV1.out HB12.out)) (Kd.F_now (Kd.F_below HFx.out HB2.out)) hc3 HDO.out).mono ?_; rintro e w3 ⟨v3, rfl, hV3, hb3⟩; obtain ⟨A4, c4, rfl⟩ := Kd.V_slice hV3; have hp0 := (HP.out.below (Aq1 HB2.out hb3)).cell; obtain ⟨hx0, hx1, hx2, hx3⟩ := (HN.out.below (Aq1 HB2.out hb3)).cell; have HV3 := Bvh hV3; have HB13 := Bvh (Aq1 HB12.out hb3); have HB3 := Bvh (Aq1 HB2.out hb3); clear hV3 hb3)
   | (go_at_call 35; with_reducible refine (Axf.calls kd A4 c4 _ (Axs n2) _ (Kd.V_reads' HV3.out).2.2 (Kd.V_reads' HV3.out).2.1 HKD.out).mono ?_; rintro e w4 ⟨rfl, hb4⟩; have hp0 := (HP.out.below (Aq1 HB3.out hb4)).cell; obtain ⟨hx0, hx1, hx2, hx3⟩ := (HN.out.below (Aq1 HB3.out hb4)).cell; have hq := (H.out.below (Aq1 HB3.out hb4)).cells.2.2.2.2.2.1; have HB14 := Bvh (Aq1 HB13.out hb4); have HB4 := Bvh (Aq1 HB3.out hb4); clear hb4)
   | (go_at_call 35; with_reducible refine (Axf.calls kz A1 c1 _ (Axs (Aq8 s)) _ (Kd.V_reads' (Kd.V_below HV1.out HB14.out)).2.2 (Kd.V_reads' HV1.out).2.1 HKZ.out).mono ?_; rintro e w5 ⟨rfl, hb5⟩; replace HB4 := Bvh (Aq1 HB4.out hb5); obtain ⟨hx0, hx1, hx2, hx3⟩ := (HN.out.below HB4.out).cell; clear hb5))
  go_ret
  exact ⟨_, rfl, rfl, ⟨mv, sv, _, H.out.below HB4.out⟩, Aqk hBw HB4.out⟩
end
end
section
section
variable {B : Nat → Prop} {g : Nat} {s : SSt} {w : World} {mv sv pv : Value}
theorem do1_ok (x : S31) (A3 : Option Addr) (c3 b0 b1 : Nat) {s0 : SSt} {w0 : World} (h0 : RepAt B g s0 w0 mv sv pv) (hk0 : Axl g w0 w) (hb1 : w0.heap.size ≤ b1) (hB0 : Up B w0.heap.size) (e1 : s.safe = s0.safe) (e2 : s.pend = s0.pend) (e3 : s.fails = s0.fails)
 (h : RepAt B g s w mv sv pv) (hf : Fit s) (hx : x.f3.length ≤ 1000) (hp : VarP w b0 g) (hn : VarW w b1 x A3 c3) (hF : Kd.F (Kd.int .u8) w (fun k => k ≠ g) A3 x.f3.length x.f3) (hc3 : x.f3.length ≤ c3) (hno : ¬ ((getT (Aq8 s) x.f0).2 = false ∧ (x.f1 = 2 ∨ x.f1 = 3))) (hokc : ((getT (Aq8 s) x.f0).2 = true ∧ True ∧ True) ∨ ((getT (Aq8 s) x.f0).2 = false ∧ (x.f1 == 2) = false ∧ (x.f1 == 3) = false)) (he : (doT (Aq8 s) x (-1)).2 = 0) (hqc : (¬ s.quota < Axs (doT (Aq8 s) x (-1)).1 ∧ True) ∨ (s.quota < Axs (doT (Aq8 s) x (-1)).1 ∧ ¬ Axs (Aq8 s) < Axs (doT (Aq8 s) x (-1)).1)) :
 Calls Try.prog 91 #[.pointer (some ⟨b0, 0, none⟩), .pointer (some ⟨b1, 0, none⟩)] w fun e w' => ∃ r, e = .returned (.int .i64 r) ∧ r = (doB s x).2 ∧ Rep B g (doB s x).1 w' ∧ BelS B w w' := by
 obtain ⟨Ap, cp, rfl⟩ := Az1 h.pend
 have hBw : Up B w.heap.size := Up.le hB0 hk0.1
 have hg0 : g < w0.heap.size := Ax7 h0.blk
 have hlen := hf.len
 have hfl : okL (Aq8 s) ∧ (Aq8 s).length ≤ 1000 := Axt hf
 have hget := Bq1 (Aq8 s) x.f0 (by omega) hfl.1
 have hdo := Bxd (Aq8 s) x (-1) (by omega) hfl.1 (by omega)
 have hdk := Bqe (Aq8 s) x (-1) hfl.1
 obtain ⟨kz, hkz⟩ := Av6 (Aq8 s) (by omega)
 have hE : doE s x = 0 := by unfold doE; rw [if_neg hno, if_neg (by simp [he]), if_neg (fun h => hqc.elim (fun q => q.1 h.1) (fun q => q.2 h.2))]
 have hB : doB s x = ({ s with pend := s.pend ++ [x], peak := mx s.peak (Axs (doT (Aq8 s) x (-1)).1) }, 0) := by unfold doB; rw [if_pos hE]
 rw [hB]
 obtain ⟨⟨n2, r2⟩, hdr⟩ : ∃ r, doT (Aq8 s) x (-1) = r := ⟨_, rfl⟩
 rw [hdr] at hdo hdk he hqc ⊢
 simp only at hdo hdk he hqc ⊢
 obtain rfl := he
 have hn2 := (hdk rfl).2
 obtain ⟨kd, hkd⟩ := Av6 n2 (by omega)
 have HKD := Bvh hkd
 have HEB := Bvh (And.intro hE hB)
 have HDR := Bvh hdr
 clear hE hB hdr hkd
 rcases hokc with ⟨hok, hq2, hq3⟩ | ⟨hok, hq2, hq3⟩
 all_goals rcases hqc with ⟨hq1, hq4⟩ | ⟨hq1, hq4⟩
 all_goals
  rw [hok] at hget
  clear hno
  have hp0 := hp.cell
  obtain ⟨hx0, hx1, hx2, hx3⟩ := hn.cell
  have H := Bvh h
  have H0 := Bvh h0
  have HK0 := Bvh hk0
  have HE := Bvh (And.intro e1 (And.intro e2 e3))
  have HF := Bvh hf
  have HP := Bvh hp
  have HN := Bvh hn
  have HFx := Bvh hF
  have HGET := Bvh hget
  have HDO := Bvh hdo
  have HDK := Bvh hdk
  have HKZ := Bvh hkz
  clear h h0 hk0 hf hp hn hF hget hdo hdk hkz e1 e2 e3
  go_enter Try.func91, Try.ntmps91
  go_wp2_with (first
   | (go_at_call 42; refine (Az4 ⟨mv, sv, _, H.out⟩ HF.out).mono ?_; rintro e w1 ⟨v1, rfl, hV1, hb1w⟩; obtain ⟨A1, c1, rfl⟩ := Kd.V_slice hV1; obtain ⟨hx0, hx1, hx2, hx3⟩ := (HN.out.below hb1w).cell; have HV1 := Bvh hV1; have HB1 := Bvh hb1w; clear hV1 hb1w)
   | (go_at_call 28; refine (Aqs.calls A1 c1 (Aq8 s) x.f0 _ _ _ (Kd.V_reads' HV1.out).2.2 (Kd.V_reads' HV1.out).2.1 HGET.out).mono ?_; rintro e w2 ⟨v2, rfl, hR2, hb2⟩; obtain ⟨A2, c2, rfl⟩ := Kd.R_slice hR2; obtain ⟨hx0, hx1, hx2, hx3⟩ := (HN.out.below (Aq1 HB1.out hb2)).cell; have HB12 := Bvh hb2; have HB2 := Bvh (Aq1 HB1.out hb2); clear hR2 hb2)
   | (go_at_call 17; refine (Aj0.calls (fun k => w.heap.size ≤ k) A1 c1 (Aq8 s) x.f0 x.f1 x.f2 A3 c3 x.f3 (-1) _ _ _ (Azn (Kd.V_below HV1.out HB12.out)) (Kd.F_now (Kd.F_below HFx.out HB2.out)) hc3 HDO.out).mono ?_; rintro e w3 ⟨v3, rfl, hV3, hb3⟩; obtain ⟨A4, c4, rfl⟩ := Kd.V_slice hV3; have hp0 := (HP.out.below (Aq1 HB2.out hb3)).cell; obtain ⟨hx0, hx1, hx2, hx3⟩ := (HN.out.below (Aq1 HB2.out hb3)).cell; have HV3 := Bvh hV3; have HB13 := Bvh (Aq1 HB12.out hb3); have HB3 := Bvh (Aq1 HB2.out hb3); clear hV3 hb3)
   | (go_at_call 35; with_reducible refine (Axf.calls kd A4 c4 _ (Axs n2) _ (Kd.V_reads' HV3.out).2.2 (Kd.V_reads' HV3.out).2.1 HKD.out).mono ?_; rintro e w4 ⟨rfl, hb4⟩; have hp0 := (HP.out.below (Aq1 HB3.out hb4)).cell; obtain ⟨hx0, hx1, hx2, hx3⟩ := (HN.out.below (Aq1 HB3.out hb4)).cell; have hq := (H.out.below (Aq1 HB3.out hb4)).cells.2.2.2.2.2.1; have HB14 := Bvh (Aq1 HB13.out hb4); have HB4 := Bvh (Aq1 HB3.out hb4); clear hb4)
   | (go_at_call 35; with_reducible refine (Axf.calls kz A1 c1 _ (Axs (Aq8 s)) _ (Kd.V_reads' (Kd.V_below HV1.out HB14.out)).2.2 (Kd.V_reads' HV1.out).2.1 HKZ.out).mono ?_; rintro e w5 ⟨rfl, hb5⟩; replace HB4 := Bvh (Aq1 HB4.out hb5); obtain ⟨hx0, hx1, hx2, hx3⟩ := (HN.out.below HB4.out).cell; clear hb5)
   | (go_at_call 61; refine (Bxh (fun k => k ≠ g) A3 c3 x.f3 _ (Kd.F_below HFx.out HB4.out) (by omega)).mono ?_; rintro e w6 ⟨v6, rfl, hO6, hb6⟩; obtain ⟨A6, c6, rfl⟩ := Az1 hO6; have hb26 : Below w.heap.size w w6 := Aq1 HB4.out hb6; obtain ⟨hx0, hx1, hx2, hx3⟩ := (HN.out.below hb26).cell; have hfb := Aq2 (HN.out.below hb26) 3; have HO6 := Bvh hO6; have HB6 := Bvh hb26; clear hO6 hb6 hb26))
  have hn6' : w6.heap[b1]? = some (.cells #[.string x.f0, .int .i64 x.f1, .int .i64 x.f2, .slice A3 x.f3.length c3] 31 (0, 0)) := HN.out.below HB6.out
  have hp6' : w6.heap[b0]? = some (.cells #[.pointer (some ⟨g, 0, none⟩)] 58 (0, 0)) := HP.out.below HB6.out
  have hn6 := Axb hn6' 3 (.slice A6 x.f3.length c6)
  have hF6 : Kd.F (Kd.int .u8) w6 (fun k => w.heap.size ≤ k) A6 x.f3.length x.f3 := Kd.F_mono (Bzg HO6.out) fun k hk => Nat.le_trans HB4.out.size (Awv HO6.out k hk.symm)
  have hb1w : b1 < w.heap.size := Ax7 HN.out
  have hgb : g ≠ b1 := by omega
  have hsz6 : w.heap.size ≤ w6.heap.size := HB6.out.size
  have hF7 : Kd.F (Kd.int .u8) (w6.setCell ⟨b1, 3, none⟩ (.slice A6 x.f3.length c6)) (fun k => w.heap.size ≤ k) A6 x.f3.length x.f3 := Kd.F_step hF6 fun k hk _ => Below.heap_setCell _ _ _ _ (show k ≠ b1 by omega)
  have hR7 : RepAt B g s (w6.setCell ⟨b1, 3, none⟩ (.slice A6 x.f3.length c6)) mv sv (.slice Ap s.pend.length cp) := H0.out.beside (H.out.below HB6.out) (HK0.out.trans (Axl.of_below HB6.out)) hb1 (fun k hk => Below.heap_setCell _ _ _ _ hk) HE.out.1 HE.out.2.1 HE.out.2.2
  have hP7 : VarP (w6.setCell ⟨b1, 3, none⟩ (.slice A6 x.f3.length c6)) b0 g := (Below.heap_setCell _ _ _ _ (show b0 ≠ b1 from Akx hp6' hn6' (by decide))).trans hp6'
  have hN7 : VarW (w6.setCell ⟨b1, 3, none⟩ (.slice A6 x.f3.length c6)) b1 x A6 c6 := hn6
  have hB7 : BelS B w (w6.setCell ⟨b1, 3, none⟩ (.slice A6 x.f3.length c6)) := Aqz (Aqk hBw HB6.out) (hB0 _ hb1) 3 _
  have hs7 : w.heap.size ≤ (w6.setCell ⟨b1, 3, none⟩ (.slice A6 x.f3.length c6)).heap.size := by rw [World.size_setCell]; exact hsz6
  clear hn6 hF6 hp0 hx0 hx1 hx2 hx3 hfb
  generalize w6.setCell ⟨b1, 3, none⟩ (.slice A6 x.f3.length c6) = w7 at hF7 hR7 hP7 hN7 hB7 hs7 ⊢
  obtain ⟨i0, hi, hz0, hz1, hz2⟩ := info_parts Bkt
  obtain ⟨inner, hown, hreps⟩ := hR7.pend
  have hd7 : Below w7.heap.size w7 w7.drew := Aq5 (Below.refl _ _)
  refine Ak8 (n := 11) (S := (fun w' => w'.cell? ⟨b0, 0, none⟩ = some (.pointer (some ⟨g, 0, none⟩)) ∧ w'.cell? ⟨g, 4, none⟩ = some (.slice Ap s.pend.length cp) ∧ w'.cell? ⟨b1, 0, none⟩ = some (.string x.f0) ∧ w'.cell? ⟨b1, 1, none⟩ = some (.int .i64 x.f1) ∧ w'.cell? ⟨b1, 2, none⟩ = some (.int .i64 x.f2) ∧ w'.cell? ⟨b1, 3, none⟩ = some (.slice A6 x.f3.length c6))) (ds := [10]) #[false, false, false, false, false, false, false, false, false, false, false] (by kernel_rfl) rfl rfl ⟨(hP7.below hd7).cell, (hR7.below hd7).cells.2.2.2.2.1, (hN7.below hd7).cell.1, (hN7.below hd7).cell.2.1, (hN7.below hd7).cell.2.2.1, (hN7.below hd7).cell.2.2.2⟩ (fun hHeld => ?_)
  refine take_ (i := 0) (N := some 59) (v := ?_) (a' := ?_) #[true, false, false, false, false, false, false, false, false, false, false] rfl rfl (by kernel_rfl) (fun _ _ _ h => h) (Or.inl ⟨by rfl, ?_⟩) hHeld ?_ ?_
  rotate_left
  · rintro w' ⟨s0, s1, s2, s3, s4, s5⟩
    go_simp
    with_reducible rfl
  rotate_left
  · simp only [Act.put, Bvi, Bvj, Bvk, Aqv, Aqw]
    rfl
  refine take_ (i := 1) (N := some 60) (v := ?_) (a' := ?_) #[true, true, false, false, false, false, false, false, false, false, false] rfl rfl (by kernel_rfl) (fun _ _ _ h => h) (Or.inl ⟨by rfl, ?_⟩) hHeld ?_ ?_
  rotate_left
  · rintro w' ⟨s0, s1, s2, s3, s4, s5⟩
    go_simp
    with_reducible rfl
  rotate_left
  · simp only [Act.put, Bvi, Bvj, Bvk, Aqv, Aqw]
    rfl
  refine Axh (i := 2) (N := some 61) (v := ?_) (a' := ?_) #[true, true, true, false, false, false, false, false, false, false, false] rfl rfl (by kernel_rfl) (fun _ _ _ h => h) (Or.inl ⟨by rfl, ?_⟩) ?_ ?_
  rotate_left
  · intro w'
    go_simp
    with_reducible rfl
  rotate_left
  · simp only [Act.put, Bvi, Bvj, Bvk, Aqv, Aqw]
    rfl
  refine Axh (i := 3) (N := some 62) (v := ?_) (a' := ?_) #[true, true, true, true, false, false, false, false, false, false, false] rfl rfl (by kernel_rfl) (fun _ _ _ h => h) (Or.inl ⟨by rfl, ?_⟩) ?_ ?_
  rotate_left
  · intro w'
    go_simp
    with_reducible rfl
  rotate_left
  · simp only [Act.put, Bvi, Bvj, Bvk, Aqv, Aqw]
    rfl
  refine take_ (i := 4) (N := some 63) (v := ?_) (a' := ?_) #[true, true, true, true, true, false, false, false, false, false, false] rfl rfl (by kernel_rfl) (fun _ _ _ h => h) (Or.inl ⟨by rfl, ?_⟩) hHeld ?_ ?_
  rotate_left
  · rintro w' ⟨s0, s1, s2, s3, s4, s5⟩
    go_simp
    with_reducible rfl
  rotate_left
  · simp only [Act.put, Bvi, Bvj, Bvk, Aqv, Aqw]
    rfl
  refine take_ (i := 5) (N := some 64) (v := ?_) (a' := ?_) #[true, true, true, true, true, true, false, false, false, false, false] rfl rfl (by kernel_rfl) (fun _ _ _ h => h) (Or.inl ⟨by rfl, ?_⟩) hHeld ?_ ?_
  rotate_left
  · rintro w' ⟨s0, s1, s2, s3, s4, s5⟩
    go_simp
    with_reducible rfl
  rotate_left
  · simp only [Act.put, Bvi, Bvj, Bvk, Aqv, Aqw]
    rfl
  refine one_ (i := 6) (N := some 65) #[true, true, true, true, true, true, true, false, false, false, false] rfl rfl (by kernel_rfl) (by decide) (fun K hK => ?_)
  refine Avq (w1 := w7.drew.alloc (.cells #[.string x.f0, .int .i64 x.f1, .int .i64 x.f2, .slice A6 x.f3.length c6] 31)) (v := .slice (some ⟨w7.drew.heap.size, 0, none⟩) 1 1) (by rfl) rfl ?_ ?_
  · go_simp
  have h78 : Below w7.heap.size w7 (w7.drew.alloc (.cells #[.string x.f0, .int .i64 x.f1, .int .i64 x.f2, .slice A6 x.f3.length c6] 31)) := Aq4 hd7 _
  have hN8 := (hN7.below h78).cell
  refine hK.out _ _ ⟨(hP7.below h78).cell, (hR7.below h78).cells.2.2.2.2.1, hN8.1, hN8.2.1, hN8.2.2.1, hN8.2.2.2⟩ (fun hHeld => ?_)
  clear hK K
  refine Avb (a' := ?_) ?_ ?_
  rotate_left
  · show Act.put _ (some 65) _ = _
    simp only [Act.put, Bvi, Bvj, Bvk, Aqv, Aqw]
    rfl
  refine one_ (i := 7) (N := some 66) #[true, true, true, true, true, true, true, true, false, false, false] rfl rfl (by kernel_rfl) (by decide) (fun K hK => ?_)
  refine step_append_lies _ (by rfl) _ _ _ (by rfl) 0 31 i0 _ 4 56 Try.underlying104 hi hz0 hz1 hz2 rfl (by omega) (.slice Ap s.pend.length cp) s.pend.length inner (by rfl) (Aji hown h78) ⟨w7.drew.heap.size, 0, none⟩ 1 1 [.string x.f0, .int .i64 x.f1, .int .i64 x.f2, .slice A6 x.f3.length c6] (by rfl) (by rfl) (World.news_of_block (cs := #[.string x.f0, .int .i64 x.f1, .int .i64 x.f2, .slice A6 x.f3.length c6]) (t := 31) (fr := (0, 0)) (heap_alloc_new _ _)) (by simp [Value.oneCell']) (by omega) (by unfold maxLen; omega) (by omega) (Nat.zero_le _) _ rfl ?_
  intro gg cap w8 hown8 hgrow hat hlt8
  have hR8 := hR7.below h78
  have hP8 : ∀ b t (cs : Array Value) (f : Nat × Nat), (w7.drew.alloc (.cells #[.string x.f0, .int .i64 x.f1, .int .i64 x.f2, .slice A6 x.f3.length c6] 31)).heap[b]? = some (Obj.cells cs t f) → some b ≠ (Value.slice Ap s.pend.length cp).ownBlock → w8.heap[b]? = some (Obj.cells cs t f) := fun b t cs f hb ht => (hgrow.block b (Ax7 hb) ht).trans hb
  have hne1 : some b1 ≠ (Value.slice Ap s.pend.length cp).ownBlock := fun he => by
   obtain ⟨inner0, hown0, _⟩ := H0.out.pend
   have := Ava hown0 b1 he.symm
   omega
  have hp8 := hP8 _ _ _ _ (hP7.below h78) (fun he => by exact O_ne hR8.pend (hP7.below h78) (by decide) he.symm)
  have hn8 : VarW w8 b1 x A6 c6 := hP8 _ _ _ _ (hN7.below h78) hne1
  have hg8 := hP8 _ _ _ _ hR8.blk (fun he => hR8.pend_ne he.symm)
  have hN8' := hn8.cell
  refine hK.out _ _ ⟨VarP.cell hp8, by rw [cell_of_row w8 g _ _ 106 (0, 0) hg8]; rfl, hN8'.1, hN8'.2.1, hN8'.2.2.1, hN8'.2.2.2⟩ (fun hHeld => ?_)
  have hO8 : O k31 31 w8 0 (fun k => k ≠ g) (.slice (some ⟨gg, 0, none⟩) (s.pend.length + 1) cap) (s.pend ++ [x]) := by
   refine O_snoc31 (W := w7.drew.alloc (.cells #[.string x.f0, .int .i64 x.f1, .int .i64 x.f2, .slice A6 x.f3.length c6] 31)) (v := .slice Ap s.pend.length cp) (hreps.imp_ fun y c' hy => Kd.FK_below hy h78) ?_ hown8 hgrow ?_
   · refine Bks _ _ x (Kd.V_reads' (O_V HO6.out)).2.1 (Kd.F_mono (Kd.F_below hF7 h78) fun k hk => ⟨?_, fun he => ?_⟩)
     · have := HK0.out.1
       omega
     · obtain ⟨inner0, hown0, _⟩ := H0.out.pend
       have := Ava hown0 k he.symm
       have := HK0.out.1
       omega
   · rcases hat with hat | hat
     · exact .inl hat.symm
     · exact .inr (by rw [hat]; rfl)
  have hR9 := hR8.setPend hO8 hgrow (hat.elim (fun h => .inl h.symm) (fun h => .inr ⟨gg, rfl, by rw [h]; exact Nat.le_refl _, (Up.le (Up.le hBw hs7) h78.size) _ (by rw [h]; exact Nat.le_refl _)⟩))
  have hB9 : BelS B w w8 := Aqc (Aqc hB7 (Aqk (Up.le hBw hs7) h78)) ⟨hgrow.os, hgrow.tape, hgrow.output, hgrow.size, fun k hk hn => hgrow.block k hk (fun he => hn (hR8.own k he.symm))⟩
  clear hK K
  refine Avb (a' := ?_) ?_ ?_
  rotate_left
  · show Act.put _ (some 66) _ = _
    simp only [Act.put, Bvi, Bvj, Bvk, Aqv, Aqw]
    rfl
  refine Axh (i := 8) (N := some 67) (v := ?_) (a' := ?_) #[true, true, true, true, true, true, true, true, true, false, false] rfl rfl (by kernel_rfl) (fun _ _ _ h => h) (Or.inl ⟨by rfl, ?_⟩) ?_ ?_
  rotate_left
  · intro w'
    go_simp
    with_reducible rfl
  rotate_left
  · simp only [Act.put, Bvi, Bvj, Bvk, Aqv, Aqw]
    rfl
  refine Axh (i := 9) (N := some 68) (v := ?_) (a' := ?_) #[true, true, true, true, true, true, true, true, true, true, false] rfl rfl (by kernel_rfl) (fun _ _ _ h => h) (Or.inl ⟨by rfl, ?_⟩) ?_ ?_
  rotate_left
  · intro w'
    go_simp
    with_reducible rfl
  rotate_left
  · simp only [Act.put, Bvi, Bvj, Bvk, Aqv, Aqw]
    rfl
  refine Awj (i := 10) (N := none) #[true, true, true, true, true, true, true, true, true, true, true] rfl rfl (by kernel_rfl) (by decide) (fun K hK => ?_)
  have hfr := Aq2 hg8 4
  have hcl : w8.cell? ⟨g, 4, none⟩ = some (.slice Ap s.pend.length cp) := by rw [cell_of_row w8 g _ _ 106 (0, 0) hg8]; rfl
  refine Avl (w1 := ?_) (by rfl) rfl ?_ ?_
  rotate_left
  · go_simp
    rfl
  refine hK.out _ _ ?_
  clear hK K
  refine Awn (by kernel_rfl) ?_
  have hp9 : VarP (w8.setCell ⟨g, 4, none⟩ (.slice (some ⟨gg, 0, none⟩) (s.pend.length + 1) cap)) b0 g := VarP.set hp8 hg8
  have hB10 := Aqz hB9 H0.out.hg 4 (.slice (some ⟨gg, 0, none⟩) (s.pend.length + 1) cap)
  have HBS := Bvh hB10
  clear hfr hcl hHeld hO8 hown8 hgrow hat hlt8 hreps hown hN8 hN8' hn8 hg8 hp8 hP8 hB9 hB10 hB7 hF7 hR8 hR7 hP7 hN7 h78 hd7 hi hz0 hz1 hz2
  go_wp2_with fail
  generalize w8.setCell ⟨g, 4, none⟩ (.slice (some ⟨gg, 0, none⟩) (s.pend.length + 1) cap) = w9 at hp9 hR9 HBS ⊢
  have hd9 : Below w9.heap.size w9 w9.drew := Aq5 (Below.refl _ _)
  have hp9d := (hp9.below hd9).cell
  have hc6d := (hR9.below hd9).cells.2.2.2.2.2.2.1
  refine Ak8 (n := 10) (S := (fun w' => w'.cell? ⟨b0, 0, none⟩ = some (.pointer (some ⟨g, 0, none⟩)) ∧ w'.cell? ⟨g, 6, none⟩ = some (.int .i64 s.peak))) (ds := [9]) #[false, false, false, false, false, false, false, false, false, false] (by kernel_rfl) rfl rfl ⟨hp9d, hc6d⟩ (fun hHeld => ?_)
  refine Axh (i := 5) (N := some 74) (v := ?_) (a' := ?_) #[false, false, false, false, false, true, false, false, false, false] rfl rfl (by kernel_rfl) (fun _ _ _ h => h) (Or.inl ⟨by rfl, ?_⟩) ?_ ?_
  rotate_left
  · intro w'
    go_simp
    with_reducible rfl
  rotate_left
  · simp only [Act.put, Bvi, Bvj, Bvk, Aqv, Aqw]
    rfl
  refine take_ (i := 0) (N := some 69) (v := ?_) (a' := ?_) #[true, false, false, false, false, true, false, false, false, false] rfl rfl (by kernel_rfl) (fun _ _ _ h => h) (Or.inl ⟨by rfl, ?_⟩) hHeld ?_ ?_
  rotate_left
  · rintro w' ⟨s0, s1⟩
    go_simp
    with_reducible rfl
  rotate_left
  · simp only [Act.put, Bvi, Bvj, Bvk, Aqv, Aqw]
    rfl
  refine take_ (i := 1) (N := some 70) (v := ?_) (a' := ?_) #[true, true, false, false, false, true, false, false, false, false] rfl rfl (by kernel_rfl) (fun _ _ _ h => h) (Or.inl ⟨by rfl, ?_⟩) hHeld ?_ ?_
  rotate_left
  · rintro w' ⟨s0, s1⟩
    go_simp
    with_reducible rfl
  rotate_left
  · simp only [Act.put, Bvi, Bvj, Bvk, Aqv, Aqw]
    rfl
  refine Axh (i := 2) (N := some 71) (v := ?_) (a' := ?_) #[true, true, true, false, false, true, false, false, false, false] rfl rfl (by kernel_rfl) (fun _ _ _ h => h) (Or.inl ⟨by rfl, ?_⟩) ?_ ?_
  rotate_left
  · intro w'
    go_simp
    with_reducible rfl
  rotate_left
  · simp only [Act.put, Bvi, Bvj, Bvk, Aqv, Aqw]
    rfl
  refine Axh (i := 3) (N := some 72) (v := ?_) (a' := ?_) #[true, true, true, true, false, true, false, false, false, false] rfl rfl (by kernel_rfl) (fun _ _ _ h => h) (Or.inl ⟨by rfl, ?_⟩) ?_ ?_
  rotate_left
  · intro w'
    go_simp
    with_reducible rfl
  rotate_left
  · simp only [Act.put, Bvi, Bvj, Bvk, Aqv, Aqw]
    rfl
  refine take_ (i := 4) (N := some 73) (v := ?_) (a' := ?_) #[true, true, true, true, true, true, false, false, false, false] rfl rfl (by kernel_rfl) (fun _ _ _ h => h) (Or.inl ⟨by rfl, ?_⟩) hHeld ?_ ?_
  rotate_left
  · rintro w' ⟨s0, s1⟩
    go_simp
    with_reducible rfl
  rotate_left
  · simp only [Act.put, Bvi, Bvj, Bvk, Aqv, Aqw]
    rfl
  refine Axh (i := 6) (N := some 75) (v := ?_) (a' := ?_) #[true, true, true, true, true, true, true, false, false, false] rfl rfl (by kernel_rfl) (fun _ _ _ h => h) (Or.inl ⟨by rfl, ?_⟩) ?_ ?_
  rotate_left
  · intro w'
    go_simp
    with_reducible rfl
  rotate_left
  · simp only [Act.put, Bvi, Bvj, Bvk, Aqv, Aqw]
    rfl
  refine Axh (i := 7) (N := some 76) (v := ?_) (a' := ?_) #[true, true, true, true, true, true, true, true, false, false] rfl rfl (by kernel_rfl) (fun _ _ _ h => h) (Or.inl ⟨by rfl, ?_⟩) ?_ ?_
  rotate_left
  · intro w'
    go_simp
    with_reducible rfl
  rotate_left
  · simp only [Act.put, Bvi, Bvj, Bvk, Aqv, Aqw]
    rfl
  refine Axh (i := 8) (N := some 77) (v := ?_) (a' := ?_) #[true, true, true, true, true, true, true, true, true, false] rfl rfl (by kernel_rfl) (fun _ _ _ h => h) (Or.inl ⟨by rfl, ?_⟩) ?_ ?_
  rotate_left
  · intro w'
    go_simp
    with_reducible rfl
  rotate_left
  · simp only [Act.put, Bvi, Bvj, Bvk, Aqv, Aqw]
    rfl
  refine Awj (i := 9) (N := none) #[true, true, true, true, true, true, true, true, true, true] rfl rfl (by kernel_rfl) (by decide) (fun K hK => ?_)
  have hfr := Aq2 (hR9.below hd9).blk 6
  have hcl := hc6d
  refine Avl (w1 := ?_) (by rfl) rfl ?_ ?_
  rotate_left
  · go_simp
    rfl
  refine hK.out _ _ ?_
  clear hK K
  refine Awn (by kernel_rfl) ?_
  have hend : RepAt B g { s with pend := s.pend ++ [x], peak := mx s.peak (Axs n2) } (w9.drew.setCell ⟨g, 6, none⟩ (.int .i64 (mx s.peak (Axs n2)))) mv sv (.slice (some ⟨gg, 0, none⟩) (s.pend.length + 1) cap) :=
   (hR9.below hd9).upd (fun k _ hk => Below.heap_setCell _ _ _ _ hk) (Axb (hR9.below hd9).blk 6 _) rfl rfl rfl
  have hBe : BelS B w (w9.drew.setCell ⟨g, 6, none⟩ (.int .i64 (mx s.peak (Axs n2)))) := Aqz (Aqc HBS.out (Aqk (Up.le hBw HBS.out.size) hd9)) H0.out.hg 6 _
  go_wp2_with fail
  all_goals go_ret
  · have hm : mx s.peak (Axs n2) = Axs n2 := by unfold mx; split <;> omega
    rw [hm] at hend hBe
    exact ⟨0, rfl, rfl, ⟨_, _, _, by rw [hm]; exact hend⟩, hBe⟩
  · have hm : mx s.peak (Axs n2) = s.peak := by unfold mx; split <;> omega
    rw [hm] at hend hBe
    exact ⟨0, rfl, rfl, ⟨_, _, _, by rw [hm]; exact hend⟩, hBe⟩
end
end
section
section
variable {B : Nat → Prop} {g : Nat} {s : SSt} {w : World} {mv sv pv : Value}
theorem Bv3 (x : S31) (A3 : Option Addr) (c3 b0 b1 : Nat) {s0 : SSt} {w0 : World} (h0 : RepAt B g s0 w0 mv sv pv) (hk0 : Axl g w0 w) (hb1 : w0.heap.size ≤ b1) (hB0 : Up B w0.heap.size) (e1 : s.safe = s0.safe) (e2 : s.pend = s0.pend) (e3 : s.fails = s0.fails)
 (h : RepAt B g s w mv sv pv) (hf : Fit s) (hx : x.f3.length ≤ 1000) (hp : VarP w b0 g) (hn : VarW w b1 x A3 c3) (hF : Kd.F (Kd.int .u8) w (fun k => k ≠ g) A3 x.f3.length x.f3) (hc3 : x.f3.length ≤ c3) :
 Calls Try.prog 91 #[.pointer (some ⟨b0, 0, none⟩), .pointer (some ⟨b1, 0, none⟩)] w fun e w' => ∃ r, e = .returned (.int .i64 r) ∧ r = (doB s x).2 ∧ Rep B g (doB s x).1 w' ∧ BelS B w w' := by
 have key : ∀ (hno : ¬ ((getT (Aq8 s) x.f0).2 = false ∧ (x.f1 = 2 ∨ x.f1 = 3))) (hokc : ((getT (Aq8 s) x.f0).2 = true ∧ True ∧ True) ∨ ((getT (Aq8 s) x.f0).2 = false ∧ (x.f1 == 2) = false ∧ (x.f1 == 3) = false)), Calls Try.prog 91 #[.pointer (some ⟨b0, 0, none⟩), .pointer (some ⟨b1, 0, none⟩)] w fun e w' => ∃ r, e = .returned (.int .i64 r) ∧ r = (doB s x).2 ∧ Rep B g (doB s x).1 w' ∧ BelS B w w' := fun hno hokc => by
  by_cases he : (doT (Aq8 s) x (-1)).2 = 0
  · by_cases q1 : s.quota < Axs (doT (Aq8 s) x (-1)).1
    · by_cases q2 : Axs (Aq8 s) < Axs (doT (Aq8 s) x (-1)).1
      · exact do1_full x A3 c3 b0 b1 h0 hk0 hb1 hB0 e1 e2 e3 h hf hx hp hn hF hc3 hno hokc he q1 q2
      · exact do1_ok x A3 c3 b0 b1 h0 hk0 hb1 hB0 e1 e2 e3 h hf hx hp hn hF hc3 hno hokc he (.inr ⟨q1, q2⟩)
    · exact do1_ok x A3 c3 b0 b1 h0 hk0 hb1 hB0 e1 e2 e3 h hf hx hp hn hF hc3 hno hokc he (.inl ⟨q1, trivial⟩)
  · exact do1_err x A3 c3 b0 b1 h0 hk0 hb1 hB0 e1 e2 e3 h hf hx hp hn hF hc3 hno hokc he
 cases hok : (getT (Aq8 s) x.f0).2
 · by_cases h2 : x.f1 = 2
   · exact Bv2 x A3 c3 b0 b1 h0 hk0 hb1 hB0 e1 e2 e3 h hf hx hp hn hF hc3 hok h2
   · by_cases h3 : x.f1 = 3
     · exact Bv1 x A3 c3 b0 b1 h0 hk0 hb1 hB0 e1 e2 e3 h hf hx hp hn hF hc3 hok h3
     · exact key (by simp [h2, h3]) (.inr ⟨hok, by simpa using h2, by simpa using h3⟩)
 · exact key (by simp [hok]) (.inl ⟨hok, trivial, trivial⟩)
end
end
section
section
variable {B : Nat → Prop} {g : Nat} {s : SSt} {w : World} {mv sv pv : Value}
def doR (s : SSt) (x : S31) : SSt × Int := if (asked s).2 ≠ 0 then asked s else doB (asked s).1 x
theorem Bqu (x : S31) (A3 : Option Addr) (c3 : Nat) (h : Rep B g s w) (hf : Fit s) (hf1 : Fit (asked s).1) (hBw : Up B w.heap.size) (hx : x.f3.length ≤ 1000) (hF : Kd.F (Kd.int .u8) w (fun k => k ≠ g) A3 x.f3.length x.f3) (hc3 : x.f3.length ≤ c3) :
 Calls Try.prog 67 #[.pointer (some ⟨g, 0, none⟩), .agg #[.string x.f0, .int .i64 x.f1, .int .i64 x.f2, .slice A3 x.f3.length c3]] w fun e w' => e = .returned (.int .i64 (doR s x).2) ∧ Rep B g (doR s x).1 w' ∧ BelS B w w' := by
 obtain ⟨mv, sv, pv, h⟩ := h
 have hw1 : Below w.heap.size w (w.alloc (.cells #[.pointer (some ⟨g, 0, none⟩)] 58)) := Aq4 (Below.refl _ _) _
 have hp1 : VarP (w.alloc (.cells #[.pointer (some ⟨g, 0, none⟩)] 58)) w.heap.size g := heap_alloc_new _ _
 generalize hW1 : w.alloc (.cells #[.pointer (some ⟨g, 0, none⟩)] 58) = w1 at hw1 hp1
 have hsz : w1.heap.size = w.heap.size + 1 := by rw [← hW1, World.size_alloc]
 have hw2 : Below w1.heap.size w1 (w1.alloc (.cells #[.string x.f0, .int .i64 x.f1, .int .i64 x.f2, .slice A3 x.f3.length c3] 31)) := Aq4 (Below.refl _ _) _
 have hn2 : VarW (w1.alloc (.cells #[.string x.f0, .int .i64 x.f1, .int .i64 x.f2, .slice A3 x.f3.length c3] 31)) w1.heap.size x A3 c3 := heap_alloc_new _ _
 have hp2 := hp1.below hw2
 have hw02 := Aq1 hw1 hw2
 have H := Bvh h
 have HF := Bvh hf
 have HF1 := Bvh hf1
 have HP := Bvh hp2
 have HN := Bvh hn2
 have HW := Bvh hw02
 have HW1 := Bvh hw1
 have HW2 := Bvh hw2
 have HFx := Bvh hF
 have hg0 : g < w.heap.size := Ax7 h.blk
 have hcell : (w1.alloc (.cells #[.string x.f0, .int .i64 x.f1, .int .i64 x.f2, .slice A3 x.f3.length c3] 31)).cell? ⟨w.heap.size, 0, none⟩ = some (.pointer (some ⟨g, 0, none⟩)) := hp2.cell
 clear h hf hf1 hw1 hp1 hw2 hn2 hp2 hw02 hF
 by_cases ha : (asked s).2 = 0
 · have hR : doR s x = doB (asked s).1 x := by unfold doR; rw [if_neg (by simp [ha])]
   rw [hR]
   have hcall : Calls Try.prog 90 #[.pointer (some ⟨g, 0, none⟩), .func (.func 91) #[] #[.pointer (some ⟨w.heap.size, 0, none⟩), .pointer (some ⟨w1.heap.size, 0, none⟩)]] (w1.alloc (.cells #[.string x.f0, .int .i64 x.f1, .int .i64 x.f2, .slice A3 x.f3.length c3] 31)) fun e w' => ∃ r, e = .returned (.int .i64 r) ∧ (r = (doB (asked s).1 x).2 ∧ Rep B g (doB (asked s).1 x).1 w' ∧ BelS B w w') := by
    refine Bv8 _ _ (fun r w' => r = (doB (asked s).1 x).2 ∧ Rep B g (doB (asked s).1 x).1 w' ∧ BelS B w w') (H.out.below HW.out) HF.out ha ?_
    intro w3 hr3 hb3 hk3
    have hk03 := (Axl.of_below HW.out (g := g)).trans hk3
    have hp3 : VarP w3 w.heap.size g := Aqt HP.out hk3 (by omega)
    have hn3 : VarW w3 w1.heap.size x A3 c3 := Aqt HN.out hk3 (by have := HW1.out.size; omega)
    have hF3 : Kd.F (Kd.int .u8) w3 (fun k => k ≠ g) A3 x.f3.length x.f3 := Kd.F_step HFx.out fun k hk hlt => hk03.2 k hlt hk
    have hao := Bqw ha
    refine (Bv3 x A3 c3 _ _ H.out hk03 HW1.out.size hBw (by rw [hao]) (by rw [hao]) (by rw [hao]) hr3 HF1.out hx hp3 hn3 hF3 hc3).mono ?_
    rintro e w4 ⟨r, rfl, rfl, hr4, hb4⟩
    exact ⟨_, rfl, rfl, hr4, Aqc (Aqc (Aqk hBw HW.out) hb3) hb4⟩
   rw [hsz] at hcall
   have HC := Bvh hcall
   clear hcall hR ha
   subst hW1
   go_enter Try.func67, Try.ntmps67
   go_wp2_with (go_at_call 90; refine (Aside0.out HC).mono ?_; rintro e w7 ⟨r, rfl, rfl, hr7, hb7⟩; have HR7 := Bvh hr7; have HB7 := Bvh hb7; clear hr7 hb7)
   go_ret
   exact ⟨rfl, HR7.out, HB7.out⟩
 · have hR : doR s x = asked s := by unfold doR; rw [if_pos ha]
   rw [hR]
   have hce := (Aku (.func (.func 91) #[] #[.pointer (some ⟨w.heap.size, 0, none⟩), .pointer (some ⟨w1.heap.size, 0, none⟩)]) ⟨mv, sv, pv, H.out.below HW.out⟩ HF.out ha)
   rw [hsz] at hce
   have HC := Bvh hce
   clear hR ha hce
   subst hW1
   go_enter Try.func67, Try.ntmps67
   go_wp2_with (go_at_call 90; refine (Aside0.out HC).mono ?_; rintro e w7 ⟨rfl, hr7, hb7, hk7⟩; have HR7 := Bvh hr7; have HB7 := Bvh (Aqc (Aqk hBw HW.out) hb7); clear hr7 hb7 hk7)
   go_ret
   exact ⟨rfl, HR7.out, HB7.out⟩
end
end
section
section
variable {B : Nat → Prop} {g : Nat} {s : SSt} {w : World} {mv sv pv : Value}
theorem names_f (l : List S38) (hl : l.length ≤ 1000000) : ∃ k, Axn.f k l = some (l.map (·.f0)) := by
 obtain ⟨k, hk⟩ := namesA l hl l.length 0 [] (by omega) (by simp)
 rw [List.drop_zero, List.nil_append] at hk
 exact ⟨k, hk⟩
def Ajp (s : SSt) : SSt × Int × List ByteArray := if (asked s).2 ≠ 0 then ((asked s).1, (asked s).2, []) else ((asked s).1, 0, (Aq8 s).map (·.f0))
theorem Bz7 (b0 b1 : Nat) (c : Value) (h : RepAt B g s w mv sv pv) (hf : Fit s) (hp : VarP w b0 g) (hb : w.heap[b1]? = some (.cells #[c] 48 (0, 0))) :
 Calls Try.prog 97 #[.pointer (some ⟨b0, 0, none⟩), .pointer (some ⟨b1, 0, none⟩)] w fun e w' => e = .returned (.int .i64 0) ∧ ∃ v w2, w' = w2.setCell ⟨b1, 0, none⟩ v ∧ Kd.R Kd.string 9 w2 w.heap.size (fun _ => True) v ((Aq8 s).map (·.f0)) ∧ Below w.heap.size w w2 := by
 have hfl : okL (Aq8 s) ∧ (Aq8 s).length ≤ 1000 := Axt hf
 obtain ⟨kn, hkn⟩ := names_f (Aq8 s) (by omega)
 generalize (Aq8 s).map (·.f0) = ns at hkn ⊢
 have hp0 := hp.cell
 have H := Bvh h
 have HF := Bvh hf
 have HB := Bvh hb
 have HKN := Bvh hkn
 clear h hf hp hb hkn hfl
 go_enter Try.func97, Try.ntmps97
 go_wp2_with (first
  | (go_at_call 42; refine (Az4 ⟨mv, sv, _, H.out⟩ HF.out).mono ?_; rintro e w1 ⟨v1, rfl, hV1, hb1w⟩; obtain ⟨A1, c1, rfl⟩ := Kd.V_slice hV1; have HV1 := Bvh hV1; have HB1 := Bvh hb1w; clear hV1 hb1w)
  | (go_at_call 33; refine (Axn.calls kn A1 c1 (Aq8 s) _ _ (Kd.V_reads' HV1.out).2.2 (Kd.V_reads' HV1.out).2.1 HKN.out).mono ?_; rintro e w2 ⟨v2, rfl, hR2, hb2⟩; obtain ⟨A2, c2, rfl⟩ := Kd.R_slice hR2; have hcb : w2.cell? ⟨b1, 0, none⟩ = some c := (by rw [cell_of_row w2 _ _ _ 48 (0, 0) (Aqn (Aq1 HB1.out hb2) HB.out)]; rfl); have hfz := Aq2 (Aqn (Aq1 HB1.out hb2) HB.out) 0; have HR2 := Bvh hR2; have HB2 := Bvh (Aq1 HB1.out hb2); clear hR2 hb2))
 go_ret
 exact ⟨rfl, _, w2, rfl, Kd.R_lower HR2.out HB1.out.size, HB2.out⟩
end
end
section
section
variable {B : Nat → Prop} {g : Nat} {s : SSt} {w : World} {mv sv pv : Value}
theorem Bjh (h : Rep B g s w) (hf : Fit s) (hf1 : Fit (asked s).1) (hBw : Up B w.heap.size) :
 Calls Try.prog 81 #[.pointer (some ⟨g, 0, none⟩)] w fun e w' => ∃ v, e = .returned (.tuple #[v, .int .i64 (Ajp s).2.1]) ∧ Kd.R Kd.string 9 w' w.heap.size (fun _ => True) v (Ajp s).2.2 ∧ Rep B g (Ajp s).1 w' ∧ BelS B w w' := by
 obtain ⟨mv, sv, pv, h⟩ := h
 have hw1 : Below w.heap.size w (w.alloc (.cells #[.pointer (some ⟨g, 0, none⟩)] 58)) := Aq4 (Below.refl _ _) _
 have hp1 : VarP (w.alloc (.cells #[.pointer (some ⟨g, 0, none⟩)] 58)) w.heap.size g := heap_alloc_new _ _
 generalize hW1 : w.alloc (.cells #[.pointer (some ⟨g, 0, none⟩)] 58) = w1 at hw1 hp1
 have hsz : w1.heap.size = w.heap.size + 1 := by rw [← hW1, World.size_alloc]
 have hw2 : Below w1.heap.size w1 (w1.alloc (.cells #[.slice none 0 0] 48)) := Aq4 (Below.refl _ _) _
 have hn2 : (w1.alloc (.cells #[.slice none 0 0] 48)).heap[w1.heap.size]? = some (.cells #[.slice none 0 0] 48 (0, 0)) := heap_alloc_new _ _
 have hp2 := hp1.below hw2
 have hw02 := Aq1 hw1 hw2
 have H := Bvh h
 have HF := Bvh hf
 have HF1 := Bvh hf1
 have HP := Bvh hp2
 have HN := Bvh hn2
 have HW := Bvh hw02
 have HW1 := Bvh hw1
 have hg0 : g < w.heap.size := Ax7 h.blk
 have hcell : (w1.alloc (.cells #[.slice none 0 0] 48)).cell? ⟨w.heap.size, 0, none⟩ = some (.pointer (some ⟨g, 0, none⟩)) := hp2.cell
 clear h hf hf1 hw1 hp1 hw2 hn2 hp2 hw02
 by_cases ha : (asked s).2 = 0
 · have hR : Ajp s = ((asked s).1, 0, (Aq8 s).map (·.f0)) := by unfold Ajp; rw [if_neg (by simp [ha])]
   rw [hR]
   have hcall : Calls Try.prog 90 #[.pointer (some ⟨g, 0, none⟩), .func (.func 97) #[] #[.pointer (some ⟨w.heap.size, 0, none⟩), .pointer (some ⟨w1.heap.size, 0, none⟩)]] (w1.alloc (.cells #[.slice none 0 0] 48)) fun e w' => ∃ r, e = .returned (.int .i64 r) ∧ (r = 0 ∧ Rep B g (asked s).1 w' ∧ BelS B w w' ∧ ∃ A n c, w'.cell? ⟨w1.heap.size, 0, none⟩ = some (.slice A n c) ∧ Kd.R Kd.string 9 w' w.heap.size (fun _ => True) (.slice A n c) ((Aq8 s).map (·.f0))) := by
    refine Bv7 _ _ (fun r w' => r = 0 ∧ Rep B g (asked s).1 w' ∧ BelS B w w' ∧ ∃ A n c, w'.cell? ⟨w1.heap.size, 0, none⟩ = some (.slice A n c) ∧ Kd.R Kd.string 9 w' w.heap.size (fun _ => True) (.slice A n c) ((Aq8 s).map (·.f0))) (H.out.below HW.out) HF.out ha ?_
    intro w3 hr3 hb3 hk3
    have hk03 := (Axl.of_below HW.out (g := g)).trans hk3
    have hp3 : VarP w3 w.heap.size g := Aqt HP.out hk3 (by omega)
    have hn3 := Aqt HN.out hk3 (show w1.heap.size ≠ g by have := HW1.out.size; omega)
    have hao := Bqw ha
    refine (Bz7 _ _ _ hr3 HF1.out hp3 hn3).mono ?_
    rw [Axx]
    rintro e w4 ⟨rfl, v, w5, rfl, hR5, hb5⟩
    obtain ⟨A5, c5, rfl⟩ := Kd.R_slice hR5
    have hn5 := Aqn hb5 hn3
    have hset := Axb hn5 0 (.slice A5 ((Aq8 s).map (·.f0)).length c5)
    have hB5 : BelS B w w5 := Aqc (Aqc (Aqk hBw HW.out) hb3) (Aqk (Up.le hBw hk03.1) hb5)
    refine ⟨0, rfl, rfl, ⟨mv, sv, pv, ?_⟩, Aqz hB5 (hBw _ HW1.out.size) 0 _, A5, ((Aq8 s).map (·.f0)).length, c5, ?_, ?_⟩
    · exact H.out.beside (hr3.below hb5) (hk03.trans (Axl.of_below hb5)) HW1.out.size (fun k hk => Below.heap_setCell _ _ _ _ hk) (by rw [hao]) (by rw [hao]) (by rw [hao])
    · rw [cell_of_row _ _ _ _ 48 (0, 0) hset]; rfl
    · exact Kd.R_set (Kd.R_lower hR5 hk03.1) hn5 (by decide) 0 _
   generalize (Aq8 s).map (·.f0) = ns at hcall ⊢
   rw [hsz] at hcall
   have HC := Bvh hcall
   clear hcall hR ha
   subst hW1
   go_enter Try.func81, Try.ntmps81
   go_wp2_with (go_at_call 90; refine (Aside0.out HC).mono ?_; rintro e w7 ⟨r, rfl, rfl, hr7, hb7, A7, n7, c7, hc7, hv7⟩; have HR7 := Bvh hr7; have HB7 := Bvh hb7; have HV7 := Bvh hv7; clear hr7 hb7 hv7)
   go_ret2
   exact ⟨_, rfl, HV7.out, HR7.out, HB7.out⟩
 · have hR : Ajp s = ((asked s).1, (asked s).2, []) := by unfold Ajp; rw [if_pos ha]
   rw [hR]
   have hce := (Aku (.func (.func 97) #[] #[.pointer (some ⟨w.heap.size, 0, none⟩), .pointer (some ⟨w1.heap.size, 0, none⟩)]) ⟨mv, sv, pv, H.out.below HW.out⟩ HF.out ha)
   have hz1 : g < w.heap.size + 1 := by omega
   have HN' := HN.out
   rw [hsz] at hce HN'
   have HN2 := Bvh HN'
   have HC := Bvh hce
   clear hR ha hce HN'
   subst hW1
   go_enter Try.func81, Try.ntmps81
   go_wp2_with (go_at_call 90; refine (Aside0.out HC).mono ?_; rintro e w7 ⟨rfl, hr7, hb7, hk7⟩; have hcb := (cell_of_row w7 _ 0 _ 48 (0, 0) (Aqt HN2.out hk7 (Nat.ne_of_gt hz1))); simp only [List.getElem?_toArray, List.getElem?_cons_zero] at hcb; have HR7 := Bvh hr7; have HB7 := Bvh (Aqc (Aqk hBw HW.out) hb7); clear hr7 hb7 hk7)
   go_ret2
   exact ⟨_, rfl, Kd.R_nil _ _ _ _ _, HR7.out, HB7.out⟩
end
end
section
section
variable {B : Nat → Prop} {g : Nat} {s : SSt} {w : World} {mv sv pv : Value}
def Bj8 (s : SSt) (ks : List Int) (cr : Int) : SSt := { s with fails := ks, crash := cr, calls := 0 }
structure PlS (B : Nat → Prop) (g : Nat) (s : SSt) (sv pv : Value) (ks : List Int) (cr : Int) (b i : Nat) (w w' : World) : Prop where
 blk : w'.heap[g]? = some (.cells #[.map (some b), .int .i64 cr, .int .i64 0, sv, pv, .int .i64 s.quota, .int .i64 s.peak, .bool s.down] 106 (0, 0))
 keep : Axl g w w'
 below : BelS B w w'
 map : ∃ n D, n ≤ i ∧ w'.ownsMap (H := Unit) Try.prog 3 (plainElem Try.prog 4) b n D ∧ ∀ j : Int, (Lit.int .i64 j).wf = true → D.atKey (.int .i64 j) (.lit (.bool false)) = .lit (.bool (decide (j ∈ ks.take i)))
theorem PlS.rep {ks : List Int} {cr : Int} {b : Nat} {w' : World} (h : RepAt B g s w mv sv pv) (hBw : Up B w.heap.size) (hb : w.heap.size ≤ b) (hl : ks.length ≤ 1000) (p : PlS B g s sv pv ks cr b ks.length w w') : Rep B g (Bj8 s ks cr) w' := by
 obtain ⟨n, D, hn, hown, hat⟩ := p.map
 rw [List.take_length] at hat
 have hpg := h.pend_ne
 refine ⟨.map (some b), sv, pv, h.hg, p.blk, .inr ⟨b, n, D, rfl, trivial, by omega, hown, hat⟩, ?_, ?_, h.own⟩
 · exact Kd.V_step h.safe (fun k h1 hlt => p.keep.2 k hlt h1.1)
 · exact Bve h.pend (fun k hlt h1 => p.keep.2 k hlt (h1.elim id (fun he hg => hpg (by rw [he, hg]))))
theorem PlS.put {ks : List Int} {cr : Int} {b i : Nat} {w' w2 : World} {n : Nat} {D : DataW Unit} (hb : w.heap.size ≤ b) (hBw : Up B w.heap.size) (p : PlS B g s sv pv ks cr b i w w') (hi : i < ks.length) (hn : n ≤ i) (hmap : w'.ownsMap (H := Unit) Try.prog 3 (plainElem Try.prog 4) b n D)
 (hat : ∀ j : Int, (Lit.int .i64 j).wf = true → D.atKey (.int .i64 j) (.lit (.bool false)) = .lit (.bool (decide (j ∈ ks.take i))))
 (hown : w2.ownsMap (H := Unit) Try.prog 3 (plainElem Try.prog 4) b (n + 1) (D.put (.int .i64 (rd ks (i : Int))) (.lit (.bool true)))) (hg : w'.grownBy w2 (some b)) : PlS B g s sv pv ks cr b (i + 1) w w2 := by
 have hgb : g ≠ b := fun he => by
  obtain ⟨es, clock, hb', _⟩ := hmap
  rw [← he, p.blk] at hb'
  cases hb'
 refine ⟨(hg.block g (Ax7 p.blk) (by simpa using hgb)).trans p.blk, ⟨Nat.le_trans p.keep.1 hg.size, fun k hlt hkg => (hg.block k (Nat.lt_of_lt_of_le hlt p.keep.1) (by simp; omega)).trans (p.keep.2 k hlt hkg)⟩, ?_, n + 1, _, by omega, hown, ?_⟩
 · exact Aqc p.below ⟨hg.os, hg.tape, hg.output, hg.size, fun k hk hn => hg.block k hk (fun he => hn (by injection he with he; exact he ▸ hBw _ hb))⟩
 · intro j hj
   have hr : rd ks (i : Int) = ks[i] := by simp [rd, hi, List.getD]
   rw [List.take_succ_eq_append_getElem hi]
   by_cases he : j = rd ks (i : Int)
   · subst he
     obtain ⟨es, clock, _, _, _, rfl⟩ := hmap
     rw [Go.Maps.atKey_put_same (k := .int .i64 (rd ks (i : Int))) ⟨_, rfl⟩ (by exact True.intro)]
     have hm : rd ks (i : Int) ∈ ks.take i ++ [ks[i]] := by rw [hr, List.mem_append]; exact .inr (List.mem_singleton.2 rfl)
     rw [decide_eq_true hm]
   · rw [Go.Maps.atKey_put_other (by intro h; injection h with _ h; exact he h), hat j hj]
     rw [hr] at he
     have hm : (j ∈ ks.take i ++ [ks[i]]) ↔ j ∈ ks.take i := by
      rw [List.mem_append, List.mem_singleton]
      exact ⟨fun h => h.elim id (fun h => absurd h he), .inl⟩
     rw [decide_eq_decide.2 hm]
theorem Bj7 (A : Option Addr) (c : Nat) (ks : List Int) (cr : Int) (h : Rep B g s w) (hBw : Up B w.heap.size) (hk : Kd.F (Kd.int .i64) w (fun k => k ≠ g) A ks.length ks) (hl : ks.length ≤ 1000) (hw : ∀ n ∈ ks, (Lit.int .i64 n).wf = true) :
 Calls Try.prog 40 #[.pointer (some ⟨g, 0, none⟩), .slice A ks.length c, .int .i64 cr] w fun e w' => e = .returned (.tuple #[]) ∧ Rep B g (Bj8 s ks cr) w' ∧ BelS B w w' := by
 obtain ⟨mv, sv, pv, h⟩ := h
 have hg0 : g < w.heap.size := Ax7 h.blk
 have hb6 : (w.alloc (Obj.map #[] 0)).heap[g]? = some (.cells #[mv, .int .i64 s.crash, .int .i64 s.calls, sv, pv, .int .i64 s.quota, .int .i64 s.peak, .bool s.down] 106 (0, 0)) := Aqe h.blk _
 have hb7 := Axb hb6 0 (.map (some w.heap.size))
 have hb8 := Axb hb7 1 (.int .i64 cr)
 have hb9 := Axb hb8 2 (.int .i64 0)
 have hal : Below w.heap.size w (w.alloc (Obj.map #[] 0)) := Aq4 (Below.refl _ _) _
 have hp : PlS B g s sv pv ks cr w.heap.size 0 w ((((w.alloc (Obj.map #[] 0)).setCell ⟨g, 0, none⟩ (.map (some w.heap.size))).setCell ⟨g, 1, none⟩ (.int .i64 cr)).setCell ⟨g, 2, none⟩ (.int .i64 0)) := by
  refine ⟨hb9, (((Axl.of_below hal).setCell 0 _).setCell 1 _).setCell 2 _, Aqz (Aqz (Aqz (Aqk hBw hal) h.hg 0 _) h.hg 1 _) h.hg 2 _, 0, .map [], Nat.le_refl _, ?_, ?_⟩
  · have h0 := World.ownsMap_made (H := Unit) w Try.prog 3 (plainElem Try.prog 4)
    obtain ⟨es, clock, hb, hrest⟩ := h0
    refine ⟨es, clock, ?_, hrest⟩
    rw [Below.heap_setCell _ _ _ _ (show w.heap.size ≠ g by omega), Below.heap_setCell _ _ _ _ (show w.heap.size ≠ g by omega), Below.heap_setCell _ _ _ _ (show w.heap.size ≠ g by omega)]
    exact hb
  · intro j hj
    simp [DataW.atKey]
 have hf0 := Aq2 hb6 0
 have hf1 := Aq2 hb7 1
 have hf2 := Aq2 hb8 2
 have hc0 : (w.alloc (Obj.map #[] 0)).cell? ⟨g, 0, none⟩ = some mv := by rw [cell_of_row _ g _ _ 106 (0, 0) hb6]; rfl
 have hc1 : ((w.alloc (Obj.map #[] 0)).setCell ⟨g, 0, none⟩ (.map (some w.heap.size))).cell? ⟨g, 1, none⟩ = some (.int .i64 s.crash) := by rw [cell_of_row _ g _ _ 106 (0, 0) hb7]; rfl
 have hc2 : (((w.alloc (Obj.map #[] 0)).setCell ⟨g, 0, none⟩ (.map (some w.heap.size))).setCell ⟨g, 1, none⟩ (.int .i64 cr)).cell? ⟨g, 2, none⟩ = some (.int .i64 s.calls) := by rw [cell_of_row _ g _ _ 106 (0, 0) hb8]; rfl
 have HP := Bvh hp
 have H := Bvh h
 have HK := Bvh hk
 have HW := Bvh hw
 clear hp h hk hw hb6 hb7 hb8 hb9 hal
 have hmk : (Instr.makeMap 101 none).run Try.prog w = .ok (.map (some w.heap.size)) (w.alloc (.map #[] 0)) := rfl
 obtain ⟨bm, hbm⟩ : ∃ b, w.heap.size = b := ⟨_, rfl⟩
 have HBM := Bvh hbm
 rw [hbm] at hmk HP hc1 hc2 hf1 hf2
 generalize w.alloc (Obj.map #[] 0) = w1 at hmk HP hf0 hf1 hf2 hc0 hc1 hc2
 rw [hbm] at hg0
 clear hbm
 go_enter Try.func40, Try.ntmps40
 go_wp2
 clear hmk hf0 hf1 hf2 hc0 hc1 hc2
 generalize ((w1.setCell ⟨g, 0, none⟩ (.map (some bm))).setCell ⟨g, 1, none⟩ (.int .i64 cr)).setCell ⟨g, 2, none⟩ (.int .i64 0) = wS at HP ⊢
 rw [← HBM.out] at hg0
 go_loopg [18] ks.length (fun kq v18 w' => ∃ i : Nat, v18 = .int .i64 i ∧ i + kq = ks.length ∧ Aside0 (PlS B g s sv pv ks cr bm i w w'))
 case atStart => exact ⟨0, rfl, by omega, HP⟩
 case round =>
  obtain ⟨i, rfl, hi, HI⟩ := hrel
  by_cases hlt : i < ks.length
  · obtain ⟨k1, rfl⟩ : ∃ k1, gk = k1 + 1 := ⟨gk - 1, by omega⟩
    obtain ⟨ad, e1, hk⟩ := Kd.at_int (Kd.F_now (Kd.F_step HK.out fun k hk hlt => HI.out.keep.2 k hlt hk)) (i : Int) (by omega) (by omega)
    subst e1
    rw [Int.toNat_natCast] at hk
    obtain ⟨n, D, hn, hown, hat⟩ := HI.out.map
    obtain ⟨x, hx⟩ : ∃ x, rd ks (i : Int) = x := ⟨_, rfl⟩
    have hxm : x ∈ ks := by
     have hr : rd ks (i : Int) = ks[i] := by simp [rd, hlt, List.getD]
     rw [← hx, hr]
     exact List.getElem_mem hlt
    have HX := Bvh hx
    have HXW := Bvh (HW.out x hxm)
    rw [hx] at hk
    have hc0 : wr.cell? ⟨g, 0, none⟩ = some (.map (some bm)) := by rw [cell_of_row _ g _ _ 106 (0, 0) HI.out.blk]; rfl
    have HOWN := Bvh hown
    have HAT := Bvh hat
    have hnm : n < maxLen := by unfold maxLen; omega
    clear hown hat hx hxm
    go_wp2_with (at_mapUpdate; (refine wpList_mapUpdate_own (H := Unit) _ rfl _ _ _ 101 rfl 3 4 key3 Try.underlying101 (plainElem Try.prog 4) bm n D rfl HOWN.out hnm _ _ (.int .i64 x) rfl rfl (Go.Maps.keyOf_int_mk Try.underlying3 HXW.out) (.lit (.bool true)) [] (plainElem_bool Try.underlying4 true) ?_); intro w2 hown2 hgrow2; have HO2 := Bvh hown2; have HG2 := Bvh hgrow2; clear hown2 hgrow2)
    go_roundg k1
    case measure => omega
    case rel => exact ⟨i + 1, by go_num, by omega, ⟨HI.out.put (Nat.le_of_eq HBM.out) hBw hlt hn HOWN.out HAT.out (by rw [HX.out]; exact HO2.out) HG2.out⟩⟩
  · have hge : i = ks.length := by omega
    have HGE := Bvh hge
    clear hge
    go_wp2
    go_end0
    have hp := HI.out
    rw [HGE.out] at hp
    exact ⟨rfl, hp.rep H.out hBw (Nat.le_of_eq HBM.out) hl, hp.below⟩
end
end
section
attribute [local go_sem] Axk Axr Az3 Az7 Axj Axi Axz Axy
def Aja.f (a0_0 : ByteArray) (a0_1 : Int) (a0_2 : Int) (l0_3 : List Int) : Option (ByteArray × Int × Int × List Int) := some (a0_0, a0_1, a0_2, l0_3)
theorem Aja.calls (a0_0 : ByteArray) (a0_1 : Int) (a0_2 : Int) (P0_3_ : Nat → Prop) (A0_3 : Option Addr) (c0_3 : Nat) (l0_3 : List Int) (r1 : ByteArray) (r2 : Int) (r3 : Int) (r4 : List Int) (w : World) (hs0_3 : Kd.V (Kd.int .u8) 5 w w.heap.size (fun k_ => P0_3_ k_) (.slice A0_3 l0_3.length c0_3) l0_3) (h : Aja.f a0_0 a0_1 a0_2 l0_3 = some (r1, r2, r3, r4)) :
 Calls Try.prog 79 #[.agg #[.string a0_0, .int .i64 a0_1, .int .i64 a0_2, .slice A0_3 l0_3.length c0_3]] w fun e w' => ∃ v3_ : Value, e = .returned (.agg #[.string r1, .int .i64 r2, .int .i64 r3, v3_]) ∧ Kd.V (Kd.int .u8) 5 w' w.heap.size (fun k_ => (P0_3_ k_ ∨ w.heap.size ≤ k_)) v3_ r4 ∧ Below w.heap.size w w' := by
 have hu25 := Try.underlying25
 have hu31 := Try.underlying31
 have HO0_3 := Bvh (show Kd.V (Kd.int .u8) 5 w w.heap.size (fun k_ => (P0_3_ k_ ∨ w.heap.size ≤ k_)) (.slice A0_3 l0_3.length c0_3) l0_3 from Kd.V_mono hs0_3 (fun k_ hk => .inl hk))
 have HB := Bvh (Below.refl w.heap.size w)
 have H : (some (a0_0, a0_1, a0_2, l0_3)) = some (r1, r2, r3, r4) := h
 clear h
 simp only [Option.some.injEq, Prod.mk.injEq] at H
 obtain ⟨rfl, rfl, rfl, rfl⟩ := H
 go_enter Try.func79, Try.ntmps79
 go_wp2_with (first | ((with_reducible refine Ax1 (N := 1) rfl ?_); refine Axd ?hg (N := 1) ?hd (cs := #[.string a0_0, .int .i64 a0_1, .int .i64 a0_2, .slice A0_3 l0_3.length c0_3]) (t := 25) ?hr ?_; (case hd => rfl); (case hg => rfl); (case hr => first | (go_simp; done) | (go_simp; rfl)); intro gb592 hg w2 hbox hb; have n0_ := Bvh (Kd.V_below (Kd.V_elderB (by (with_reducible repeat (first | apply Kd.V_alloc | apply Kd.V_drewN | apply Kd.V_drew)); exact HO0_3.out) gb592 (Nat.le_of_eq hg.symm)) hb); have n1_ := Bvh (Aq1 (by repeat (first | (with_reducible first | exact HB.out | apply Aq4 | apply Aq7 | apply Aq5) | exact HB.out)) hb); have n2_ := Bvh (hbox); have n3_ := Bvh ((by rw [hg]; exact (Aqb (by repeat (first | (with_reducible first | exact HB.out | apply Aq4 | apply Aq7 | apply Aq5) | exact HB.out))) : w.heap.size ≤ gb592)); have n4_ := Bvh ((by rw [hg]; exact (Aqb (by repeat (first | (with_reducible first | exact HB.out | apply Aq4 | apply Aq7 | apply Aq5) | exact HB.out))) : w.heap.size ≤ gb592)); clear HO0_3; clear HB; have HO0_3 := n0_; have HB := n1_; have BK592 := n2_; have GW592 := n3_; have GE592 := n4_; clear n0_ n1_ n2_ n3_ n4_; clear hb hbox hg) | ((with_reducible refine Ax1 (N := 2) rfl ?_); refine Axd ?hg (N := 2) ?hd (cs := #[.string (⟨#[]⟩ : ByteArray), .int .i64 0, .int .i64 0, .slice none 0 0]) (t := 31) ?hr ?_; (case hd => rfl); (case hg => rfl); (case hr => first | (go_simp; done) | (go_simp; rfl)); intro gb593 hg w3 hbox hb; have n0_ := Bvh (Kd.V_below (Kd.V_elderB (by (with_reducible repeat (first | apply Kd.V_alloc | apply Kd.V_drewN | apply Kd.V_drew)); exact HO0_3.out) gb593 (Nat.le_of_eq hg.symm)) hb); have n1_ := Bvh (Ajl (g := gb592) (o := .cells #[.string a0_0, .int .i64 a0_1, .int .i64 a0_2, .slice A0_3 l0_3.length c0_3] 25 (0, 0)) (by (with_reducible repeat (first | refine Axg ?_ _ | refine Axu ?_ | refine Aqe ?_ _)); exact BK592.out) hb); have n2_ := Bvh (Aq1 (by repeat (first | (with_reducible first | exact HB.out | apply Aq4 | apply Aq7 | apply Aq5 | refine Ax2 ?_ GE592.out) | exact HB.out)) hb); have n3_ := Bvh (hbox); have n4_ := Bvh ((by rw [hg]; exact (Aqb (by repeat (first | (with_reducible first | exact HB.out | apply Aq4 | apply Aq7 | apply Aq5 | refine Ax2 ?_ GE592.out) | exact HB.out))) : w.heap.size ≤ gb593)); have n5_ := Bvh ((by rw [hg]; exact (Aqb (by repeat (first | (with_reducible first | exact HB.out | apply Aq4 | apply Aq7 | apply Aq5 | refine Ax2 ?_ GE592.out) | exact HB.out))) : w.heap.size ≤ gb593)); have n6_ := Bvh ((by rw [hg]; exact Nat.ne_of_lt (Ax7 (g := gb592) (o := .cells #[.string a0_0, .int .i64 a0_1, .int .i64 a0_2, .slice A0_3 l0_3.length c0_3] 25 (0, 0)) (by (with_reducible repeat (first | refine Axg ?_ _ | refine Axu ?_ | refine Aqe ?_ _)); exact BK592.out)) : gb592 ≠ gb593)); have n7_ := Bvh ((by rw [hg]; exact Nat.ne_of_gt (Ax7 (g := gb592) (o := .cells #[.string a0_0, .int .i64 a0_1, .int .i64 a0_2, .slice A0_3 l0_3.length c0_3] 25 (0, 0)) (by (with_reducible repeat (first | refine Axg ?_ _ | refine Axu ?_ | refine Aqe ?_ _)); exact BK592.out)) : gb593 ≠ gb592)); clear HO0_3; clear BK592; clear HB; have HO0_3 := n0_; have BK592 := n1_; have HB := n2_; have BK593 := n3_; have GW593 := n4_; have GE593 := n5_; have NB592_593 := n6_; have NB593_592 := n7_; clear n0_ n1_ n2_ n3_ n4_ n5_ n6_ n7_; clear hb hbox hg; have hnb4 := NB592_593.out; have hnc4 := NB593_592.out; have hcz5_0 : w3.cell? ⟨gb592, 0, none⟩ = some (.string a0_0) := (Aq3 BK592.out 0).trans rfl; have hcz5_1 : w3.cell? ⟨gb592, 1, none⟩ = some (.int .i64 a0_1) := (Aq3 BK592.out 1).trans rfl; have hcz5_2 : w3.cell? ⟨gb592, 2, none⟩ = some (.int .i64 a0_2) := (Aq3 BK592.out 2).trans rfl; have hcz5_3 : w3.cell? ⟨gb592, 3, none⟩ = some (.slice A0_3 l0_3.length c0_3) := (Aq3 BK592.out 3).trans rfl; have hfz5_0 := Aq2 BK592.out 0; have hfz5_1 := Aq2 BK592.out 1; have hfz5_2 := Aq2 BK592.out 2; have hfz5_3 := Aq2 BK592.out 3; have hcz6_0 : w3.cell? ⟨gb593, 0, none⟩ = some (.string (⟨#[]⟩ : ByteArray)) := (Aq3 BK593.out 0).trans rfl; have hcz6_1 : w3.cell? ⟨gb593, 1, none⟩ = some (.int .i64 0) := (Aq3 BK593.out 1).trans rfl; have hcz6_2 : w3.cell? ⟨gb593, 2, none⟩ = some (.int .i64 0) := (Aq3 BK593.out 2).trans rfl; have hcz6_3 : w3.cell? ⟨gb593, 3, none⟩ = some (.slice none 0 0) := (Aq3 BK593.out 3).trans rfl; have hfz6_0 := Aq2 BK593.out 0; have hfz6_1 := Aq2 BK593.out 1; have hfz6_2 := Aq2 BK593.out 2; have hfz6_3 := Aq2 BK593.out 3))
 refine bodyPost_ret (results_cell_row rfl _ _ gb593 31 #[.string a0_0, .int .i64 a0_1, .int .i64 a0_2, .slice A0_3 l0_3.length c0_3] (0, 0) _ rfl (by (with_reducible repeat (first | refine Axg ?_ _ | refine Axu ?_ | refine Aqe ?_ _)); refine Avp (cs := #[.string a0_0, .int .i64 a0_1, .int .i64 a0_2, .slice none 0 0]) ?_ 3 _ rfl; (with_reducible repeat (first | refine Axg ?_ _ | refine Axu ?_ | refine Aqe ?_ _)); refine Avp (cs := #[.string a0_0, .int .i64 a0_1, .int .i64 0, .slice none 0 0]) ?_ 2 _ rfl; (with_reducible repeat (first | refine Axg ?_ _ | refine Axu ?_ | refine Aqe ?_ _)); refine Avp (cs := #[.string a0_0, .int .i64 0, .int .i64 0, .slice none 0 0]) ?_ 1 _ rfl; (with_reducible repeat (first | refine Axg ?_ _ | refine Axu ?_ | refine Aqe ?_ _)); refine Avp (cs := #[.string (⟨#[]⟩ : ByteArray), .int .i64 0, .int .i64 0, .slice none 0 0]) ?_ 0 _ rfl; (with_reducible repeat (first | refine Axg ?_ _ | refine Axu ?_ | refine Aqe ?_ _)); exact BK593.out) Try.underlying31 rfl (by kernel_rfl)) rfl ?_
 exact ⟨_, by first | rfl | (simp [Aqj, Aqi] <;> rfl) | (simp [*, Aqj, Aqi] <;> rfl), by (with_reducible repeat (first | apply Kd.V_alloc | apply Kd.V_drewN | apply Kd.V_drew)); exact Kd.V_mono (Kd.V_far (p := ⟨gb593, 3, none⟩) (Kd.V_far (p := ⟨gb593, 2, none⟩) (Kd.V_far (p := ⟨gb593, 1, none⟩) (Kd.V_far (p := ⟨gb593, 0, none⟩) (Kd.V_mono HO0_3.out (fun k_ hk => (⟨hk, hk.2⟩ : _ ∧ k_ ≠ gb593))) (fun _ hk => hk.2) (.string a0_0)) (fun _ hk => hk.2) (.int .i64 a0_1)) (fun _ hk => hk.2) (.int .i64 a0_2)) (fun _ hk => hk.2) (.slice A0_3 l0_3.length c0_3)) (fun _ hk => hk.1.1.1), by repeat (first | (with_reducible first | exact HB.out | apply Aq4 | apply Aq7 | apply Aq5 | refine Ax2 ?_ GE592.out | refine Ax2 ?_ GE593.out) | exact HB.out)⟩
end
section
def wOf (d : S76) : S31 := ⟨d.f1.f0, d.f1.f1, d.f1.f2, d.f1.f3⟩
def doS (s : SSt) (d : S76) : SSt × Int × List Int × List ByteArray :=
 if d.f0 = 1 then ((doR s (wOf d)).1, (doR s (wOf d)).2, [], []) else
 if d.f0 = 2 then ((Aky s d.f2).1, (Aky s d.f2).2, [], []) else
 if d.f0 = 3 then ((Akg s d.f2 d.f3).1, (Akg s d.f2 d.f3).2, [], []) else
 if d.f0 = 4 then ((Avo s d.f2).1, (Avo s d.f2).2, [], []) else
 if d.f0 = 5 then ((Aj8 s d.f2).1, (Aj8 s d.f2).2.1, (Aj8 s d.f2).2.2, []) else
 if d.f0 = 6 then ((Ajp s).1, (Ajp s).2.1, [], (Ajp s).2.2) else
 if d.f0 = 7 then (Aka s d.f4, 0, [], []) else (Bj8 s d.f4 d.f5, 0, [], [])
section
variable {B : Nat → Prop} {g : Nat} {s : SSt} {w : World} {mv sv pv : Value}
theorem Azm {fn : Func} (h : fn.results = #[.cell 4 73]) {tmps : Array Value} {b : Nat} {x y z : Value} (ht : tmps.getD 4 undef = .pointer (some ⟨b, 0, none⟩)) (hb : w.heap[b]? = some (.cells #[x, y, z] 73 (0, 0))) :
 (results fn tmps).run Try.prog w = .ok (.agg #[x, y, z]) w := by
 have hc0 : w.cell? ⟨b, 0, none⟩ = some x := by rw [cell_of_row w b _ _ 73 (0, 0) hb]; rfl
 have hc1 : w.cell? ⟨b, 1, none⟩ = some y := by rw [cell_of_row w b _ _ 73 (0, 0) hb]; rfl
 have hc2 : w.cell? ⟨b, 2, none⟩ = some z := by rw [cell_of_row w b _ _ 73 (0, 0) hb]; rfl
 rw [Array.getD_eq_getD_getElem?] at ht
 simp only [results, h]
 simp [asAddr]
 rw [ht]
 go_simp
def VarT (w : World) (b : Nat) (x y z : Value) : Prop := w.heap[b]? = some (.cells #[x, y, z] 73 (0, 0))
theorem VarT.facts {b : Nat} {x y z : Value} (h : VarT w b x y z) (x1 y1 z1 : Value) : w.frozen? ⟨b, 0, none⟩ = false ∧ w.cell? ⟨b, 0, none⟩ = some x ∧ (w.setCell ⟨b, 0, none⟩ x1).frozen? ⟨b, 1, none⟩ = false ∧ (w.setCell ⟨b, 0, none⟩ x1).cell? ⟨b, 1, none⟩ = some y ∧
 ((w.setCell ⟨b, 0, none⟩ x1).setCell ⟨b, 1, none⟩ y1).frozen? ⟨b, 2, none⟩ = false ∧ ((w.setCell ⟨b, 0, none⟩ x1).setCell ⟨b, 1, none⟩ y1).cell? ⟨b, 2, none⟩ = some z ∧ VarT (((w.setCell ⟨b, 0, none⟩ x1).setCell ⟨b, 1, none⟩ y1).setCell ⟨b, 2, none⟩ z1) b x1 y1 z1 := by
 have h1 := Axb h 0 x1
 have h2 := Axb h1 1 y1
 have h3 := Axb h2 2 z1
 exact ⟨Aq2 h 0, by rw [cell_of_row _ b _ _ 73 (0, 0) h]; rfl, Aq2 h1 1, by rw [cell_of_row _ b _ _ 73 (0, 0) h1]; rfl, Aq2 h2 2, by rw [cell_of_row _ b _ _ 73 (0, 0) h2]; rfl, h3⟩
theorem Ajc (w : World) (a : Addr) (u : Value) : (w.setCell a u).heap.size = w.heap.size := by simp [World.setCell]
theorem odd_told : Odd #[.int .i64 0, .slice none 0 0, .slice none 0 0] := by
 intro j u hu
 match j, hu with
 | 0, hu => obtain rfl := Option.some.inj hu; exact ⟨by simp, by simp⟩
 | 1, hu => obtain rfl := Option.some.inj hu; exact ⟨by simp, by simp⟩
 | 2, hu => obtain rfl := Option.some.inj hu; exact ⟨by simp, by simp⟩
 | n + 3, hu => cases hu
theorem VarT.but {b : Nat} (h : VarT w b (.int .i64 0) (.slice none 0 0) (.slice none 0 0)) (x1 y1 z1 : Value) : But b w (((w.setCell ⟨b, 0, none⟩ x1).setCell ⟨b, 1, none⟩ y1).setCell ⟨b, 2, none⟩ z1) :=
 ⟨⟨_, _, _, h, odd_told⟩, fun k hk => by rw [Below.heap_setCell _ ⟨b, 2, none⟩ _ k hk, Below.heap_setCell _ ⟨b, 1, none⟩ _ k hk, Below.heap_setCell _ ⟨b, 0, none⟩ _ k hk]⟩
theorem RepAt.less {B' : Nat → Prop} (h : RepAt B g s w mv sv pv) (hB : ∀ k, B k → k < w.heap.size → B' k) : RepAt B' g s w mv sv pv := by
 refine ⟨hB g h.hg (Ax7 h.blk), h.blk, ?_, h.safe, h.pend, fun k hk => hB k (h.own k hk) ?_⟩
 · rcases h.map with h1 | h1
   · exact .inl h1
   · exact .inr h1
 · obtain ⟨inner, ho, _⟩ := h.pend
   exact Ava ho k hk
theorem Rep.less {B' : Nat → Prop} (h : Rep B g s w) (hB : ∀ k, B k → k < w.heap.size → B' k) : Rep B' g s w := by
 obtain ⟨mv, sv, pv, h⟩ := h
 exact ⟨mv, sv, pv, h.less hB⟩
theorem Rep.lt (h : Rep B g s w) : g < w.heap.size := by
 obtain ⟨_, _, _, h⟩ := h
 exact Ax7 h.blk
theorem BelS.more {B' : Nat → Prop} {w1 : World} (h : BelS B w w1) (hB : ∀ k, k < w.heap.size → B k → B' k) : BelS B' w w1 := ⟨h.os, h.tape, h.output, h.size, fun k hk hn => h.block k hk (fun hb => hn (hB k hk hb))⟩
theorem Bkz (d : S76) (A3 : Option Addr) (c3 : Nat) (h : Rep B g s w) (hf : Fit s) (hf1 : Fit (asked s).1) (hBw : Up B w.heap.size) (hx : d.f1.f3.length ≤ 1000) (hF : Kd.F (Kd.int .u8) w (fun k => k ≠ g) A3 d.f1.f3.length d.f1.f3) (hc3 : d.f1.f3.length ≤ c3) :
 Calls Try.prog 67 #[.pointer (some ⟨g, 0, none⟩), .agg #[.string d.f1.f0, .int .i64 d.f1.f1, .int .i64 d.f1.f2, .slice A3 d.f1.f3.length c3]] w fun e w' => e = .returned (.int .i64 (doR s (wOf d)).2) ∧ Rep B g (doR s (wOf d)).1 w' ∧ BelS B w w' :=
 Bqu (wOf d) A3 c3 h hf hf1 hBw hx hF hc3
def NotB (B : Nat → Prop) (b : Nat) : Nat → Prop := fun k => B k ∧ k ≠ b
theorem Aju {w1 w2 : World} {s1 : SSt} {b : Nat} (hw : Below w.heap.size w w1) (hBw : Up B w.heap.size) (hb : w.heap.size ≤ b) (hv : VarT w1 b (.int .i64 0) (.slice none 0 0) (.slice none 0 0)) (hr : Rep (NotB B b) g s1 w2) (hl : BelS (NotB B b) w1 w2) :
 VarT w2 b (.int .i64 0) (.slice none 0 0) (.slice none 0 0) ∧ ∀ x y z, Rep B g s1 (((w2.setCell ⟨b, 0, none⟩ x).setCell ⟨b, 1, none⟩ y).setCell ⟨b, 2, none⟩ z) ∧ BelS B w (((w2.setCell ⟨b, 0, none⟩ x).setCell ⟨b, 1, none⟩ y).setCell ⟨b, 2, none⟩ z) := by
 have hv2 : VarT w2 b (.int .i64 0) (.slice none 0 0) (.slice none 0 0) := (hl.block b (Ax7 hv) (fun h => h.2 rfl)).trans hv
 refine ⟨hv2, fun x y z => ⟨?_, ?_⟩⟩
 · obtain ⟨mv, sv, pv, hr⟩ := hr
   exact ⟨mv, sv, pv, (hr.pokeB (hv2.but x y z) (by rw [Ajc, Ajc, Ajc]) hv2 (by decide) (by decide)).less fun k hk _ => hk.1⟩
 · exact Aqz (Aqz (Aqz (Aqc (Aqk hBw hw) (hl.more fun k _ hk => hk.1)) (hBw b hb) 0 _) (hBw b hb) 1 _) (hBw b hb) 2 _
theorem do_real1 (d : S76) (A4 : Option Addr) (c4 : Nat) (A7 : Option Addr) (c7 : Nat) (h : Rep B g s w) (hf : Fit s) (hf1 : Fit (asked s).1) (hBw : Up B w.heap.size) (hF4 : Kd.F (Kd.int .u8) w (fun k => k ≠ g) A4 d.f1.f3.length d.f1.f3) (hc4 : d.f1.f3.length ≤ c4) (hF7 : Kd.F (Kd.int .i64) w (fun k => k ≠ g) A7 d.f4.length d.f4) (hl4 : d.f1.f3.length ≤ 1000) (hl7 : d.f4.length ≤ 1000) (hw7 : ∀ n ∈ d.f4, (Lit.int .i64 n).wf = true) :
 Calls Try.prog 48 #[.pointer (some ⟨g, 0, none⟩), .agg #[.int .i64 1, .string d.f1.f0, .int .i64 d.f1.f1, .int .i64 d.f1.f2, .slice A4 d.f1.f3.length c4, .string d.f2, .string d.f3, .slice A7 d.f4.length c7, .int .i64 d.f5]] w fun e w' => ∃ y z, e = .returned (.agg #[.int .i64 (doR s (wOf d)).2, y, z]) ∧ (Kd.int .u8).R 5 w' w.heap.size (fun _ => True) y [] ∧ Kd.string.R 9 w' w.heap.size (fun _ => True) z [] ∧ Rep B g (doR s (wOf d)).1 w' ∧ BelS B w w' := by
 have hw2 : Below w.heap.size w ((w.alloc (.cells #[.int .i64 1, .string d.f1.f0, .int .i64 d.f1.f1, .int .i64 d.f1.f2, .slice A4 d.f1.f3.length c4, .string d.f2, .string d.f3, .slice A7 d.f4.length c7, .int .i64 d.f5] 76)).alloc (.cells #[.int .i64 0, .slice none 0 0, .slice none 0 0] 73)) := Aq4 (Aq4 (Below.refl _ _) _) _
 have hv2 : VarT ((w.alloc (.cells #[.int .i64 1, .string d.f1.f0, .int .i64 d.f1.f1, .int .i64 d.f1.f2, .slice A4 d.f1.f3.length c4, .string d.f2, .string d.f3, .slice A7 d.f4.length c7, .int .i64 d.f5] 76)).alloc (.cells #[.int .i64 0, .slice none 0 0, .slice none 0 0] 73)) (w.heap.size + 1) (.int .i64 0) (.slice none 0 0) (.slice none 0 0) := by
  have := heap_alloc_new (w.alloc (.cells #[.int .i64 1, .string d.f1.f0, .int .i64 d.f1.f1, .int .i64 d.f1.f2, .slice A4 d.f1.f3.length c4, .string d.f2, .string d.f3, .slice A7 d.f4.length c7, .int .i64 d.f5] 76)) (.cells #[.int .i64 0, .slice none 0 0, .slice none 0 0] 73)
  rw [World.size_alloc] at this
  exact this
 have hsz : ((w.alloc (.cells #[.int .i64 1, .string d.f1.f0, .int .i64 d.f1.f1, .int .i64 d.f1.f2, .slice A4 d.f1.f3.length c4, .string d.f2, .string d.f3, .slice A7 d.f4.length c7, .int .i64 d.f5] 76)).alloc (.cells #[.int .i64 0, .slice none 0 0, .slice none 0 0] 73)).heap.size = w.heap.size + 2 := by rw [World.size_alloc, World.size_alloc]
 have hlt := h.lt
 have hr2 : Rep (NotB B (w.heap.size + 1)) g s ((w.alloc (.cells #[.int .i64 1, .string d.f1.f0, .int .i64 d.f1.f1, .int .i64 d.f1.f2, .slice A4 d.f1.f3.length c4, .string d.f2, .string d.f3, .slice A7 d.f4.length c7, .int .i64 d.f5] 76)).alloc (.cells #[.int .i64 0, .slice none 0 0, .slice none 0 0] 73)) := (h.less (B' := NotB B (w.heap.size + 1)) fun k hk hlt2 => ⟨hk, by omega⟩).below hw2
 have hup : Up (NotB B (w.heap.size + 1)) ((w.alloc (.cells #[.int .i64 1, .string d.f1.f0, .int .i64 d.f1.f1, .int .i64 d.f1.f2, .slice A4 d.f1.f3.length c4, .string d.f2, .string d.f3, .slice A7 d.f4.length c7, .int .i64 d.f5] 76)).alloc (.cells #[.int .i64 0, .slice none 0 0, .slice none 0 0] 73)).heap.size := fun k hk => ⟨hBw k (by omega), by omega⟩
 have HW2 := Bvh hw2
 have HV2 := Bvh hv2
 have HR2 := Bvh hr2
 have HUP := Bvh hup
 have HSZ := Bvh hsz
 have HF := Bvh hf
 have HF1 := Bvh hf1
 have H4 := Bvh hF4
 have H7 := Bvh hF7
 have HW7 := Bvh hw7
 clear hw2 hv2 hr2 hup hsz hf hf1 hF4 hF7 hw7 h
 go_enter Try.func48, Try.ntmps48
 go_wp2_with (first
  | (go_at_call 79; refine (Aja.calls d.f1.f0 d.f1.f1 d.f1.f2 (fun k => k ≠ g) A4 c4 d.f1.f3 _ _ _ _ _ (Kd.V_below (show Kd.V (Kd.int .u8) 5 w 0 (fun k => k ≠ g) (.slice A4 d.f1.f3.length c4) d.f1.f3 from ⟨A4, c4, rfl, hc4, H4.out⟩) HW2.out) rfl).mono ?_; rintro e w0 ⟨v0, rfl, hV0, hb0⟩; obtain ⟨A0, c0, rfl⟩ := Kd.V_slice hV0; have HV0 := Bvh hV0; have HB0 := Bvh hb0; clear hb0 hV0)
  | (go_at_call 67; (with_reducible refine (Bkz d A0 c0 (HR2.out.below HB0.out) HF.out HF1.out (HUP.out.le HB0.out.size) hl4 ?hF (Kd.V_at HV0.out).2.1).mono ?_); (case hF => refine Kd.F_mono (Kd.V_at HV0.out).2.2 ?_; intro k hk; rcases hk with hk | hk; exact hk; have := HSZ.out; omega); rintro e w1 ⟨rfl, hr1, hb1'⟩; have hb1 := Aqc (Aqk HUP.out HB0.out) hb1'; clear hb1'; obtain ⟨hv3, hrest⟩ := Aju HW2.out hBw (by omega) HV2.out hr1 hb1; obtain ⟨hf0, hg0, hf1, hg1, hf2, hg2, hT⟩ := VarT.facts hv3 (.int .i64 (doR s (wOf d)).2) (.slice none 0 0) (.slice none 0 0); have HT := Bvh hT; have HV3 := Bvh hv3; have HREST := Bvh hrest; clear hr1 hb1 hT hv3 hrest))
 refine bodyPost_ret (Azm rfl rfl HT.out) rfl ?_
 exact ⟨_, _, rfl, Kd.R_nil _ _ _ _ _, Kd.R_nil _ _ _ _ _, (HREST.out _ _ _).1, (HREST.out _ _ _).2⟩
theorem do_real2 (d : S76) (A4 : Option Addr) (c4 : Nat) (A7 : Option Addr) (c7 : Nat) (h : Rep B g s w) (hf : Fit s) (hf1 : Fit (asked s).1) (hBw : Up B w.heap.size) (hF4 : Kd.F (Kd.int .u8) w (fun k => k ≠ g) A4 d.f1.f3.length d.f1.f3) (hc4 : d.f1.f3.length ≤ c4) (hF7 : Kd.F (Kd.int .i64) w (fun k => k ≠ g) A7 d.f4.length d.f4) (hl4 : d.f1.f3.length ≤ 1000) (hl7 : d.f4.length ≤ 1000) (hw7 : ∀ n ∈ d.f4, (Lit.int .i64 n).wf = true) :
 Calls Try.prog 48 #[.pointer (some ⟨g, 0, none⟩), .agg #[.int .i64 2, .string d.f1.f0, .int .i64 d.f1.f1, .int .i64 d.f1.f2, .slice A4 d.f1.f3.length c4, .string d.f2, .string d.f3, .slice A7 d.f4.length c7, .int .i64 d.f5]] w fun e w' => ∃ y z, e = .returned (.agg #[.int .i64 (Aky s d.f2).2, y, z]) ∧ (Kd.int .u8).R 5 w' w.heap.size (fun _ => True) y [] ∧ Kd.string.R 9 w' w.heap.size (fun _ => True) z [] ∧ Rep B g (Aky s d.f2).1 w' ∧ BelS B w w' := by
 have hw2 : Below w.heap.size w ((w.alloc (.cells #[.int .i64 2, .string d.f1.f0, .int .i64 d.f1.f1, .int .i64 d.f1.f2, .slice A4 d.f1.f3.length c4, .string d.f2, .string d.f3, .slice A7 d.f4.length c7, .int .i64 d.f5] 76)).alloc (.cells #[.int .i64 0, .slice none 0 0, .slice none 0 0] 73)) := Aq4 (Aq4 (Below.refl _ _) _) _
 have hv2 : VarT ((w.alloc (.cells #[.int .i64 2, .string d.f1.f0, .int .i64 d.f1.f1, .int .i64 d.f1.f2, .slice A4 d.f1.f3.length c4, .string d.f2, .string d.f3, .slice A7 d.f4.length c7, .int .i64 d.f5] 76)).alloc (.cells #[.int .i64 0, .slice none 0 0, .slice none 0 0] 73)) (w.heap.size + 1) (.int .i64 0) (.slice none 0 0) (.slice none 0 0) := by
  have := heap_alloc_new (w.alloc (.cells #[.int .i64 2, .string d.f1.f0, .int .i64 d.f1.f1, .int .i64 d.f1.f2, .slice A4 d.f1.f3.length c4, .string d.f2, .string d.f3, .slice A7 d.f4.length c7, .int .i64 d.f5] 76)) (.cells #[.int .i64 0, .slice none 0 0, .slice none 0 0] 73)
  rw [World.size_alloc] at this
  exact this
 have hsz : ((w.alloc (.cells #[.int .i64 2, .string d.f1.f0, .int .i64 d.f1.f1, .int .i64 d.f1.f2, .slice A4 d.f1.f3.length c4, .string d.f2, .string d.f3, .slice A7 d.f4.length c7, .int .i64 d.f5] 76)).alloc (.cells #[.int .i64 0, .slice none 0 0, .slice none 0 0] 73)).heap.size = w.heap.size + 2 := by rw [World.size_alloc, World.size_alloc]
 have hlt := h.lt
 have hr2 : Rep (NotB B (w.heap.size + 1)) g s ((w.alloc (.cells #[.int .i64 2, .string d.f1.f0, .int .i64 d.f1.f1, .int .i64 d.f1.f2, .slice A4 d.f1.f3.length c4, .string d.f2, .string d.f3, .slice A7 d.f4.length c7, .int .i64 d.f5] 76)).alloc (.cells #[.int .i64 0, .slice none 0 0, .slice none 0 0] 73)) := (h.less (B' := NotB B (w.heap.size + 1)) fun k hk hlt2 => ⟨hk, by omega⟩).below hw2
 have hup : Up (NotB B (w.heap.size + 1)) ((w.alloc (.cells #[.int .i64 2, .string d.f1.f0, .int .i64 d.f1.f1, .int .i64 d.f1.f2, .slice A4 d.f1.f3.length c4, .string d.f2, .string d.f3, .slice A7 d.f4.length c7, .int .i64 d.f5] 76)).alloc (.cells #[.int .i64 0, .slice none 0 0, .slice none 0 0] 73)).heap.size := fun k hk => ⟨hBw k (by omega), by omega⟩
 have HW2 := Bvh hw2
 have HV2 := Bvh hv2
 have HR2 := Bvh hr2
 have HUP := Bvh hup
 have HSZ := Bvh hsz
 have HF := Bvh hf
 have HF1 := Bvh hf1
 have H4 := Bvh hF4
 have H7 := Bvh hF7
 have HW7 := Bvh hw7
 clear hw2 hv2 hr2 hup hsz hf hf1 hF4 hF7 hw7 h
 go_enter Try.func48, Try.ntmps48
 go_wp2_with (go_at_call 41; (with_reducible refine (Bq4 d.f2 HR2.out HF.out HF1.out HUP.out).mono ?_); rintro e w1 ⟨rfl, hr1, hb1⟩; obtain ⟨hv3, hrest⟩ := Aju HW2.out hBw (by omega) HV2.out hr1 hb1; obtain ⟨hf0, hg0, hf1, hg1, hf2, hg2, hT⟩ := VarT.facts hv3 (.int .i64 (Aky s d.f2).2) (.slice none 0 0) (.slice none 0 0); have HT := Bvh hT; have HV3 := Bvh hv3; have HREST := Bvh hrest; clear hr1 hb1 hT hv3 hrest)
 refine bodyPost_ret (Azm rfl rfl HT.out) rfl ?_
 exact ⟨_, _, rfl, Kd.R_nil _ _ _ _ _, Kd.R_nil _ _ _ _ _, (HREST.out _ _ _).1, (HREST.out _ _ _).2⟩
theorem do_real3 (d : S76) (A4 : Option Addr) (c4 : Nat) (A7 : Option Addr) (c7 : Nat) (h : Rep B g s w) (hf : Fit s) (hf1 : Fit (asked s).1) (hBw : Up B w.heap.size) (hF4 : Kd.F (Kd.int .u8) w (fun k => k ≠ g) A4 d.f1.f3.length d.f1.f3) (hc4 : d.f1.f3.length ≤ c4) (hF7 : Kd.F (Kd.int .i64) w (fun k => k ≠ g) A7 d.f4.length d.f4) (hl4 : d.f1.f3.length ≤ 1000) (hl7 : d.f4.length ≤ 1000) (hw7 : ∀ n ∈ d.f4, (Lit.int .i64 n).wf = true) :
 Calls Try.prog 48 #[.pointer (some ⟨g, 0, none⟩), .agg #[.int .i64 3, .string d.f1.f0, .int .i64 d.f1.f1, .int .i64 d.f1.f2, .slice A4 d.f1.f3.length c4, .string d.f2, .string d.f3, .slice A7 d.f4.length c7, .int .i64 d.f5]] w fun e w' => ∃ y z, e = .returned (.agg #[.int .i64 (Akg s d.f2 d.f3).2, y, z]) ∧ (Kd.int .u8).R 5 w' w.heap.size (fun _ => True) y [] ∧ Kd.string.R 9 w' w.heap.size (fun _ => True) z [] ∧ Rep B g (Akg s d.f2 d.f3).1 w' ∧ BelS B w w' := by
 have hw2 : Below w.heap.size w ((w.alloc (.cells #[.int .i64 3, .string d.f1.f0, .int .i64 d.f1.f1, .int .i64 d.f1.f2, .slice A4 d.f1.f3.length c4, .string d.f2, .string d.f3, .slice A7 d.f4.length c7, .int .i64 d.f5] 76)).alloc (.cells #[.int .i64 0, .slice none 0 0, .slice none 0 0] 73)) := Aq4 (Aq4 (Below.refl _ _) _) _
 have hv2 : VarT ((w.alloc (.cells #[.int .i64 3, .string d.f1.f0, .int .i64 d.f1.f1, .int .i64 d.f1.f2, .slice A4 d.f1.f3.length c4, .string d.f2, .string d.f3, .slice A7 d.f4.length c7, .int .i64 d.f5] 76)).alloc (.cells #[.int .i64 0, .slice none 0 0, .slice none 0 0] 73)) (w.heap.size + 1) (.int .i64 0) (.slice none 0 0) (.slice none 0 0) := by
  have := heap_alloc_new (w.alloc (.cells #[.int .i64 3, .string d.f1.f0, .int .i64 d.f1.f1, .int .i64 d.f1.f2, .slice A4 d.f1.f3.length c4, .string d.f2, .string d.f3, .slice A7 d.f4.length c7, .int .i64 d.f5] 76)) (.cells #[.int .i64 0, .slice none 0 0, .slice none 0 0] 73)
  rw [World.size_alloc] at this
  exact this
 have hsz : ((w.alloc (.cells #[.int .i64 3, .string d.f1.f0, .int .i64 d.f1.f1, .int .i64 d.f1.f2, .slice A4 d.f1.f3.length c4, .string d.f2, .string d.f3, .slice A7 d.f4.length c7, .int .i64 d.f5] 76)).alloc (.cells #[.int .i64 0, .slice none 0 0, .slice none 0 0] 73)).heap.size = w.heap.size + 2 := by rw [World.size_alloc, World.size_alloc]
 have hlt := h.lt
 have hr2 : Rep (NotB B (w.heap.size + 1)) g s ((w.alloc (.cells #[.int .i64 3, .string d.f1.f0, .int .i64 d.f1.f1, .int .i64 d.f1.f2, .slice A4 d.f1.f3.length c4, .string d.f2, .string d.f3, .slice A7 d.f4.length c7, .int .i64 d.f5] 76)).alloc (.cells #[.int .i64 0, .slice none 0 0, .slice none 0 0] 73)) := (h.less (B' := NotB B (w.heap.size + 1)) fun k hk hlt2 => ⟨hk, by omega⟩).below hw2
 have hup : Up (NotB B (w.heap.size + 1)) ((w.alloc (.cells #[.int .i64 3, .string d.f1.f0, .int .i64 d.f1.f1, .int .i64 d.f1.f2, .slice A4 d.f1.f3.length c4, .string d.f2, .string d.f3, .slice A7 d.f4.length c7, .int .i64 d.f5] 76)).alloc (.cells #[.int .i64 0, .slice none 0 0, .slice none 0 0] 73)).heap.size := fun k hk => ⟨hBw k (by omega), by omega⟩
 have HW2 := Bvh hw2
 have HV2 := Bvh hv2
 have HR2 := Bvh hr2
 have HUP := Bvh hup
 have HSZ := Bvh hsz
 have HF := Bvh hf
 have HF1 := Bvh hf1
 have H4 := Bvh hF4
 have H7 := Bvh hF7
 have HW7 := Bvh hw7
 clear hw2 hv2 hr2 hup hsz hf hf1 hF4 hF7 hw7 h
 go_enter Try.func48, Try.ntmps48
 go_wp2_with (go_at_call 43; (with_reducible refine (Bje d.f2 d.f3 HR2.out HF.out HF1.out HUP.out).mono ?_); rintro e w1 ⟨rfl, hr1, hb1⟩; obtain ⟨hv3, hrest⟩ := Aju HW2.out hBw (by omega) HV2.out hr1 hb1; obtain ⟨hf0, hg0, hf1, hg1, hf2, hg2, hT⟩ := VarT.facts hv3 (.int .i64 (Akg s d.f2 d.f3).2) (.slice none 0 0) (.slice none 0 0); have HT := Bvh hT; have HV3 := Bvh hv3; have HREST := Bvh hrest; clear hr1 hb1 hT hv3 hrest)
 refine bodyPost_ret (Azm rfl rfl HT.out) rfl ?_
 exact ⟨_, _, rfl, Kd.R_nil _ _ _ _ _, Kd.R_nil _ _ _ _ _, (HREST.out _ _ _).1, (HREST.out _ _ _).2⟩
theorem do_real4 (d : S76) (A4 : Option Addr) (c4 : Nat) (A7 : Option Addr) (c7 : Nat) (h : Rep B g s w) (hf : Fit s) (hf1 : Fit (asked s).1) (hBw : Up B w.heap.size) (hF4 : Kd.F (Kd.int .u8) w (fun k => k ≠ g) A4 d.f1.f3.length d.f1.f3) (hc4 : d.f1.f3.length ≤ c4) (hF7 : Kd.F (Kd.int .i64) w (fun k => k ≠ g) A7 d.f4.length d.f4) (hl4 : d.f1.f3.length ≤ 1000) (hl7 : d.f4.length ≤ 1000) (hw7 : ∀ n ∈ d.f4, (Lit.int .i64 n).wf = true) :
 Calls Try.prog 48 #[.pointer (some ⟨g, 0, none⟩), .agg #[.int .i64 4, .string d.f1.f0, .int .i64 d.f1.f1, .int .i64 d.f1.f2, .slice A4 d.f1.f3.length c4, .string d.f2, .string d.f3, .slice A7 d.f4.length c7, .int .i64 d.f5]] w fun e w' => ∃ y z, e = .returned (.agg #[.int .i64 (Avo s d.f2).2, y, z]) ∧ (Kd.int .u8).R 5 w' w.heap.size (fun _ => True) y [] ∧ Kd.string.R 9 w' w.heap.size (fun _ => True) z [] ∧ Rep B g (Avo s d.f2).1 w' ∧ BelS B w w' := by
 have hw2 : Below w.heap.size w ((w.alloc (.cells #[.int .i64 4, .string d.f1.f0, .int .i64 d.f1.f1, .int .i64 d.f1.f2, .slice A4 d.f1.f3.length c4, .string d.f2, .string d.f3, .slice A7 d.f4.length c7, .int .i64 d.f5] 76)).alloc (.cells #[.int .i64 0, .slice none 0 0, .slice none 0 0] 73)) := Aq4 (Aq4 (Below.refl _ _) _) _
 have hv2 : VarT ((w.alloc (.cells #[.int .i64 4, .string d.f1.f0, .int .i64 d.f1.f1, .int .i64 d.f1.f2, .slice A4 d.f1.f3.length c4, .string d.f2, .string d.f3, .slice A7 d.f4.length c7, .int .i64 d.f5] 76)).alloc (.cells #[.int .i64 0, .slice none 0 0, .slice none 0 0] 73)) (w.heap.size + 1) (.int .i64 0) (.slice none 0 0) (.slice none 0 0) := by
  have := heap_alloc_new (w.alloc (.cells #[.int .i64 4, .string d.f1.f0, .int .i64 d.f1.f1, .int .i64 d.f1.f2, .slice A4 d.f1.f3.length c4, .string d.f2, .string d.f3, .slice A7 d.f4.length c7, .int .i64 d.f5] 76)) (.cells #[.int .i64 0, .slice none 0 0, .slice none 0 0] 73)
  rw [World.size_alloc] at this
  exact this
 have hsz : ((w.alloc (.cells #[.int .i64 4, .string d.f1.f0, .int .i64 d.f1.f1, .int .i64 d.f1.f2, .slice A4 d.f1.f3.length c4, .string d.f2, .string d.f3, .slice A7 d.f4.length c7, .int .i64 d.f5] 76)).alloc (.cells #[.int .i64 0, .slice none 0 0, .slice none 0 0] 73)).heap.size = w.heap.size + 2 := by rw [World.size_alloc, World.size_alloc]
 have hlt := h.lt
 have hr2 : Rep (NotB B (w.heap.size + 1)) g s ((w.alloc (.cells #[.int .i64 4, .string d.f1.f0, .int .i64 d.f1.f1, .int .i64 d.f1.f2, .slice A4 d.f1.f3.length c4, .string d.f2, .string d.f3, .slice A7 d.f4.length c7, .int .i64 d.f5] 76)).alloc (.cells #[.int .i64 0, .slice none 0 0, .slice none 0 0] 73)) := (h.less (B' := NotB B (w.heap.size + 1)) fun k hk hlt2 => ⟨hk, by omega⟩).below hw2
 have hup : Up (NotB B (w.heap.size + 1)) ((w.alloc (.cells #[.int .i64 4, .string d.f1.f0, .int .i64 d.f1.f1, .int .i64 d.f1.f2, .slice A4 d.f1.f3.length c4, .string d.f2, .string d.f3, .slice A7 d.f4.length c7, .int .i64 d.f5] 76)).alloc (.cells #[.int .i64 0, .slice none 0 0, .slice none 0 0] 73)).heap.size := fun k hk => ⟨hBw k (by omega), by omega⟩
 have HW2 := Bvh hw2
 have HV2 := Bvh hv2
 have HR2 := Bvh hr2
 have HUP := Bvh hup
 have HSZ := Bvh hsz
 have HF := Bvh hf
 have HF1 := Bvh hf1
 have H4 := Bvh hF4
 have H7 := Bvh hF7
 have HW7 := Bvh hw7
 clear hw2 hv2 hr2 hup hsz hf hf1 hF4 hF7 hw7 h
 go_enter Try.func48, Try.ntmps48
 go_wp2_with (go_at_call 80; (with_reducible refine (Bjo d.f2 HR2.out HF.out HF1.out HUP.out).mono ?_); rintro e w1 ⟨rfl, hr1, hb1⟩; obtain ⟨hv3, hrest⟩ := Aju HW2.out hBw (by omega) HV2.out hr1 hb1; obtain ⟨hf0, hg0, hf1, hg1, hf2, hg2, hT⟩ := VarT.facts hv3 (.int .i64 (Avo s d.f2).2) (.slice none 0 0) (.slice none 0 0); have HT := Bvh hT; have HV3 := Bvh hv3; have HREST := Bvh hrest; clear hr1 hb1 hT hv3 hrest)
 refine bodyPost_ret (Azm rfl rfl HT.out) rfl ?_
 exact ⟨_, _, rfl, Kd.R_nil _ _ _ _ _, Kd.R_nil _ _ _ _ _, (HREST.out _ _ _).1, (HREST.out _ _ _).2⟩
theorem do_real5 (d : S76) (A4 : Option Addr) (c4 : Nat) (A7 : Option Addr) (c7 : Nat) (h : Rep B g s w) (hf : Fit s) (hf1 : Fit (asked s).1) (hBw : Up B w.heap.size) (hF4 : Kd.F (Kd.int .u8) w (fun k => k ≠ g) A4 d.f1.f3.length d.f1.f3) (hc4 : d.f1.f3.length ≤ c4) (hF7 : Kd.F (Kd.int .i64) w (fun k => k ≠ g) A7 d.f4.length d.f4) (hl4 : d.f1.f3.length ≤ 1000) (hl7 : d.f4.length ≤ 1000) (hw7 : ∀ n ∈ d.f4, (Lit.int .i64 n).wf = true) :
 Calls Try.prog 48 #[.pointer (some ⟨g, 0, none⟩), .agg #[.int .i64 5, .string d.f1.f0, .int .i64 d.f1.f1, .int .i64 d.f1.f2, .slice A4 d.f1.f3.length c4, .string d.f2, .string d.f3, .slice A7 d.f4.length c7, .int .i64 d.f5]] w fun e w' => ∃ y z, e = .returned (.agg #[.int .i64 (Aj8 s d.f2).2.1, y, z]) ∧ (Kd.int .u8).R 5 w' w.heap.size (fun _ => True) y (Aj8 s d.f2).2.2 ∧ Kd.string.R 9 w' w.heap.size (fun _ => True) z [] ∧ Rep B g (Aj8 s d.f2).1 w' ∧ BelS B w w' := by
 have hw2 : Below w.heap.size w ((w.alloc (.cells #[.int .i64 5, .string d.f1.f0, .int .i64 d.f1.f1, .int .i64 d.f1.f2, .slice A4 d.f1.f3.length c4, .string d.f2, .string d.f3, .slice A7 d.f4.length c7, .int .i64 d.f5] 76)).alloc (.cells #[.int .i64 0, .slice none 0 0, .slice none 0 0] 73)) := Aq4 (Aq4 (Below.refl _ _) _) _
 have hv2 : VarT ((w.alloc (.cells #[.int .i64 5, .string d.f1.f0, .int .i64 d.f1.f1, .int .i64 d.f1.f2, .slice A4 d.f1.f3.length c4, .string d.f2, .string d.f3, .slice A7 d.f4.length c7, .int .i64 d.f5] 76)).alloc (.cells #[.int .i64 0, .slice none 0 0, .slice none 0 0] 73)) (w.heap.size + 1) (.int .i64 0) (.slice none 0 0) (.slice none 0 0) := by
  have := heap_alloc_new (w.alloc (.cells #[.int .i64 5, .string d.f1.f0, .int .i64 d.f1.f1, .int .i64 d.f1.f2, .slice A4 d.f1.f3.length c4, .string d.f2, .string d.f3, .slice A7 d.f4.length c7, .int .i64 d.f5] 76)) (.cells #[.int .i64 0, .slice none 0 0, .slice none 0 0] 73)
  rw [World.size_alloc] at this
  exact this
 have hsz : ((w.alloc (.cells #[.int .i64 5, .string d.f1.f0, .int .i64 d.f1.f1, .int .i64 d.f1.f2, .slice A4 d.f1.f3.length c4, .string d.f2, .string d.f3, .slice A7 d.f4.length c7, .int .i64 d.f5] 76)).alloc (.cells #[.int .i64 0, .slice none 0 0, .slice none 0 0] 73)).heap.size = w.heap.size + 2 := by rw [World.size_alloc, World.size_alloc]
 have hlt := h.lt
 have hr2 : Rep (NotB B (w.heap.size + 1)) g s ((w.alloc (.cells #[.int .i64 5, .string d.f1.f0, .int .i64 d.f1.f1, .int .i64 d.f1.f2, .slice A4 d.f1.f3.length c4, .string d.f2, .string d.f3, .slice A7 d.f4.length c7, .int .i64 d.f5] 76)).alloc (.cells #[.int .i64 0, .slice none 0 0, .slice none 0 0] 73)) := (h.less (B' := NotB B (w.heap.size + 1)) fun k hk hlt2 => ⟨hk, by omega⟩).below hw2
 have hup : Up (NotB B (w.heap.size + 1)) ((w.alloc (.cells #[.int .i64 5, .string d.f1.f0, .int .i64 d.f1.f1, .int .i64 d.f1.f2, .slice A4 d.f1.f3.length c4, .string d.f2, .string d.f3, .slice A7 d.f4.length c7, .int .i64 d.f5] 76)).alloc (.cells #[.int .i64 0, .slice none 0 0, .slice none 0 0] 73)).heap.size := fun k hk => ⟨hBw k (by omega), by omega⟩
 have HW2 := Bvh hw2
 have HV2 := Bvh hv2
 have HR2 := Bvh hr2
 have HUP := Bvh hup
 have HSZ := Bvh hsz
 have HF := Bvh hf
 have HF1 := Bvh hf1
 have H4 := Bvh hF4
 have H7 := Bvh hF7
 have HW7 := Bvh hw7
 clear hw2 hv2 hr2 hup hsz hf hf1 hF4 hF7 hw7 h
 go_enter Try.func48, Try.ntmps48
 go_wp2_with (go_at_call 68; (with_reducible refine (Bq8 (name := d.f2) HR2.out HF.out HF1.out HUP.out).mono ?_); rintro e w1 ⟨v, rfl, hv, hr1, hb1⟩; obtain ⟨Ay, cy, rfl⟩ := Kd.R_slice hv; have HVV := Bvh hv; clear hv; obtain ⟨hv3, hrest⟩ := Aju HW2.out hBw (by omega) HV2.out hr1 hb1; obtain ⟨hf0, hg0, hf1, hg1, hf2, hg2, hT⟩ := VarT.facts hv3 (.int .i64 (Aj8 s d.f2).2.1) (.slice Ay (Aj8 s d.f2).2.2.length cy) (.slice none 0 0); have HT := Bvh hT; have HV3 := Bvh hv3; have HREST := Bvh hrest; clear hr1 hb1 hT hv3 hrest)
 refine bodyPost_ret (Azm rfl rfl HT.out) rfl ?_
 exact ⟨_, _, rfl, ((HV3.out.but _ _ _).R_bytes (Kd.R_lower HVV.out HW2.out.size) HV3.out (by decide)), Kd.R_nil _ _ _ _ _, (HREST.out _ _ _).1, (HREST.out _ _ _).2⟩
theorem do_real6 (d : S76) (A4 : Option Addr) (c4 : Nat) (A7 : Option Addr) (c7 : Nat) (h : Rep B g s w) (hf : Fit s) (hf1 : Fit (asked s).1) (hBw : Up B w.heap.size) (hF4 : Kd.F (Kd.int .u8) w (fun k => k ≠ g) A4 d.f1.f3.length d.f1.f3) (hc4 : d.f1.f3.length ≤ c4) (hF7 : Kd.F (Kd.int .i64) w (fun k => k ≠ g) A7 d.f4.length d.f4) (hl4 : d.f1.f3.length ≤ 1000) (hl7 : d.f4.length ≤ 1000) (hw7 : ∀ n ∈ d.f4, (Lit.int .i64 n).wf = true) :
 Calls Try.prog 48 #[.pointer (some ⟨g, 0, none⟩), .agg #[.int .i64 6, .string d.f1.f0, .int .i64 d.f1.f1, .int .i64 d.f1.f2, .slice A4 d.f1.f3.length c4, .string d.f2, .string d.f3, .slice A7 d.f4.length c7, .int .i64 d.f5]] w fun e w' => ∃ y z, e = .returned (.agg #[.int .i64 (Ajp s).2.1, y, z]) ∧ (Kd.int .u8).R 5 w' w.heap.size (fun _ => True) y [] ∧ Kd.string.R 9 w' w.heap.size (fun _ => True) z (Ajp s).2.2 ∧ Rep B g (Ajp s).1 w' ∧ BelS B w w' := by
 have hw2 : Below w.heap.size w ((w.alloc (.cells #[.int .i64 6, .string d.f1.f0, .int .i64 d.f1.f1, .int .i64 d.f1.f2, .slice A4 d.f1.f3.length c4, .string d.f2, .string d.f3, .slice A7 d.f4.length c7, .int .i64 d.f5] 76)).alloc (.cells #[.int .i64 0, .slice none 0 0, .slice none 0 0] 73)) := Aq4 (Aq4 (Below.refl _ _) _) _
 have hv2 : VarT ((w.alloc (.cells #[.int .i64 6, .string d.f1.f0, .int .i64 d.f1.f1, .int .i64 d.f1.f2, .slice A4 d.f1.f3.length c4, .string d.f2, .string d.f3, .slice A7 d.f4.length c7, .int .i64 d.f5] 76)).alloc (.cells #[.int .i64 0, .slice none 0 0, .slice none 0 0] 73)) (w.heap.size + 1) (.int .i64 0) (.slice none 0 0) (.slice none 0 0) := by
  have := heap_alloc_new (w.alloc (.cells #[.int .i64 6, .string d.f1.f0, .int .i64 d.f1.f1, .int .i64 d.f1.f2, .slice A4 d.f1.f3.length c4, .string d.f2, .string d.f3, .slice A7 d.f4.length c7, .int .i64 d.f5] 76)) (.cells #[.int .i64 0, .slice none 0 0, .slice none 0 0] 73)
  rw [World.size_alloc] at this
  exact this
 have hsz : ((w.alloc (.cells #[.int .i64 6, .string d.f1.f0, .int .i64 d.f1.f1, .int .i64 d.f1.f2, .slice A4 d.f1.f3.length c4, .string d.f2, .string d.f3, .slice A7 d.f4.length c7, .int .i64 d.f5] 76)).alloc (.cells #[.int .i64 0, .slice none 0 0, .slice none 0 0] 73)).heap.size = w.heap.size + 2 := by rw [World.size_alloc, World.size_alloc]
 have hlt := h.lt
 have hr2 : Rep (NotB B (w.heap.size + 1)) g s ((w.alloc (.cells #[.int .i64 6, .string d.f1.f0, .int .i64 d.f1.f1, .int .i64 d.f1.f2, .slice A4 d.f1.f3.length c4, .string d.f2, .string d.f3, .slice A7 d.f4.length c7, .int .i64 d.f5] 76)).alloc (.cells #[.int .i64 0, .slice none 0 0, .slice none 0 0] 73)) := (h.less (B' := NotB B (w.heap.size + 1)) fun k hk hlt2 => ⟨hk, by omega⟩).below hw2
 have hup : Up (NotB B (w.heap.size + 1)) ((w.alloc (.cells #[.int .i64 6, .string d.f1.f0, .int .i64 d.f1.f1, .int .i64 d.f1.f2, .slice A4 d.f1.f3.length c4, .string d.f2, .string d.f3, .slice A7 d.f4.length c7, .int .i64 d.f5] 76)).alloc (.cells #[.int .i64 0, .slice none 0 0, .slice none 0 0] 73)).heap.size := fun k hk => ⟨hBw k (by omega), by omega⟩
 have HW2 := Bvh hw2
 have HV2 := Bvh hv2
 have HR2 := Bvh hr2
 have HUP := Bvh hup
 have HSZ := Bvh hsz
 have HF := Bvh hf
 have HF1 := Bvh hf1
 have H4 := Bvh hF4
 have H7 := Bvh hF7
 have HW7 := Bvh hw7
 clear hw2 hv2 hr2 hup hsz hf hf1 hF4 hF7 hw7 h
 go_enter Try.func48, Try.ntmps48
 go_wp2_with (go_at_call 81; (with_reducible refine (Bjh HR2.out HF.out HF1.out HUP.out).mono ?_); rintro e w1 ⟨v, rfl, hv, hr1, hb1⟩; obtain ⟨Ay, cy, rfl⟩ := Kd.R_slice hv; have HVV := Bvh hv; clear hv; obtain ⟨hv3, hrest⟩ := Aju HW2.out hBw (by omega) HV2.out hr1 hb1; obtain ⟨hf0, hg0, hf1, hg1, hf2, hg2, hT⟩ := VarT.facts hv3 (.int .i64 (Ajp s).2.1) (.slice none 0 0) (.slice Ay (Ajp s).2.2.length cy); have HT := Bvh hT; have HV3 := Bvh hv3; have HREST := Bvh hrest; clear hr1 hb1 hT hv3 hrest)
 refine bodyPost_ret (Azm rfl rfl HT.out) rfl ?_
 exact ⟨_, _, rfl, Kd.R_nil _ _ _ _ _, ((HV3.out.but _ _ _).R_names (Kd.R_lower HVV.out HW2.out.size) HV3.out (by decide)), (HREST.out _ _ _).1, (HREST.out _ _ _).2⟩
theorem do_real7 (d : S76) (A4 : Option Addr) (c4 : Nat) (A7 : Option Addr) (c7 : Nat) (h : Rep B g s w) (hf : Fit s) (hf1 : Fit (asked s).1) (hBw : Up B w.heap.size) (hF4 : Kd.F (Kd.int .u8) w (fun k => k ≠ g) A4 d.f1.f3.length d.f1.f3) (hc4 : d.f1.f3.length ≤ c4) (hF7 : Kd.F (Kd.int .i64) w (fun k => k ≠ g) A7 d.f4.length d.f4) (hl4 : d.f1.f3.length ≤ 1000) (hl7 : d.f4.length ≤ 1000) (hw7 : ∀ n ∈ d.f4, (Lit.int .i64 n).wf = true) :
 Calls Try.prog 48 #[.pointer (some ⟨g, 0, none⟩), .agg #[.int .i64 7, .string d.f1.f0, .int .i64 d.f1.f1, .int .i64 d.f1.f2, .slice A4 d.f1.f3.length c4, .string d.f2, .string d.f3, .slice A7 d.f4.length c7, .int .i64 d.f5]] w fun e w' => ∃ y z, e = .returned (.agg #[.int .i64 0, y, z]) ∧ (Kd.int .u8).R 5 w' w.heap.size (fun _ => True) y [] ∧ Kd.string.R 9 w' w.heap.size (fun _ => True) z [] ∧ Rep B g (Aka s d.f4) w' ∧ BelS B w w' := by
 have hw2 : Below w.heap.size w ((w.alloc (.cells #[.int .i64 7, .string d.f1.f0, .int .i64 d.f1.f1, .int .i64 d.f1.f2, .slice A4 d.f1.f3.length c4, .string d.f2, .string d.f3, .slice A7 d.f4.length c7, .int .i64 d.f5] 76)).alloc (.cells #[.int .i64 0, .slice none 0 0, .slice none 0 0] 73)) := Aq4 (Aq4 (Below.refl _ _) _) _
 have hv2 : VarT ((w.alloc (.cells #[.int .i64 7, .string d.f1.f0, .int .i64 d.f1.f1, .int .i64 d.f1.f2, .slice A4 d.f1.f3.length c4, .string d.f2, .string d.f3, .slice A7 d.f4.length c7, .int .i64 d.f5] 76)).alloc (.cells #[.int .i64 0, .slice none 0 0, .slice none 0 0] 73)) (w.heap.size + 1) (.int .i64 0) (.slice none 0 0) (.slice none 0 0) := by
  have := heap_alloc_new (w.alloc (.cells #[.int .i64 7, .string d.f1.f0, .int .i64 d.f1.f1, .int .i64 d.f1.f2, .slice A4 d.f1.f3.length c4, .string d.f2, .string d.f3, .slice A7 d.f4.length c7, .int .i64 d.f5] 76)) (.cells #[.int .i64 0, .slice none 0 0, .slice none 0 0] 73)
  rw [World.size_alloc] at this
  exact this
 have hsz : ((w.alloc (.cells #[.int .i64 7, .string d.f1.f0, .int .i64 d.f1.f1, .int .i64 d.f1.f2, .slice A4 d.f1.f3.length c4, .string d.f2, .string d.f3, .slice A7 d.f4.length c7, .int .i64 d.f5] 76)).alloc (.cells #[.int .i64 0, .slice none 0 0, .slice none 0 0] 73)).heap.size = w.heap.size + 2 := by rw [World.size_alloc, World.size_alloc]
 have hlt := h.lt
 have hr2 : Rep (NotB B (w.heap.size + 1)) g s ((w.alloc (.cells #[.int .i64 7, .string d.f1.f0, .int .i64 d.f1.f1, .int .i64 d.f1.f2, .slice A4 d.f1.f3.length c4, .string d.f2, .string d.f3, .slice A7 d.f4.length c7, .int .i64 d.f5] 76)).alloc (.cells #[.int .i64 0, .slice none 0 0, .slice none 0 0] 73)) := (h.less (B' := NotB B (w.heap.size + 1)) fun k hk hlt2 => ⟨hk, by omega⟩).below hw2
 have hup : Up (NotB B (w.heap.size + 1)) ((w.alloc (.cells #[.int .i64 7, .string d.f1.f0, .int .i64 d.f1.f1, .int .i64 d.f1.f2, .slice A4 d.f1.f3.length c4, .string d.f2, .string d.f3, .slice A7 d.f4.length c7, .int .i64 d.f5] 76)).alloc (.cells #[.int .i64 0, .slice none 0 0, .slice none 0 0] 73)).heap.size := fun k hk => ⟨hBw k (by omega), by omega⟩
 have HW2 := Bvh hw2
 have HV2 := Bvh hv2
 have HR2 := Bvh hr2
 have HUP := Bvh hup
 have HSZ := Bvh hsz
 have HF := Bvh hf
 have HF1 := Bvh hf1
 have H4 := Bvh hF4
 have H7 := Bvh hF7
 have HW7 := Bvh hw7
 clear hw2 hv2 hr2 hup hsz hf hf1 hF4 hF7 hw7 h
 go_enter Try.func48, Try.ntmps48
 go_wp2_with (go_at_call 44; (with_reducible refine (Awp A7 c7 d.f4 HR2.out HF.out HUP.out (Kd.F_now (Kd.F_below H7.out HW2.out))).mono ?_); rintro e w1 ⟨rfl, hr1, hb1⟩; obtain ⟨hv3, hrest⟩ := Aju HW2.out hBw (by omega) HV2.out hr1 hb1; obtain ⟨hf0, hg0, hf1, hg1, hf2, hg2, hT⟩ := VarT.facts hv3 (.int .i64 0) (.slice none 0 0) (.slice none 0 0); have HT := Bvh hT; have HV3 := Bvh hv3; have HREST := Bvh hrest; clear hr1 hb1 hT hv3 hrest)
 refine bodyPost_ret (Azm rfl rfl HT.out) rfl ?_
 exact ⟨_, _, rfl, Kd.R_nil _ _ _ _ _, Kd.R_nil _ _ _ _ _, (HREST.out _ _ _).1, (HREST.out _ _ _).2⟩
theorem do_real8 (d : S76) (A4 : Option Addr) (c4 : Nat) (A7 : Option Addr) (c7 : Nat) (h : Rep B g s w) (hf : Fit s) (hf1 : Fit (asked s).1) (hBw : Up B w.heap.size) (hF4 : Kd.F (Kd.int .u8) w (fun k => k ≠ g) A4 d.f1.f3.length d.f1.f3) (hc4 : d.f1.f3.length ≤ c4) (hF7 : Kd.F (Kd.int .i64) w (fun k => k ≠ g) A7 d.f4.length d.f4) (hl4 : d.f1.f3.length ≤ 1000) (hl7 : d.f4.length ≤ 1000) (hw7 : ∀ n ∈ d.f4, (Lit.int .i64 n).wf = true) :
 Calls Try.prog 48 #[.pointer (some ⟨g, 0, none⟩), .agg #[.int .i64 8, .string d.f1.f0, .int .i64 d.f1.f1, .int .i64 d.f1.f2, .slice A4 d.f1.f3.length c4, .string d.f2, .string d.f3, .slice A7 d.f4.length c7, .int .i64 d.f5]] w fun e w' => ∃ y z, e = .returned (.agg #[.int .i64 0, y, z]) ∧ (Kd.int .u8).R 5 w' w.heap.size (fun _ => True) y [] ∧ Kd.string.R 9 w' w.heap.size (fun _ => True) z [] ∧ Rep B g (Bj8 s d.f4 d.f5) w' ∧ BelS B w w' := by
 have hw2 : Below w.heap.size w ((w.alloc (.cells #[.int .i64 8, .string d.f1.f0, .int .i64 d.f1.f1, .int .i64 d.f1.f2, .slice A4 d.f1.f3.length c4, .string d.f2, .string d.f3, .slice A7 d.f4.length c7, .int .i64 d.f5] 76)).alloc (.cells #[.int .i64 0, .slice none 0 0, .slice none 0 0] 73)) := Aq4 (Aq4 (Below.refl _ _) _) _
 have hv2 : VarT ((w.alloc (.cells #[.int .i64 8, .string d.f1.f0, .int .i64 d.f1.f1, .int .i64 d.f1.f2, .slice A4 d.f1.f3.length c4, .string d.f2, .string d.f3, .slice A7 d.f4.length c7, .int .i64 d.f5] 76)).alloc (.cells #[.int .i64 0, .slice none 0 0, .slice none 0 0] 73)) (w.heap.size + 1) (.int .i64 0) (.slice none 0 0) (.slice none 0 0) := by
  have := heap_alloc_new (w.alloc (.cells #[.int .i64 8, .string d.f1.f0, .int .i64 d.f1.f1, .int .i64 d.f1.f2, .slice A4 d.f1.f3.length c4, .string d.f2, .string d.f3, .slice A7 d.f4.length c7, .int .i64 d.f5] 76)) (.cells #[.int .i64 0, .slice none 0 0, .slice none 0 0] 73)
  rw [World.size_alloc] at this
  exact this
 have hsz : ((w.alloc (.cells #[.int .i64 8, .string d.f1.f0, .int .i64 d.f1.f1, .int .i64 d.f1.f2, .slice A4 d.f1.f3.length c4, .string d.f2, .string d.f3, .slice A7 d.f4.length c7, .int .i64 d.f5] 76)).alloc (.cells #[.int .i64 0, .slice none 0 0, .slice none 0 0] 73)).heap.size = w.heap.size + 2 := by rw [World.size_alloc, World.size_alloc]
 have hlt := h.lt
 have hr2 : Rep (NotB B (w.heap.size + 1)) g s ((w.alloc (.cells #[.int .i64 8, .string d.f1.f0, .int .i64 d.f1.f1, .int .i64 d.f1.f2, .slice A4 d.f1.f3.length c4, .string d.f2, .string d.f3, .slice A7 d.f4.length c7, .int .i64 d.f5] 76)).alloc (.cells #[.int .i64 0, .slice none 0 0, .slice none 0 0] 73)) := (h.less (B' := NotB B (w.heap.size + 1)) fun k hk hlt2 => ⟨hk, by omega⟩).below hw2
 have hup : Up (NotB B (w.heap.size + 1)) ((w.alloc (.cells #[.int .i64 8, .string d.f1.f0, .int .i64 d.f1.f1, .int .i64 d.f1.f2, .slice A4 d.f1.f3.length c4, .string d.f2, .string d.f3, .slice A7 d.f4.length c7, .int .i64 d.f5] 76)).alloc (.cells #[.int .i64 0, .slice none 0 0, .slice none 0 0] 73)).heap.size := fun k hk => ⟨hBw k (by omega), by omega⟩
 have HW2 := Bvh hw2
 have HV2 := Bvh hv2
 have HR2 := Bvh hr2
 have HUP := Bvh hup
 have HSZ := Bvh hsz
 have HF := Bvh hf
 have HF1 := Bvh hf1
 have H4 := Bvh hF4
 have H7 := Bvh hF7
 have HW7 := Bvh hw7
 clear hw2 hv2 hr2 hup hsz hf hf1 hF4 hF7 hw7 h
 go_enter Try.func48, Try.ntmps48
 go_wp2_with (go_at_call 40; (with_reducible refine (Bj7 A7 c7 d.f4 d.f5 HR2.out HUP.out (Kd.F_below H7.out HW2.out) hl7 HW7.out).mono ?_); rintro e w1 ⟨rfl, hr1, hb1⟩; obtain ⟨hv3, hrest⟩ := Aju HW2.out hBw (by omega) HV2.out hr1 hb1; obtain ⟨hf0, hg0, hf1, hg1, hf2, hg2, hT⟩ := VarT.facts hv3 (.int .i64 0) (.slice none 0 0) (.slice none 0 0); have HT := Bvh hT; have HV3 := Bvh hv3; have HREST := Bvh hrest; clear hr1 hb1 hT hv3 hrest)
 refine bodyPost_ret (Azm rfl rfl HT.out) rfl ?_
 exact ⟨_, _, rfl, Kd.R_nil _ _ _ _ _, Kd.R_nil _ _ _ _ _, (HREST.out _ _ _).1, (HREST.out _ _ _).2⟩
theorem do_real (d : S76) (A4 : Option Addr) (c4 : Nat) (A7 : Option Addr) (c7 : Nat) (h : Rep B g s w) (hf : Fit s) (hf1 : Fit (asked s).1) (hBw : Up B w.heap.size) (hF4 : Kd.F (Kd.int .u8) w (fun k => k ≠ g) A4 d.f1.f3.length d.f1.f3) (hc4 : d.f1.f3.length ≤ c4) (hF7 : Kd.F (Kd.int .i64) w (fun k => k ≠ g) A7 d.f4.length d.f4) (hl4 : d.f1.f3.length ≤ 1000) (hl7 : d.f4.length ≤ 1000) (hw7 : ∀ n ∈ d.f4, (Lit.int .i64 n).wf = true) (h1 : 1 ≤ d.f0) (h8 : d.f0 ≤ 8) :
 Calls Try.prog 48 #[.pointer (some ⟨g, 0, none⟩), .agg #[.int .i64 d.f0, .string d.f1.f0, .int .i64 d.f1.f1, .int .i64 d.f1.f2, .slice A4 d.f1.f3.length c4, .string d.f2, .string d.f3, .slice A7 d.f4.length c7, .int .i64 d.f5]] w fun e w' => ∃ y z, e = .returned (.agg #[.int .i64 (doS s d).2.1, y, z]) ∧ (Kd.int .u8).R 5 w' w.heap.size (fun _ => True) y (doS s d).2.2.1 ∧ Kd.string.R 9 w' w.heap.size (fun _ => True) z (doS s d).2.2.2 ∧ Rep B g (doS s d).1 w' ∧ BelS B w w' := by
 have hk : d.f0 = 1 ∨ d.f0 = 2 ∨ d.f0 = 3 ∨ d.f0 = 4 ∨ d.f0 = 5 ∨ d.f0 = 6 ∨ d.f0 = 7 ∨ d.f0 = 8 := by omega
 unfold doS
 rcases hk with hk | hk | hk | hk | hk | hk | hk | hk <;> rw [hk]
 · exact do_real1 d A4 c4 A7 c7 h hf hf1 hBw hF4 hc4 hF7 hl4 hl7 hw7
 · exact do_real2 d A4 c4 A7 c7 h hf hf1 hBw hF4 hc4 hF7 hl4 hl7 hw7
 · exact do_real3 d A4 c4 A7 c7 h hf hf1 hBw hF4 hc4 hF7 hl4 hl7 hw7
 · exact do_real4 d A4 c4 A7 c7 h hf hf1 hBw hF4 hc4 hF7 hl4 hl7 hw7
 · exact do_real5 d A4 c4 A7 c7 h hf hf1 hBw hF4 hc4 hF7 hl4 hl7 hw7
 · exact do_real6 d A4 c4 A7 c7 h hf hf1 hBw hF4 hc4 hF7 hl4 hl7 hw7
 · exact do_real7 d A4 c4 A7 c7 h hf hf1 hBw hF4 hc4 hF7 hl4 hl7 hw7
 · exact do_real8 d A4 c4 A7 c7 h hf hf1 hBw hF4 hc4 hF7 hl4 hl7 hw7
end
end
section
def runS (s : SSt) (l : List S76) : SSt := l.foldl (fun s d => (doS s d).1) s
theorem Aw7 (s : SSt) (l : List S76) (i : Nat) (h : i < l.length) : runS s (l.take (i + 1)) = (doS (runS s (l.take i)) l[i]).1 := by
 unfold runS
 rw [List.take_succ_eq_append_getElem h, List.foldl_append]
 rfl
structure Inv (n : Nat) (s : SSt) : Prop where
 len : s.safe.length + s.pend.length ≤ n
 safe : okL s.safe
 pend : okW s.pend
 calls0 : 0 ≤ s.calls
 calls1 : s.calls ≤ n
structure okD (d : S76) : Prop where
 k1 : 1 ≤ d.f0
 k8 : d.f0 ≤ 8
 w : d.f1.f3.length ≤ 300
 nums : d.f4.length ≤ 20
 nm : d.f1.f0.size ≤ 60
 na : d.f2.size ≤ 60
 nb : d.f3.size ≤ 60
theorem Inv.fit {n : Nat} {s : SSt} (h : Inv n s) (hn : n ≤ 1000) : Fit s := ⟨by have := h.len; omega, h.safe, h.pend, h.calls0, by have := h.calls1; omega⟩
theorem Inv.more {n m : Nat} {s : SSt} (h : Inv n s) (hn : n ≤ m) : Inv m s := ⟨by have := h.len; omega, h.safe, h.pend, h.calls0, by have := h.calls1; omega⟩
theorem Inv.new (q : Int) : Inv 0 (newD q) := ⟨by simp [newD], fun x hx => by simp [newD] at hx, fun x hx => by simp [newD] at hx, by simp [newD], by simp [newD]⟩
theorem Bqg (s : SSt) : (asked s).1.safe = s.safe ∧ (asked s).1.pend = s.pend ∧ (asked s).1.quota = s.quota ∧ (asked s).1.peak = s.peak ∧ (asked s).1.crash = s.crash ∧ (asked s).1.fails = s.fails ∧ ((asked s).1.calls = s.calls ∨ (asked s).1.calls = s.calls + 1) := by
 unfold asked
 split
 · exact ⟨rfl, rfl, rfl, rfl, rfl, rfl, .inl rfl⟩
 · split
   · exact ⟨rfl, rfl, rfl, rfl, rfl, rfl, .inr rfl⟩
   · split <;> exact ⟨rfl, rfl, rfl, rfl, rfl, rfl, .inr rfl⟩
theorem Inv.asked {n : Nat} {s : SSt} (h : Inv n s) : Inv (n + 1) (asked s).1 ∧ (P.asked s).1.safe.length + (P.asked s).1.pend.length ≤ n := by
 obtain ⟨h1, h2, _, _, _, _, h3⟩ := Bqg s
 have hl := h.len
 have h0 := h.calls0
 have hc := h.calls1
 exact ⟨⟨by rw [h1, h2]; omega, by rw [h1]; exact h.safe, by rw [h2]; exact h.pend, by omega, by omega⟩, by rw [h1, h2]; omega⟩
theorem Inv.fitA {n : Nat} {s : SSt} (h : Inv n s) (hn : n ≤ 999) : Fit (P.asked s).1 := h.asked.1.fit (by omega)
theorem Bqc {l : List S38} (h : okL l) (p : S38 → Bool) : okL (l.filter p) := fun x hx => h x (List.mem_filter.1 hx).1
theorem Bqb {l : List S31} (h : okW l) (p : S31 → Bool) : okW (l.filter p) := fun x hx => h x (List.mem_filter.1 hx).1
theorem Bjn (l : List S31) (p q : S31 → Bool) (h : ∀ x, q x = !p x) : (l.filter p).length + (l.filter q).length = l.length := by
 induction l with
 | nil => rfl
 | cons x l ih =>
   have := h x
   cases hp : p x
   · rw [hp] at this
     rw [List.filter_cons_of_neg (by simp [hp]), List.filter_cons_of_pos (by simp [this]), List.length_cons, List.length_cons]
     omega
   · rw [hp] at this
     rw [List.filter_cons_of_pos hp, List.filter_cons_of_neg (by simp [this]), List.length_cons, List.length_cons]
     omega
theorem moveT_ok {l : List S38} (h : okL l) (a b : ByteArray) : okL (Avx l a b) ∧ (Avx l a b).length ≤ l.length := by
 unfold Avx
 cases hf : l.find? (Ax8 a) with
 | none => exact ⟨h, Nat.le_refl _⟩
 | some x =>
   have hx := h x (List.mem_of_find?_eq_some hf)
   refine ⟨fun y hy => ?_, ?_⟩
   · rcases Bzq hy with rfl | hy
     · exact hx
     · exact h y (List.mem_filter.1 hy).1
   · have h1 := Bqm (l.filter fun y => !Ax8 a y) b x.f1
     have h2 : (l.filter fun y => !Ax8 a y).length < l.length := by
      have hm := List.mem_of_find?_eq_some hf
      have hp := List.find?_some hf
      have h3 := List.length_filter_le (fun y => !Ax8 a y) l
      rcases Nat.lt_or_ge (l.filter fun y => !Ax8 a y).length l.length with h4 | h4
      · exact h4
      · have h5 := List.length_filter_eq_length_iff.1 (Nat.le_antisymm h3 h4) x hm
        simp [hp] at h5
     show (putL _ b x.f1).length ≤ l.length
     omega
theorem Inv.ofR {n : Nat} {s : SSt} (h : Inv n s) (name : ByteArray) (k : SSt → SSt × Int) (hk : ∀ s1 : SSt, Inv (n + 1) s1 → s1.safe.length + s1.pend.length ≤ n → Inv (n + 1) (k s1).1) : Inv (n + 1) (P.ofR s name k).1 := by
 obtain ⟨ha, hl⟩ := h.asked
 unfold P.ofR
 split
 · exact ha
 · split
   · exact hk _ ha hl
   · exact ha
theorem Inv.sync {n : Nat} {s : SSt} (h : Inv n s) (name : ByteArray) : Inv n (Bxr s name) := by
 obtain ⟨h1, h2⟩ := Akt (fun _ => -1) (s.pend.filter fun x => !othW name x) 0 s.safe h.safe
 have h3 := Bjn s.pend (fun x => !othW name x) (fun x => !ownW name x) (fun x => by rw [not_oth])
 have := h.len
 exact ⟨by show (Az0 _ _ _ _).length + (s.pend.filter _).length ≤ n; omega, h1, Bqb h.pend _, h.calls0, h.calls1⟩
theorem Inv.drop {n : Nat} {s : SSt} (h : Inv n s) (name : ByteArray) : Inv n (Bjp s name) := by
 have h1 := List.length_filter_le (fun x => !Ax8 name x) s.safe
 have h2 := List.length_filter_le (fun x => !ownW name x) s.pend
 have := h.len
 exact ⟨by show (s.safe.filter _).length + (s.pend.filter _).length ≤ n; omega, Bqc h.safe _, Bqb h.pend _, h.calls0, h.calls1⟩
theorem Inv.move {n : Nat} {s : SSt} (h : Inv n s) (a b : ByteArray) : Inv n (Bz5 s a b) := by
 have h1 := List.length_filter_le (fun x => !Ax8 b x) s.safe
 have h2 := List.length_filter_le (fun x => !ownW b x) s.pend
 obtain ⟨h3, h4⟩ := moveT_ok (Bqc h.safe (fun x => !Ax8 b x)) a b
 have := h.len
 refine ⟨by show (Avx _ _ _).length + (List.map _ _).length ≤ n; rw [List.length_map]; omega, h3, ?_, h.calls0, h.calls1⟩
 intro x hx
 obtain ⟨y, hy, rfl⟩ := List.mem_map.1 hx
 have := h.pend y (List.mem_filter.1 hy).1
 unfold renW
 split <;> exact this
theorem Inv.crash {n : Nat} {s : SSt} (h : Inv n s) (ks : List Int) : Inv n (Aka s ks) := by
 obtain ⟨h1, h2⟩ := Akt (Ajj ks) s.pend 0 s.safe h.safe
 have := h.len
 exact ⟨by show (Az0 _ _ _ _).length + 0 ≤ n; omega, h1, fun x hx => by simp [Aka] at hx, Int.le_refl 0, Int.natCast_nonneg n⟩
theorem Inv.plan {n : Nat} {s : SSt} (h : Inv n s) (ks : List Int) (cr : Int) : Inv n (Bj8 s ks cr) := ⟨h.len, h.safe, h.pend, Int.le_refl 0, Int.natCast_nonneg n⟩
theorem Inv.done {n : Nat} {s : SSt} (h : Inv n s) {d : S76} (hd : okD d) : Inv (n + 1) (doS s d).1 := by
 obtain ⟨ha, hl⟩ := h.asked
 unfold doS
 split
 · show Inv (n + 1) (doR s (wOf d)).1
   unfold doR
   split
   · exact ha
   · unfold doB
     split
     · refine ⟨?_, ha.safe, ?_, ha.calls0, ha.calls1⟩
       · show (P.asked s).1.safe.length + ((P.asked s).1.pend ++ [wOf d]).length ≤ n + 1
         rw [List.length_append]
         simp only [List.length_singleton]
         omega
       · intro x hx
         rcases List.mem_append.1 hx with hx | hx
         · exact ha.pend x hx
         · obtain rfl := List.mem_singleton.1 hx
           have := hd.w
           show d.f1.f3.length ≤ 1000000
           omega
     · exact ha
 split
 · exact h.ofR _ _ fun s1 h1 _ => h1.sync _
 split
 · refine h.ofR _ _ fun s1 h1 _ => ?_
   split
   · exact h1
   · split
     · exact h1
     · exact h1.move _ _
 split
 · exact h.ofR _ _ fun s1 h1 _ => h1.drop _
 split
 · show Inv (n + 1) (Aj8 s d.f2).1
   unfold Aj8
   split
   · exact ha
   · split <;> exact ha
 split
 · show Inv (n + 1) (Ajp s).1
   unfold Ajp
   split <;> exact ha
 split
 · exact (h.crash _).more (by omega)
 · exact (h.plan _ _).more (by omega)
theorem Inv.run {s : SSt} {l : List S76} {n : Nat} (h : Inv n s) (hl : ∀ d ∈ l, okD d) (i : Nat) : Inv (n + i) (runS s (l.take i)) := by
 induction i with
 | zero => exact h
 | succ i ih =>
   by_cases hi : i < l.length
   · rw [Aw7 s l i hi]
     exact ih.done (hl _ (List.getElem_mem hi))
   · rw [List.take_of_length_le (by omega), ← List.take_of_length_le (i := i) (l := l) (by omega)]
     exact ih.more (by omega)
end
section
def Bqx (n : Nat) : Nat → Prop := fun k => n ≤ k
theorem Ako {n m : Nat} (h : n ≤ m) : Up (Bqx n) m := fun _ hk => Nat.le_trans h hk
theorem BelS.below {n : Nat} {w w1 : World} (h : BelS (Bqx n) w w1) (hn : n ≤ w.heap.size) : Below n w w1 := ⟨h.os, h.tape, h.output, h.size, fun k hk => h.block k (Nat.lt_of_lt_of_le hk hn) (fun hb => absurd hk (Nat.not_lt.2 hb))⟩
theorem Aws {n : Nat} {w w1 : World} (hn : n ≤ w.heap.size) (h : Below w.heap.size w w1) : BelS (Bqx n) w w1 := Aqk (Ako hn) h
section
variable {B : Nat → Prop} {g : Nat} {w : World}
def ax : S31 := ⟨⟨#[97]⟩, 1, 0, [120, 121]⟩
def ay : S31 := ⟨⟨#[97]⟩, 2, 0, [122]⟩
def fx : S38 := ⟨⟨#[97]⟩, [120, 121]⟩
def sA : SSt := ⟨[], [], 100, 0, [], 0, false, 0⟩
def sB : SSt := ⟨[], [ax], 100, 1, [], 0, false, 2⟩
def sC : SSt := ⟨[fx], [], 100, 2, [], 0, false, 2⟩
def sD : SSt := ⟨[fx], [ay], 100, 3, [], 0, false, 3⟩
def sE : SSt := ⟨[fx], [], 100, 0, [], 0, false, 3⟩
def sF : SSt := ⟨[fx], [], 100, 1, [], 0, false, 3⟩
theorem newA : newD 100 = sA := rfl
theorem doTA : doT [] ax (-1) = ([fx], 0) := by
 simp [doT, Aze, Axp, Akc, Aj7, putL, Az2, Aj1, ax, fx, Ax8, Lib.toList_data, ByteArray.size]
theorem filesB : Aq8 sB = [fx] := by
 show dn [] ax (-1) = [fx]
 unfold dn; rw [doTA]; rfl
theorem doTC : doT [fx] ay (-1) = ([⟨⟨#[97]⟩, [120, 121, 122]⟩], 0) := by
 simp [doT, Aze, Axp, Akc, Aj7, putL, Az2, Aj1, ay, fx, Ax8, Lib.toList_data, ByteArray.size, Op.bytesLess]
theorem doTE : doT [fx] ay 0 = ([fx], 0) := by
 simp [doT, Aze, Axp, Akc, Aj7, putL, Az2, Aj1, ay, fx, Ax8, Lib.toList_data, ByteArray.size, Op.bytesLess]
theorem askA (s : SSt) (hd : s.down = false) (hf : s.fails = []) (hc : s.crash = 0) (hl : 0 ≤ s.calls) : asked s = ({ s with calls := s.calls + 1 }, 0) := by
 unfold asked
 rw [if_neg (by simp [hd]), if_neg (by omega), if_neg (by simp [hf])]
theorem av1 : doR sA ax = (sB, 0) := by
 have h : asked sA = ({ sA with calls := 1 }, 0) := askA sA rfl rfl rfl (by decide)
 have hfi : Aq8 { sA with calls := 1 } = [] := rfl
 have hE : doE { sA with calls := 1 } ax = 0 := by
  unfold doE
  rw [hfi, doTA]
  simp [ax, fx, sA, Axs, sumW, wrap64]
 unfold doR
 rw [h, if_neg (by simp)]
 unfold doB
 rw [if_pos hE, hfi, doTA]
 simp [sB, sA, mx, Axs, sumW, fx, wrap64]
theorem av2 : Aky sB ⟨#[97]⟩ = (sC, 0) := by
 have h : asked sB = ({ sB with calls := 2 }, 0) := askA sB rfl rfl rfl (by decide)
 have hg : getT (Aq8 sB) ⟨#[97]⟩ = ([120, 121], true) := by rw [filesB]; simp [getT, fx, Ax8, Lib.toList_data]
 unfold Aky ofR
 rw [h, if_neg (by simp), hg, if_pos rfl]
 have hd : dn [] ax (-1) = [fx] := by unfold dn; rw [doTA]; rfl
 simp [Bxr, sB, sC, ax, othW, ownW, Lib.toList_data, Az0]
 exact hd
theorem av3 : doR sC ay = (sD, 0) := by
 have h : asked sC = ({ sC with calls := 3 }, 0) := askA sC rfl rfl rfl (by decide)
 have hfi : Aq8 { sC with calls := 3 } = [fx] := rfl
 have hg : getT [fx] ⟨#[97]⟩ = ([120, 121], true) := by simp [getT, fx, Ax8, Lib.toList_data]
 have hE : doE { sC with calls := 3 } ay = 0 := by
  unfold doE
  rw [hfi, doTC]
  simp [ay, fx, sC, Axs, sumW, wrap64, getT, Ax8, Lib.toList_data]
 unfold doR
 rw [h, if_neg (by simp)]
 unfold doB
 rw [if_pos hE, hfi, doTC]
 simp [sD, sC, mx, Axs, sumW, fx, wrap64]
theorem av4 : Aka sD [] = sE := by
 have hd : dn [fx] ay 0 = [fx] := by unfold dn; rw [doTE]; rfl
 have h2 : Az0 (Ajj []) 0 sD.safe sD.pend = [fx] := hd
 unfold Aka
 rw [h2]
 simp [sD, sE, mx, Axs, sumW, fx, wrap64]
theorem av5 : Aj8 sE ⟨#[97]⟩ = (sF, 0, [120, 121]) := by
 have h : asked sE = (sF, 0) := askA sE rfl rfl rfl (by decide)
 have hg : getT (Aq8 sE) ⟨#[97]⟩ = ([120, 121], true) := by show getT [fx] _ = _; simp [getT, fx, Ax8, Lib.toList_data]
 unfold Aj8
 rw [h, if_neg (by simp), hg, if_pos rfl]
theorem fitS (s : SSt) (h1 : s.safe = [] ∨ s.safe = [fx]) (h2 : s.pend = [] ∨ s.pend = [ax] ∨ s.pend = [ay]) (h3 : 0 ≤ s.calls) (h4 : s.calls ≤ 1000) : Fit s := by
 refine ⟨?_, ?_, ?_, h3, h4⟩
 · rcases h1 with h | h <;> rcases h2 with h' | h' | h' <;> simp [h, h']
 · rcases h1 with h | h <;> rw [h] <;> intro x hx
   · simp at hx
   · obtain rfl := List.mem_singleton.1 hx; decide
 · rcases h2 with h | h | h <;> rw [h] <;> intro x hx
   · simp at hx
   · obtain rfl := List.mem_singleton.1 hx; decide
   · obtain rfl := List.mem_singleton.1 hx; decide
theorem fitK (s : SSt) (h1 : s.safe = [] ∨ s.safe = [fx]) (h2 : s.pend = [] ∨ s.pend = [ax] ∨ s.pend = [ay]) (hd : s.down = false) (hf : s.fails = []) (hc : s.crash = 0) (h3 : 0 ≤ s.calls) (h4 : s.calls ≤ 10) : Fit (asked s).1 := by
 rw [askA s hd hf hc h3]
 exact fitS _ h1 h2 (by show 0 ≤ s.calls + 1; omega) (by show s.calls + 1 ≤ 1000; omega)
theorem Bzy {b : Nat} {xs : List Int} {fr : Nat × Nat} (hb : w.heap[b]? = some (Obj.cells (nums .u8 xs).toArray 5 fr)) (hl : xs.length ≤ 1000) (hne : b ≠ g) : Kd.F (Kd.int .u8) w (fun k => k ≠ g) (some ⟨b, 0, none⟩) xs.length xs :=
 fun W2 hW => C_marked ((hW b hne (Ax7 hb)).trans hb) (by omega)
theorem aw1 (b : Nat) {fr : Nat × Nat} (h : Rep B g sA w) (hBw : Up B w.heap.size) (hb : w.heap[b]? = some (.cells #[.int .u8 120, .int .u8 121] 5 fr)) (hne : b ≠ g) :
 Calls Try.prog 67 #[.pointer (some ⟨g, 0, none⟩), .agg #[.string ⟨#[97]⟩, .int .i64 1, .int .i64 0, .slice (some ⟨b, 0, none⟩) 2 2]] w fun e w' => e = .returned (.int .i64 0) ∧ Rep B g sB w' ∧ BelS B w w' := by
 have := Bqu ax (some ⟨b, 0, none⟩) 2 h (fitS sA (.inl rfl) (.inl rfl) (by decide) (by decide)) (fitK sA (.inl rfl) (.inl rfl) rfl rfl rfl (by decide) (by decide)) hBw (by decide) (Bzy (xs := [120, 121]) hb (by decide) hne) (by decide)
 rw [av1] at this
 exact this
theorem aw2 (h : Rep B g sB w) (hBw : Up B w.heap.size) :
 Calls Try.prog 41 #[.pointer (some ⟨g, 0, none⟩), .string ⟨#[97]⟩] w fun e w' => e = .returned (.int .i64 0) ∧ Rep B g sC w' ∧ BelS B w w' := by
 have := Bq4 ⟨#[97]⟩ h (fitS sB (.inl rfl) (.inr (.inl rfl)) (by decide) (by decide)) (fitK sB (.inl rfl) (.inr (.inl rfl)) rfl rfl rfl (by decide) (by decide)) hBw
 rw [av2] at this
 exact this
theorem aw3 (b : Nat) {fr : Nat × Nat} (h : Rep B g sC w) (hBw : Up B w.heap.size) (hb : w.heap[b]? = some (.cells #[.int .u8 122] 5 fr)) (hne : b ≠ g) :
 Calls Try.prog 67 #[.pointer (some ⟨g, 0, none⟩), .agg #[.string ⟨#[97]⟩, .int .i64 2, .int .i64 0, .slice (some ⟨b, 0, none⟩) 1 1]] w fun e w' => e = .returned (.int .i64 0) ∧ Rep B g sD w' ∧ BelS B w w' := by
 have := Bqu ay (some ⟨b, 0, none⟩) 1 h (fitS sC (.inr rfl) (.inl rfl) (by decide) (by decide)) (fitK sC (.inr rfl) (.inl rfl) rfl rfl rfl (by decide) (by decide)) hBw (by decide) (Bzy (xs := [122]) hb (by decide) hne) (by decide)
 rw [av3] at this
 exact this
theorem aw4 (h : Rep B g sD w) (hBw : Up B w.heap.size) :
 Calls Try.prog 44 #[.pointer (some ⟨g, 0, none⟩), .slice none 0 0] w fun e w' => e = .returned (.tuple #[]) ∧ Rep B g sE w' ∧ BelS B w w' := by
 have := Awp none 0 [] h (fitS sD (.inr rfl) (.inr (.inr rfl)) (by decide) (by decide)) hBw (Kd.C_nil _ _)
 rw [av4] at this
 exact this
theorem aw5 (h : Rep B g sE w) (hBw : Up B w.heap.size) :
 Calls Try.prog 68 #[.pointer (some ⟨g, 0, none⟩), .string ⟨#[97]⟩] w fun e w' => ∃ A c, e = .returned (.tuple #[.slice A 2 c, .int .i64 0]) ∧ Kd.R (Kd.int .u8) 5 w' w.heap.size (fun _ => True) (.slice A 2 c) [120, 121] ∧ Rep B g sF w' ∧ BelS B w w' := by
 have := Bq8 (name := ⟨#[97]⟩) h (fitS sE (.inr rfl) (.inl rfl) (by decide) (by decide)) (fitK sE (.inr rfl) (.inl rfl) rfl rfl rfl (by decide) (by decide)) hBw
 rw [av5] at this
 refine this.mono ?_
 rintro e w1 ⟨v, rfl, hv, hr, hb⟩
 obtain ⟨A, c, rfl⟩ := Kd.R_slice hv
 exact ⟨A, c, rfl, hv, hr, hb⟩
theorem aw6 (h : Rep B g sF w) : Calls Try.prog 54 #[.pointer (some ⟨g, 0, none⟩)] w fun e w' => e = .returned (.int .i64 3) ∧ Below w.heap.size w w' := Bqa h
theorem aw7 (h : Rep B g sF w) : Calls Try.prog 52 #[.pointer (some ⟨g, 0, none⟩)] w fun e w' => e = .returned (.int .i64 1) ∧ Below w.heap.size w w' := Awr h
theorem str2 : (strOfNums [120, 121]).toList = [120, 121] := by simp [strOfNums, Lib.toList_data]
end
theorem Bze (w : World) : Calls Try.prog 37 #[] w fun e w' => e = .returned (.bool true) ∧ Below w.heap.size w w' := by
 have kc := fun (w : World) (C : Array Value) (n c : Nat) => Lib.run_convert_bytes_const (P := Try.prog) w 23 5 C n c Try.underlying23 Try.underlying5
 have hstr := str2
 go_enter Try.func37, Try.ntmps37
 go_wp2_with (first
  | (go_at_call 47; refine (Bx6 100 (by decide)).mono ?_; rintro e w1 ⟨rfl, hr1, hb1⟩; rw [newA] at hr1; have hr1 := hr1 (Bqx w.heap.size) (Nat.le_refl _); have hg1 := (show w.heap.size < w1.heap.size by obtain ⟨_, _, _, h⟩ := hr1; exact Ax7 h.blk); have HR1 := Bvh hr1; have HB1 := Bvh (Aws (Nat.le_refl _) hb1); clear hr1 hb1)
  | (go_at_call 67; (with_reducible refine (aw1 (B := Bqx w.heap.size) w1.heap.size (HR1.out.below (Aq4 (Below.refl _ _) _)) ?hs1 (heap_alloc_new _ _) ?hn1).mono ?_); (case hs1 => exact Ako (by rw [World.size_alloc]; omega)); (case hn1 => omega); rintro e w2 ⟨rfl, hr2, hb2⟩; have HB2 := Bvh (Aqc (Aqc HB1.out (Aws HB1.out.size (Aq4 (Below.refl _ _) _))) hb2); have hsz2 := HB2.out.size; have HR2 := Bvh hr2; clear hr2 hb2)
  | (go_at_call 41; (with_reducible refine (aw2 (B := Bqx w.heap.size) HR2.out (Ako hsz2)).mono ?_); rintro e w3 ⟨rfl, hr3, hb3⟩; have HB3 := Bvh (Aqc HB2.out hb3); have hsz3 := HB3.out.size; have hg3 := (show w.heap.size < w3.heap.size by obtain ⟨_, _, _, h⟩ := hr3; exact Ax7 h.blk); have HR3 := Bvh hr3; clear hr3 hb3)
  | (go_at_call 67; (with_reducible refine (aw3 (B := Bqx w.heap.size) w3.heap.size (HR3.out.below (Aq4 (Below.refl _ _) _)) ?hs1 (heap_alloc_new _ _) ?hn1).mono ?_); (case hs1 => exact Ako (by rw [World.size_alloc]; omega)); (case hn1 => omega); rintro e w4 ⟨rfl, hr4, hb4⟩; have HB4 := Bvh (Aqc (Aqc HB3.out (Aws HB3.out.size (Aq4 (Below.refl _ _) _))) hb4); have hsz4 := HB4.out.size; have HR4 := Bvh hr4; clear hr4 hb4)
  | (go_at_call 44; (with_reducible refine (aw4 (B := Bqx w.heap.size) HR4.out (Ako hsz4)).mono ?_); rintro e w5 ⟨rfl, hr5, hb5⟩; have HB5 := Bvh (Aqc HB4.out hb5); have hsz5 := HB5.out.size; have HR5 := Bvh hr5; clear hr5 hb5)
  | (go_at_call 68; (with_reducible refine (aw5 (B := Bqx w.heap.size) HR5.out (Ako hsz5)).mono ?_); rintro e w6 ⟨A6, c6, rfl, hv6, hr6, hb6⟩; have HB6 := Bvh (Aqc HB5.out hb6); have hcv := Bj9 (P := Try.prog) Try.underlying23 Try.underlying5 Try.underlying9 (Kd.own_of_R hv6); have HR6 := Bvh hr6; clear hr6 hb6 hv6)
  | (go_at_call 54; (with_reducible refine (aw6 HR6.out).mono ?_); rintro e w7 ⟨rfl, hb7⟩; have HB7 := Bvh (Aqc HB6.out (Aws HB6.out.size hb7)); have HR7 := Bvh (HR6.out.below hb7); clear hb7)
  | (go_at_call 52; (with_reducible refine (aw7 HR7.out).mono ?_); rintro e w8 ⟨rfl, hb8⟩; have HB8 := Bvh hb8; clear hb8))
 go_ret
 exact ⟨rfl, (Aqc HB7.out (Aws HB7.out.size HB8.out)).below (Nat.le_refl _)⟩
end
end Go.Proofs.Ytcgeioingikeeaa.P
