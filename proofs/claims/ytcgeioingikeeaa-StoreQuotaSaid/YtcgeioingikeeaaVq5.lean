/- Cut out of this seat's own texts and of the words that the kit's print laid for it, by a program of this seat (wip/tools/shake.py): what the claim needs of them. -/
import Derived.Test.YtcgeioingikeeaaVq4
import Derived.Laws.StructEq
import Derived.Maps.Views
import Derived.Lib.SlBytesConst
import Derived.Lib.Strings
import Derived.Deep.QuietTactic
import Derived.BigQuiet
import Derived.Test.YtcgeioingikeeaaRows
import Derived.Deep.SlicePairs
import Derived.ChangeArms
import Derived.ChangeSlices
import Derived.WalkKit
import Derived.ProofKit
import Derived.OpenShut
import Derived.ShutString
import Derived.ChangeOld
import Derived.Below
import Derived.SizedLaws
import Derived.Lib.SmallJoins
import Derived.Deep.Slices
namespace Go.Proofs.Ytcgeioingikeeaa.P
open Go.RowKit Go.Proofs.YtcgeioingikeeaaW.PrintWords Go.Proofs.YtcgeioingikeeaaW.PrintLast Go.Proofs.YtcgeioingikeeaaW.PrintMore
set_option linter.unusedVariables false
set_option linter.unusedSimpArgs false
section
variable {B : Nat → Prop} {g : Nat} {s : SSt} {w : World} {mv sv pv : Value}
def doR (s : SSt) (x : S31) : SSt × Int := if (asked s).2 ≠ 0 then asked s else doB (asked s).1 x
set_option maxHeartbeats 8000000 in
set_option maxRecDepth 100000 in
theorem do_calls (x : S31) (A3 : Option Addr) (c3 : Nat) (h : Rep B g s w) (hf : Fit s) (hf1 : Fit (asked s).1) (hBw : Up B w.heap.size) (hx : x.f3.length ≤ 1000) (hF : Kd.F (Kd.int .u8) w (fun k => k ≠ g) A3 x.f3.length x.f3) (hc3 : x.f3.length ≤ c3) :
    Calls Try.prog 67 #[.pointer (some ⟨g, 0, none⟩), .agg #[.string x.f0, .int .i64 x.f1, .int .i64 x.f2, .slice A3 x.f3.length c3]] w fun e w' => e = .returned (.int .i64 (doR s x).2) ∧ Rep B g (doR s x).1 w' ∧ BelS B w w' := by
  obtain ⟨mv, sv, pv, h⟩ := h
  have hw1 : Below w.heap.size w (w.alloc (Obj.cells #[.pointer (some ⟨g, 0, none⟩)] 58)) := below_alloc (Below.refl _ _) _
  have hp1 : VarP (w.alloc (Obj.cells #[.pointer (some ⟨g, 0, none⟩)] 58)) w.heap.size g := heap_alloc_new _ _
  generalize hW1 : w.alloc (Obj.cells #[.pointer (some ⟨g, 0, none⟩)] 58) = w1 at hw1 hp1
  have hsz : w1.heap.size = w.heap.size + 1 := by rw [← hW1, World.size_alloc]
  have hw2 : Below w1.heap.size w1 (w1.alloc (Obj.cells #[.string x.f0, .int .i64 x.f1, .int .i64 x.f2, .slice A3 x.f3.length c3] 31)) := below_alloc (Below.refl _ _) _
  have hn2 : VarW (w1.alloc (Obj.cells #[.string x.f0, .int .i64 x.f1, .int .i64 x.f2, .slice A3 x.f3.length c3] 31)) w1.heap.size x A3 c3 := heap_alloc_new _ _
  have hp2 := hp1.below hw2
  have hw02 := below_step hw1 hw2
  have H := Aside0.mk h
  have HF := Aside0.mk hf
  have HF1 := Aside0.mk hf1
  have HP := Aside0.mk hp2
  have HN := Aside0.mk hn2
  have HW := Aside0.mk hw02
  have HW1 := Aside0.mk hw1
  have HW2 := Aside0.mk hw2
  have HFx := Aside0.mk hF
  have hg0 : g < w.heap.size := blk_lt h.blk
  have hcell : (w1.alloc (Obj.cells #[.string x.f0, .int .i64 x.f1, .int .i64 x.f2, .slice A3 x.f3.length c3] 31)).cell? ⟨w.heap.size, 0, none⟩ = some (.pointer (some ⟨g, 0, none⟩)) := hp2.cell
  clear h hf hf1 hw1 hp1 hw2 hn2 hp2 hw02 hF
  by_cases ha : (asked s).2 = 0
  · have hR : doR s x = doB (asked s).1 x := by unfold doR; rw [if_neg (by simp [ha])]
    rw [hR]
    have hcall : Calls Try.prog 90 #[.pointer (some ⟨g, 0, none⟩), .func (.func 91) #[] #[.pointer (some ⟨w.heap.size, 0, none⟩), .pointer (some ⟨w1.heap.size, 0, none⟩)]] (w1.alloc (Obj.cells #[.string x.f0, .int .i64 x.f1, .int .i64 x.f2, .slice A3 x.f3.length c3] 31)) fun e w' => ∃ r, e = .returned (.int .i64 r) ∧ (r = (doB (asked s).1 x).2 ∧ Rep B g (doB (asked s).1 x).1 w' ∧ BelS B w w') := by
      refine call_ok91 _ _ (fun r w' => r = (doB (asked s).1 x).2 ∧ Rep B g (doB (asked s).1 x).1 w' ∧ BelS B w w') (H.out.below HW.out) HF.out ha ?_
      intro w3 hr3 hb3 hk3
      have hk03 := (KeptG.of_below HW.out (g := g)).trans hk3
      have hp3 : VarP w3 w.heap.size g := blk_keptG HP.out hk3 (by omega)
      have hn3 : VarW w3 w1.heap.size x A3 c3 := blk_keptG HN.out hk3 (by have := HW1.out.size; omega)
      have hF3 : Kd.F (Kd.int .u8) w3 (fun k => k ≠ g) A3 x.f3.length x.f3 := Kd.F_step HFx.out fun k hk hlt => hk03.2 k hlt hk
      have hao := asked_ok ha
      refine (do1_calls x A3 c3 _ _ H.out hk03 HW1.out.size hBw (by rw [hao]) (by rw [hao]) (by rw [hao]) hr3 HF1.out hx hp3 hn3 hF3 hc3).mono ?_
      rintro e w4 ⟨r, rfl, rfl, hr4, hb4⟩
      exact ⟨_, rfl, rfl, hr4, belowB_trans (belowB_trans (belowB_of hBw HW.out) hb3) hb4⟩
    rw [hsz] at hcall
    have HC := Aside0.mk hcall
    clear hcall hR ha
    subst hW1
    go_enter Try.func67, Try.ntmps67
    go_wp2_with (go_at_call 90; refine (Aside0.out HC).mono ?_; rintro e w7 ⟨r, rfl, rfl, hr7, hb7⟩; have HR7 := Aside0.mk hr7; have HB7 := Aside0.mk hb7; clear hr7 hb7)
    go_ret
    exact ⟨rfl, HR7.out, HB7.out⟩
  · have hR : doR s x = asked s := by unfold doR; rw [if_pos ha]
    rw [hR]
    have hce := (call_err (.func (.func 91) #[] #[.pointer (some ⟨w.heap.size, 0, none⟩), .pointer (some ⟨w1.heap.size, 0, none⟩)]) ⟨mv, sv, pv, H.out.below HW.out⟩ HF.out ha)
    rw [hsz] at hce
    have HC := Aside0.mk hce
    clear hR ha hce
    subst hW1
    go_enter Try.func67, Try.ntmps67
    go_wp2_with (go_at_call 90; refine (Aside0.out HC).mono ?_; rintro e w7 ⟨rfl, hr7, hb7, hk7⟩; have HR7 := Aside0.mk hr7; have HB7 := Aside0.mk (belowB_trans (belowB_of hBw HW.out) hb7); clear hr7 hb7 hk7)
    go_ret
    exact ⟨rfl, HR7.out, HB7.out⟩
end
end Go.Proofs.Ytcgeioingikeeaa.P
namespace Go.Proofs.Ytcgeioingikeeaa.P
open Go.RowKit Go.Proofs.YtcgeioingikeeaaW.PrintWords Go.Proofs.YtcgeioingikeeaaW.PrintLast Go.Proofs.YtcgeioingikeeaaW.PrintMore
set_option linter.unusedVariables false
set_option linter.unusedSimpArgs false
section
variable {B : Nat → Prop} {g : Nat} {s : SSt} {w : World} {mv sv pv : Value}
theorem names_f (l : List S38) (hl : l.length ≤ 1000000) : ∃ k, files_Names.f k l = some (l.map (·.f0)) := by
  obtain ⟨k, hk⟩ := namesA l hl l.length 0 [] (by omega) (by simp)
  rw [List.drop_zero, List.nil_append] at hk
  exact ⟨k, hk⟩
def listR (s : SSt) : SSt × Int × List ByteArray := if (asked s).2 ≠ 0 then ((asked s).1, (asked s).2, []) else ((asked s).1, 0, (filesOf s).map (·.f0))
set_option maxHeartbeats 4000000 in
theorem list1_calls (b0 b1 : Nat) (c : Value) (h : RepAt B g s w mv sv pv) (hf : Fit s) (hp : VarP w b0 g) (hb : w.heap[b1]? = some (.cells #[c] 48 (0, 0))) :
    Calls Try.prog 97 #[.pointer (some ⟨b0, 0, none⟩), .pointer (some ⟨b1, 0, none⟩)] w fun e w' => e = .returned (.int .i64 0) ∧ ∃ v w2, w' = w2.setCell ⟨b1, 0, none⟩ v ∧ Kd.R Kd.string 9 w2 w.heap.size (fun _ => True) v ((filesOf s).map (·.f0)) ∧ Below w.heap.size w w2 := by
  have hfl : okL (filesOf s) ∧ (filesOf s).length ≤ 1000 := files_ok hf
  obtain ⟨kn, hkn⟩ := names_f (filesOf s) (by omega)
  generalize (filesOf s).map (·.f0) = ns at hkn ⊢
  have hp0 := hp.cell
  have H := Aside0.mk h
  have HF := Aside0.mk hf
  have HB := Aside0.mk hb
  have HKN := Aside0.mk hkn
  clear h hf hp hb hkn hfl
  go_enter Try.func97, Try.ntmps97
  go_wp2_with (first
    | (go_at_call 42; refine (files_calls ⟨mv, sv, _, H.out⟩ HF.out).mono ?_; rintro e w1 ⟨v1, rfl, hV1, hb1w⟩; obtain ⟨A1, c1, rfl⟩ := Kd.V_slice hV1; have HV1 := Aside0.mk hV1; have HB1 := Aside0.mk hb1w; clear hV1 hb1w)
    | (go_at_call 33; refine (files_Names.calls kn A1 c1 (filesOf s) _ _ (Kd.V_reads' HV1.out).2.2 (Kd.V_reads' HV1.out).2.1 HKN.out).mono ?_; rintro e w2 ⟨v2, rfl, hR2, hb2⟩; obtain ⟨A2, c2, rfl⟩ := Kd.R_slice hR2; have hcb : w2.cell? ⟨b1, 0, none⟩ = some c := (by rw [cell_of_row w2 _ _ _ 48 (0, 0) (blk_stays (below_step HB1.out hb2) HB.out)]; rfl); have hfz := blk_frozen (blk_stays (below_step HB1.out hb2) HB.out) 0; have HR2 := Aside0.mk hR2; have HB2 := Aside0.mk (below_step HB1.out hb2); clear hR2 hb2))
  go_ret
  exact ⟨rfl, _, w2, rfl, Kd.R_lower HR2.out HB1.out.size, HB2.out⟩
end
end Go.Proofs.Ytcgeioingikeeaa.P
namespace Go.Proofs.Ytcgeioingikeeaa.P
open Go.RowKit Go.Proofs.YtcgeioingikeeaaW.PrintWords Go.Proofs.YtcgeioingikeeaaW.PrintLast Go.Proofs.YtcgeioingikeeaaW.PrintMore
set_option linter.unusedVariables false
set_option linter.unusedSimpArgs false
section
variable {B : Nat → Prop} {g : Nat} {s : SSt} {w : World} {mv sv pv : Value}
set_option maxHeartbeats 8000000 in
set_option maxRecDepth 100000 in
theorem list_calls (h : Rep B g s w) (hf : Fit s) (hf1 : Fit (asked s).1) (hBw : Up B w.heap.size) :
    Calls Try.prog 81 #[.pointer (some ⟨g, 0, none⟩)] w fun e w' => ∃ v, e = .returned (.tuple #[v, .int .i64 (listR s).2.1]) ∧ Kd.R Kd.string 9 w' w.heap.size (fun _ => True) v (listR s).2.2 ∧ Rep B g (listR s).1 w' ∧ BelS B w w' := by
  obtain ⟨mv, sv, pv, h⟩ := h
  have hw1 : Below w.heap.size w (w.alloc (Obj.cells #[.pointer (some ⟨g, 0, none⟩)] 58)) := below_alloc (Below.refl _ _) _
  have hp1 : VarP (w.alloc (Obj.cells #[.pointer (some ⟨g, 0, none⟩)] 58)) w.heap.size g := heap_alloc_new _ _
  generalize hW1 : w.alloc (Obj.cells #[.pointer (some ⟨g, 0, none⟩)] 58) = w1 at hw1 hp1
  have hsz : w1.heap.size = w.heap.size + 1 := by rw [← hW1, World.size_alloc]
  have hw2 : Below w1.heap.size w1 (w1.alloc (Obj.cells #[.slice none 0 0] 48)) := below_alloc (Below.refl _ _) _
  have hn2 : (w1.alloc (Obj.cells #[.slice none 0 0] 48)).heap[w1.heap.size]? = some (.cells #[.slice none 0 0] 48 (0, 0)) := heap_alloc_new _ _
  have hp2 := hp1.below hw2
  have hw02 := below_step hw1 hw2
  have H := Aside0.mk h
  have HF := Aside0.mk hf
  have HF1 := Aside0.mk hf1
  have HP := Aside0.mk hp2
  have HN := Aside0.mk hn2
  have HW := Aside0.mk hw02
  have HW1 := Aside0.mk hw1
  have hg0 : g < w.heap.size := blk_lt h.blk
  have hcell : (w1.alloc (Obj.cells #[.slice none 0 0] 48)).cell? ⟨w.heap.size, 0, none⟩ = some (.pointer (some ⟨g, 0, none⟩)) := hp2.cell
  clear h hf hf1 hw1 hp1 hw2 hn2 hp2 hw02
  by_cases ha : (asked s).2 = 0
  · have hR : listR s = ((asked s).1, 0, (filesOf s).map (·.f0)) := by unfold listR; rw [if_neg (by simp [ha])]
    rw [hR]
    have hcall : Calls Try.prog 90 #[.pointer (some ⟨g, 0, none⟩), .func (.func 97) #[] #[.pointer (some ⟨w.heap.size, 0, none⟩), .pointer (some ⟨w1.heap.size, 0, none⟩)]] (w1.alloc (Obj.cells #[.slice none 0 0] 48)) fun e w' => ∃ r, e = .returned (.int .i64 r) ∧ (r = 0 ∧ Rep B g (asked s).1 w' ∧ BelS B w w' ∧ ∃ A n c, w'.cell? ⟨w1.heap.size, 0, none⟩ = some (.slice A n c) ∧ Kd.R Kd.string 9 w' w.heap.size (fun _ => True) (.slice A n c) ((filesOf s).map (·.f0))) := by
      refine call_ok97 _ _ (fun r w' => r = 0 ∧ Rep B g (asked s).1 w' ∧ BelS B w w' ∧ ∃ A n c, w'.cell? ⟨w1.heap.size, 0, none⟩ = some (.slice A n c) ∧ Kd.R Kd.string 9 w' w.heap.size (fun _ => True) (.slice A n c) ((filesOf s).map (·.f0))) (H.out.below HW.out) HF.out ha ?_
      intro w3 hr3 hb3 hk3
      have hk03 := (KeptG.of_below HW.out (g := g)).trans hk3
      have hp3 : VarP w3 w.heap.size g := blk_keptG HP.out hk3 (by omega)
      have hn3 := blk_keptG HN.out hk3 (show w1.heap.size ≠ g by have := HW1.out.size; omega)
      have hao := asked_ok ha
      refine (list1_calls _ _ _ hr3 HF1.out hp3 hn3).mono ?_
      rw [asked_files]
      rintro e w4 ⟨rfl, v, w5, rfl, hR5, hb5⟩
      obtain ⟨A5, c5, rfl⟩ := Kd.R_slice hR5
      have hn5 := blk_stays hb5 hn3
      have hset := blk_set hn5 0 (.slice A5 ((filesOf s).map (·.f0)).length c5)
      have hB5 : BelS B w w5 := belowB_trans (belowB_trans (belowB_of hBw HW.out) hb3) (belowB_of (Up.le hBw hk03.1) hb5)
      refine ⟨0, rfl, rfl, ⟨mv, sv, pv, ?_⟩, belowB_set hB5 (hBw _ HW1.out.size) 0 _, A5, ((filesOf s).map (·.f0)).length, c5, ?_, ?_⟩
      · exact H.out.beside (hr3.below hb5) (hk03.trans (KeptG.of_below hb5)) HW1.out.size (fun k hk => Below.heap_setCell _ _ _ _ hk) (by rw [hao]) (by rw [hao]) (by rw [hao])
      · rw [cell_of_row _ _ _ _ 48 (0, 0) hset]; rfl
      · exact Kd.R_set (Kd.R_lower hR5 hk03.1) hn5 (by decide) 0 _
    generalize (filesOf s).map (·.f0) = ns at hcall ⊢
    rw [hsz] at hcall
    have HC := Aside0.mk hcall
    clear hcall hR ha
    subst hW1
    go_enter Try.func81, Try.ntmps81
    go_wp2_with (go_at_call 90; refine (Aside0.out HC).mono ?_; rintro e w7 ⟨r, rfl, rfl, hr7, hb7, A7, n7, c7, hc7, hv7⟩; have HR7 := Aside0.mk hr7; have HB7 := Aside0.mk hb7; have HV7 := Aside0.mk hv7; clear hr7 hb7 hv7)
    go_ret2
    exact ⟨_, rfl, HV7.out, HR7.out, HB7.out⟩
  · have hR : listR s = ((asked s).1, (asked s).2, []) := by unfold listR; rw [if_pos ha]
    rw [hR]
    have hce := (call_err (.func (.func 97) #[] #[.pointer (some ⟨w.heap.size, 0, none⟩), .pointer (some ⟨w1.heap.size, 0, none⟩)]) ⟨mv, sv, pv, H.out.below HW.out⟩ HF.out ha)
    have hz1 : g < w.heap.size + 1 := by omega
    have HN' := HN.out
    rw [hsz] at hce HN'
    have HN2 := Aside0.mk HN'
    have HC := Aside0.mk hce
    clear hR ha hce HN'
    subst hW1
    go_enter Try.func81, Try.ntmps81
    go_wp2_with (go_at_call 90; refine (Aside0.out HC).mono ?_; rintro e w7 ⟨rfl, hr7, hb7, hk7⟩; have hcb := (cell_of_row w7 _ 0 _ 48 (0, 0) (blk_keptG HN2.out hk7 (Nat.ne_of_gt hz1))); simp only [List.getElem?_toArray, List.getElem?_cons_zero] at hcb; have HR7 := Aside0.mk hr7; have HB7 := Aside0.mk (belowB_trans (belowB_of hBw HW.out) hb7); clear hr7 hb7 hk7)
    go_ret2
    exact ⟨_, rfl, Kd.R_nil _ _ _ _ _, HR7.out, HB7.out⟩
end
end Go.Proofs.Ytcgeioingikeeaa.P
namespace Go.Proofs.Ytcgeioingikeeaa.P
open Go.RowKit Go.Proofs.YtcgeioingikeeaaW.PrintWords Go.Proofs.YtcgeioingikeeaaW.PrintLast Go.Proofs.YtcgeioingikeeaaW.PrintMore
set_option linter.unusedVariables false
set_option linter.unusedSimpArgs false
section
variable {B : Nat → Prop} {g : Nat} {s : SSt} {w : World} {mv sv pv : Value}
def planD (s : SSt) (ks : List Int) (cr : Int) : SSt := { s with fails := ks, crash := cr, calls := 0 }
/-- While Plan runs. -/
structure PlS (B : Nat → Prop) (g : Nat) (s : SSt) (sv pv : Value) (ks : List Int) (cr : Int) (b i : Nat) (w w' : World) : Prop where
  blk : w'.heap[g]? = some (.cells #[.map (some b), .int .i64 cr, .int .i64 0, sv, pv, .int .i64 s.quota, .int .i64 s.peak, .bool s.down] 106 (0, 0))
  keep : KeptG g w w'
  below : BelS B w w'
  map : ∃ n D, n ≤ i ∧ w'.ownsMap (H := Unit) Try.prog 3 (plainElem Try.prog 4) b n D ∧ ∀ j : Int, (Lit.int .i64 j).wf = true → D.atKey (.int .i64 j) (.lit (.bool false)) = .lit (.bool (decide (j ∈ ks.take i)))
theorem PlS.rep {ks : List Int} {cr : Int} {b : Nat} {w' : World} (h : RepAt B g s w mv sv pv) (hBw : Up B w.heap.size) (hb : w.heap.size ≤ b) (hl : ks.length ≤ 1000) (p : PlS B g s sv pv ks cr b ks.length w w') : Rep B g (planD s ks cr) w' := by
  obtain ⟨n, D, hn, hown, hat⟩ := p.map
  rw [List.take_length] at hat
  have hpg := h.pend_ne
  refine ⟨.map (some b), sv, pv, h.hg, p.blk, .inr ⟨b, n, D, rfl, trivial, by omega, hown, hat⟩, ?_, ?_, h.own⟩
  · exact Kd.V_step h.safe (fun k h1 hlt => p.keep.2 k hlt h1.1)
  · exact O_step h.pend (fun k hlt h1 => p.keep.2 k hlt (h1.elim id (fun he hg => hpg (by rw [he, hg]))))
theorem PlS.put {ks : List Int} {cr : Int} {b i : Nat} {w' w2 : World} {n : Nat} {D : DataW Unit} (hb : w.heap.size ≤ b) (hBw : Up B w.heap.size) (p : PlS B g s sv pv ks cr b i w w') (hi : i < ks.length) (hn : n ≤ i) (hmap : w'.ownsMap (H := Unit) Try.prog 3 (plainElem Try.prog 4) b n D)
    (hat : ∀ j : Int, (Lit.int .i64 j).wf = true → D.atKey (.int .i64 j) (.lit (.bool false)) = .lit (.bool (decide (j ∈ ks.take i))))
    (hown : w2.ownsMap (H := Unit) Try.prog 3 (plainElem Try.prog 4) b (n + 1) (D.put (.int .i64 (rd ks (i : Int))) (.lit (.bool true)))) (hg : w'.grownBy w2 (some b)) : PlS B g s sv pv ks cr b (i + 1) w w2 := by
  have hgb : g ≠ b := fun he => by
    obtain ⟨es, clock, hb', _⟩ := hmap
    rw [← he, p.blk] at hb'
    cases hb'
  refine ⟨(hg.block g (blk_lt p.blk) (by simpa using hgb)).trans p.blk, ⟨Nat.le_trans p.keep.1 hg.size, fun k hlt hkg => (hg.block k (Nat.lt_of_lt_of_le hlt p.keep.1) (by simp; omega)).trans (p.keep.2 k hlt hkg)⟩, ?_, n + 1, _, by omega, hown, ?_⟩
  · exact belowB_trans p.below ⟨hg.os, hg.tape, hg.output, hg.size, fun k hk hn => hg.block k hk (fun he => hn (by injection he with he; exact he ▸ hBw _ hb))⟩
  · intro j hj
    have hr : rd ks (i : Int) = ks[i] := by simp [rd, hi, List.getD]
    rw [List.take_succ_eq_append_getElem hi]
    by_cases he : j = rd ks (i : Int)
    · subst he
      obtain ⟨es, clock, _, _, _, rfl⟩ := hmap
      rw [Go.Maps.atKey_put_same (k := .int .i64 (rd ks (i : Int))) ⟨_, rfl⟩ (by exact True.intro)]
      have hm : rd ks (i : Int) ∈ ks.take i ++ [ks[i]] := by rw [hr, List.mem_append]; exact .inr (List.mem_singleton.2 rfl)
      rw [decide_eq_true hm]
    · rw [Go.Maps.atKey_put_other (by intro h; injection h with _ h; exact he h), hat j hj]
      rw [hr] at he
      have hm : (j ∈ ks.take i ++ [ks[i]]) ↔ j ∈ ks.take i := by
        rw [List.mem_append, List.mem_singleton]
        exact ⟨fun h => h.elim id (fun h => absurd h he), .inl⟩
      rw [decide_eq_decide.2 hm]
set_option maxHeartbeats 8000000 in
set_option maxRecDepth 100000 in
theorem plan_calls (A : Option Addr) (c : Nat) (ks : List Int) (cr : Int) (h : Rep B g s w) (hBw : Up B w.heap.size) (hk : Kd.F (Kd.int .i64) w (fun k => k ≠ g) A ks.length ks) (hl : ks.length ≤ 1000) (hw : ∀ n ∈ ks, (Lit.int .i64 n).wf = true) :
    Calls Try.prog 40 #[.pointer (some ⟨g, 0, none⟩), .slice A ks.length c, .int .i64 cr] w fun e w' => e = .returned (.tuple #[]) ∧ Rep B g (planD s ks cr) w' ∧ BelS B w w' := by
  obtain ⟨mv, sv, pv, h⟩ := h
  have hg0 : g < w.heap.size := blk_lt h.blk
  have hb6 : (w.alloc (Obj.map #[] 0)).heap[g]? = some (.cells #[mv, .int .i64 s.crash, .int .i64 s.calls, sv, pv, .int .i64 s.quota, .int .i64 s.peak, .bool s.down] 106 (0, 0)) := blk_alloc h.blk _
  have hb7 := blk_set hb6 0 (.map (some w.heap.size))
  have hb8 := blk_set hb7 1 (.int .i64 cr)
  have hb9 := blk_set hb8 2 (.int .i64 0)
  have hal : Below w.heap.size w (w.alloc (Obj.map #[] 0)) := below_alloc (Below.refl _ _) _
  have hp : PlS B g s sv pv ks cr w.heap.size 0 w ((((w.alloc (Obj.map #[] 0)).setCell ⟨g, 0, none⟩ (.map (some w.heap.size))).setCell ⟨g, 1, none⟩ (.int .i64 cr)).setCell ⟨g, 2, none⟩ (.int .i64 0)) := by
    refine ⟨hb9, (((KeptG.of_below hal).setCell 0 _).setCell 1 _).setCell 2 _, belowB_set (belowB_set (belowB_set (belowB_of hBw hal) h.hg 0 _) h.hg 1 _) h.hg 2 _, 0, .map [], Nat.le_refl _, ?_, ?_⟩
    · have h0 := World.ownsMap_made (H := Unit) w Try.prog 3 (plainElem Try.prog 4)
      obtain ⟨es, clock, hb, hrest⟩ := h0
      refine ⟨es, clock, ?_, hrest⟩
      rw [Below.heap_setCell _ _ _ _ (show w.heap.size ≠ g by omega), Below.heap_setCell _ _ _ _ (show w.heap.size ≠ g by omega), Below.heap_setCell _ _ _ _ (show w.heap.size ≠ g by omega)]
      exact hb
    · intro j hj
      simp [DataW.atKey]
  have hf0 := blk_frozen hb6 0
  have hf1 := blk_frozen hb7 1
  have hf2 := blk_frozen hb8 2
  have hc0 : (w.alloc (Obj.map #[] 0)).cell? ⟨g, 0, none⟩ = some mv := by rw [cell_of_row _ g _ _ 106 (0, 0) hb6]; rfl
  have hc1 : ((w.alloc (Obj.map #[] 0)).setCell ⟨g, 0, none⟩ (.map (some w.heap.size))).cell? ⟨g, 1, none⟩ = some (.int .i64 s.crash) := by rw [cell_of_row _ g _ _ 106 (0, 0) hb7]; rfl
  have hc2 : (((w.alloc (Obj.map #[] 0)).setCell ⟨g, 0, none⟩ (.map (some w.heap.size))).setCell ⟨g, 1, none⟩ (.int .i64 cr)).cell? ⟨g, 2, none⟩ = some (.int .i64 s.calls) := by rw [cell_of_row _ g _ _ 106 (0, 0) hb8]; rfl
  have HP := Aside0.mk hp
  have H := Aside0.mk h
  have HK := Aside0.mk hk
  have HW := Aside0.mk hw
  clear hp h hk hw hb6 hb7 hb8 hb9 hal
  have hmk : (Instr.makeMap 101 none).run Try.prog w = .ok (.map (some w.heap.size)) (w.alloc (.map #[] 0)) := rfl
  obtain ⟨bm, hbm⟩ : ∃ b, w.heap.size = b := ⟨_, rfl⟩
  have HBM := Aside0.mk hbm
  rw [hbm] at hmk HP hc1 hc2 hf1 hf2
  generalize w.alloc (Obj.map #[] 0) = w1 at hmk HP hf0 hf1 hf2 hc0 hc1 hc2
  rw [hbm] at hg0
  clear hbm
  go_enter Try.func40, Try.ntmps40
  go_wp2
  clear hmk hf0 hf1 hf2 hc0 hc1 hc2
  generalize ((w1.setCell ⟨g, 0, none⟩ (.map (some bm))).setCell ⟨g, 1, none⟩ (.int .i64 cr)).setCell ⟨g, 2, none⟩ (.int .i64 0) = wS at HP ⊢
  rw [← HBM.out] at hg0
  go_loopg [18] ks.length (fun kq v18 w' => ∃ i : Nat, v18 = .int .i64 i ∧ i + kq = ks.length ∧ Aside0 (PlS B g s sv pv ks cr bm i w w'))
  case atStart => exact ⟨0, rfl, by omega, HP⟩
  case round =>
    obtain ⟨i, rfl, hi, HI⟩ := hrel
    by_cases hlt : i < ks.length
    · obtain ⟨k1, rfl⟩ : ∃ k1, gk = k1 + 1 := ⟨gk - 1, by omega⟩
      obtain ⟨ad, e1, hk⟩ := Kd.at_int (Kd.F_now (Kd.F_step HK.out fun k hk hlt => HI.out.keep.2 k hlt hk)) (i : Int) (by omega) (by omega)
      subst e1
      rw [Int.toNat_natCast] at hk
      obtain ⟨n, D, hn, hown, hat⟩ := HI.out.map
      obtain ⟨x, hx⟩ : ∃ x, rd ks (i : Int) = x := ⟨_, rfl⟩
      have hxm : x ∈ ks := by
        have hr : rd ks (i : Int) = ks[i] := by simp [rd, hlt, List.getD]
        rw [← hx, hr]
        exact List.getElem_mem hlt
      have HX := Aside0.mk hx
      have HXW := Aside0.mk (HW.out x hxm)
      rw [hx] at hk
      have hc0 : wr.cell? ⟨g, 0, none⟩ = some (.map (some bm)) := by rw [cell_of_row _ g _ _ 106 (0, 0) HI.out.blk]; rfl
      have HOWN := Aside0.mk hown
      have HAT := Aside0.mk hat
      have hnm : n < maxLen := by unfold maxLen; omega
      clear hown hat hx hxm
      go_wp2_with (at_mapUpdate; (refine wpList_mapUpdate_own (H := Unit) _ rfl _ _ _ 101 rfl 3 4 key3 Try.underlying101 (plainElem Try.prog 4) bm n D rfl HOWN.out hnm _ _ (.int .i64 x) rfl rfl (Go.Maps.keyOf_int_mk Try.underlying3 HXW.out) (.lit (.bool true)) [] (plainElem_bool Try.underlying4 true) ?_); intro w2 hown2 hgrow2; have HO2 := Aside0.mk hown2; have HG2 := Aside0.mk hgrow2; clear hown2 hgrow2)
      go_roundg k1
      case measure => omega
      case rel => exact ⟨i + 1, by go_num, by omega, ⟨HI.out.put (Nat.le_of_eq HBM.out) hBw hlt hn HOWN.out HAT.out (by rw [HX.out]; exact HO2.out) HG2.out⟩⟩
    · have hge : i = ks.length := by omega
      have HGE := Aside0.mk hge
      clear hge
      go_wp2
      go_end0
      have hp := HI.out
      rw [HGE.out] at hp
      exact ⟨rfl, hp.rep H.out hBw (Nat.le_of_eq HBM.out) hl, hp.below⟩
end
end Go.Proofs.Ytcgeioingikeeaa.P
namespace Go.Proofs.Ytcgeioingikeeaa.P
open Go.RowKit Go.Proofs.YtcgeioingikeeaaW.PrintWords Go.Proofs.YtcgeioingikeeaaW.PrintLast Go.Proofs.YtcgeioingikeeaaW.PrintMore
attribute [local go_sem] max2_int min2_int max_two min_two max_three min_three max_four min_four   -- for this text's walks alone
set_option linter.unusedVariables false
set_option linter.unusedSimpArgs false
def gambrellaw18_made.f (a0_0 : ByteArray) (a0_1 : Int) (a0_2 : Int) (l0_3 : List Int) : Option (ByteArray × Int × Int × List Int) := some (a0_0, a0_1, a0_2, l0_3)
set_option maxHeartbeats 8000000 in
set_option maxRecDepth 100000 in
theorem gambrellaw18_made.calls (a0_0 : ByteArray) (a0_1 : Int) (a0_2 : Int) (P0_3_ : Nat → Prop) (A0_3 : Option Addr) (c0_3 : Nat) (l0_3 : List Int) (r1 : ByteArray) (r2 : Int) (r3 : Int) (r4 : List Int) (w : World) (hs0_3 : Kd.V (Kd.int .u8) 5 w w.heap.size (fun k_ => P0_3_ k_) (.slice A0_3 l0_3.length c0_3) l0_3) (h : gambrellaw18_made.f a0_0 a0_1 a0_2 l0_3 = some (r1, r2, r3, r4)) :
    Calls Try.prog 79 #[.agg #[.string a0_0, .int .i64 a0_1, .int .i64 a0_2, .slice A0_3 l0_3.length c0_3]] w fun e w' => ∃ v3_ : Value, e = .returned (.agg #[.string r1, .int .i64 r2, .int .i64 r3, v3_]) ∧ Kd.V (Kd.int .u8) 5 w' w.heap.size (fun k_ => (P0_3_ k_ ∨ w.heap.size ≤ k_)) v3_ r4 ∧ Below w.heap.size w w' := by
  have hu25 := Try.underlying25
  have hu31 := Try.underlying31
  have HO0_3 := Aside0.mk (show Kd.V (Kd.int .u8) 5 w w.heap.size (fun k_ => (P0_3_ k_ ∨ w.heap.size ≤ k_)) (.slice A0_3 l0_3.length c0_3) l0_3 from Kd.V_mono hs0_3 (fun k_ hk => .inl hk))
  have HB := Aside0.mk (Below.refl w.heap.size w)
  have H : (some (a0_0, a0_1, a0_2, l0_3)) = some (r1, r2, r3, r4) := h
  clear h
  simp only [Option.some.injEq, Prod.mk.injEq] at H
  obtain ⟨rfl, rfl, rfl, rfl⟩ := H
  go_enter Try.func79, Try.ntmps79
  go_wp2_with (first | ((with_reducible refine gate_dst (N := 1) rfl ?_); refine box_event ?hg (N := 1) ?hd (cs := #[.string a0_0, .int .i64 a0_1, .int .i64 a0_2, .slice A0_3 l0_3.length c0_3]) (t := 25) ?hr ?_; (case hd => rfl); (case hg => rfl); (case hr => first | (go_simp; done) | (go_simp; rfl)); intro gb592 hg w2 hbox hb; have n0_ := Aside0.mk (Kd.V_below (Kd.V_elderB (by (with_reducible repeat (first | apply Kd.V_alloc | apply Kd.V_drewN | apply Kd.V_drew)); exact HO0_3.out) gb592 (Nat.le_of_eq hg.symm)) hb); have n1_ := Aside0.mk (below_step (by repeat (first | (with_reducible first | exact HB.out | apply below_alloc | apply pw_below_drewN | apply below_drew1) | exact HB.out)) hb); have n2_ := Aside0.mk (hbox); have n3_ := Aside0.mk ((by rw [hg]; exact (below_size (by repeat (first | (with_reducible first | exact HB.out | apply below_alloc | apply pw_below_drewN | apply below_drew1) | exact HB.out))) : w.heap.size ≤ gb592)); have n4_ := Aside0.mk ((by rw [hg]; exact (below_size (by repeat (first | (with_reducible first | exact HB.out | apply below_alloc | apply pw_below_drewN | apply below_drew1) | exact HB.out))) : w.heap.size ≤ gb592)); clear HO0_3; clear HB; have HO0_3 := n0_; have HB := n1_; have BK592 := n2_; have GW592 := n3_; have GE592 := n4_; clear n0_ n1_ n2_ n3_ n4_; clear hb hbox hg) | ((with_reducible refine gate_dst (N := 2) rfl ?_); refine box_event ?hg (N := 2) ?hd (cs := #[.string (⟨#[]⟩ : ByteArray), .int .i64 0, .int .i64 0, .slice none 0 0]) (t := 31) ?hr ?_; (case hd => rfl); (case hg => rfl); (case hr => first | (go_simp; done) | (go_simp; rfl)); intro gb593 hg w3 hbox hb; have n0_ := Aside0.mk (Kd.V_below (Kd.V_elderB (by (with_reducible repeat (first | apply Kd.V_alloc | apply Kd.V_drewN | apply Kd.V_drew)); exact HO0_3.out) gb593 (Nat.le_of_eq hg.symm)) hb); have n1_ := Aside0.mk (blk_below (g := gb592) (o := .cells #[.string a0_0, .int .i64 a0_1, .int .i64 a0_2, .slice A0_3 l0_3.length c0_3] 25 (0, 0)) (by (with_reducible repeat (first | refine blk_drewN ?_ _ | refine blk_drew ?_ | refine blk_alloc ?_ _)); exact BK592.out) hb); have n2_ := Aside0.mk (below_step (by repeat (first | (with_reducible first | exact HB.out | apply below_alloc | apply pw_below_drewN | apply below_drew1 | refine below_set ?_ GE592.out) | exact HB.out)) hb); have n3_ := Aside0.mk (hbox); have n4_ := Aside0.mk ((by rw [hg]; exact (below_size (by repeat (first | (with_reducible first | exact HB.out | apply below_alloc | apply pw_below_drewN | apply below_drew1 | refine below_set ?_ GE592.out) | exact HB.out))) : w.heap.size ≤ gb593)); have n5_ := Aside0.mk ((by rw [hg]; exact (below_size (by repeat (first | (with_reducible first | exact HB.out | apply below_alloc | apply pw_below_drewN | apply below_drew1 | refine below_set ?_ GE592.out) | exact HB.out))) : w.heap.size ≤ gb593)); have n6_ := Aside0.mk ((by rw [hg]; exact Nat.ne_of_lt (blk_lt (g := gb592) (o := .cells #[.string a0_0, .int .i64 a0_1, .int .i64 a0_2, .slice A0_3 l0_3.length c0_3] 25 (0, 0)) (by (with_reducible repeat (first | refine blk_drewN ?_ _ | refine blk_drew ?_ | refine blk_alloc ?_ _)); exact BK592.out)) : gb592 ≠ gb593)); have n7_ := Aside0.mk ((by rw [hg]; exact Nat.ne_of_gt (blk_lt (g := gb592) (o := .cells #[.string a0_0, .int .i64 a0_1, .int .i64 a0_2, .slice A0_3 l0_3.length c0_3] 25 (0, 0)) (by (with_reducible repeat (first | refine blk_drewN ?_ _ | refine blk_drew ?_ | refine blk_alloc ?_ _)); exact BK592.out)) : gb593 ≠ gb592)); clear HO0_3; clear BK592; clear HB; have HO0_3 := n0_; have BK592 := n1_; have HB := n2_; have BK593 := n3_; have GW593 := n4_; have GE593 := n5_; have NB592_593 := n6_; have NB593_592 := n7_; clear n0_ n1_ n2_ n3_ n4_ n5_ n6_ n7_; clear hb hbox hg; have hnb4 := NB592_593.out; have hnc4 := NB593_592.out; have hcz5_0 : w3.cell? ⟨gb592, 0, none⟩ = some (.string a0_0) := (blk_cell BK592.out 0).trans rfl; have hcz5_1 : w3.cell? ⟨gb592, 1, none⟩ = some (.int .i64 a0_1) := (blk_cell BK592.out 1).trans rfl; have hcz5_2 : w3.cell? ⟨gb592, 2, none⟩ = some (.int .i64 a0_2) := (blk_cell BK592.out 2).trans rfl; have hcz5_3 : w3.cell? ⟨gb592, 3, none⟩ = some (.slice A0_3 l0_3.length c0_3) := (blk_cell BK592.out 3).trans rfl; have hfz5_0 := blk_frozen BK592.out 0; have hfz5_1 := blk_frozen BK592.out 1; have hfz5_2 := blk_frozen BK592.out 2; have hfz5_3 := blk_frozen BK592.out 3; have hcz6_0 : w3.cell? ⟨gb593, 0, none⟩ = some (.string (⟨#[]⟩ : ByteArray)) := (blk_cell BK593.out 0).trans rfl; have hcz6_1 : w3.cell? ⟨gb593, 1, none⟩ = some (.int .i64 0) := (blk_cell BK593.out 1).trans rfl; have hcz6_2 : w3.cell? ⟨gb593, 2, none⟩ = some (.int .i64 0) := (blk_cell BK593.out 2).trans rfl; have hcz6_3 : w3.cell? ⟨gb593, 3, none⟩ = some (.slice none 0 0) := (blk_cell BK593.out 3).trans rfl; have hfz6_0 := blk_frozen BK593.out 0; have hfz6_1 := blk_frozen BK593.out 1; have hfz6_2 := blk_frozen BK593.out 2; have hfz6_3 := blk_frozen BK593.out 3))
  refine bodyPost_ret (results_cell_row rfl _ _ gb593 31 #[.string a0_0, .int .i64 a0_1, .int .i64 a0_2, .slice A0_3 l0_3.length c0_3] (0, 0) _ rfl (by (with_reducible repeat (first | refine blk_drewN ?_ _ | refine blk_drew ?_ | refine blk_alloc ?_ _)); refine blk_put (cs := #[.string a0_0, .int .i64 a0_1, .int .i64 a0_2, .slice none 0 0]) ?_ 3 _ rfl; (with_reducible repeat (first | refine blk_drewN ?_ _ | refine blk_drew ?_ | refine blk_alloc ?_ _)); refine blk_put (cs := #[.string a0_0, .int .i64 a0_1, .int .i64 0, .slice none 0 0]) ?_ 2 _ rfl; (with_reducible repeat (first | refine blk_drewN ?_ _ | refine blk_drew ?_ | refine blk_alloc ?_ _)); refine blk_put (cs := #[.string a0_0, .int .i64 0, .int .i64 0, .slice none 0 0]) ?_ 1 _ rfl; (with_reducible repeat (first | refine blk_drewN ?_ _ | refine blk_drew ?_ | refine blk_alloc ?_ _)); refine blk_put (cs := #[.string (⟨#[]⟩ : ByteArray), .int .i64 0, .int .i64 0, .slice none 0 0]) ?_ 0 _ rfl; (with_reducible repeat (first | refine blk_drewN ?_ _ | refine blk_drew ?_ | refine blk_alloc ?_ _)); exact BK593.out) Try.underlying31 rfl (by kernel_rfl)) rfl ?_
  exact ⟨_, by first | rfl | (simp [errW_none, errW_some] <;> rfl) | (simp [*, errW_none, errW_some] <;> rfl), by (with_reducible repeat (first | apply Kd.V_alloc | apply Kd.V_drewN | apply Kd.V_drew)); exact Kd.V_mono (Kd.V_far (p := ⟨gb593, 3, none⟩) (Kd.V_far (p := ⟨gb593, 2, none⟩) (Kd.V_far (p := ⟨gb593, 1, none⟩) (Kd.V_far (p := ⟨gb593, 0, none⟩) (Kd.V_mono HO0_3.out (fun k_ hk => (⟨hk, hk.2⟩ : _ ∧ k_ ≠ gb593))) (fun _ hk => hk.2) (.string a0_0)) (fun _ hk => hk.2) (.int .i64 a0_1)) (fun _ hk => hk.2) (.int .i64 a0_2)) (fun _ hk => hk.2) (.slice A0_3 l0_3.length c0_3)) (fun _ hk => hk.1.1.1), by repeat (first | (with_reducible first | exact HB.out | apply below_alloc | apply pw_below_drewN | apply below_drew1 | refine below_set ?_ GE592.out | refine below_set ?_ GE593.out) | exact HB.out)⟩
end Go.Proofs.Ytcgeioingikeeaa.P
namespace Go.Proofs.Ytcgeioingikeeaa.P
open Go.RowKit Go.Proofs.YtcgeioingikeeaaW.PrintWords Go.Proofs.YtcgeioingikeeaaW.PrintLast Go.Proofs.YtcgeioingikeeaaW.PrintMore
set_option linter.unusedVariables false
set_option linter.unusedSimpArgs false
/-- A deed's write, as the program has it. -/
def wOf (d : S76) : S31 := ⟨d.f1.f0, d.f1.f1, d.f1.f2, d.f1.f3⟩
/-- A deed, done to a store: the store behind it; the error, the bytes and the names that are told. -/
def doS (s : SSt) (d : S76) : SSt × Int × List Int × List ByteArray :=
  if d.f0 = 1 then ((doR s (wOf d)).1, (doR s (wOf d)).2, [], []) else
  if d.f0 = 2 then ((syncR s d.f2).1, (syncR s d.f2).2, [], []) else
  if d.f0 = 3 then ((moveR s d.f2 d.f3).1, (moveR s d.f2 d.f3).2, [], []) else
  if d.f0 = 4 then ((dropR s d.f2).1, (dropR s d.f2).2, [], []) else
  if d.f0 = 5 then ((readR s d.f2).1, (readR s d.f2).2.1, (readR s d.f2).2.2, []) else
  if d.f0 = 6 then ((listR s).1, (listR s).2.1, [], (listR s).2.2) else
  if d.f0 = 7 then (crashD s d.f4, 0, [], []) else (planD s d.f4 d.f5, 0, [], [])
section
variable {B : Nat → Prop} {g : Nat} {s : SSt} {w : World} {mv sv pv : Value}
theorem results_told {fn : Func} (h : fn.results = #[.cell 4 73]) {tmps : Array Value} {b : Nat} {x y z : Value} (ht : tmps.getD 4 undef = .pointer (some ⟨b, 0, none⟩)) (hb : w.heap[b]? = some (.cells #[x, y, z] 73 (0, 0))) :
    (results fn tmps).run Try.prog w = .ok (.agg #[x, y, z]) w := by
  have hc0 : w.cell? ⟨b, 0, none⟩ = some x := by rw [cell_of_row w b _ _ 73 (0, 0) hb]; rfl
  have hc1 : w.cell? ⟨b, 1, none⟩ = some y := by rw [cell_of_row w b _ _ 73 (0, 0) hb]; rfl
  have hc2 : w.cell? ⟨b, 2, none⟩ = some z := by rw [cell_of_row w b _ _ 73 (0, 0) hb]; rfl
  rw [Array.getD_eq_getD_getElem?] at ht
  simp only [results, h]
  simp [asAddr]
  rw [ht]
  go_simp
/-- A variable that holds what is told. -/
def VarT (w : World) (b : Nat) (x y z : Value) : Prop := w.heap[b]? = some (.cells #[x, y, z] 73 (0, 0))
theorem VarT.facts {b : Nat} {x y z : Value} (h : VarT w b x y z) (x1 y1 z1 : Value) : w.frozen? ⟨b, 0, none⟩ = false ∧ w.cell? ⟨b, 0, none⟩ = some x ∧ (w.setCell ⟨b, 0, none⟩ x1).frozen? ⟨b, 1, none⟩ = false ∧ (w.setCell ⟨b, 0, none⟩ x1).cell? ⟨b, 1, none⟩ = some y ∧
    ((w.setCell ⟨b, 0, none⟩ x1).setCell ⟨b, 1, none⟩ y1).frozen? ⟨b, 2, none⟩ = false ∧ ((w.setCell ⟨b, 0, none⟩ x1).setCell ⟨b, 1, none⟩ y1).cell? ⟨b, 2, none⟩ = some z ∧ VarT (((w.setCell ⟨b, 0, none⟩ x1).setCell ⟨b, 1, none⟩ y1).setCell ⟨b, 2, none⟩ z1) b x1 y1 z1 := by
  have h1 := blk_set h 0 x1
  have h2 := blk_set h1 1 y1
  have h3 := blk_set h2 2 z1
  exact ⟨blk_frozen h 0, by rw [cell_of_row _ b _ _ 73 (0, 0) h]; rfl, blk_frozen h1 1, by rw [cell_of_row _ b _ _ 73 (0, 0) h1]; rfl, blk_frozen h2 2, by rw [cell_of_row _ b _ _ 73 (0, 0) h2]; rfl, h3⟩
theorem set_size (w : World) (a : Addr) (u : Value) : (w.setCell a u).heap.size = w.heap.size := by simp [World.setCell]
theorem odd_told : Odd #[.int .i64 0, .slice none 0 0, .slice none 0 0] := by
  intro j u hu
  match j, hu with
  | 0, hu => obtain rfl := Option.some.inj hu; exact ⟨by simp, by simp⟩
  | 1, hu => obtain rfl := Option.some.inj hu; exact ⟨by simp, by simp⟩
  | 2, hu => obtain rfl := Option.some.inj hu; exact ⟨by simp, by simp⟩
  | n + 3, hu => cases hu
theorem VarT.but {b : Nat} (h : VarT w b (.int .i64 0) (.slice none 0 0) (.slice none 0 0)) (x1 y1 z1 : Value) : But b w (((w.setCell ⟨b, 0, none⟩ x1).setCell ⟨b, 1, none⟩ y1).setCell ⟨b, 2, none⟩ z1) :=
  ⟨⟨_, _, _, h, odd_told⟩, fun k hk => by rw [Below.heap_setCell _ ⟨b, 2, none⟩ _ k hk, Below.heap_setCell _ ⟨b, 1, none⟩ _ k hk, Below.heap_setCell _ ⟨b, 0, none⟩ _ k hk]⟩
/-- The set of the store's blocks may be another one. -/
theorem RepAt.less {B' : Nat → Prop} (h : RepAt B g s w mv sv pv) (hB : ∀ k, B k → k < w.heap.size → B' k) : RepAt B' g s w mv sv pv := by
  refine ⟨hB g h.hg (blk_lt h.blk), h.blk, ?_, h.safe, h.pend, fun k hk => hB k (h.own k hk) ?_⟩
  · rcases h.map with h1 | h1
    · exact .inl h1
    · exact .inr h1
  · obtain ⟨inner, ho, _⟩ := h.pend
    exact own_lt ho k hk
theorem Rep.less {B' : Nat → Prop} (h : Rep B g s w) (hB : ∀ k, B k → k < w.heap.size → B' k) : Rep B' g s w := by
  obtain ⟨mv, sv, pv, h⟩ := h
  exact ⟨mv, sv, pv, h.less hB⟩
theorem Rep.lt (h : Rep B g s w) : g < w.heap.size := by
  obtain ⟨_, _, _, h⟩ := h
  exact blk_lt h.blk
theorem BelS.more {B' : Nat → Prop} {w1 : World} (h : BelS B w w1) (hB : ∀ k, k < w.heap.size → B k → B' k) : BelS B' w w1 := ⟨h.os, h.tape, h.output, h.size, fun k hk hn => h.block k hk (fun hb => hn (hB k hk hb))⟩
theorem do_callsW (d : S76) (A3 : Option Addr) (c3 : Nat) (h : Rep B g s w) (hf : Fit s) (hf1 : Fit (asked s).1) (hBw : Up B w.heap.size) (hx : d.f1.f3.length ≤ 1000) (hF : Kd.F (Kd.int .u8) w (fun k => k ≠ g) A3 d.f1.f3.length d.f1.f3) (hc3 : d.f1.f3.length ≤ c3) :
    Calls Try.prog 67 #[.pointer (some ⟨g, 0, none⟩), .agg #[.string d.f1.f0, .int .i64 d.f1.f1, .int .i64 d.f1.f2, .slice A3 d.f1.f3.length c3]] w fun e w' => e = .returned (.int .i64 (doR s (wOf d)).2) ∧ Rep B g (doR s (wOf d)).1 w' ∧ BelS B w w' :=
  do_calls (wOf d) A3 c3 h hf hf1 hBw hx hF hc3
/-- All blocks of B, but this one. -/
def NotB (B : Nat → Prop) (b : Nat) : Nat → Prop := fun k => B k ∧ k ≠ b
theorem rep_told {w1 w2 : World} {s1 : SSt} {b : Nat} (hw : Below w.heap.size w w1) (hBw : Up B w.heap.size) (hb : w.heap.size ≤ b) (hv : VarT w1 b (.int .i64 0) (.slice none 0 0) (.slice none 0 0)) (hr : Rep (NotB B b) g s1 w2) (hl : BelS (NotB B b) w1 w2) :
    VarT w2 b (.int .i64 0) (.slice none 0 0) (.slice none 0 0) ∧ ∀ x y z, Rep B g s1 (((w2.setCell ⟨b, 0, none⟩ x).setCell ⟨b, 1, none⟩ y).setCell ⟨b, 2, none⟩ z) ∧ BelS B w (((w2.setCell ⟨b, 0, none⟩ x).setCell ⟨b, 1, none⟩ y).setCell ⟨b, 2, none⟩ z) := by
  have hv2 : VarT w2 b (.int .i64 0) (.slice none 0 0) (.slice none 0 0) := (hl.block b (blk_lt hv) (fun h => h.2 rfl)).trans hv
  refine ⟨hv2, fun x y z => ⟨?_, ?_⟩⟩
  · obtain ⟨mv, sv, pv, hr⟩ := hr
    exact ⟨mv, sv, pv, (hr.pokeB (hv2.but x y z) (by rw [set_size, set_size, set_size]) hv2 (by decide) (by decide)).less fun k hk _ => hk.1⟩
  · exact belowB_set (belowB_set (belowB_set (belowB_trans (belowB_of hBw hw) (hl.more fun k _ hk => hk.1)) (hBw b hb) 0 _) (hBw b hb) 1 _) (hBw b hb) 2 _
set_option maxHeartbeats 4000000 in
theorem do_real1 (d : S76) (A4 : Option Addr) (c4 : Nat) (A7 : Option Addr) (c7 : Nat) (h : Rep B g s w) (hf : Fit s) (hf1 : Fit (asked s).1) (hBw : Up B w.heap.size) (hF4 : Kd.F (Kd.int .u8) w (fun k => k ≠ g) A4 d.f1.f3.length d.f1.f3) (hc4 : d.f1.f3.length ≤ c4) (hF7 : Kd.F (Kd.int .i64) w (fun k => k ≠ g) A7 d.f4.length d.f4) (hl4 : d.f1.f3.length ≤ 1000) (hl7 : d.f4.length ≤ 1000) (hw7 : ∀ n ∈ d.f4, (Lit.int .i64 n).wf = true) :
    Calls Try.prog 48 #[.pointer (some ⟨g, 0, none⟩), .agg #[.int .i64 1, .string d.f1.f0, .int .i64 d.f1.f1, .int .i64 d.f1.f2, .slice A4 d.f1.f3.length c4, .string d.f2, .string d.f3, .slice A7 d.f4.length c7, .int .i64 d.f5]] w fun e w' => ∃ y z, e = .returned (.agg #[.int .i64 (doR s (wOf d)).2, y, z]) ∧ (Kd.int .u8).R 5 w' w.heap.size (fun _ => True) y [] ∧ Kd.string.R 9 w' w.heap.size (fun _ => True) z [] ∧ Rep B g (doR s (wOf d)).1 w' ∧ BelS B w w' := by
  have hw2 : Below w.heap.size w ((w.alloc (Obj.cells #[.int .i64 1, .string d.f1.f0, .int .i64 d.f1.f1, .int .i64 d.f1.f2, .slice A4 d.f1.f3.length c4, .string d.f2, .string d.f3, .slice A7 d.f4.length c7, .int .i64 d.f5] 76)).alloc (Obj.cells #[.int .i64 0, .slice none 0 0, .slice none 0 0] 73)) := below_alloc (below_alloc (Below.refl _ _) _) _
  have hv2 : VarT ((w.alloc (Obj.cells #[.int .i64 1, .string d.f1.f0, .int .i64 d.f1.f1, .int .i64 d.f1.f2, .slice A4 d.f1.f3.length c4, .string d.f2, .string d.f3, .slice A7 d.f4.length c7, .int .i64 d.f5] 76)).alloc (Obj.cells #[.int .i64 0, .slice none 0 0, .slice none 0 0] 73)) (w.heap.size + 1) (.int .i64 0) (.slice none 0 0) (.slice none 0 0) := by
    have := heap_alloc_new (w.alloc (Obj.cells #[.int .i64 1, .string d.f1.f0, .int .i64 d.f1.f1, .int .i64 d.f1.f2, .slice A4 d.f1.f3.length c4, .string d.f2, .string d.f3, .slice A7 d.f4.length c7, .int .i64 d.f5] 76)) (Obj.cells #[.int .i64 0, .slice none 0 0, .slice none 0 0] 73)
    rw [World.size_alloc] at this
    exact this
  have hsz : ((w.alloc (Obj.cells #[.int .i64 1, .string d.f1.f0, .int .i64 d.f1.f1, .int .i64 d.f1.f2, .slice A4 d.f1.f3.length c4, .string d.f2, .string d.f3, .slice A7 d.f4.length c7, .int .i64 d.f5] 76)).alloc (Obj.cells #[.int .i64 0, .slice none 0 0, .slice none 0 0] 73)).heap.size = w.heap.size + 2 := by rw [World.size_alloc, World.size_alloc]
  have hlt := h.lt
  have hr2 : Rep (NotB B (w.heap.size + 1)) g s ((w.alloc (Obj.cells #[.int .i64 1, .string d.f1.f0, .int .i64 d.f1.f1, .int .i64 d.f1.f2, .slice A4 d.f1.f3.length c4, .string d.f2, .string d.f3, .slice A7 d.f4.length c7, .int .i64 d.f5] 76)).alloc (Obj.cells #[.int .i64 0, .slice none 0 0, .slice none 0 0] 73)) := (h.less (B' := NotB B (w.heap.size + 1)) fun k hk hlt2 => ⟨hk, by omega⟩).below hw2
  have hup : Up (NotB B (w.heap.size + 1)) ((w.alloc (Obj.cells #[.int .i64 1, .string d.f1.f0, .int .i64 d.f1.f1, .int .i64 d.f1.f2, .slice A4 d.f1.f3.length c4, .string d.f2, .string d.f3, .slice A7 d.f4.length c7, .int .i64 d.f5] 76)).alloc (Obj.cells #[.int .i64 0, .slice none 0 0, .slice none 0 0] 73)).heap.size := fun k hk => ⟨hBw k (by omega), by omega⟩
  have HW2 := Aside0.mk hw2
  have HV2 := Aside0.mk hv2
  have HR2 := Aside0.mk hr2
  have HUP := Aside0.mk hup
  have HSZ := Aside0.mk hsz
  have HF := Aside0.mk hf
  have HF1 := Aside0.mk hf1
  have H4 := Aside0.mk hF4
  have H7 := Aside0.mk hF7
  have HW7 := Aside0.mk hw7
  clear hw2 hv2 hr2 hup hsz hf hf1 hF4 hF7 hw7 h
  go_enter Try.func48, Try.ntmps48
  go_wp2_with (first
    | (go_at_call 79; refine (gambrellaw18_made.calls d.f1.f0 d.f1.f1 d.f1.f2 (fun k => k ≠ g) A4 c4 d.f1.f3 _ _ _ _ _ (Kd.V_below (show Kd.V (Kd.int .u8) 5 w 0 (fun k => k ≠ g) (.slice A4 d.f1.f3.length c4) d.f1.f3 from ⟨A4, c4, rfl, hc4, H4.out⟩) HW2.out) rfl).mono ?_; rintro e w0 ⟨v0, rfl, hV0, hb0⟩; obtain ⟨A0, c0, rfl⟩ := Kd.V_slice hV0; have HV0 := Aside0.mk hV0; have HB0 := Aside0.mk hb0; clear hb0 hV0)
    | (go_at_call 67; (with_reducible refine (do_callsW d A0 c0 (HR2.out.below HB0.out) HF.out HF1.out (HUP.out.le HB0.out.size) hl4 ?hF (Kd.V_at HV0.out).2.1).mono ?_); (case hF => refine Kd.F_mono (Kd.V_at HV0.out).2.2 ?_; intro k hk; rcases hk with hk | hk; exact hk; have := HSZ.out; omega); rintro e w1 ⟨rfl, hr1, hb1'⟩; have hb1 := belowB_trans (belowB_of HUP.out HB0.out) hb1'; clear hb1'; obtain ⟨hv3, hrest⟩ := rep_told HW2.out hBw (by omega) HV2.out hr1 hb1; obtain ⟨hf0, hg0, hf1, hg1, hf2, hg2, hT⟩ := VarT.facts hv3 (.int .i64 (doR s (wOf d)).2) (.slice none 0 0) (.slice none 0 0); have HT := Aside0.mk hT; have HV3 := Aside0.mk hv3; have HREST := Aside0.mk hrest; clear hr1 hb1 hT hv3 hrest))
  refine bodyPost_ret (results_told rfl rfl HT.out) rfl ?_
  exact ⟨_, _, rfl, Kd.R_nil _ _ _ _ _, Kd.R_nil _ _ _ _ _, (HREST.out _ _ _).1, (HREST.out _ _ _).2⟩
set_option maxHeartbeats 4000000 in
theorem do_real2 (d : S76) (A4 : Option Addr) (c4 : Nat) (A7 : Option Addr) (c7 : Nat) (h : Rep B g s w) (hf : Fit s) (hf1 : Fit (asked s).1) (hBw : Up B w.heap.size) (hF4 : Kd.F (Kd.int .u8) w (fun k => k ≠ g) A4 d.f1.f3.length d.f1.f3) (hc4 : d.f1.f3.length ≤ c4) (hF7 : Kd.F (Kd.int .i64) w (fun k => k ≠ g) A7 d.f4.length d.f4) (hl4 : d.f1.f3.length ≤ 1000) (hl7 : d.f4.length ≤ 1000) (hw7 : ∀ n ∈ d.f4, (Lit.int .i64 n).wf = true) :
    Calls Try.prog 48 #[.pointer (some ⟨g, 0, none⟩), .agg #[.int .i64 2, .string d.f1.f0, .int .i64 d.f1.f1, .int .i64 d.f1.f2, .slice A4 d.f1.f3.length c4, .string d.f2, .string d.f3, .slice A7 d.f4.length c7, .int .i64 d.f5]] w fun e w' => ∃ y z, e = .returned (.agg #[.int .i64 (syncR s d.f2).2, y, z]) ∧ (Kd.int .u8).R 5 w' w.heap.size (fun _ => True) y [] ∧ Kd.string.R 9 w' w.heap.size (fun _ => True) z [] ∧ Rep B g (syncR s d.f2).1 w' ∧ BelS B w w' := by
  have hw2 : Below w.heap.size w ((w.alloc (Obj.cells #[.int .i64 2, .string d.f1.f0, .int .i64 d.f1.f1, .int .i64 d.f1.f2, .slice A4 d.f1.f3.length c4, .string d.f2, .string d.f3, .slice A7 d.f4.length c7, .int .i64 d.f5] 76)).alloc (Obj.cells #[.int .i64 0, .slice none 0 0, .slice none 0 0] 73)) := below_alloc (below_alloc (Below.refl _ _) _) _
  have hv2 : VarT ((w.alloc (Obj.cells #[.int .i64 2, .string d.f1.f0, .int .i64 d.f1.f1, .int .i64 d.f1.f2, .slice A4 d.f1.f3.length c4, .string d.f2, .string d.f3, .slice A7 d.f4.length c7, .int .i64 d.f5] 76)).alloc (Obj.cells #[.int .i64 0, .slice none 0 0, .slice none 0 0] 73)) (w.heap.size + 1) (.int .i64 0) (.slice none 0 0) (.slice none 0 0) := by
    have := heap_alloc_new (w.alloc (Obj.cells #[.int .i64 2, .string d.f1.f0, .int .i64 d.f1.f1, .int .i64 d.f1.f2, .slice A4 d.f1.f3.length c4, .string d.f2, .string d.f3, .slice A7 d.f4.length c7, .int .i64 d.f5] 76)) (Obj.cells #[.int .i64 0, .slice none 0 0, .slice none 0 0] 73)
    rw [World.size_alloc] at this
    exact this
  have hsz : ((w.alloc (Obj.cells #[.int .i64 2, .string d.f1.f0, .int .i64 d.f1.f1, .int .i64 d.f1.f2, .slice A4 d.f1.f3.length c4, .string d.f2, .string d.f3, .slice A7 d.f4.length c7, .int .i64 d.f5] 76)).alloc (Obj.cells #[.int .i64 0, .slice none 0 0, .slice none 0 0] 73)).heap.size = w.heap.size + 2 := by rw [World.size_alloc, World.size_alloc]
  have hlt := h.lt
  have hr2 : Rep (NotB B (w.heap.size + 1)) g s ((w.alloc (Obj.cells #[.int .i64 2, .string d.f1.f0, .int .i64 d.f1.f1, .int .i64 d.f1.f2, .slice A4 d.f1.f3.length c4, .string d.f2, .string d.f3, .slice A7 d.f4.length c7, .int .i64 d.f5] 76)).alloc (Obj.cells #[.int .i64 0, .slice none 0 0, .slice none 0 0] 73)) := (h.less (B' := NotB B (w.heap.size + 1)) fun k hk hlt2 => ⟨hk, by omega⟩).below hw2
  have hup : Up (NotB B (w.heap.size + 1)) ((w.alloc (Obj.cells #[.int .i64 2, .string d.f1.f0, .int .i64 d.f1.f1, .int .i64 d.f1.f2, .slice A4 d.f1.f3.length c4, .string d.f2, .string d.f3, .slice A7 d.f4.length c7, .int .i64 d.f5] 76)).alloc (Obj.cells #[.int .i64 0, .slice none 0 0, .slice none 0 0] 73)).heap.size := fun k hk => ⟨hBw k (by omega), by omega⟩
  have HW2 := Aside0.mk hw2
  have HV2 := Aside0.mk hv2
  have HR2 := Aside0.mk hr2
  have HUP := Aside0.mk hup
  have HSZ := Aside0.mk hsz
  have HF := Aside0.mk hf
  have HF1 := Aside0.mk hf1
  have H4 := Aside0.mk hF4
  have H7 := Aside0.mk hF7
  have HW7 := Aside0.mk hw7
  clear hw2 hv2 hr2 hup hsz hf hf1 hF4 hF7 hw7 h
  go_enter Try.func48, Try.ntmps48
  go_wp2_with (go_at_call 41; (with_reducible refine (sync_calls d.f2 HR2.out HF.out HF1.out HUP.out).mono ?_); rintro e w1 ⟨rfl, hr1, hb1⟩; obtain ⟨hv3, hrest⟩ := rep_told HW2.out hBw (by omega) HV2.out hr1 hb1; obtain ⟨hf0, hg0, hf1, hg1, hf2, hg2, hT⟩ := VarT.facts hv3 (.int .i64 (syncR s d.f2).2) (.slice none 0 0) (.slice none 0 0); have HT := Aside0.mk hT; have HV3 := Aside0.mk hv3; have HREST := Aside0.mk hrest; clear hr1 hb1 hT hv3 hrest)
  refine bodyPost_ret (results_told rfl rfl HT.out) rfl ?_
  exact ⟨_, _, rfl, Kd.R_nil _ _ _ _ _, Kd.R_nil _ _ _ _ _, (HREST.out _ _ _).1, (HREST.out _ _ _).2⟩
set_option maxHeartbeats 4000000 in
theorem do_real3 (d : S76) (A4 : Option Addr) (c4 : Nat) (A7 : Option Addr) (c7 : Nat) (h : Rep B g s w) (hf : Fit s) (hf1 : Fit (asked s).1) (hBw : Up B w.heap.size) (hF4 : Kd.F (Kd.int .u8) w (fun k => k ≠ g) A4 d.f1.f3.length d.f1.f3) (hc4 : d.f1.f3.length ≤ c4) (hF7 : Kd.F (Kd.int .i64) w (fun k => k ≠ g) A7 d.f4.length d.f4) (hl4 : d.f1.f3.length ≤ 1000) (hl7 : d.f4.length ≤ 1000) (hw7 : ∀ n ∈ d.f4, (Lit.int .i64 n).wf = true) :
    Calls Try.prog 48 #[.pointer (some ⟨g, 0, none⟩), .agg #[.int .i64 3, .string d.f1.f0, .int .i64 d.f1.f1, .int .i64 d.f1.f2, .slice A4 d.f1.f3.length c4, .string d.f2, .string d.f3, .slice A7 d.f4.length c7, .int .i64 d.f5]] w fun e w' => ∃ y z, e = .returned (.agg #[.int .i64 (moveR s d.f2 d.f3).2, y, z]) ∧ (Kd.int .u8).R 5 w' w.heap.size (fun _ => True) y [] ∧ Kd.string.R 9 w' w.heap.size (fun _ => True) z [] ∧ Rep B g (moveR s d.f2 d.f3).1 w' ∧ BelS B w w' := by
  have hw2 : Below w.heap.size w ((w.alloc (Obj.cells #[.int .i64 3, .string d.f1.f0, .int .i64 d.f1.f1, .int .i64 d.f1.f2, .slice A4 d.f1.f3.length c4, .string d.f2, .string d.f3, .slice A7 d.f4.length c7, .int .i64 d.f5] 76)).alloc (Obj.cells #[.int .i64 0, .slice none 0 0, .slice none 0 0] 73)) := below_alloc (below_alloc (Below.refl _ _) _) _
  have hv2 : VarT ((w.alloc (Obj.cells #[.int .i64 3, .string d.f1.f0, .int .i64 d.f1.f1, .int .i64 d.f1.f2, .slice A4 d.f1.f3.length c4, .string d.f2, .string d.f3, .slice A7 d.f4.length c7, .int .i64 d.f5] 76)).alloc (Obj.cells #[.int .i64 0, .slice none 0 0, .slice none 0 0] 73)) (w.heap.size + 1) (.int .i64 0) (.slice none 0 0) (.slice none 0 0) := by
    have := heap_alloc_new (w.alloc (Obj.cells #[.int .i64 3, .string d.f1.f0, .int .i64 d.f1.f1, .int .i64 d.f1.f2, .slice A4 d.f1.f3.length c4, .string d.f2, .string d.f3, .slice A7 d.f4.length c7, .int .i64 d.f5] 76)) (Obj.cells #[.int .i64 0, .slice none 0 0, .slice none 0 0] 73)
    rw [World.size_alloc] at this
    exact this
  have hsz : ((w.alloc (Obj.cells #[.int .i64 3, .string d.f1.f0, .int .i64 d.f1.f1, .int .i64 d.f1.f2, .slice A4 d.f1.f3.length c4, .string d.f2, .string d.f3, .slice A7 d.f4.length c7, .int .i64 d.f5] 76)).alloc (Obj.cells #[.int .i64 0, .slice none 0 0, .slice none 0 0] 73)).heap.size = w.heap.size + 2 := by rw [World.size_alloc, World.size_alloc]
  have hlt := h.lt
  have hr2 : Rep (NotB B (w.heap.size + 1)) g s ((w.alloc (Obj.cells #[.int .i64 3, .string d.f1.f0, .int .i64 d.f1.f1, .int .i64 d.f1.f2, .slice A4 d.f1.f3.length c4, .string d.f2, .string d.f3, .slice A7 d.f4.length c7, .int .i64 d.f5] 76)).alloc (Obj.cells #[.int .i64 0, .slice none 0 0, .slice none 0 0] 73)) := (h.less (B' := NotB B (w.heap.size + 1)) fun k hk hlt2 => ⟨hk, by omega⟩).below hw2
  have hup : Up (NotB B (w.heap.size + 1)) ((w.alloc (Obj.cells #[.int .i64 3, .string d.f1.f0, .int .i64 d.f1.f1, .int .i64 d.f1.f2, .slice A4 d.f1.f3.length c4, .string d.f2, .string d.f3, .slice A7 d.f4.length c7, .int .i64 d.f5] 76)).alloc (Obj.cells #[.int .i64 0, .slice none 0 0, .slice none 0 0] 73)).heap.size := fun k hk => ⟨hBw k (by omega), by omega⟩
  have HW2 := Aside0.mk hw2
  have HV2 := Aside0.mk hv2
  have HR2 := Aside0.mk hr2
  have HUP := Aside0.mk hup
  have HSZ := Aside0.mk hsz
  have HF := Aside0.mk hf
  have HF1 := Aside0.mk hf1
  have H4 := Aside0.mk hF4
  have H7 := Aside0.mk hF7
  have HW7 := Aside0.mk hw7
  clear hw2 hv2 hr2 hup hsz hf hf1 hF4 hF7 hw7 h
  go_enter Try.func48, Try.ntmps48
  go_wp2_with (go_at_call 43; (with_reducible refine (move_calls d.f2 d.f3 HR2.out HF.out HF1.out HUP.out).mono ?_); rintro e w1 ⟨rfl, hr1, hb1⟩; obtain ⟨hv3, hrest⟩ := rep_told HW2.out hBw (by omega) HV2.out hr1 hb1; obtain ⟨hf0, hg0, hf1, hg1, hf2, hg2, hT⟩ := VarT.facts hv3 (.int .i64 (moveR s d.f2 d.f3).2) (.slice none 0 0) (.slice none 0 0); have HT := Aside0.mk hT; have HV3 := Aside0.mk hv3; have HREST := Aside0.mk hrest; clear hr1 hb1 hT hv3 hrest)
  refine bodyPost_ret (results_told rfl rfl HT.out) rfl ?_
  exact ⟨_, _, rfl, Kd.R_nil _ _ _ _ _, Kd.R_nil _ _ _ _ _, (HREST.out _ _ _).1, (HREST.out _ _ _).2⟩
set_option maxHeartbeats 4000000 in
theorem do_real4 (d : S76) (A4 : Option Addr) (c4 : Nat) (A7 : Option Addr) (c7 : Nat) (h : Rep B g s w) (hf : Fit s) (hf1 : Fit (asked s).1) (hBw : Up B w.heap.size) (hF4 : Kd.F (Kd.int .u8) w (fun k => k ≠ g) A4 d.f1.f3.length d.f1.f3) (hc4 : d.f1.f3.length ≤ c4) (hF7 : Kd.F (Kd.int .i64) w (fun k => k ≠ g) A7 d.f4.length d.f4) (hl4 : d.f1.f3.length ≤ 1000) (hl7 : d.f4.length ≤ 1000) (hw7 : ∀ n ∈ d.f4, (Lit.int .i64 n).wf = true) :
    Calls Try.prog 48 #[.pointer (some ⟨g, 0, none⟩), .agg #[.int .i64 4, .string d.f1.f0, .int .i64 d.f1.f1, .int .i64 d.f1.f2, .slice A4 d.f1.f3.length c4, .string d.f2, .string d.f3, .slice A7 d.f4.length c7, .int .i64 d.f5]] w fun e w' => ∃ y z, e = .returned (.agg #[.int .i64 (dropR s d.f2).2, y, z]) ∧ (Kd.int .u8).R 5 w' w.heap.size (fun _ => True) y [] ∧ Kd.string.R 9 w' w.heap.size (fun _ => True) z [] ∧ Rep B g (dropR s d.f2).1 w' ∧ BelS B w w' := by
  have hw2 : Below w.heap.size w ((w.alloc (Obj.cells #[.int .i64 4, .string d.f1.f0, .int .i64 d.f1.f1, .int .i64 d.f1.f2, .slice A4 d.f1.f3.length c4, .string d.f2, .string d.f3, .slice A7 d.f4.length c7, .int .i64 d.f5] 76)).alloc (Obj.cells #[.int .i64 0, .slice none 0 0, .slice none 0 0] 73)) := below_alloc (below_alloc (Below.refl _ _) _) _
  have hv2 : VarT ((w.alloc (Obj.cells #[.int .i64 4, .string d.f1.f0, .int .i64 d.f1.f1, .int .i64 d.f1.f2, .slice A4 d.f1.f3.length c4, .string d.f2, .string d.f3, .slice A7 d.f4.length c7, .int .i64 d.f5] 76)).alloc (Obj.cells #[.int .i64 0, .slice none 0 0, .slice none 0 0] 73)) (w.heap.size + 1) (.int .i64 0) (.slice none 0 0) (.slice none 0 0) := by
    have := heap_alloc_new (w.alloc (Obj.cells #[.int .i64 4, .string d.f1.f0, .int .i64 d.f1.f1, .int .i64 d.f1.f2, .slice A4 d.f1.f3.length c4, .string d.f2, .string d.f3, .slice A7 d.f4.length c7, .int .i64 d.f5] 76)) (Obj.cells #[.int .i64 0, .slice none 0 0, .slice none 0 0] 73)
    rw [World.size_alloc] at this
    exact this
  have hsz : ((w.alloc (Obj.cells #[.int .i64 4, .string d.f1.f0, .int .i64 d.f1.f1, .int .i64 d.f1.f2, .slice A4 d.f1.f3.length c4, .string d.f2, .string d.f3, .slice A7 d.f4.length c7, .int .i64 d.f5] 76)).alloc (Obj.cells #[.int .i64 0, .slice none 0 0, .slice none 0 0] 73)).heap.size = w.heap.size + 2 := by rw [World.size_alloc, World.size_alloc]
  have hlt := h.lt
  have hr2 : Rep (NotB B (w.heap.size + 1)) g s ((w.alloc (Obj.cells #[.int .i64 4, .string d.f1.f0, .int .i64 d.f1.f1, .int .i64 d.f1.f2, .slice A4 d.f1.f3.length c4, .string d.f2, .string d.f3, .slice A7 d.f4.length c7, .int .i64 d.f5] 76)).alloc (Obj.cells #[.int .i64 0, .slice none 0 0, .slice none 0 0] 73)) := (h.less (B' := NotB B (w.heap.size + 1)) fun k hk hlt2 => ⟨hk, by omega⟩).below hw2
  have hup : Up (NotB B (w.heap.size + 1)) ((w.alloc (Obj.cells #[.int .i64 4, .string d.f1.f0, .int .i64 d.f1.f1, .int .i64 d.f1.f2, .slice A4 d.f1.f3.length c4, .string d.f2, .string d.f3, .slice A7 d.f4.length c7, .int .i64 d.f5] 76)).alloc (Obj.cells #[.int .i64 0, .slice none 0 0, .slice none 0 0] 73)).heap.size := fun k hk => ⟨hBw k (by omega), by omega⟩
  have HW2 := Aside0.mk hw2
  have HV2 := Aside0.mk hv2
  have HR2 := Aside0.mk hr2
  have HUP := Aside0.mk hup
  have HSZ := Aside0.mk hsz
  have HF := Aside0.mk hf
  have HF1 := Aside0.mk hf1
  have H4 := Aside0.mk hF4
  have H7 := Aside0.mk hF7
  have HW7 := Aside0.mk hw7
  clear hw2 hv2 hr2 hup hsz hf hf1 hF4 hF7 hw7 h
  go_enter Try.func48, Try.ntmps48
  go_wp2_with (go_at_call 80; (with_reducible refine (drop_calls d.f2 HR2.out HF.out HF1.out HUP.out).mono ?_); rintro e w1 ⟨rfl, hr1, hb1⟩; obtain ⟨hv3, hrest⟩ := rep_told HW2.out hBw (by omega) HV2.out hr1 hb1; obtain ⟨hf0, hg0, hf1, hg1, hf2, hg2, hT⟩ := VarT.facts hv3 (.int .i64 (dropR s d.f2).2) (.slice none 0 0) (.slice none 0 0); have HT := Aside0.mk hT; have HV3 := Aside0.mk hv3; have HREST := Aside0.mk hrest; clear hr1 hb1 hT hv3 hrest)
  refine bodyPost_ret (results_told rfl rfl HT.out) rfl ?_
  exact ⟨_, _, rfl, Kd.R_nil _ _ _ _ _, Kd.R_nil _ _ _ _ _, (HREST.out _ _ _).1, (HREST.out _ _ _).2⟩
set_option maxHeartbeats 4000000 in
theorem do_real5 (d : S76) (A4 : Option Addr) (c4 : Nat) (A7 : Option Addr) (c7 : Nat) (h : Rep B g s w) (hf : Fit s) (hf1 : Fit (asked s).1) (hBw : Up B w.heap.size) (hF4 : Kd.F (Kd.int .u8) w (fun k => k ≠ g) A4 d.f1.f3.length d.f1.f3) (hc4 : d.f1.f3.length ≤ c4) (hF7 : Kd.F (Kd.int .i64) w (fun k => k ≠ g) A7 d.f4.length d.f4) (hl4 : d.f1.f3.length ≤ 1000) (hl7 : d.f4.length ≤ 1000) (hw7 : ∀ n ∈ d.f4, (Lit.int .i64 n).wf = true) :
    Calls Try.prog 48 #[.pointer (some ⟨g, 0, none⟩), .agg #[.int .i64 5, .string d.f1.f0, .int .i64 d.f1.f1, .int .i64 d.f1.f2, .slice A4 d.f1.f3.length c4, .string d.f2, .string d.f3, .slice A7 d.f4.length c7, .int .i64 d.f5]] w fun e w' => ∃ y z, e = .returned (.agg #[.int .i64 (readR s d.f2).2.1, y, z]) ∧ (Kd.int .u8).R 5 w' w.heap.size (fun _ => True) y (readR s d.f2).2.2 ∧ Kd.string.R 9 w' w.heap.size (fun _ => True) z [] ∧ Rep B g (readR s d.f2).1 w' ∧ BelS B w w' := by
  have hw2 : Below w.heap.size w ((w.alloc (Obj.cells #[.int .i64 5, .string d.f1.f0, .int .i64 d.f1.f1, .int .i64 d.f1.f2, .slice A4 d.f1.f3.length c4, .string d.f2, .string d.f3, .slice A7 d.f4.length c7, .int .i64 d.f5] 76)).alloc (Obj.cells #[.int .i64 0, .slice none 0 0, .slice none 0 0] 73)) := below_alloc (below_alloc (Below.refl _ _) _) _
  have hv2 : VarT ((w.alloc (Obj.cells #[.int .i64 5, .string d.f1.f0, .int .i64 d.f1.f1, .int .i64 d.f1.f2, .slice A4 d.f1.f3.length c4, .string d.f2, .string d.f3, .slice A7 d.f4.length c7, .int .i64 d.f5] 76)).alloc (Obj.cells #[.int .i64 0, .slice none 0 0, .slice none 0 0] 73)) (w.heap.size + 1) (.int .i64 0) (.slice none 0 0) (.slice none 0 0) := by
    have := heap_alloc_new (w.alloc (Obj.cells #[.int .i64 5, .string d.f1.f0, .int .i64 d.f1.f1, .int .i64 d.f1.f2, .slice A4 d.f1.f3.length c4, .string d.f2, .string d.f3, .slice A7 d.f4.length c7, .int .i64 d.f5] 76)) (Obj.cells #[.int .i64 0, .slice none 0 0, .slice none 0 0] 73)
    rw [World.size_alloc] at this
    exact this
  have hsz : ((w.alloc (Obj.cells #[.int .i64 5, .string d.f1.f0, .int .i64 d.f1.f1, .int .i64 d.f1.f2, .slice A4 d.f1.f3.length c4, .string d.f2, .string d.f3, .slice A7 d.f4.length c7, .int .i64 d.f5] 76)).alloc (Obj.cells #[.int .i64 0, .slice none 0 0, .slice none 0 0] 73)).heap.size = w.heap.size + 2 := by rw [World.size_alloc, World.size_alloc]
  have hlt := h.lt
  have hr2 : Rep (NotB B (w.heap.size + 1)) g s ((w.alloc (Obj.cells #[.int .i64 5, .string d.f1.f0, .int .i64 d.f1.f1, .int .i64 d.f1.f2, .slice A4 d.f1.f3.length c4, .string d.f2, .string d.f3, .slice A7 d.f4.length c7, .int .i64 d.f5] 76)).alloc (Obj.cells #[.int .i64 0, .slice none 0 0, .slice none 0 0] 73)) := (h.less (B' := NotB B (w.heap.size + 1)) fun k hk hlt2 => ⟨hk, by omega⟩).below hw2
  have hup : Up (NotB B (w.heap.size + 1)) ((w.alloc (Obj.cells #[.int .i64 5, .string d.f1.f0, .int .i64 d.f1.f1, .int .i64 d.f1.f2, .slice A4 d.f1.f3.length c4, .string d.f2, .string d.f3, .slice A7 d.f4.length c7, .int .i64 d.f5] 76)).alloc (Obj.cells #[.int .i64 0, .slice none 0 0, .slice none 0 0] 73)).heap.size := fun k hk => ⟨hBw k (by omega), by omega⟩
  have HW2 := Aside0.mk hw2
  have HV2 := Aside0.mk hv2
  have HR2 := Aside0.mk hr2
  have HUP := Aside0.mk hup
  have HSZ := Aside0.mk hsz
  have HF := Aside0.mk hf
  have HF1 := Aside0.mk hf1
  have H4 := Aside0.mk hF4
  have H7 := Aside0.mk hF7
  have HW7 := Aside0.mk hw7
  clear hw2 hv2 hr2 hup hsz hf hf1 hF4 hF7 hw7 h
  go_enter Try.func48, Try.ntmps48
  go_wp2_with (go_at_call 68; (with_reducible refine (read_calls (name := d.f2) HR2.out HF.out HF1.out HUP.out).mono ?_); rintro e w1 ⟨v, rfl, hv, hr1, hb1⟩; obtain ⟨Ay, cy, rfl⟩ := Kd.R_slice hv; have HVV := Aside0.mk hv; clear hv; obtain ⟨hv3, hrest⟩ := rep_told HW2.out hBw (by omega) HV2.out hr1 hb1; obtain ⟨hf0, hg0, hf1, hg1, hf2, hg2, hT⟩ := VarT.facts hv3 (.int .i64 (readR s d.f2).2.1) (.slice Ay (readR s d.f2).2.2.length cy) (.slice none 0 0); have HT := Aside0.mk hT; have HV3 := Aside0.mk hv3; have HREST := Aside0.mk hrest; clear hr1 hb1 hT hv3 hrest)
  refine bodyPost_ret (results_told rfl rfl HT.out) rfl ?_
  exact ⟨_, _, rfl, ((HV3.out.but _ _ _).R_bytes (Kd.R_lower HVV.out HW2.out.size) HV3.out (by decide)), Kd.R_nil _ _ _ _ _, (HREST.out _ _ _).1, (HREST.out _ _ _).2⟩
set_option maxHeartbeats 4000000 in
theorem do_real6 (d : S76) (A4 : Option Addr) (c4 : Nat) (A7 : Option Addr) (c7 : Nat) (h : Rep B g s w) (hf : Fit s) (hf1 : Fit (asked s).1) (hBw : Up B w.heap.size) (hF4 : Kd.F (Kd.int .u8) w (fun k => k ≠ g) A4 d.f1.f3.length d.f1.f3) (hc4 : d.f1.f3.length ≤ c4) (hF7 : Kd.F (Kd.int .i64) w (fun k => k ≠ g) A7 d.f4.length d.f4) (hl4 : d.f1.f3.length ≤ 1000) (hl7 : d.f4.length ≤ 1000) (hw7 : ∀ n ∈ d.f4, (Lit.int .i64 n).wf = true) :
    Calls Try.prog 48 #[.pointer (some ⟨g, 0, none⟩), .agg #[.int .i64 6, .string d.f1.f0, .int .i64 d.f1.f1, .int .i64 d.f1.f2, .slice A4 d.f1.f3.length c4, .string d.f2, .string d.f3, .slice A7 d.f4.length c7, .int .i64 d.f5]] w fun e w' => ∃ y z, e = .returned (.agg #[.int .i64 (listR s).2.1, y, z]) ∧ (Kd.int .u8).R 5 w' w.heap.size (fun _ => True) y [] ∧ Kd.string.R 9 w' w.heap.size (fun _ => True) z (listR s).2.2 ∧ Rep B g (listR s).1 w' ∧ BelS B w w' := by
  have hw2 : Below w.heap.size w ((w.alloc (Obj.cells #[.int .i64 6, .string d.f1.f0, .int .i64 d.f1.f1, .int .i64 d.f1.f2, .slice A4 d.f1.f3.length c4, .string d.f2, .string d.f3, .slice A7 d.f4.length c7, .int .i64 d.f5] 76)).alloc (Obj.cells #[.int .i64 0, .slice none 0 0, .slice none 0 0] 73)) := below_alloc (below_alloc (Below.refl _ _) _) _
  have hv2 : VarT ((w.alloc (Obj.cells #[.int .i64 6, .string d.f1.f0, .int .i64 d.f1.f1, .int .i64 d.f1.f2, .slice A4 d.f1.f3.length c4, .string d.f2, .string d.f3, .slice A7 d.f4.length c7, .int .i64 d.f5] 76)).alloc (Obj.cells #[.int .i64 0, .slice none 0 0, .slice none 0 0] 73)) (w.heap.size + 1) (.int .i64 0) (.slice none 0 0) (.slice none 0 0) := by
    have := heap_alloc_new (w.alloc (Obj.cells #[.int .i64 6, .string d.f1.f0, .int .i64 d.f1.f1, .int .i64 d.f1.f2, .slice A4 d.f1.f3.length c4, .string d.f2, .string d.f3, .slice A7 d.f4.length c7, .int .i64 d.f5] 76)) (Obj.cells #[.int .i64 0, .slice none 0 0, .slice none 0 0] 73)
    rw [World.size_alloc] at this
    exact this
  have hsz : ((w.alloc (Obj.cells #[.int .i64 6, .string d.f1.f0, .int .i64 d.f1.f1, .int .i64 d.f1.f2, .slice A4 d.f1.f3.length c4, .string d.f2, .string d.f3, .slice A7 d.f4.length c7, .int .i64 d.f5] 76)).alloc (Obj.cells #[.int .i64 0, .slice none 0 0, .slice none 0 0] 73)).heap.size = w.heap.size + 2 := by rw [World.size_alloc, World.size_alloc]
  have hlt := h.lt
  have hr2 : Rep (NotB B (w.heap.size + 1)) g s ((w.alloc (Obj.cells #[.int .i64 6, .string d.f1.f0, .int .i64 d.f1.f1, .int .i64 d.f1.f2, .slice A4 d.f1.f3.length c4, .string d.f2, .string d.f3, .slice A7 d.f4.length c7, .int .i64 d.f5] 76)).alloc (Obj.cells #[.int .i64 0, .slice none 0 0, .slice none 0 0] 73)) := (h.less (B' := NotB B (w.heap.size + 1)) fun k hk hlt2 => ⟨hk, by omega⟩).below hw2
  have hup : Up (NotB B (w.heap.size + 1)) ((w.alloc (Obj.cells #[.int .i64 6, .string d.f1.f0, .int .i64 d.f1.f1, .int .i64 d.f1.f2, .slice A4 d.f1.f3.length c4, .string d.f2, .string d.f3, .slice A7 d.f4.length c7, .int .i64 d.f5] 76)).alloc (Obj.cells #[.int .i64 0, .slice none 0 0, .slice none 0 0] 73)).heap.size := fun k hk => ⟨hBw k (by omega), by omega⟩
  have HW2 := Aside0.mk hw2
  have HV2 := Aside0.mk hv2
  have HR2 := Aside0.mk hr2
  have HUP := Aside0.mk hup
  have HSZ := Aside0.mk hsz
  have HF := Aside0.mk hf
  have HF1 := Aside0.mk hf1
  have H4 := Aside0.mk hF4
  have H7 := Aside0.mk hF7
  have HW7 := Aside0.mk hw7
  clear hw2 hv2 hr2 hup hsz hf hf1 hF4 hF7 hw7 h
  go_enter Try.func48, Try.ntmps48
  go_wp2_with (go_at_call 81; (with_reducible refine (list_calls HR2.out HF.out HF1.out HUP.out).mono ?_); rintro e w1 ⟨v, rfl, hv, hr1, hb1⟩; obtain ⟨Ay, cy, rfl⟩ := Kd.R_slice hv; have HVV := Aside0.mk hv; clear hv; obtain ⟨hv3, hrest⟩ := rep_told HW2.out hBw (by omega) HV2.out hr1 hb1; obtain ⟨hf0, hg0, hf1, hg1, hf2, hg2, hT⟩ := VarT.facts hv3 (.int .i64 (listR s).2.1) (.slice none 0 0) (.slice Ay (listR s).2.2.length cy); have HT := Aside0.mk hT; have HV3 := Aside0.mk hv3; have HREST := Aside0.mk hrest; clear hr1 hb1 hT hv3 hrest)
  refine bodyPost_ret (results_told rfl rfl HT.out) rfl ?_
  exact ⟨_, _, rfl, Kd.R_nil _ _ _ _ _, ((HV3.out.but _ _ _).R_names (Kd.R_lower HVV.out HW2.out.size) HV3.out (by decide)), (HREST.out _ _ _).1, (HREST.out _ _ _).2⟩
set_option maxHeartbeats 4000000 in
theorem do_real7 (d : S76) (A4 : Option Addr) (c4 : Nat) (A7 : Option Addr) (c7 : Nat) (h : Rep B g s w) (hf : Fit s) (hf1 : Fit (asked s).1) (hBw : Up B w.heap.size) (hF4 : Kd.F (Kd.int .u8) w (fun k => k ≠ g) A4 d.f1.f3.length d.f1.f3) (hc4 : d.f1.f3.length ≤ c4) (hF7 : Kd.F (Kd.int .i64) w (fun k => k ≠ g) A7 d.f4.length d.f4) (hl4 : d.f1.f3.length ≤ 1000) (hl7 : d.f4.length ≤ 1000) (hw7 : ∀ n ∈ d.f4, (Lit.int .i64 n).wf = true) :
    Calls Try.prog 48 #[.pointer (some ⟨g, 0, none⟩), .agg #[.int .i64 7, .string d.f1.f0, .int .i64 d.f1.f1, .int .i64 d.f1.f2, .slice A4 d.f1.f3.length c4, .string d.f2, .string d.f3, .slice A7 d.f4.length c7, .int .i64 d.f5]] w fun e w' => ∃ y z, e = .returned (.agg #[.int .i64 0, y, z]) ∧ (Kd.int .u8).R 5 w' w.heap.size (fun _ => True) y [] ∧ Kd.string.R 9 w' w.heap.size (fun _ => True) z [] ∧ Rep B g (crashD s d.f4) w' ∧ BelS B w w' := by
  have hw2 : Below w.heap.size w ((w.alloc (Obj.cells #[.int .i64 7, .string d.f1.f0, .int .i64 d.f1.f1, .int .i64 d.f1.f2, .slice A4 d.f1.f3.length c4, .string d.f2, .string d.f3, .slice A7 d.f4.length c7, .int .i64 d.f5] 76)).alloc (Obj.cells #[.int .i64 0, .slice none 0 0, .slice none 0 0] 73)) := below_alloc (below_alloc (Below.refl _ _) _) _
  have hv2 : VarT ((w.alloc (Obj.cells #[.int .i64 7, .string d.f1.f0, .int .i64 d.f1.f1, .int .i64 d.f1.f2, .slice A4 d.f1.f3.length c4, .string d.f2, .string d.f3, .slice A7 d.f4.length c7, .int .i64 d.f5] 76)).alloc (Obj.cells #[.int .i64 0, .slice none 0 0, .slice none 0 0] 73)) (w.heap.size + 1) (.int .i64 0) (.slice none 0 0) (.slice none 0 0) := by
    have := heap_alloc_new (w.alloc (Obj.cells #[.int .i64 7, .string d.f1.f0, .int .i64 d.f1.f1, .int .i64 d.f1.f2, .slice A4 d.f1.f3.length c4, .string d.f2, .string d.f3, .slice A7 d.f4.length c7, .int .i64 d.f5] 76)) (Obj.cells #[.int .i64 0, .slice none 0 0, .slice none 0 0] 73)
    rw [World.size_alloc] at this
    exact this
  have hsz : ((w.alloc (Obj.cells #[.int .i64 7, .string d.f1.f0, .int .i64 d.f1.f1, .int .i64 d.f1.f2, .slice A4 d.f1.f3.length c4, .string d.f2, .string d.f3, .slice A7 d.f4.length c7, .int .i64 d.f5] 76)).alloc (Obj.cells #[.int .i64 0, .slice none 0 0, .slice none 0 0] 73)).heap.size = w.heap.size + 2 := by rw [World.size_alloc, World.size_alloc]
  have hlt := h.lt
  have hr2 : Rep (NotB B (w.heap.size + 1)) g s ((w.alloc (Obj.cells #[.int .i64 7, .string d.f1.f0, .int .i64 d.f1.f1, .int .i64 d.f1.f2, .slice A4 d.f1.f3.length c4, .string d.f2, .string d.f3, .slice A7 d.f4.length c7, .int .i64 d.f5] 76)).alloc (Obj.cells #[.int .i64 0, .slice none 0 0, .slice none 0 0] 73)) := (h.less (B' := NotB B (w.heap.size + 1)) fun k hk hlt2 => ⟨hk, by omega⟩).below hw2
  have hup : Up (NotB B (w.heap.size + 1)) ((w.alloc (Obj.cells #[.int .i64 7, .string d.f1.f0, .int .i64 d.f1.f1, .int .i64 d.f1.f2, .slice A4 d.f1.f3.length c4, .string d.f2, .string d.f3, .slice A7 d.f4.length c7, .int .i64 d.f5] 76)).alloc (Obj.cells #[.int .i64 0, .slice none 0 0, .slice none 0 0] 73)).heap.size := fun k hk => ⟨hBw k (by omega), by omega⟩
  have HW2 := Aside0.mk hw2
  have HV2 := Aside0.mk hv2
  have HR2 := Aside0.mk hr2
  have HUP := Aside0.mk hup
  have HSZ := Aside0.mk hsz
  have HF := Aside0.mk hf
  have HF1 := Aside0.mk hf1
  have H4 := Aside0.mk hF4
  have H7 := Aside0.mk hF7
  have HW7 := Aside0.mk hw7
  clear hw2 hv2 hr2 hup hsz hf hf1 hF4 hF7 hw7 h
  go_enter Try.func48, Try.ntmps48
  go_wp2_with (go_at_call 44; (with_reducible refine (crash_calls A7 c7 d.f4 HR2.out HF.out HUP.out (Kd.F_now (Kd.F_below H7.out HW2.out))).mono ?_); rintro e w1 ⟨rfl, hr1, hb1⟩; obtain ⟨hv3, hrest⟩ := rep_told HW2.out hBw (by omega) HV2.out hr1 hb1; obtain ⟨hf0, hg0, hf1, hg1, hf2, hg2, hT⟩ := VarT.facts hv3 (.int .i64 0) (.slice none 0 0) (.slice none 0 0); have HT := Aside0.mk hT; have HV3 := Aside0.mk hv3; have HREST := Aside0.mk hrest; clear hr1 hb1 hT hv3 hrest)
  refine bodyPost_ret (results_told rfl rfl HT.out) rfl ?_
  exact ⟨_, _, rfl, Kd.R_nil _ _ _ _ _, Kd.R_nil _ _ _ _ _, (HREST.out _ _ _).1, (HREST.out _ _ _).2⟩
set_option maxHeartbeats 4000000 in
theorem do_real8 (d : S76) (A4 : Option Addr) (c4 : Nat) (A7 : Option Addr) (c7 : Nat) (h : Rep B g s w) (hf : Fit s) (hf1 : Fit (asked s).1) (hBw : Up B w.heap.size) (hF4 : Kd.F (Kd.int .u8) w (fun k => k ≠ g) A4 d.f1.f3.length d.f1.f3) (hc4 : d.f1.f3.length ≤ c4) (hF7 : Kd.F (Kd.int .i64) w (fun k => k ≠ g) A7 d.f4.length d.f4) (hl4 : d.f1.f3.length ≤ 1000) (hl7 : d.f4.length ≤ 1000) (hw7 : ∀ n ∈ d.f4, (Lit.int .i64 n).wf = true) :
    Calls Try.prog 48 #[.pointer (some ⟨g, 0, none⟩), .agg #[.int .i64 8, .string d.f1.f0, .int .i64 d.f1.f1, .int .i64 d.f1.f2, .slice A4 d.f1.f3.length c4, .string d.f2, .string d.f3, .slice A7 d.f4.length c7, .int .i64 d.f5]] w fun e w' => ∃ y z, e = .returned (.agg #[.int .i64 0, y, z]) ∧ (Kd.int .u8).R 5 w' w.heap.size (fun _ => True) y [] ∧ Kd.string.R 9 w' w.heap.size (fun _ => True) z [] ∧ Rep B g (planD s d.f4 d.f5) w' ∧ BelS B w w' := by
  have hw2 : Below w.heap.size w ((w.alloc (Obj.cells #[.int .i64 8, .string d.f1.f0, .int .i64 d.f1.f1, .int .i64 d.f1.f2, .slice A4 d.f1.f3.length c4, .string d.f2, .string d.f3, .slice A7 d.f4.length c7, .int .i64 d.f5] 76)).alloc (Obj.cells #[.int .i64 0, .slice none 0 0, .slice none 0 0] 73)) := below_alloc (below_alloc (Below.refl _ _) _) _
  have hv2 : VarT ((w.alloc (Obj.cells #[.int .i64 8, .string d.f1.f0, .int .i64 d.f1.f1, .int .i64 d.f1.f2, .slice A4 d.f1.f3.length c4, .string d.f2, .string d.f3, .slice A7 d.f4.length c7, .int .i64 d.f5] 76)).alloc (Obj.cells #[.int .i64 0, .slice none 0 0, .slice none 0 0] 73)) (w.heap.size + 1) (.int .i64 0) (.slice none 0 0) (.slice none 0 0) := by
    have := heap_alloc_new (w.alloc (Obj.cells #[.int .i64 8, .string d.f1.f0, .int .i64 d.f1.f1, .int .i64 d.f1.f2, .slice A4 d.f1.f3.length c4, .string d.f2, .string d.f3, .slice A7 d.f4.length c7, .int .i64 d.f5] 76)) (Obj.cells #[.int .i64 0, .slice none 0 0, .slice none 0 0] 73)
    rw [World.size_alloc] at this
    exact this
  have hsz : ((w.alloc (Obj.cells #[.int .i64 8, .string d.f1.f0, .int .i64 d.f1.f1, .int .i64 d.f1.f2, .slice A4 d.f1.f3.length c4, .string d.f2, .string d.f3, .slice A7 d.f4.length c7, .int .i64 d.f5] 76)).alloc (Obj.cells #[.int .i64 0, .slice none 0 0, .slice none 0 0] 73)).heap.size = w.heap.size + 2 := by rw [World.size_alloc, World.size_alloc]
  have hlt := h.lt
  have hr2 : Rep (NotB B (w.heap.size + 1)) g s ((w.alloc (Obj.cells #[.int .i64 8, .string d.f1.f0, .int .i64 d.f1.f1, .int .i64 d.f1.f2, .slice A4 d.f1.f3.length c4, .string d.f2, .string d.f3, .slice A7 d.f4.length c7, .int .i64 d.f5] 76)).alloc (Obj.cells #[.int .i64 0, .slice none 0 0, .slice none 0 0] 73)) := (h.less (B' := NotB B (w.heap.size + 1)) fun k hk hlt2 => ⟨hk, by omega⟩).below hw2
  have hup : Up (NotB B (w.heap.size + 1)) ((w.alloc (Obj.cells #[.int .i64 8, .string d.f1.f0, .int .i64 d.f1.f1, .int .i64 d.f1.f2, .slice A4 d.f1.f3.length c4, .string d.f2, .string d.f3, .slice A7 d.f4.length c7, .int .i64 d.f5] 76)).alloc (Obj.cells #[.int .i64 0, .slice none 0 0, .slice none 0 0] 73)).heap.size := fun k hk => ⟨hBw k (by omega), by omega⟩
  have HW2 := Aside0.mk hw2
  have HV2 := Aside0.mk hv2
  have HR2 := Aside0.mk hr2
  have HUP := Aside0.mk hup
  have HSZ := Aside0.mk hsz
  have HF := Aside0.mk hf
  have HF1 := Aside0.mk hf1
  have H4 := Aside0.mk hF4
  have H7 := Aside0.mk hF7
  have HW7 := Aside0.mk hw7
  clear hw2 hv2 hr2 hup hsz hf hf1 hF4 hF7 hw7 h
  go_enter Try.func48, Try.ntmps48
  go_wp2_with (go_at_call 40; (with_reducible refine (plan_calls A7 c7 d.f4 d.f5 HR2.out HUP.out (Kd.F_below H7.out HW2.out) hl7 HW7.out).mono ?_); rintro e w1 ⟨rfl, hr1, hb1⟩; obtain ⟨hv3, hrest⟩ := rep_told HW2.out hBw (by omega) HV2.out hr1 hb1; obtain ⟨hf0, hg0, hf1, hg1, hf2, hg2, hT⟩ := VarT.facts hv3 (.int .i64 0) (.slice none 0 0) (.slice none 0 0); have HT := Aside0.mk hT; have HV3 := Aside0.mk hv3; have HREST := Aside0.mk hrest; clear hr1 hb1 hT hv3 hrest)
  refine bodyPost_ret (results_told rfl rfl HT.out) rfl ?_
  exact ⟨_, _, rfl, Kd.R_nil _ _ _ _ _, Kd.R_nil _ _ _ _ _, (HREST.out _ _ _).1, (HREST.out _ _ _).2⟩
theorem do_real (d : S76) (A4 : Option Addr) (c4 : Nat) (A7 : Option Addr) (c7 : Nat) (h : Rep B g s w) (hf : Fit s) (hf1 : Fit (asked s).1) (hBw : Up B w.heap.size) (hF4 : Kd.F (Kd.int .u8) w (fun k => k ≠ g) A4 d.f1.f3.length d.f1.f3) (hc4 : d.f1.f3.length ≤ c4) (hF7 : Kd.F (Kd.int .i64) w (fun k => k ≠ g) A7 d.f4.length d.f4) (hl4 : d.f1.f3.length ≤ 1000) (hl7 : d.f4.length ≤ 1000) (hw7 : ∀ n ∈ d.f4, (Lit.int .i64 n).wf = true) (h1 : 1 ≤ d.f0) (h8 : d.f0 ≤ 8) :
    Calls Try.prog 48 #[.pointer (some ⟨g, 0, none⟩), .agg #[.int .i64 d.f0, .string d.f1.f0, .int .i64 d.f1.f1, .int .i64 d.f1.f2, .slice A4 d.f1.f3.length c4, .string d.f2, .string d.f3, .slice A7 d.f4.length c7, .int .i64 d.f5]] w fun e w' => ∃ y z, e = .returned (.agg #[.int .i64 (doS s d).2.1, y, z]) ∧ (Kd.int .u8).R 5 w' w.heap.size (fun _ => True) y (doS s d).2.2.1 ∧ Kd.string.R 9 w' w.heap.size (fun _ => True) z (doS s d).2.2.2 ∧ Rep B g (doS s d).1 w' ∧ BelS B w w' := by
  have hk : d.f0 = 1 ∨ d.f0 = 2 ∨ d.f0 = 3 ∨ d.f0 = 4 ∨ d.f0 = 5 ∨ d.f0 = 6 ∨ d.f0 = 7 ∨ d.f0 = 8 := by omega
  unfold doS
  rcases hk with hk | hk | hk | hk | hk | hk | hk | hk <;> rw [hk]
  · exact do_real1 d A4 c4 A7 c7 h hf hf1 hBw hF4 hc4 hF7 hl4 hl7 hw7
  · exact do_real2 d A4 c4 A7 c7 h hf hf1 hBw hF4 hc4 hF7 hl4 hl7 hw7
  · exact do_real3 d A4 c4 A7 c7 h hf hf1 hBw hF4 hc4 hF7 hl4 hl7 hw7
  · exact do_real4 d A4 c4 A7 c7 h hf hf1 hBw hF4 hc4 hF7 hl4 hl7 hw7
  · exact do_real5 d A4 c4 A7 c7 h hf hf1 hBw hF4 hc4 hF7 hl4 hl7 hw7
  · exact do_real6 d A4 c4 A7 c7 h hf hf1 hBw hF4 hc4 hF7 hl4 hl7 hw7
  · exact do_real7 d A4 c4 A7 c7 h hf hf1 hBw hF4 hc4 hF7 hl4 hl7 hw7
  · exact do_real8 d A4 c4 A7 c7 h hf hf1 hBw hF4 hc4 hF7 hl4 hl7 hw7
end
end Go.Proofs.Ytcgeioingikeeaa.P
namespace Go.Proofs.Ytcgeioingikeeaa.P
open Go.RowKit Go.Proofs.YtcgeioingikeeaaW.PrintWords Go.Proofs.YtcgeioingikeeaaW.PrintLast Go.Proofs.YtcgeioingikeeaaW.PrintMore
set_option linter.unusedVariables false
set_option linter.unusedSimpArgs false
/-- The store behind deeds. -/
def runS (s : SSt) (l : List S76) : SSt := l.foldl (fun s d => (doS s d).1) s
theorem runS_take (s : SSt) (l : List S76) (i : Nat) (h : i < l.length) : runS s (l.take (i + 1)) = (doS (runS s (l.take i)) l[i]).1 := by
  unfold runS
  rw [List.take_succ_eq_append_getElem h, List.foldl_append]
  rfl
/-- A store behind n deeds. -/
structure Inv (n : Nat) (s : SSt) : Prop where
  len : s.safe.length + s.pend.length ≤ n
  safe : okL s.safe
  pend : okW s.pend
  calls0 : 0 ≤ s.calls
  calls1 : s.calls ≤ n
/-- What few deeds are. -/
structure okD (d : S76) : Prop where
  k1 : 1 ≤ d.f0
  k8 : d.f0 ≤ 8
  w : d.f1.f3.length ≤ 300
  nums : d.f4.length ≤ 20
  nm : d.f1.f0.size ≤ 60
  na : d.f2.size ≤ 60
  nb : d.f3.size ≤ 60
theorem Inv.fit {n : Nat} {s : SSt} (h : Inv n s) (hn : n ≤ 1000) : Fit s := ⟨by have := h.len; omega, h.safe, h.pend, h.calls0, by have := h.calls1; omega⟩
theorem Inv.more {n m : Nat} {s : SSt} (h : Inv n s) (hn : n ≤ m) : Inv m s := ⟨by have := h.len; omega, h.safe, h.pend, h.calls0, by have := h.calls1; omega⟩
theorem Inv.new (q : Int) : Inv 0 (newD q) := ⟨by simp [newD], fun x hx => by simp [newD] at hx, fun x hx => by simp [newD] at hx, by simp [newD], by simp [newD]⟩
theorem asked_same (s : SSt) : (asked s).1.safe = s.safe ∧ (asked s).1.pend = s.pend ∧ (asked s).1.quota = s.quota ∧ (asked s).1.peak = s.peak ∧ (asked s).1.crash = s.crash ∧ (asked s).1.fails = s.fails ∧ ((asked s).1.calls = s.calls ∨ (asked s).1.calls = s.calls + 1) := by
  unfold asked
  split
  · exact ⟨rfl, rfl, rfl, rfl, rfl, rfl, .inl rfl⟩
  · split
    · exact ⟨rfl, rfl, rfl, rfl, rfl, rfl, .inr rfl⟩
    · split <;> exact ⟨rfl, rfl, rfl, rfl, rfl, rfl, .inr rfl⟩
theorem Inv.asked {n : Nat} {s : SSt} (h : Inv n s) : Inv (n + 1) (asked s).1 ∧ (P.asked s).1.safe.length + (P.asked s).1.pend.length ≤ n := by
  obtain ⟨h1, h2, _, _, _, _, h3⟩ := asked_same s
  have hl := h.len
  have h0 := h.calls0
  have hc := h.calls1
  exact ⟨⟨by rw [h1, h2]; omega, by rw [h1]; exact h.safe, by rw [h2]; exact h.pend, by omega, by omega⟩, by rw [h1, h2]; omega⟩
theorem Inv.fitA {n : Nat} {s : SSt} (h : Inv n s) (hn : n ≤ 999) : Fit (P.asked s).1 := h.asked.1.fit (by omega)
theorem okL_filter {l : List S38} (h : okL l) (p : S38 → Bool) : okL (l.filter p) := fun x hx => h x (List.mem_filter.1 hx).1
theorem okW_filter {l : List S31} (h : okW l) (p : S31 → Bool) : okW (l.filter p) := fun x hx => h x (List.mem_filter.1 hx).1
theorem filter_two (l : List S31) (p q : S31 → Bool) (h : ∀ x, q x = !p x) : (l.filter p).length + (l.filter q).length = l.length := by
  induction l with
  | nil => rfl
  | cons x l ih =>
    have := h x
    cases hp : p x
    · rw [hp] at this
      rw [List.filter_cons_of_neg (by simp [hp]), List.filter_cons_of_pos (by simp [this]), List.length_cons, List.length_cons]
      omega
    · rw [hp] at this
      rw [List.filter_cons_of_pos hp, List.filter_cons_of_neg (by simp [this]), List.length_cons, List.length_cons]
      omega
theorem moveT_ok {l : List S38} (h : okL l) (a b : ByteArray) : okL (moveT l a b) ∧ (moveT l a b).length ≤ l.length := by
  unfold moveT
  cases hf : l.find? (named a) with
  | none => exact ⟨h, Nat.le_refl _⟩
  | some x =>
    have hx := h x (List.mem_of_find?_eq_some hf)
    refine ⟨fun y hy => ?_, ?_⟩
    · rcases putL_mem hy with rfl | hy
      · exact hx
      · exact h y (List.mem_filter.1 hy).1
    · have h1 := putL_len (l.filter fun y => !named a y) b x.f1
      have h2 : (l.filter fun y => !named a y).length < l.length := by
        have hm := List.mem_of_find?_eq_some hf
        have hp := List.find?_some hf
        have h3 := List.length_filter_le (fun y => !named a y) l
        rcases Nat.lt_or_ge (l.filter fun y => !named a y).length l.length with h4 | h4
        · exact h4
        · have h5 := List.length_filter_eq_length_iff.1 (Nat.le_antisymm h3 h4) x hm
          simp [hp] at h5
      show (putL _ b x.f1).length ≤ l.length
      omega
theorem Inv.ofR {n : Nat} {s : SSt} (h : Inv n s) (name : ByteArray) (k : SSt → SSt × Int) (hk : ∀ s1 : SSt, Inv (n + 1) s1 → s1.safe.length + s1.pend.length ≤ n → Inv (n + 1) (k s1).1) : Inv (n + 1) (P.ofR s name k).1 := by
  obtain ⟨ha, hl⟩ := h.asked
  unfold P.ofR
  split
  · exact ha
  · split
    · exact hk _ ha hl
    · exact ha
theorem Inv.sync {n : Nat} {s : SSt} (h : Inv n s) (name : ByteArray) : Inv n (syncD s name) := by
  obtain ⟨h1, h2⟩ := doneL_ok (fun _ => -1) (s.pend.filter fun x => !othW name x) 0 s.safe h.safe
  have h3 := filter_two s.pend (fun x => !othW name x) (fun x => !ownW name x) (fun x => by rw [not_oth])
  have := h.len
  exact ⟨by show (doneL _ _ _ _).length + (s.pend.filter _).length ≤ n; omega, h1, okW_filter h.pend _, h.calls0, h.calls1⟩
theorem Inv.drop {n : Nat} {s : SSt} (h : Inv n s) (name : ByteArray) : Inv n (dropD s name) := by
  have h1 := List.length_filter_le (fun x => !named name x) s.safe
  have h2 := List.length_filter_le (fun x => !ownW name x) s.pend
  have := h.len
  exact ⟨by show (s.safe.filter _).length + (s.pend.filter _).length ≤ n; omega, okL_filter h.safe _, okW_filter h.pend _, h.calls0, h.calls1⟩
theorem Inv.move {n : Nat} {s : SSt} (h : Inv n s) (a b : ByteArray) : Inv n (moveD s a b) := by
  have h1 := List.length_filter_le (fun x => !named b x) s.safe
  have h2 := List.length_filter_le (fun x => !ownW b x) s.pend
  obtain ⟨h3, h4⟩ := moveT_ok (okL_filter h.safe (fun x => !named b x)) a b
  have := h.len
  refine ⟨by show (moveT _ _ _).length + (List.map _ _).length ≤ n; rw [List.length_map]; omega, h3, ?_, h.calls0, h.calls1⟩
  intro x hx
  obtain ⟨y, hy, rfl⟩ := List.mem_map.1 hx
  have := h.pend y (List.mem_filter.1 hy).1
  unfold renW
  split <;> exact this
theorem Inv.crash {n : Nat} {s : SSt} (h : Inv n s) (ks : List Int) : Inv n (crashD s ks) := by
  obtain ⟨h1, h2⟩ := doneL_ok (keepN ks) s.pend 0 s.safe h.safe
  have := h.len
  exact ⟨by show (doneL _ _ _ _).length + 0 ≤ n; omega, h1, fun x hx => by simp [crashD] at hx, Int.le_refl 0, Int.natCast_nonneg n⟩
theorem Inv.plan {n : Nat} {s : SSt} (h : Inv n s) (ks : List Int) (cr : Int) : Inv n (planD s ks cr) := ⟨h.len, h.safe, h.pend, Int.le_refl 0, Int.natCast_nonneg n⟩
theorem Inv.done {n : Nat} {s : SSt} (h : Inv n s) {d : S76} (hd : okD d) : Inv (n + 1) (doS s d).1 := by
  obtain ⟨ha, hl⟩ := h.asked
  unfold doS
  split
  · show Inv (n + 1) (doR s (wOf d)).1
    unfold doR
    split
    · exact ha
    · unfold doB
      split
      · refine ⟨?_, ha.safe, ?_, ha.calls0, ha.calls1⟩
        · show (P.asked s).1.safe.length + ((P.asked s).1.pend ++ [wOf d]).length ≤ n + 1
          rw [List.length_append]
          simp only [List.length_singleton]
          omega
        · intro x hx
          rcases List.mem_append.1 hx with hx | hx
          · exact ha.pend x hx
          · obtain rfl := List.mem_singleton.1 hx
            have := hd.w
            show d.f1.f3.length ≤ 1000000
            omega
      · exact ha
  split
  · exact h.ofR _ _ fun s1 h1 _ => h1.sync _
  split
  · refine h.ofR _ _ fun s1 h1 _ => ?_
    split
    · exact h1
    · split
      · exact h1
      · exact h1.move _ _
  split
  · exact h.ofR _ _ fun s1 h1 _ => h1.drop _
  split
  · show Inv (n + 1) (readR s d.f2).1
    unfold readR
    split
    · exact ha
    · split <;> exact ha
  split
  · show Inv (n + 1) (listR s).1
    unfold listR
    split <;> exact ha
  split
  · exact (h.crash _).more (by omega)
  · exact (h.plan _ _).more (by omega)
theorem Inv.run {s : SSt} {l : List S76} {n : Nat} (h : Inv n s) (hl : ∀ d ∈ l, okD d) (i : Nat) : Inv (n + i) (runS s (l.take i)) := by
  induction i with
  | zero => exact h
  | succ i ih =>
    by_cases hi : i < l.length
    · rw [runS_take s l i hi]
      exact ih.done (hl _ (List.getElem_mem hi))
    · rw [List.take_of_length_le (by omega), ← List.take_of_length_le (i := i) (l := l) (by omega)]
      exact ih.more (by omega)
end Go.Proofs.Ytcgeioingikeeaa.P
namespace Go.Proofs.Ytcgeioingikeeaa.P
open Go.RowKit Go.Proofs.YtcgeioingikeeaaW.PrintWords Go.Proofs.YtcgeioingikeeaaW.PrintLast Go.Proofs.YtcgeioingikeeaaW.PrintMore
set_option linter.unusedVariables false
set_option linter.unusedSimpArgs false
/-- All blocks from n on. -/
def Since (n : Nat) : Nat → Prop := fun k => n ≤ k
theorem up_since {n m : Nat} (h : n ≤ m) : Up (Since n) m := fun _ hk => Nat.le_trans h hk
theorem BelS.below {n : Nat} {w w1 : World} (h : BelS (Since n) w w1) (hn : n ≤ w.heap.size) : Below n w w1 := ⟨h.os, h.tape, h.output, h.size, fun k hk => h.block k (Nat.lt_of_lt_of_le hk hn) (fun hb => absurd hk (Nat.not_lt.2 hb))⟩
theorem bels_of {n : Nat} {w w1 : World} (hn : n ≤ w.heap.size) (h : Below w.heap.size w w1) : BelS (Since n) w w1 := belowB_of (up_since hn) h
section
variable {B : Nat → Prop} {g : Nat} {w : World}
def ax : S31 := ⟨⟨#[97]⟩, 1, 0, [120, 121]⟩
def ay : S31 := ⟨⟨#[97]⟩, 2, 0, [122]⟩
def fx : S38 := ⟨⟨#[97]⟩, [120, 121]⟩
def sA : SSt := ⟨[], [], 100, 0, [], 0, false, 0⟩
def sB : SSt := ⟨[], [ax], 100, 1, [], 0, false, 2⟩
def sC : SSt := ⟨[fx], [], 100, 2, [], 0, false, 2⟩
def sD : SSt := ⟨[fx], [ay], 100, 3, [], 0, false, 3⟩
def sE : SSt := ⟨[fx], [], 100, 0, [], 0, false, 3⟩
def sF : SSt := ⟨[fx], [], 100, 1, [], 0, false, 3⟩
theorem newA : newD 100 = sA := rfl
theorem doTA : doT [] ax (-1) = ([fx], 0) := by
  simp [doT, doRes, keptOf, frmOf, oldOf, putL, insertAt, overlay, ax, fx, named, Lib.toList_data, ByteArray.size]
theorem filesB : filesOf sB = [fx] := by
  show dn [] ax (-1) = [fx]
  unfold dn; rw [doTA]; rfl
theorem doTC : doT [fx] ay (-1) = ([⟨⟨#[97]⟩, [120, 121, 122]⟩], 0) := by
  simp [doT, doRes, keptOf, frmOf, oldOf, putL, insertAt, overlay, ay, fx, named, Lib.toList_data, ByteArray.size, Op.bytesLess]
theorem doTE : doT [fx] ay 0 = ([fx], 0) := by
  simp [doT, doRes, keptOf, frmOf, oldOf, putL, insertAt, overlay, ay, fx, named, Lib.toList_data, ByteArray.size, Op.bytesLess]
theorem askA (s : SSt) (hd : s.down = false) (hf : s.fails = []) (hc : s.crash = 0) (hl : 0 ≤ s.calls) : asked s = ({ s with calls := s.calls + 1 }, 0) := by
  unfold asked
  rw [if_neg (by simp [hd]), if_neg (by omega), if_neg (by simp [hf])]
theorem av1 : doR sA ax = (sB, 0) := by
  have h : asked sA = ({ sA with calls := 1 }, 0) := askA sA rfl rfl rfl (by decide)
  have hfi : filesOf { sA with calls := 1 } = [] := rfl
  have hE : doE { sA with calls := 1 } ax = 0 := by
    unfold doE
    rw [hfi, doTA]
    simp [ax, fx, sA, sizeF, sumW, wrap64]
  unfold doR
  rw [h, if_neg (by simp)]
  unfold doB
  rw [if_pos hE, hfi, doTA]
  simp [sB, sA, mx, sizeF, sumW, fx, wrap64]
theorem av2 : syncR sB ⟨#[97]⟩ = (sC, 0) := by
  have h : asked sB = ({ sB with calls := 2 }, 0) := askA sB rfl rfl rfl (by decide)
  have hg : getT (filesOf sB) ⟨#[97]⟩ = ([120, 121], true) := by rw [filesB]; simp [getT, fx, named, Lib.toList_data]
  unfold syncR ofR
  rw [h, if_neg (by simp), hg, if_pos rfl]
  have hd : dn [] ax (-1) = [fx] := by unfold dn; rw [doTA]; rfl
  simp [syncD, sB, sC, ax, othW, ownW, Lib.toList_data, doneL]
  exact hd
theorem av3 : doR sC ay = (sD, 0) := by
  have h : asked sC = ({ sC with calls := 3 }, 0) := askA sC rfl rfl rfl (by decide)
  have hfi : filesOf { sC with calls := 3 } = [fx] := rfl
  have hg : getT [fx] ⟨#[97]⟩ = ([120, 121], true) := by simp [getT, fx, named, Lib.toList_data]
  have hE : doE { sC with calls := 3 } ay = 0 := by
    unfold doE
    rw [hfi, doTC]
    simp [ay, fx, sC, sizeF, sumW, wrap64, getT, named, Lib.toList_data]
  unfold doR
  rw [h, if_neg (by simp)]
  unfold doB
  rw [if_pos hE, hfi, doTC]
  simp [sD, sC, mx, sizeF, sumW, fx, wrap64]
theorem av4 : crashD sD [] = sE := by
  have hd : dn [fx] ay 0 = [fx] := by unfold dn; rw [doTE]; rfl
  have h2 : doneL (keepN []) 0 sD.safe sD.pend = [fx] := hd
  unfold crashD
  rw [h2]
  simp [sD, sE, mx, sizeF, sumW, fx, wrap64]
theorem av5 : readR sE ⟨#[97]⟩ = (sF, 0, [120, 121]) := by
  have h : asked sE = (sF, 0) := askA sE rfl rfl rfl (by decide)
  have hg : getT (filesOf sE) ⟨#[97]⟩ = ([120, 121], true) := by show getT [fx] _ = _; simp [getT, fx, named, Lib.toList_data]
  unfold readR
  rw [h, if_neg (by simp), hg, if_pos rfl]
theorem fitS (s : SSt) (h1 : s.safe = [] ∨ s.safe = [fx]) (h2 : s.pend = [] ∨ s.pend = [ax] ∨ s.pend = [ay]) (h3 : 0 ≤ s.calls) (h4 : s.calls ≤ 1000) : Fit s := by
  refine ⟨?_, ?_, ?_, h3, h4⟩
  · rcases h1 with h | h <;> rcases h2 with h' | h' | h' <;> simp [h, h']
  · rcases h1 with h | h <;> rw [h] <;> intro x hx
    · simp at hx
    · obtain rfl := List.mem_singleton.1 hx; decide
  · rcases h2 with h | h | h <;> rw [h] <;> intro x hx
    · simp at hx
    · obtain rfl := List.mem_singleton.1 hx; decide
    · obtain rfl := List.mem_singleton.1 hx; decide
theorem fitK (s : SSt) (h1 : s.safe = [] ∨ s.safe = [fx]) (h2 : s.pend = [] ∨ s.pend = [ax] ∨ s.pend = [ay]) (hd : s.down = false) (hf : s.fails = []) (hc : s.crash = 0) (h3 : 0 ≤ s.calls) (h4 : s.calls ≤ 10) : Fit (asked s).1 := by
  rw [askA s hd hf hc h3]
  exact fitS _ h1 h2 (by show 0 ≤ s.calls + 1; omega) (by show s.calls + 1 ≤ 1000; omega)
theorem F_marked {b : Nat} {xs : List Int} {fr : Nat × Nat} (hb : w.heap[b]? = some (.cells (nums .u8 xs).toArray 5 fr)) (hl : xs.length ≤ 1000) (hne : b ≠ g) : Kd.F (Kd.int .u8) w (fun k => k ≠ g) (some ⟨b, 0, none⟩) xs.length xs :=
  fun W2 hW => C_marked ((hW b hne (blk_lt hb)).trans hb) (by omega)
theorem aw1 (b : Nat) {fr : Nat × Nat} (h : Rep B g sA w) (hBw : Up B w.heap.size) (hb : w.heap[b]? = some (.cells #[.int .u8 120, .int .u8 121] 5 fr)) (hne : b ≠ g) :
    Calls Try.prog 67 #[.pointer (some ⟨g, 0, none⟩), .agg #[.string ⟨#[97]⟩, .int .i64 1, .int .i64 0, .slice (some ⟨b, 0, none⟩) 2 2]] w fun e w' => e = .returned (.int .i64 0) ∧ Rep B g sB w' ∧ BelS B w w' := by
  have := do_calls ax (some ⟨b, 0, none⟩) 2 h (fitS sA (.inl rfl) (.inl rfl) (by decide) (by decide)) (fitK sA (.inl rfl) (.inl rfl) rfl rfl rfl (by decide) (by decide)) hBw (by decide) (F_marked (xs := [120, 121]) hb (by decide) hne) (by decide)
  rw [av1] at this
  exact this
theorem aw2 (h : Rep B g sB w) (hBw : Up B w.heap.size) :
    Calls Try.prog 41 #[.pointer (some ⟨g, 0, none⟩), .string ⟨#[97]⟩] w fun e w' => e = .returned (.int .i64 0) ∧ Rep B g sC w' ∧ BelS B w w' := by
  have := sync_calls ⟨#[97]⟩ h (fitS sB (.inl rfl) (.inr (.inl rfl)) (by decide) (by decide)) (fitK sB (.inl rfl) (.inr (.inl rfl)) rfl rfl rfl (by decide) (by decide)) hBw
  rw [av2] at this
  exact this
theorem aw3 (b : Nat) {fr : Nat × Nat} (h : Rep B g sC w) (hBw : Up B w.heap.size) (hb : w.heap[b]? = some (.cells #[.int .u8 122] 5 fr)) (hne : b ≠ g) :
    Calls Try.prog 67 #[.pointer (some ⟨g, 0, none⟩), .agg #[.string ⟨#[97]⟩, .int .i64 2, .int .i64 0, .slice (some ⟨b, 0, none⟩) 1 1]] w fun e w' => e = .returned (.int .i64 0) ∧ Rep B g sD w' ∧ BelS B w w' := by
  have := do_calls ay (some ⟨b, 0, none⟩) 1 h (fitS sC (.inr rfl) (.inl rfl) (by decide) (by decide)) (fitK sC (.inr rfl) (.inl rfl) rfl rfl rfl (by decide) (by decide)) hBw (by decide) (F_marked (xs := [122]) hb (by decide) hne) (by decide)
  rw [av3] at this
  exact this
theorem aw4 (h : Rep B g sD w) (hBw : Up B w.heap.size) :
    Calls Try.prog 44 #[.pointer (some ⟨g, 0, none⟩), .slice none 0 0] w fun e w' => e = .returned (.tuple #[]) ∧ Rep B g sE w' ∧ BelS B w w' := by
  have := crash_calls none 0 [] h (fitS sD (.inr rfl) (.inr (.inr rfl)) (by decide) (by decide)) hBw (Kd.C_nil _ _)
  rw [av4] at this
  exact this
theorem aw5 (h : Rep B g sE w) (hBw : Up B w.heap.size) :
    Calls Try.prog 68 #[.pointer (some ⟨g, 0, none⟩), .string ⟨#[97]⟩] w fun e w' => ∃ A c, e = .returned (.tuple #[.slice A 2 c, .int .i64 0]) ∧ Kd.R (Kd.int .u8) 5 w' w.heap.size (fun _ => True) (.slice A 2 c) [120, 121] ∧ Rep B g sF w' ∧ BelS B w w' := by
  have := read_calls (name := ⟨#[97]⟩) h (fitS sE (.inr rfl) (.inl rfl) (by decide) (by decide)) (fitK sE (.inr rfl) (.inl rfl) rfl rfl rfl (by decide) (by decide)) hBw
  rw [av5] at this
  refine this.mono ?_
  rintro e w1 ⟨v, rfl, hv, hr, hb⟩
  obtain ⟨A, c, rfl⟩ := Kd.R_slice hv
  exact ⟨A, c, rfl, hv, hr, hb⟩
theorem aw6 (h : Rep B g sF w) : Calls Try.prog 54 #[.pointer (some ⟨g, 0, none⟩)] w fun e w' => e = .returned (.int .i64 3) ∧ Below w.heap.size w w' := peak_calls h
theorem aw7 (h : Rep B g sF w) : Calls Try.prog 52 #[.pointer (some ⟨g, 0, none⟩)] w fun e w' => e = .returned (.int .i64 1) ∧ Below w.heap.size w w' := calls_calls h
theorem str2 : (strOfNums [120, 121]).toList = [120, 121] := by simp [strOfNums, Lib.toList_data]
end
set_option maxHeartbeats 8000000 in
set_option maxRecDepth 100000 in
theorem awake18 (w : World) : Calls Try.prog 37 #[] w fun e w' => e = .returned (.bool true) ∧ Below w.heap.size w w' := by
  have kc := fun (w : World) (C : Array Value) (n c : Nat) => Lib.run_convert_bytes_const (P := Try.prog) w 23 5 C n c Try.underlying23 Try.underlying5
  have hstr := str2
  go_enter Try.func37, Try.ntmps37
  go_wp2_with (first
    | (go_at_call 47; refine (new_calls 100 (by decide)).mono ?_; rintro e w1 ⟨rfl, hr1, hb1⟩; rw [newA] at hr1; have hr1 := hr1 (Since w.heap.size) (Nat.le_refl _); have hg1 := (show w.heap.size < w1.heap.size by obtain ⟨_, _, _, h⟩ := hr1; exact blk_lt h.blk); have HR1 := Aside0.mk hr1; have HB1 := Aside0.mk (bels_of (Nat.le_refl _) hb1); clear hr1 hb1)
    | (go_at_call 67; (with_reducible refine (aw1 (B := Since w.heap.size) w1.heap.size (HR1.out.below (below_alloc (Below.refl _ _) _)) ?hs1 (heap_alloc_new _ _) ?hn1).mono ?_); (case hs1 => exact up_since (by rw [World.size_alloc]; omega)); (case hn1 => omega); rintro e w2 ⟨rfl, hr2, hb2⟩; have HB2 := Aside0.mk (belowB_trans (belowB_trans HB1.out (bels_of HB1.out.size (below_alloc (Below.refl _ _) _))) hb2); have hsz2 := HB2.out.size; have HR2 := Aside0.mk hr2; clear hr2 hb2)
    | (go_at_call 41; (with_reducible refine (aw2 (B := Since w.heap.size) HR2.out (up_since hsz2)).mono ?_); rintro e w3 ⟨rfl, hr3, hb3⟩; have HB3 := Aside0.mk (belowB_trans HB2.out hb3); have hsz3 := HB3.out.size; have hg3 := (show w.heap.size < w3.heap.size by obtain ⟨_, _, _, h⟩ := hr3; exact blk_lt h.blk); have HR3 := Aside0.mk hr3; clear hr3 hb3)
    | (go_at_call 67; (with_reducible refine (aw3 (B := Since w.heap.size) w3.heap.size (HR3.out.below (below_alloc (Below.refl _ _) _)) ?hs1 (heap_alloc_new _ _) ?hn1).mono ?_); (case hs1 => exact up_since (by rw [World.size_alloc]; omega)); (case hn1 => omega); rintro e w4 ⟨rfl, hr4, hb4⟩; have HB4 := Aside0.mk (belowB_trans (belowB_trans HB3.out (bels_of HB3.out.size (below_alloc (Below.refl _ _) _))) hb4); have hsz4 := HB4.out.size; have HR4 := Aside0.mk hr4; clear hr4 hb4)
    | (go_at_call 44; (with_reducible refine (aw4 (B := Since w.heap.size) HR4.out (up_since hsz4)).mono ?_); rintro e w5 ⟨rfl, hr5, hb5⟩; have HB5 := Aside0.mk (belowB_trans HB4.out hb5); have hsz5 := HB5.out.size; have HR5 := Aside0.mk hr5; clear hr5 hb5)
    | (go_at_call 68; (with_reducible refine (aw5 (B := Since w.heap.size) HR5.out (up_since hsz5)).mono ?_); rintro e w6 ⟨A6, c6, rfl, hv6, hr6, hb6⟩; have HB6 := Aside0.mk (belowB_trans HB5.out hb6); have hcv := own_string (P := Try.prog) Try.underlying23 Try.underlying5 Try.underlying9 (Kd.own_of_R hv6); have HR6 := Aside0.mk hr6; clear hr6 hb6 hv6)
    | (go_at_call 54; (with_reducible refine (aw6 HR6.out).mono ?_); rintro e w7 ⟨rfl, hb7⟩; have HB7 := Aside0.mk (belowB_trans HB6.out (bels_of HB6.out.size hb7)); have HR7 := Aside0.mk (HR6.out.below hb7); clear hb7)
    | (go_at_call 52; (with_reducible refine (aw7 HR7.out).mono ?_); rintro e w8 ⟨rfl, hb8⟩; have HB8 := Aside0.mk hb8; clear hb8))
  go_ret
  exact ⟨rfl, (belowB_trans HB7.out (bels_of HB7.out.size HB8.out)).below (Nat.le_refl _)⟩
end Go.Proofs.Ytcgeioingikeeaa.P
namespace Go.Proofs.Ytcgeioingikeeaa.P
open Go.RowKit Go.Proofs.YtcgeioingikeeaaW.PrintWords Go.Proofs.YtcgeioingikeeaaW.PrintLast Go.Proofs.YtcgeioingikeeaaW.PrintMore
attribute [local go_sem] max2_int min2_int max_two min_two max_three min_three max_four min_four   -- for this text's walks alone
set_option linter.unusedVariables false
set_option linter.unusedSimpArgs false
mutual
def gambrelref18_Few.l0 : Nat → List (S76) → Int → Option (Bool)
  | 0, _, _ => none
  | k + 1, x0, x3 => if x3 < (x0.length : Int) then (gambrelref18_Few.j1 k x0 x3 (decide (x3 < 21))) else (gambrelref18_Few.j1 k x0 x3 false)
def gambrelref18_Few.j1 : Nat → List (S76) → Int → Bool → Option (Bool)
  | 0, _, _, _ => none
  | k + 1, x0, x3, x12 => if x12 = true then (if 0 ≤ x3 then (if x3 < (x0.length : Int) then (if ((rd_T76 x0 x3).f0) < 1 then (some false) else (if ((rd_T76 x0 x3).f0) > 8 then (some false) else (if (((rd_T76 x0 x3).f1.f0).size : Int) > 60 then (some false) else (if (((rd_T76 x0 x3).f1.f3).length : Int) > 300 then (some false) else (if (((rd_T76 x0 x3).f2).size : Int) > 60 then (some false) else (if (((rd_T76 x0 x3).f3).size : Int) > 60 then (some false) else (if (((rd_T76 x0 x3).f4).length : Int) > 20 then (some false) else (gambrelref18_Few.l0 k x0 (wrap64 (x3 + 1)))))))))) else (none)) else (none)) else (some (decide ((x0.length : Int) ≤ 20)))
end
def gambrelref18_Few.f (k : Nat) (l0 : List (S76)) : Option (Bool) := gambrelref18_Few.l0 k l0 0
set_option maxHeartbeats 8000000 in
set_option maxRecDepth 100000 in
theorem gambrelref18_Few.calls (k : Nat) (A0 : Option Addr) (c0 : Nat) (l0 : List (S76)) (r : Bool) (w : World) (hr0 : Kd.C k76 w A0 l0.length l0) (hc0 : l0.length ≤ c0) (h : gambrelref18_Few.f k l0 = some r) :
    Calls Try.prog 38 #[.slice A0 l0.length c0] w fun e w' => e = .returned (.bool r) ∧ Below w.heap.size w w' := by
  have hu76 := Try.underlying76
  have HR0 := Aside0.mk hr0
  have HC0 := Aside0.mk hc0
  clear hr0 hc0
  have HB := Aside0.mk (Below.refl w.heap.size w)
  have H : (gambrelref18_Few.l0 k l0 0) = some r := h
  clear h
  have H' := Aside0.mk H
  clear H
  go_enter Try.func38, Try.ntmps38
  go_wp2
  go_loopg [3] k (fun kq v3 w' => ∃ (x3_1 : Int), v3 = .int .i64 x3_1 ∧ Aside0 (gambrelref18_Few.l0 kq l0 x3_1 = some r) ∧ Aside0 (kq ≤ k) ∧ Aside0 (Below w.heap.size w w'))
  case atStart => exact ⟨(0), (by first | rfl | (simp; done) | (simp [*]; done)), H', ⟨Nat.le_refl _⟩, ⟨by repeat (first | (with_reducible first | exact HB.out | apply below_alloc | apply pw_below_drewN | apply below_drew1) | exact HB.out)⟩⟩
  case round =>
    clear H'
    obtain ⟨x3_1, rfl, HA, HK1, HB⟩ := hrel
    cases gk with
    | zero => exact absurd HA.out (by simp [gambrelref18_Few.l0])
    | succ k1 =>
      have H := HA.out
      clear HA
      simp only [gambrelref18_Few.l0] at H
      have HC2 := Aside0.mk H
      clear H
      go_upto_region 2 with (fail)
      go_cut [12] (fun v12 wc => ∃ (kq : Nat) (x12_1 : Bool), v12 = .bool x12_1 ∧ Aside0 (gambrelref18_Few.j1 kq l0 x3_1 x12_1 = some r) ∧ Aside0 (kq ≤ k1) ∧ Aside0 (Below w.heap.size w wc))
      case first =>
        have H := HC2.out
        clear HC2
        by_cases c3 : x3_1 < (l0.length : Int)
        · rw [if_pos c3] at H
          have c3b0 : decide (x3_1 < (l0.length : Int)) = true := decide_eq_true c3
          clear c3
          (first | rw [c3b0] | (simp only [i64_w, i32_w]; rw [c3b0]) | skip)
          have H' := Aside0.mk H
          clear H
          go_wp2
          go_meet
          case rel => exact ⟨_, (decide (x3_1 < 21)), (by first | rfl | (simp; done) | (simp [*]; done)), H', ⟨by have := HK1.out; first | omega | exact Nat.le_refl _⟩, ⟨by repeat (first | (with_reducible first | exact HB.out | apply below_alloc | apply pw_below_drewN | apply below_drew1) | exact HB.out)⟩⟩
        · rw [if_neg c3] at H
          have c3b0 : decide (x3_1 < (l0.length : Int)) = false := decide_eq_false c3
          clear c3
          (first | rw [c3b0] | (simp only [i64_w, i32_w]; rw [c3b0]) | skip)
          have H' := Aside0.mk H
          clear H
          go_wp2
          go_meet
          case rel => exact ⟨_, (false), (by first | rfl | (simp; done) | (simp [*]; done)), H', ⟨by have := HK1.out; first | omega | exact Nat.le_refl _⟩, ⟨by repeat (first | (with_reducible first | exact HB.out | apply below_alloc | apply pw_below_drewN | apply below_drew1) | exact HB.out)⟩⟩
      case rest =>
        clear HC2
        try clear p2
        try clear c3
        try clear c3b0
        obtain ⟨kq, x12_1, rfl, HA, HJ1, HB⟩ := hcut
        cases kq with
        | zero => exact absurd HA.out (by simp [gambrelref18_Few.j1])
        | succ kj1 =>
          have H := HA.out
          clear HA
          simp only [gambrelref18_Few.j1] at H
          by_cases c4 : x12_1 = true
          · subst c4
            have H1 : (if 0 ≤ x3_1 then (if x3_1 < (l0.length : Int) then (if ((rd_T76 l0 x3_1).f0) < 1 then (some false) else (if ((rd_T76 l0 x3_1).f0) > 8 then (some false) else (if (((rd_T76 l0 x3_1).f1.f0).size : Int) > 60 then (some false) else (if (((rd_T76 l0 x3_1).f1.f3).length : Int) > 300 then (some false) else (if (((rd_T76 l0 x3_1).f2).size : Int) > 60 then (some false) else (if (((rd_T76 l0 x3_1).f3).size : Int) > 60 then (some false) else (if (((rd_T76 l0 x3_1).f4).length : Int) > 20 then (some false) else (gambrelref18_Few.l0 kj1 l0 (wrap64 (x3_1 + 1)))))))))) else (none)) else (none)) = some r := by rw [if_pos rfl] at H; exact H
            clear H
            have H := H1
            clear H1
            by_cases c5 : 0 ≤ x3_1
            · rw [if_pos c5] at H
              have c5b0 : decide (0 ≤ x3_1) = true := decide_eq_true c5
              clear c5
              by_cases c6 : x3_1 < (l0.length : Int)
              · rw [if_pos c6] at H
                have c6b0 : decide (x3_1 < (l0.length : Int)) = true := decide_eq_true c6
                clear c6
                by_cases c7 : ((rd_T76 l0 x3_1).f0) < 1
                · rw [if_pos c7] at H
                  have c7b0 : decide (((rd_T76 l0 x3_1).f0) < 1) = true := decide_eq_true c7
                  clear c7
                  obtain rfl := Option.some.inj H
                  have p587 : 0 ≤ (x3_1 : Int) := of_decide_eq_true (by first | (with_reducible assumption) | assumption)
                  have q587 : x3_1 < (l0.length : Int) := of_decide_eq_true (by first | (with_reducible assumption) | assumption)
                  obtain ⟨ad587, A587_4, c587_4, A587_7, c587_7, e587, hx587_0, hx587_1, hx587_2, hx587_3, hx587_4, hx587_5, hx587_6, hx587_7, hx587_8, hl587_4, hi587_4, hl587_7, hi587_7⟩ := at_T76 HR0.out x3_1 p587 q587
                  cases e587
                  replace hx587_0 := (HB.out.cell (World.block_lt_of_cell? w _ hx587_0)).trans hx587_0
                  replace hx587_1 := (HB.out.cell (World.block_lt_of_cell? w _ hx587_1)).trans hx587_1
                  replace hx587_2 := (HB.out.cell (World.block_lt_of_cell? w _ hx587_2)).trans hx587_2
                  replace hx587_3 := (HB.out.cell (World.block_lt_of_cell? w _ hx587_3)).trans hx587_3
                  replace hx587_4 := (HB.out.cell (World.block_lt_of_cell? w _ hx587_4)).trans hx587_4
                  replace hx587_5 := (HB.out.cell (World.block_lt_of_cell? w _ hx587_5)).trans hx587_5
                  replace hx587_6 := (HB.out.cell (World.block_lt_of_cell? w _ hx587_6)).trans hx587_6
                  replace hx587_7 := (HB.out.cell (World.block_lt_of_cell? w _ hx587_7)).trans hx587_7
                  replace hx587_8 := (HB.out.cell (World.block_lt_of_cell? w _ hx587_8)).trans hx587_8
                  have HR587_4 := Aside0.mk hi587_4
                  have HC587_4 := Aside0.mk hl587_4
                  clear hi587_4 hl587_4
                  have HR587_7 := Aside0.mk hi587_7
                  have HC587_7 := Aside0.mk hl587_7
                  clear hi587_7 hl587_7
                  replace p587 := eq_true p587
                  replace q587 := eq_true q587
                  go_wp2_with (first | ((with_reducible refine gate_dst (N := 4) rfl ?_); (try (refine gate_guard (by rfl) ?_; dsimp only)); refine box_event ?hg (N := 4) ?hd (cs := #[.int .i64 0, .string (⟨#[]⟩ : ByteArray), .int .i64 0, .int .i64 0, .slice none 0 0, .string (⟨#[]⟩ : ByteArray), .string (⟨#[]⟩ : ByteArray), .slice none 0 0, .int .i64 0]) (t := 76) ?hr ?_; (case hd => rfl); (case hg => rfl); (case hr => first | (go_simp; done) | (go_simp; rfl)); intro gb588 hg w8 hbox hb; have n0_ := Aside0.mk (below_step (by repeat (first | (with_reducible first | exact HB.out | apply below_alloc | apply pw_below_drewN | apply below_drew1) | exact HB.out)) hb); have n1_ := Aside0.mk (hbox); have n2_ := Aside0.mk ((by rw [hg]; exact (below_size (by repeat (first | (with_reducible first | exact HB.out | apply below_alloc | apply pw_below_drewN | apply below_drew1) | exact HB.out))) : w.heap.size ≤ gb588)); have n3_ := Aside0.mk ((by rw [hg]; exact (below_size (by repeat (first | (with_reducible first | exact HB.out | apply below_alloc | apply pw_below_drewN | apply below_drew1) | exact HB.out))) : w.heap.size ≤ gb588)); clear HB; have HB := n0_; have BK588 := n1_; have GW588 := n2_; have GE588 := n3_; clear n0_ n1_ n2_ n3_; clear hb hbox hg; have hcz9_0 : w8.cell? ⟨gb588, 0, none⟩ = some (.int .i64 0) := (blk_cell BK588.out 0).trans rfl; have hcz9_1 : w8.cell? ⟨gb588, 1, none⟩ = some (.string (⟨#[]⟩ : ByteArray)) := (blk_cell BK588.out 1).trans rfl; have hcz9_2 : w8.cell? ⟨gb588, 2, none⟩ = some (.int .i64 0) := (blk_cell BK588.out 2).trans rfl; have hcz9_3 : w8.cell? ⟨gb588, 3, none⟩ = some (.int .i64 0) := (blk_cell BK588.out 3).trans rfl; have hcz9_4 : w8.cell? ⟨gb588, 4, none⟩ = some (.slice none 0 0) := (blk_cell BK588.out 4).trans rfl; have hcz9_5 : w8.cell? ⟨gb588, 5, none⟩ = some (.string (⟨#[]⟩ : ByteArray)) := (blk_cell BK588.out 5).trans rfl; have hcz9_6 : w8.cell? ⟨gb588, 6, none⟩ = some (.string (⟨#[]⟩ : ByteArray)) := (blk_cell BK588.out 6).trans rfl; have hcz9_7 : w8.cell? ⟨gb588, 7, none⟩ = some (.slice none 0 0) := (blk_cell BK588.out 7).trans rfl; have hcz9_8 : w8.cell? ⟨gb588, 8, none⟩ = some (.int .i64 0) := (blk_cell BK588.out 8).trans rfl; have hfz9_0 := blk_frozen BK588.out 0; have hfz9_1 := blk_frozen BK588.out 1; have hfz9_2 := blk_frozen BK588.out 2; have hfz9_3 := blk_frozen BK588.out 3; have hfz9_4 := blk_frozen BK588.out 4; have hfz9_5 := blk_frozen BK588.out 5; have hfz9_6 := blk_frozen BK588.out 6; have hfz9_7 := blk_frozen BK588.out 7; have hfz9_8 := blk_frozen BK588.out 8))
                  go_ret
                  exact ⟨by first | rfl | (simp [errW_none, errW_some] <;> rfl) | (simp [*, errW_none, errW_some] <;> rfl), by repeat (first | (with_reducible first | exact HB.out | apply below_alloc | apply pw_below_drewN | apply below_drew1 | refine below_set ?_ GE588.out) | exact HB.out)⟩
                · rw [if_neg c7] at H
                  have c7b0 : decide (((rd_T76 l0 x3_1).f0) < 1) = false := decide_eq_false c7
                  clear c7
                  by_cases c10 : ((rd_T76 l0 x3_1).f0) > 8
                  · rw [if_pos c10] at H
                    have c10b0 : decide (8 < ((rd_T76 l0 x3_1).f0)) = true := decide_eq_true c10
                    clear c10
                    obtain rfl := Option.some.inj H
                    have p587 : 0 ≤ (x3_1 : Int) := of_decide_eq_true (by first | (with_reducible assumption) | assumption)
                    have q587 : x3_1 < (l0.length : Int) := of_decide_eq_true (by first | (with_reducible assumption) | assumption)
                    obtain ⟨ad587, A587_4, c587_4, A587_7, c587_7, e587, hx587_0, hx587_1, hx587_2, hx587_3, hx587_4, hx587_5, hx587_6, hx587_7, hx587_8, hl587_4, hi587_4, hl587_7, hi587_7⟩ := at_T76 HR0.out x3_1 p587 q587
                    cases e587
                    replace hx587_0 := (HB.out.cell (World.block_lt_of_cell? w _ hx587_0)).trans hx587_0
                    replace hx587_1 := (HB.out.cell (World.block_lt_of_cell? w _ hx587_1)).trans hx587_1
                    replace hx587_2 := (HB.out.cell (World.block_lt_of_cell? w _ hx587_2)).trans hx587_2
                    replace hx587_3 := (HB.out.cell (World.block_lt_of_cell? w _ hx587_3)).trans hx587_3
                    replace hx587_4 := (HB.out.cell (World.block_lt_of_cell? w _ hx587_4)).trans hx587_4
                    replace hx587_5 := (HB.out.cell (World.block_lt_of_cell? w _ hx587_5)).trans hx587_5
                    replace hx587_6 := (HB.out.cell (World.block_lt_of_cell? w _ hx587_6)).trans hx587_6
                    replace hx587_7 := (HB.out.cell (World.block_lt_of_cell? w _ hx587_7)).trans hx587_7
                    replace hx587_8 := (HB.out.cell (World.block_lt_of_cell? w _ hx587_8)).trans hx587_8
                    have HR587_4 := Aside0.mk hi587_4
                    have HC587_4 := Aside0.mk hl587_4
                    clear hi587_4 hl587_4
                    have HR587_7 := Aside0.mk hi587_7
                    have HC587_7 := Aside0.mk hl587_7
                    clear hi587_7 hl587_7
                    replace p587 := eq_true p587
                    replace q587 := eq_true q587
                    go_wp2_with (first | ((with_reducible refine gate_dst (N := 4) rfl ?_); (try (refine gate_guard (by rfl) ?_; dsimp only)); refine box_event ?hg (N := 4) ?hd (cs := #[.int .i64 0, .string (⟨#[]⟩ : ByteArray), .int .i64 0, .int .i64 0, .slice none 0 0, .string (⟨#[]⟩ : ByteArray), .string (⟨#[]⟩ : ByteArray), .slice none 0 0, .int .i64 0]) (t := 76) ?hr ?_; (case hd => rfl); (case hg => rfl); (case hr => first | (go_simp; done) | (go_simp; rfl)); intro gb588 hg w11 hbox hb; have n0_ := Aside0.mk (below_step (by repeat (first | (with_reducible first | exact HB.out | apply below_alloc | apply pw_below_drewN | apply below_drew1) | exact HB.out)) hb); have n1_ := Aside0.mk (hbox); have n2_ := Aside0.mk ((by rw [hg]; exact (below_size (by repeat (first | (with_reducible first | exact HB.out | apply below_alloc | apply pw_below_drewN | apply below_drew1) | exact HB.out))) : w.heap.size ≤ gb588)); have n3_ := Aside0.mk ((by rw [hg]; exact (below_size (by repeat (first | (with_reducible first | exact HB.out | apply below_alloc | apply pw_below_drewN | apply below_drew1) | exact HB.out))) : w.heap.size ≤ gb588)); clear HB; have HB := n0_; have BK588 := n1_; have GW588 := n2_; have GE588 := n3_; clear n0_ n1_ n2_ n3_; clear hb hbox hg; have hcz12_0 : w11.cell? ⟨gb588, 0, none⟩ = some (.int .i64 0) := (blk_cell BK588.out 0).trans rfl; have hcz12_1 : w11.cell? ⟨gb588, 1, none⟩ = some (.string (⟨#[]⟩ : ByteArray)) := (blk_cell BK588.out 1).trans rfl; have hcz12_2 : w11.cell? ⟨gb588, 2, none⟩ = some (.int .i64 0) := (blk_cell BK588.out 2).trans rfl; have hcz12_3 : w11.cell? ⟨gb588, 3, none⟩ = some (.int .i64 0) := (blk_cell BK588.out 3).trans rfl; have hcz12_4 : w11.cell? ⟨gb588, 4, none⟩ = some (.slice none 0 0) := (blk_cell BK588.out 4).trans rfl; have hcz12_5 : w11.cell? ⟨gb588, 5, none⟩ = some (.string (⟨#[]⟩ : ByteArray)) := (blk_cell BK588.out 5).trans rfl; have hcz12_6 : w11.cell? ⟨gb588, 6, none⟩ = some (.string (⟨#[]⟩ : ByteArray)) := (blk_cell BK588.out 6).trans rfl; have hcz12_7 : w11.cell? ⟨gb588, 7, none⟩ = some (.slice none 0 0) := (blk_cell BK588.out 7).trans rfl; have hcz12_8 : w11.cell? ⟨gb588, 8, none⟩ = some (.int .i64 0) := (blk_cell BK588.out 8).trans rfl; have hfz12_0 := blk_frozen BK588.out 0; have hfz12_1 := blk_frozen BK588.out 1; have hfz12_2 := blk_frozen BK588.out 2; have hfz12_3 := blk_frozen BK588.out 3; have hfz12_4 := blk_frozen BK588.out 4; have hfz12_5 := blk_frozen BK588.out 5; have hfz12_6 := blk_frozen BK588.out 6; have hfz12_7 := blk_frozen BK588.out 7; have hfz12_8 := blk_frozen BK588.out 8))
                    go_ret
                    exact ⟨by first | rfl | (simp [errW_none, errW_some] <;> rfl) | (simp [*, errW_none, errW_some] <;> rfl), by repeat (first | (with_reducible first | exact HB.out | apply below_alloc | apply pw_below_drewN | apply below_drew1 | refine below_set ?_ GE588.out) | exact HB.out)⟩
                  · rw [if_neg c10] at H
                    have c10b0 : decide (8 < ((rd_T76 l0 x3_1).f0)) = false := decide_eq_false c10
                    clear c10
                    by_cases c13 : (((rd_T76 l0 x3_1).f1.f0).size : Int) > 60
                    · rw [if_pos c13] at H
                      have c13b0 : decide (60 < (((rd_T76 l0 x3_1).f1.f0).size : Int)) = true := decide_eq_true c13
                      have c13b1 : decide (60 < ((rd_T76 l0 x3_1).f1.f0).size) = true := decide_eq_true (by omega)
                      clear c13
                      obtain rfl := Option.some.inj H
                      have p587 : 0 ≤ (x3_1 : Int) := of_decide_eq_true (by first | (with_reducible assumption) | assumption)
                      have q587 : x3_1 < (l0.length : Int) := of_decide_eq_true (by first | (with_reducible assumption) | assumption)
                      obtain ⟨ad587, A587_4, c587_4, A587_7, c587_7, e587, hx587_0, hx587_1, hx587_2, hx587_3, hx587_4, hx587_5, hx587_6, hx587_7, hx587_8, hl587_4, hi587_4, hl587_7, hi587_7⟩ := at_T76 HR0.out x3_1 p587 q587
                      cases e587
                      replace hx587_0 := (HB.out.cell (World.block_lt_of_cell? w _ hx587_0)).trans hx587_0
                      replace hx587_1 := (HB.out.cell (World.block_lt_of_cell? w _ hx587_1)).trans hx587_1
                      replace hx587_2 := (HB.out.cell (World.block_lt_of_cell? w _ hx587_2)).trans hx587_2
                      replace hx587_3 := (HB.out.cell (World.block_lt_of_cell? w _ hx587_3)).trans hx587_3
                      replace hx587_4 := (HB.out.cell (World.block_lt_of_cell? w _ hx587_4)).trans hx587_4
                      replace hx587_5 := (HB.out.cell (World.block_lt_of_cell? w _ hx587_5)).trans hx587_5
                      replace hx587_6 := (HB.out.cell (World.block_lt_of_cell? w _ hx587_6)).trans hx587_6
                      replace hx587_7 := (HB.out.cell (World.block_lt_of_cell? w _ hx587_7)).trans hx587_7
                      replace hx587_8 := (HB.out.cell (World.block_lt_of_cell? w _ hx587_8)).trans hx587_8
                      have HR587_4 := Aside0.mk hi587_4
                      have HC587_4 := Aside0.mk hl587_4
                      clear hi587_4 hl587_4
                      have HR587_7 := Aside0.mk hi587_7
                      have HC587_7 := Aside0.mk hl587_7
                      clear hi587_7 hl587_7
                      replace p587 := eq_true p587
                      replace q587 := eq_true q587
                      go_wp2_with (first | ((with_reducible refine gate_dst (N := 4) rfl ?_); (try (refine gate_guard (by rfl) ?_; dsimp only)); refine box_event ?hg (N := 4) ?hd (cs := #[.int .i64 0, .string (⟨#[]⟩ : ByteArray), .int .i64 0, .int .i64 0, .slice none 0 0, .string (⟨#[]⟩ : ByteArray), .string (⟨#[]⟩ : ByteArray), .slice none 0 0, .int .i64 0]) (t := 76) ?hr ?_; (case hd => rfl); (case hg => rfl); (case hr => first | (go_simp; done) | (go_simp; rfl)); intro gb588 hg w14 hbox hb; have n0_ := Aside0.mk (below_step (by repeat (first | (with_reducible first | exact HB.out | apply below_alloc | apply pw_below_drewN | apply below_drew1) | exact HB.out)) hb); have n1_ := Aside0.mk (hbox); have n2_ := Aside0.mk ((by rw [hg]; exact (below_size (by repeat (first | (with_reducible first | exact HB.out | apply below_alloc | apply pw_below_drewN | apply below_drew1) | exact HB.out))) : w.heap.size ≤ gb588)); have n3_ := Aside0.mk ((by rw [hg]; exact (below_size (by repeat (first | (with_reducible first | exact HB.out | apply below_alloc | apply pw_below_drewN | apply below_drew1) | exact HB.out))) : w.heap.size ≤ gb588)); clear HB; have HB := n0_; have BK588 := n1_; have GW588 := n2_; have GE588 := n3_; clear n0_ n1_ n2_ n3_; clear hb hbox hg; have hcz15_0 : w14.cell? ⟨gb588, 0, none⟩ = some (.int .i64 0) := (blk_cell BK588.out 0).trans rfl; have hcz15_1 : w14.cell? ⟨gb588, 1, none⟩ = some (.string (⟨#[]⟩ : ByteArray)) := (blk_cell BK588.out 1).trans rfl; have hcz15_2 : w14.cell? ⟨gb588, 2, none⟩ = some (.int .i64 0) := (blk_cell BK588.out 2).trans rfl; have hcz15_3 : w14.cell? ⟨gb588, 3, none⟩ = some (.int .i64 0) := (blk_cell BK588.out 3).trans rfl; have hcz15_4 : w14.cell? ⟨gb588, 4, none⟩ = some (.slice none 0 0) := (blk_cell BK588.out 4).trans rfl; have hcz15_5 : w14.cell? ⟨gb588, 5, none⟩ = some (.string (⟨#[]⟩ : ByteArray)) := (blk_cell BK588.out 5).trans rfl; have hcz15_6 : w14.cell? ⟨gb588, 6, none⟩ = some (.string (⟨#[]⟩ : ByteArray)) := (blk_cell BK588.out 6).trans rfl; have hcz15_7 : w14.cell? ⟨gb588, 7, none⟩ = some (.slice none 0 0) := (blk_cell BK588.out 7).trans rfl; have hcz15_8 : w14.cell? ⟨gb588, 8, none⟩ = some (.int .i64 0) := (blk_cell BK588.out 8).trans rfl; have hfz15_0 := blk_frozen BK588.out 0; have hfz15_1 := blk_frozen BK588.out 1; have hfz15_2 := blk_frozen BK588.out 2; have hfz15_3 := blk_frozen BK588.out 3; have hfz15_4 := blk_frozen BK588.out 4; have hfz15_5 := blk_frozen BK588.out 5; have hfz15_6 := blk_frozen BK588.out 6; have hfz15_7 := blk_frozen BK588.out 7; have hfz15_8 := blk_frozen BK588.out 8))
                      go_ret
                      exact ⟨by first | rfl | (simp [errW_none, errW_some] <;> rfl) | (simp [*, errW_none, errW_some] <;> rfl), by repeat (first | (with_reducible first | exact HB.out | apply below_alloc | apply pw_below_drewN | apply below_drew1 | refine below_set ?_ GE588.out) | exact HB.out)⟩
                    · rw [if_neg c13] at H
                      have c13b0 : decide (60 < (((rd_T76 l0 x3_1).f1.f0).size : Int)) = false := decide_eq_false c13
                      have c13b1 : decide (60 < ((rd_T76 l0 x3_1).f1.f0).size) = false := decide_eq_false (by omega)
                      clear c13
                      by_cases c16 : (((rd_T76 l0 x3_1).f1.f3).length : Int) > 300
                      · rw [if_pos c16] at H
                        have c16b0 : decide (300 < (((rd_T76 l0 x3_1).f1.f3).length : Int)) = true := decide_eq_true c16
                        have c16b1 : decide (300 < ((rd_T76 l0 x3_1).f1.f3).length) = true := decide_eq_true (by omega)
                        clear c16
                        obtain rfl := Option.some.inj H
                        have p587 : 0 ≤ (x3_1 : Int) := of_decide_eq_true (by first | (with_reducible assumption) | assumption)
                        have q587 : x3_1 < (l0.length : Int) := of_decide_eq_true (by first | (with_reducible assumption) | assumption)
                        obtain ⟨ad587, A587_4, c587_4, A587_7, c587_7, e587, hx587_0, hx587_1, hx587_2, hx587_3, hx587_4, hx587_5, hx587_6, hx587_7, hx587_8, hl587_4, hi587_4, hl587_7, hi587_7⟩ := at_T76 HR0.out x3_1 p587 q587
                        cases e587
                        replace hx587_0 := (HB.out.cell (World.block_lt_of_cell? w _ hx587_0)).trans hx587_0
                        replace hx587_1 := (HB.out.cell (World.block_lt_of_cell? w _ hx587_1)).trans hx587_1
                        replace hx587_2 := (HB.out.cell (World.block_lt_of_cell? w _ hx587_2)).trans hx587_2
                        replace hx587_3 := (HB.out.cell (World.block_lt_of_cell? w _ hx587_3)).trans hx587_3
                        replace hx587_4 := (HB.out.cell (World.block_lt_of_cell? w _ hx587_4)).trans hx587_4
                        replace hx587_5 := (HB.out.cell (World.block_lt_of_cell? w _ hx587_5)).trans hx587_5
                        replace hx587_6 := (HB.out.cell (World.block_lt_of_cell? w _ hx587_6)).trans hx587_6
                        replace hx587_7 := (HB.out.cell (World.block_lt_of_cell? w _ hx587_7)).trans hx587_7
                        replace hx587_8 := (HB.out.cell (World.block_lt_of_cell? w _ hx587_8)).trans hx587_8
                        have HR587_4 := Aside0.mk hi587_4
                        have HC587_4 := Aside0.mk hl587_4
                        clear hi587_4 hl587_4
                        have HR587_7 := Aside0.mk hi587_7
                        have HC587_7 := Aside0.mk hl587_7
                        clear hi587_7 hl587_7
                        replace p587 := eq_true p587
                        replace q587 := eq_true q587
                        go_wp2_with (first | ((with_reducible refine gate_dst (N := 4) rfl ?_); (try (refine gate_guard (by rfl) ?_; dsimp only)); refine box_event ?hg (N := 4) ?hd (cs := #[.int .i64 0, .string (⟨#[]⟩ : ByteArray), .int .i64 0, .int .i64 0, .slice none 0 0, .string (⟨#[]⟩ : ByteArray), .string (⟨#[]⟩ : ByteArray), .slice none 0 0, .int .i64 0]) (t := 76) ?hr ?_; (case hd => rfl); (case hg => rfl); (case hr => first | (go_simp; done) | (go_simp; rfl)); intro gb588 hg w17 hbox hb; have n0_ := Aside0.mk (below_step (by repeat (first | (with_reducible first | exact HB.out | apply below_alloc | apply pw_below_drewN | apply below_drew1) | exact HB.out)) hb); have n1_ := Aside0.mk (hbox); have n2_ := Aside0.mk ((by rw [hg]; exact (below_size (by repeat (first | (with_reducible first | exact HB.out | apply below_alloc | apply pw_below_drewN | apply below_drew1) | exact HB.out))) : w.heap.size ≤ gb588)); have n3_ := Aside0.mk ((by rw [hg]; exact (below_size (by repeat (first | (with_reducible first | exact HB.out | apply below_alloc | apply pw_below_drewN | apply below_drew1) | exact HB.out))) : w.heap.size ≤ gb588)); clear HB; have HB := n0_; have BK588 := n1_; have GW588 := n2_; have GE588 := n3_; clear n0_ n1_ n2_ n3_; clear hb hbox hg; have hcz18_0 : w17.cell? ⟨gb588, 0, none⟩ = some (.int .i64 0) := (blk_cell BK588.out 0).trans rfl; have hcz18_1 : w17.cell? ⟨gb588, 1, none⟩ = some (.string (⟨#[]⟩ : ByteArray)) := (blk_cell BK588.out 1).trans rfl; have hcz18_2 : w17.cell? ⟨gb588, 2, none⟩ = some (.int .i64 0) := (blk_cell BK588.out 2).trans rfl; have hcz18_3 : w17.cell? ⟨gb588, 3, none⟩ = some (.int .i64 0) := (blk_cell BK588.out 3).trans rfl; have hcz18_4 : w17.cell? ⟨gb588, 4, none⟩ = some (.slice none 0 0) := (blk_cell BK588.out 4).trans rfl; have hcz18_5 : w17.cell? ⟨gb588, 5, none⟩ = some (.string (⟨#[]⟩ : ByteArray)) := (blk_cell BK588.out 5).trans rfl; have hcz18_6 : w17.cell? ⟨gb588, 6, none⟩ = some (.string (⟨#[]⟩ : ByteArray)) := (blk_cell BK588.out 6).trans rfl; have hcz18_7 : w17.cell? ⟨gb588, 7, none⟩ = some (.slice none 0 0) := (blk_cell BK588.out 7).trans rfl; have hcz18_8 : w17.cell? ⟨gb588, 8, none⟩ = some (.int .i64 0) := (blk_cell BK588.out 8).trans rfl; have hfz18_0 := blk_frozen BK588.out 0; have hfz18_1 := blk_frozen BK588.out 1; have hfz18_2 := blk_frozen BK588.out 2; have hfz18_3 := blk_frozen BK588.out 3; have hfz18_4 := blk_frozen BK588.out 4; have hfz18_5 := blk_frozen BK588.out 5; have hfz18_6 := blk_frozen BK588.out 6; have hfz18_7 := blk_frozen BK588.out 7; have hfz18_8 := blk_frozen BK588.out 8))
                        go_ret
                        exact ⟨by first | rfl | (simp [errW_none, errW_some] <;> rfl) | (simp [*, errW_none, errW_some] <;> rfl), by repeat (first | (with_reducible first | exact HB.out | apply below_alloc | apply pw_below_drewN | apply below_drew1 | refine below_set ?_ GE588.out) | exact HB.out)⟩
                      · rw [if_neg c16] at H
                        have c16b0 : decide (300 < (((rd_T76 l0 x3_1).f1.f3).length : Int)) = false := decide_eq_false c16
                        have c16b1 : decide (300 < ((rd_T76 l0 x3_1).f1.f3).length) = false := decide_eq_false (by omega)
                        clear c16
                        by_cases c19 : (((rd_T76 l0 x3_1).f2).size : Int) > 60
                        · rw [if_pos c19] at H
                          have c19b0 : decide (60 < (((rd_T76 l0 x3_1).f2).size : Int)) = true := decide_eq_true c19
                          have c19b1 : decide (60 < ((rd_T76 l0 x3_1).f2).size) = true := decide_eq_true (by omega)
                          clear c19
                          obtain rfl := Option.some.inj H
                          have p587 : 0 ≤ (x3_1 : Int) := of_decide_eq_true (by first | (with_reducible assumption) | assumption)
                          have q587 : x3_1 < (l0.length : Int) := of_decide_eq_true (by first | (with_reducible assumption) | assumption)
                          obtain ⟨ad587, A587_4, c587_4, A587_7, c587_7, e587, hx587_0, hx587_1, hx587_2, hx587_3, hx587_4, hx587_5, hx587_6, hx587_7, hx587_8, hl587_4, hi587_4, hl587_7, hi587_7⟩ := at_T76 HR0.out x3_1 p587 q587
                          cases e587
                          replace hx587_0 := (HB.out.cell (World.block_lt_of_cell? w _ hx587_0)).trans hx587_0
                          replace hx587_1 := (HB.out.cell (World.block_lt_of_cell? w _ hx587_1)).trans hx587_1
                          replace hx587_2 := (HB.out.cell (World.block_lt_of_cell? w _ hx587_2)).trans hx587_2
                          replace hx587_3 := (HB.out.cell (World.block_lt_of_cell? w _ hx587_3)).trans hx587_3
                          replace hx587_4 := (HB.out.cell (World.block_lt_of_cell? w _ hx587_4)).trans hx587_4
                          replace hx587_5 := (HB.out.cell (World.block_lt_of_cell? w _ hx587_5)).trans hx587_5
                          replace hx587_6 := (HB.out.cell (World.block_lt_of_cell? w _ hx587_6)).trans hx587_6
                          replace hx587_7 := (HB.out.cell (World.block_lt_of_cell? w _ hx587_7)).trans hx587_7
                          replace hx587_8 := (HB.out.cell (World.block_lt_of_cell? w _ hx587_8)).trans hx587_8
                          have HR587_4 := Aside0.mk hi587_4
                          have HC587_4 := Aside0.mk hl587_4
                          clear hi587_4 hl587_4
                          have HR587_7 := Aside0.mk hi587_7
                          have HC587_7 := Aside0.mk hl587_7
                          clear hi587_7 hl587_7
                          replace p587 := eq_true p587
                          replace q587 := eq_true q587
                          go_wp2_with (first | ((with_reducible refine gate_dst (N := 4) rfl ?_); (try (refine gate_guard (by rfl) ?_; dsimp only)); refine box_event ?hg (N := 4) ?hd (cs := #[.int .i64 0, .string (⟨#[]⟩ : ByteArray), .int .i64 0, .int .i64 0, .slice none 0 0, .string (⟨#[]⟩ : ByteArray), .string (⟨#[]⟩ : ByteArray), .slice none 0 0, .int .i64 0]) (t := 76) ?hr ?_; (case hd => rfl); (case hg => rfl); (case hr => first | (go_simp; done) | (go_simp; rfl)); intro gb588 hg w20 hbox hb; have n0_ := Aside0.mk (below_step (by repeat (first | (with_reducible first | exact HB.out | apply below_alloc | apply pw_below_drewN | apply below_drew1) | exact HB.out)) hb); have n1_ := Aside0.mk (hbox); have n2_ := Aside0.mk ((by rw [hg]; exact (below_size (by repeat (first | (with_reducible first | exact HB.out | apply below_alloc | apply pw_below_drewN | apply below_drew1) | exact HB.out))) : w.heap.size ≤ gb588)); have n3_ := Aside0.mk ((by rw [hg]; exact (below_size (by repeat (first | (with_reducible first | exact HB.out | apply below_alloc | apply pw_below_drewN | apply below_drew1) | exact HB.out))) : w.heap.size ≤ gb588)); clear HB; have HB := n0_; have BK588 := n1_; have GW588 := n2_; have GE588 := n3_; clear n0_ n1_ n2_ n3_; clear hb hbox hg; have hcz21_0 : w20.cell? ⟨gb588, 0, none⟩ = some (.int .i64 0) := (blk_cell BK588.out 0).trans rfl; have hcz21_1 : w20.cell? ⟨gb588, 1, none⟩ = some (.string (⟨#[]⟩ : ByteArray)) := (blk_cell BK588.out 1).trans rfl; have hcz21_2 : w20.cell? ⟨gb588, 2, none⟩ = some (.int .i64 0) := (blk_cell BK588.out 2).trans rfl; have hcz21_3 : w20.cell? ⟨gb588, 3, none⟩ = some (.int .i64 0) := (blk_cell BK588.out 3).trans rfl; have hcz21_4 : w20.cell? ⟨gb588, 4, none⟩ = some (.slice none 0 0) := (blk_cell BK588.out 4).trans rfl; have hcz21_5 : w20.cell? ⟨gb588, 5, none⟩ = some (.string (⟨#[]⟩ : ByteArray)) := (blk_cell BK588.out 5).trans rfl; have hcz21_6 : w20.cell? ⟨gb588, 6, none⟩ = some (.string (⟨#[]⟩ : ByteArray)) := (blk_cell BK588.out 6).trans rfl; have hcz21_7 : w20.cell? ⟨gb588, 7, none⟩ = some (.slice none 0 0) := (blk_cell BK588.out 7).trans rfl; have hcz21_8 : w20.cell? ⟨gb588, 8, none⟩ = some (.int .i64 0) := (blk_cell BK588.out 8).trans rfl; have hfz21_0 := blk_frozen BK588.out 0; have hfz21_1 := blk_frozen BK588.out 1; have hfz21_2 := blk_frozen BK588.out 2; have hfz21_3 := blk_frozen BK588.out 3; have hfz21_4 := blk_frozen BK588.out 4; have hfz21_5 := blk_frozen BK588.out 5; have hfz21_6 := blk_frozen BK588.out 6; have hfz21_7 := blk_frozen BK588.out 7; have hfz21_8 := blk_frozen BK588.out 8))
                          go_ret
                          exact ⟨by first | rfl | (simp [errW_none, errW_some] <;> rfl) | (simp [*, errW_none, errW_some] <;> rfl), by repeat (first | (with_reducible first | exact HB.out | apply below_alloc | apply pw_below_drewN | apply below_drew1 | refine below_set ?_ GE588.out) | exact HB.out)⟩
                        · rw [if_neg c19] at H
                          have c19b0 : decide (60 < (((rd_T76 l0 x3_1).f2).size : Int)) = false := decide_eq_false c19
                          have c19b1 : decide (60 < ((rd_T76 l0 x3_1).f2).size) = false := decide_eq_false (by omega)
                          clear c19
                          by_cases c22 : (((rd_T76 l0 x3_1).f3).size : Int) > 60
                          · rw [if_pos c22] at H
                            have c22b0 : decide (60 < (((rd_T76 l0 x3_1).f3).size : Int)) = true := decide_eq_true c22
                            have c22b1 : decide (60 < ((rd_T76 l0 x3_1).f3).size) = true := decide_eq_true (by omega)
                            clear c22
                            obtain rfl := Option.some.inj H
                            have p587 : 0 ≤ (x3_1 : Int) := of_decide_eq_true (by first | (with_reducible assumption) | assumption)
                            have q587 : x3_1 < (l0.length : Int) := of_decide_eq_true (by first | (with_reducible assumption) | assumption)
                            obtain ⟨ad587, A587_4, c587_4, A587_7, c587_7, e587, hx587_0, hx587_1, hx587_2, hx587_3, hx587_4, hx587_5, hx587_6, hx587_7, hx587_8, hl587_4, hi587_4, hl587_7, hi587_7⟩ := at_T76 HR0.out x3_1 p587 q587
                            cases e587
                            replace hx587_0 := (HB.out.cell (World.block_lt_of_cell? w _ hx587_0)).trans hx587_0
                            replace hx587_1 := (HB.out.cell (World.block_lt_of_cell? w _ hx587_1)).trans hx587_1
                            replace hx587_2 := (HB.out.cell (World.block_lt_of_cell? w _ hx587_2)).trans hx587_2
                            replace hx587_3 := (HB.out.cell (World.block_lt_of_cell? w _ hx587_3)).trans hx587_3
                            replace hx587_4 := (HB.out.cell (World.block_lt_of_cell? w _ hx587_4)).trans hx587_4
                            replace hx587_5 := (HB.out.cell (World.block_lt_of_cell? w _ hx587_5)).trans hx587_5
                            replace hx587_6 := (HB.out.cell (World.block_lt_of_cell? w _ hx587_6)).trans hx587_6
                            replace hx587_7 := (HB.out.cell (World.block_lt_of_cell? w _ hx587_7)).trans hx587_7
                            replace hx587_8 := (HB.out.cell (World.block_lt_of_cell? w _ hx587_8)).trans hx587_8
                            have HR587_4 := Aside0.mk hi587_4
                            have HC587_4 := Aside0.mk hl587_4
                            clear hi587_4 hl587_4
                            have HR587_7 := Aside0.mk hi587_7
                            have HC587_7 := Aside0.mk hl587_7
                            clear hi587_7 hl587_7
                            replace p587 := eq_true p587
                            replace q587 := eq_true q587
                            go_wp2_with (first | ((with_reducible refine gate_dst (N := 4) rfl ?_); (try (refine gate_guard (by rfl) ?_; dsimp only)); refine box_event ?hg (N := 4) ?hd (cs := #[.int .i64 0, .string (⟨#[]⟩ : ByteArray), .int .i64 0, .int .i64 0, .slice none 0 0, .string (⟨#[]⟩ : ByteArray), .string (⟨#[]⟩ : ByteArray), .slice none 0 0, .int .i64 0]) (t := 76) ?hr ?_; (case hd => rfl); (case hg => rfl); (case hr => first | (go_simp; done) | (go_simp; rfl)); intro gb588 hg w23 hbox hb; have n0_ := Aside0.mk (below_step (by repeat (first | (with_reducible first | exact HB.out | apply below_alloc | apply pw_below_drewN | apply below_drew1) | exact HB.out)) hb); have n1_ := Aside0.mk (hbox); have n2_ := Aside0.mk ((by rw [hg]; exact (below_size (by repeat (first | (with_reducible first | exact HB.out | apply below_alloc | apply pw_below_drewN | apply below_drew1) | exact HB.out))) : w.heap.size ≤ gb588)); have n3_ := Aside0.mk ((by rw [hg]; exact (below_size (by repeat (first | (with_reducible first | exact HB.out | apply below_alloc | apply pw_below_drewN | apply below_drew1) | exact HB.out))) : w.heap.size ≤ gb588)); clear HB; have HB := n0_; have BK588 := n1_; have GW588 := n2_; have GE588 := n3_; clear n0_ n1_ n2_ n3_; clear hb hbox hg; have hcz24_0 : w23.cell? ⟨gb588, 0, none⟩ = some (.int .i64 0) := (blk_cell BK588.out 0).trans rfl; have hcz24_1 : w23.cell? ⟨gb588, 1, none⟩ = some (.string (⟨#[]⟩ : ByteArray)) := (blk_cell BK588.out 1).trans rfl; have hcz24_2 : w23.cell? ⟨gb588, 2, none⟩ = some (.int .i64 0) := (blk_cell BK588.out 2).trans rfl; have hcz24_3 : w23.cell? ⟨gb588, 3, none⟩ = some (.int .i64 0) := (blk_cell BK588.out 3).trans rfl; have hcz24_4 : w23.cell? ⟨gb588, 4, none⟩ = some (.slice none 0 0) := (blk_cell BK588.out 4).trans rfl; have hcz24_5 : w23.cell? ⟨gb588, 5, none⟩ = some (.string (⟨#[]⟩ : ByteArray)) := (blk_cell BK588.out 5).trans rfl; have hcz24_6 : w23.cell? ⟨gb588, 6, none⟩ = some (.string (⟨#[]⟩ : ByteArray)) := (blk_cell BK588.out 6).trans rfl; have hcz24_7 : w23.cell? ⟨gb588, 7, none⟩ = some (.slice none 0 0) := (blk_cell BK588.out 7).trans rfl; have hcz24_8 : w23.cell? ⟨gb588, 8, none⟩ = some (.int .i64 0) := (blk_cell BK588.out 8).trans rfl; have hfz24_0 := blk_frozen BK588.out 0; have hfz24_1 := blk_frozen BK588.out 1; have hfz24_2 := blk_frozen BK588.out 2; have hfz24_3 := blk_frozen BK588.out 3; have hfz24_4 := blk_frozen BK588.out 4; have hfz24_5 := blk_frozen BK588.out 5; have hfz24_6 := blk_frozen BK588.out 6; have hfz24_7 := blk_frozen BK588.out 7; have hfz24_8 := blk_frozen BK588.out 8))
                            go_ret
                            exact ⟨by first | rfl | (simp [errW_none, errW_some] <;> rfl) | (simp [*, errW_none, errW_some] <;> rfl), by repeat (first | (with_reducible first | exact HB.out | apply below_alloc | apply pw_below_drewN | apply below_drew1 | refine below_set ?_ GE588.out) | exact HB.out)⟩
                          · rw [if_neg c22] at H
                            have c22b0 : decide (60 < (((rd_T76 l0 x3_1).f3).size : Int)) = false := decide_eq_false c22
                            have c22b1 : decide (60 < ((rd_T76 l0 x3_1).f3).size) = false := decide_eq_false (by omega)
                            clear c22
                            by_cases c25 : (((rd_T76 l0 x3_1).f4).length : Int) > 20
                            · rw [if_pos c25] at H
                              have c25b0 : decide (20 < (((rd_T76 l0 x3_1).f4).length : Int)) = true := decide_eq_true c25
                              have c25b1 : decide (20 < ((rd_T76 l0 x3_1).f4).length) = true := decide_eq_true (by omega)
                              clear c25
                              obtain rfl := Option.some.inj H
                              have p587 : 0 ≤ (x3_1 : Int) := of_decide_eq_true (by first | (with_reducible assumption) | assumption)
                              have q587 : x3_1 < (l0.length : Int) := of_decide_eq_true (by first | (with_reducible assumption) | assumption)
                              obtain ⟨ad587, A587_4, c587_4, A587_7, c587_7, e587, hx587_0, hx587_1, hx587_2, hx587_3, hx587_4, hx587_5, hx587_6, hx587_7, hx587_8, hl587_4, hi587_4, hl587_7, hi587_7⟩ := at_T76 HR0.out x3_1 p587 q587
                              cases e587
                              replace hx587_0 := (HB.out.cell (World.block_lt_of_cell? w _ hx587_0)).trans hx587_0
                              replace hx587_1 := (HB.out.cell (World.block_lt_of_cell? w _ hx587_1)).trans hx587_1
                              replace hx587_2 := (HB.out.cell (World.block_lt_of_cell? w _ hx587_2)).trans hx587_2
                              replace hx587_3 := (HB.out.cell (World.block_lt_of_cell? w _ hx587_3)).trans hx587_3
                              replace hx587_4 := (HB.out.cell (World.block_lt_of_cell? w _ hx587_4)).trans hx587_4
                              replace hx587_5 := (HB.out.cell (World.block_lt_of_cell? w _ hx587_5)).trans hx587_5
                              replace hx587_6 := (HB.out.cell (World.block_lt_of_cell? w _ hx587_6)).trans hx587_6
                              replace hx587_7 := (HB.out.cell (World.block_lt_of_cell? w _ hx587_7)).trans hx587_7
                              replace hx587_8 := (HB.out.cell (World.block_lt_of_cell? w _ hx587_8)).trans hx587_8
                              have HR587_4 := Aside0.mk hi587_4
                              have HC587_4 := Aside0.mk hl587_4
                              clear hi587_4 hl587_4
                              have HR587_7 := Aside0.mk hi587_7
                              have HC587_7 := Aside0.mk hl587_7
                              clear hi587_7 hl587_7
                              replace p587 := eq_true p587
                              replace q587 := eq_true q587
                              go_wp2_with (first | ((with_reducible refine gate_dst (N := 4) rfl ?_); (try (refine gate_guard (by rfl) ?_; dsimp only)); refine box_event ?hg (N := 4) ?hd (cs := #[.int .i64 0, .string (⟨#[]⟩ : ByteArray), .int .i64 0, .int .i64 0, .slice none 0 0, .string (⟨#[]⟩ : ByteArray), .string (⟨#[]⟩ : ByteArray), .slice none 0 0, .int .i64 0]) (t := 76) ?hr ?_; (case hd => rfl); (case hg => rfl); (case hr => first | (go_simp; done) | (go_simp; rfl)); intro gb588 hg w26 hbox hb; have n0_ := Aside0.mk (below_step (by repeat (first | (with_reducible first | exact HB.out | apply below_alloc | apply pw_below_drewN | apply below_drew1) | exact HB.out)) hb); have n1_ := Aside0.mk (hbox); have n2_ := Aside0.mk ((by rw [hg]; exact (below_size (by repeat (first | (with_reducible first | exact HB.out | apply below_alloc | apply pw_below_drewN | apply below_drew1) | exact HB.out))) : w.heap.size ≤ gb588)); have n3_ := Aside0.mk ((by rw [hg]; exact (below_size (by repeat (first | (with_reducible first | exact HB.out | apply below_alloc | apply pw_below_drewN | apply below_drew1) | exact HB.out))) : w.heap.size ≤ gb588)); clear HB; have HB := n0_; have BK588 := n1_; have GW588 := n2_; have GE588 := n3_; clear n0_ n1_ n2_ n3_; clear hb hbox hg; have hcz27_0 : w26.cell? ⟨gb588, 0, none⟩ = some (.int .i64 0) := (blk_cell BK588.out 0).trans rfl; have hcz27_1 : w26.cell? ⟨gb588, 1, none⟩ = some (.string (⟨#[]⟩ : ByteArray)) := (blk_cell BK588.out 1).trans rfl; have hcz27_2 : w26.cell? ⟨gb588, 2, none⟩ = some (.int .i64 0) := (blk_cell BK588.out 2).trans rfl; have hcz27_3 : w26.cell? ⟨gb588, 3, none⟩ = some (.int .i64 0) := (blk_cell BK588.out 3).trans rfl; have hcz27_4 : w26.cell? ⟨gb588, 4, none⟩ = some (.slice none 0 0) := (blk_cell BK588.out 4).trans rfl; have hcz27_5 : w26.cell? ⟨gb588, 5, none⟩ = some (.string (⟨#[]⟩ : ByteArray)) := (blk_cell BK588.out 5).trans rfl; have hcz27_6 : w26.cell? ⟨gb588, 6, none⟩ = some (.string (⟨#[]⟩ : ByteArray)) := (blk_cell BK588.out 6).trans rfl; have hcz27_7 : w26.cell? ⟨gb588, 7, none⟩ = some (.slice none 0 0) := (blk_cell BK588.out 7).trans rfl; have hcz27_8 : w26.cell? ⟨gb588, 8, none⟩ = some (.int .i64 0) := (blk_cell BK588.out 8).trans rfl; have hfz27_0 := blk_frozen BK588.out 0; have hfz27_1 := blk_frozen BK588.out 1; have hfz27_2 := blk_frozen BK588.out 2; have hfz27_3 := blk_frozen BK588.out 3; have hfz27_4 := blk_frozen BK588.out 4; have hfz27_5 := blk_frozen BK588.out 5; have hfz27_6 := blk_frozen BK588.out 6; have hfz27_7 := blk_frozen BK588.out 7; have hfz27_8 := blk_frozen BK588.out 8))
                              go_ret
                              exact ⟨by first | rfl | (simp [errW_none, errW_some] <;> rfl) | (simp [*, errW_none, errW_some] <;> rfl), by repeat (first | (with_reducible first | exact HB.out | apply below_alloc | apply pw_below_drewN | apply below_drew1 | refine below_set ?_ GE588.out) | exact HB.out)⟩
                            · rw [if_neg c25] at H
                              have c25b0 : decide (20 < (((rd_T76 l0 x3_1).f4).length : Int)) = false := decide_eq_false c25
                              have c25b1 : decide (20 < ((rd_T76 l0 x3_1).f4).length) = false := decide_eq_false (by omega)
                              clear c25
                              have H' := Aside0.mk H
                              clear H
                              have p587 : 0 ≤ (x3_1 : Int) := of_decide_eq_true (by first | (with_reducible assumption) | assumption)
                              have q587 : x3_1 < (l0.length : Int) := of_decide_eq_true (by first | (with_reducible assumption) | assumption)
                              obtain ⟨ad587, A587_4, c587_4, A587_7, c587_7, e587, hx587_0, hx587_1, hx587_2, hx587_3, hx587_4, hx587_5, hx587_6, hx587_7, hx587_8, hl587_4, hi587_4, hl587_7, hi587_7⟩ := at_T76 HR0.out x3_1 p587 q587
                              cases e587
                              replace hx587_0 := (HB.out.cell (World.block_lt_of_cell? w _ hx587_0)).trans hx587_0
                              replace hx587_1 := (HB.out.cell (World.block_lt_of_cell? w _ hx587_1)).trans hx587_1
                              replace hx587_2 := (HB.out.cell (World.block_lt_of_cell? w _ hx587_2)).trans hx587_2
                              replace hx587_3 := (HB.out.cell (World.block_lt_of_cell? w _ hx587_3)).trans hx587_3
                              replace hx587_4 := (HB.out.cell (World.block_lt_of_cell? w _ hx587_4)).trans hx587_4
                              replace hx587_5 := (HB.out.cell (World.block_lt_of_cell? w _ hx587_5)).trans hx587_5
                              replace hx587_6 := (HB.out.cell (World.block_lt_of_cell? w _ hx587_6)).trans hx587_6
                              replace hx587_7 := (HB.out.cell (World.block_lt_of_cell? w _ hx587_7)).trans hx587_7
                              replace hx587_8 := (HB.out.cell (World.block_lt_of_cell? w _ hx587_8)).trans hx587_8
                              have HR587_4 := Aside0.mk hi587_4
                              have HC587_4 := Aside0.mk hl587_4
                              clear hi587_4 hl587_4
                              have HR587_7 := Aside0.mk hi587_7
                              have HC587_7 := Aside0.mk hl587_7
                              clear hi587_7 hl587_7
                              replace p587 := eq_true p587
                              replace q587 := eq_true q587
                              go_wp2_with (first | ((with_reducible refine gate_dst (N := 4) rfl ?_); (try (refine gate_guard (by rfl) ?_; dsimp only)); refine box_event ?hg (N := 4) ?hd (cs := #[.int .i64 0, .string (⟨#[]⟩ : ByteArray), .int .i64 0, .int .i64 0, .slice none 0 0, .string (⟨#[]⟩ : ByteArray), .string (⟨#[]⟩ : ByteArray), .slice none 0 0, .int .i64 0]) (t := 76) ?hr ?_; (case hd => rfl); (case hg => rfl); (case hr => first | (go_simp; done) | (go_simp; rfl)); intro gb588 hg w28 hbox hb; have n0_ := Aside0.mk (below_step (by repeat (first | (with_reducible first | exact HB.out | apply below_alloc | apply pw_below_drewN | apply below_drew1) | exact HB.out)) hb); have n1_ := Aside0.mk (hbox); have n2_ := Aside0.mk ((by rw [hg]; exact (below_size (by repeat (first | (with_reducible first | exact HB.out | apply below_alloc | apply pw_below_drewN | apply below_drew1) | exact HB.out))) : w.heap.size ≤ gb588)); have n3_ := Aside0.mk ((by rw [hg]; exact (below_size (by repeat (first | (with_reducible first | exact HB.out | apply below_alloc | apply pw_below_drewN | apply below_drew1) | exact HB.out))) : w.heap.size ≤ gb588)); clear HB; have HB := n0_; have BK588 := n1_; have GW588 := n2_; have GE588 := n3_; clear n0_ n1_ n2_ n3_; clear hb hbox hg; have hcz29_0 : w28.cell? ⟨gb588, 0, none⟩ = some (.int .i64 0) := (blk_cell BK588.out 0).trans rfl; have hcz29_1 : w28.cell? ⟨gb588, 1, none⟩ = some (.string (⟨#[]⟩ : ByteArray)) := (blk_cell BK588.out 1).trans rfl; have hcz29_2 : w28.cell? ⟨gb588, 2, none⟩ = some (.int .i64 0) := (blk_cell BK588.out 2).trans rfl; have hcz29_3 : w28.cell? ⟨gb588, 3, none⟩ = some (.int .i64 0) := (blk_cell BK588.out 3).trans rfl; have hcz29_4 : w28.cell? ⟨gb588, 4, none⟩ = some (.slice none 0 0) := (blk_cell BK588.out 4).trans rfl; have hcz29_5 : w28.cell? ⟨gb588, 5, none⟩ = some (.string (⟨#[]⟩ : ByteArray)) := (blk_cell BK588.out 5).trans rfl; have hcz29_6 : w28.cell? ⟨gb588, 6, none⟩ = some (.string (⟨#[]⟩ : ByteArray)) := (blk_cell BK588.out 6).trans rfl; have hcz29_7 : w28.cell? ⟨gb588, 7, none⟩ = some (.slice none 0 0) := (blk_cell BK588.out 7).trans rfl; have hcz29_8 : w28.cell? ⟨gb588, 8, none⟩ = some (.int .i64 0) := (blk_cell BK588.out 8).trans rfl; have hfz29_0 := blk_frozen BK588.out 0; have hfz29_1 := blk_frozen BK588.out 1; have hfz29_2 := blk_frozen BK588.out 2; have hfz29_3 := blk_frozen BK588.out 3; have hfz29_4 := blk_frozen BK588.out 4; have hfz29_5 := blk_frozen BK588.out 5; have hfz29_6 := blk_frozen BK588.out 6; have hfz29_7 := blk_frozen BK588.out 7; have hfz29_8 := blk_frozen BK588.out 8))
                              go_roundg kj1
                              case measure => have := HK1.out; have := HJ1.out; omega
                              case rel => exact ⟨(wrap64 (x3_1 + 1)), (by first | rfl | (simp; done) | (simp [*]; done)), H', ⟨by have := HK1.out; have := HJ1.out; omega⟩, ⟨by repeat (first | (with_reducible first | exact HB.out | apply below_alloc | apply pw_below_drewN | apply below_drew1 | refine below_set ?_ GE588.out) | exact HB.out)⟩⟩
              · rw [if_neg c6] at H
                exact absurd H (by simp)
            · rw [if_neg c5] at H
              exact absurd H (by simp)
          · replace c4 := Bool.eq_false_iff.mpr c4
            subst c4
            have H1 : (some (decide ((l0.length : Int) ≤ 20))) = some r := by rw [if_neg (show ¬ (false = true) by decide)] at H; exact H
            clear H
            have H := H1
            clear H1
            obtain rfl := Option.some.inj H
            go_wp2
            go_ret
            exact ⟨by first | rfl | (simp [errW_none, errW_some] <;> rfl) | (simp [*, errW_none, errW_some] <;> rfl), by repeat (first | (with_reducible first | exact HB.out | apply below_alloc | apply pw_below_drewN | apply below_drew1) | exact HB.out)⟩
end Go.Proofs.Ytcgeioingikeeaa.P
namespace Go.Proofs.Ytcgeioingikeeaa.P
open Go.RowKit Go.Proofs.YtcgeioingikeeaaW.PrintWords Go.Proofs.YtcgeioingikeeaaW.PrintLast Go.Proofs.YtcgeioingikeeaaW.PrintMore
set_option linter.unusedVariables false
set_option linter.unusedSimpArgs false
theorem rd_at76 (l : List S76) (j : Nat) (h : j < l.length) : rd_T76 l (j : Int) = l[j] := by simp [rd_T76, h, List.getD]
theorem fewD_l (l : List S76) : ∀ m i : Nat, i + m = 21 → i ≤ l.length → (∀ j : Nat, j < i → okD (rd_T76 l j)) → ∃ k b, gambrelref18_Few.l0 k l i = some b ∧ (b = true → l.length ≤ 20 ∧ ∀ j : Nat, j < l.length → okD (rd_T76 l j))
  | 0, i, hi, hl, hs => by
    refine ⟨2, decide ((l.length : Int) ≤ 20), ?_, fun h => ?_⟩
    · obtain rfl : i = 21 := by omega
      simp [gambrelref18_Few.l0, gambrelref18_Few.j1]
    · have := of_decide_eq_true h
      omega
  | m + 1, i, hi, hl, hs => by
    by_cases h : i < l.length
    · by_cases hb : okD (rd_T76 l (i : Int))
      · obtain ⟨k, b, h3, h4⟩ := fewD_l l m (i + 1) (by omega) (by omega) (fun j hj => by
          by_cases e : j = i
          · subst e; exact hb
          · exact hs j (by omega))
        refine ⟨k + 2, b, ?_, h4⟩
        have h1 := hb.k1
        have h2 := hb.k8
        have h5 := hb.nm
        have h6 := hb.w
        have h7 := hb.na
        have h8 := hb.nb
        have h9 := hb.nums
        unfold gambrelref18_Few.l0
        rw [if_pos (by omega), show decide ((i : Int) < 21) = true from decide_eq_true (by omega)]
        unfold gambrelref18_Few.j1
        rw [if_pos rfl, if_pos (by omega), if_pos (by omega), if_neg (by omega), if_neg (by omega), if_neg (by omega), if_neg (by omega), if_neg (by omega), if_neg (by omega), if_neg (by omega), wrap_nat i (by omega)]
        exact h3
      · refine ⟨2, false, ?_, fun h => by cases h⟩
        unfold gambrelref18_Few.l0
        rw [if_pos (by omega), show decide ((i : Int) < 21) = true from decide_eq_true (by omega)]
        unfold gambrelref18_Few.j1
        rw [if_pos rfl, if_pos (by omega), if_pos (by omega)]
        split
        · rfl
        split
        · rfl
        split
        · rfl
        split
        · rfl
        split
        · rfl
        split
        · rfl
        split
        · rfl
        exact absurd ⟨by omega, by omega, by omega, by omega, by omega, by omega, by omega⟩ hb
    · refine ⟨2, decide ((l.length : Int) ≤ 20), ?_, fun h => ⟨by have := of_decide_eq_true h; omega, fun j hj => hs j (by omega)⟩⟩
      unfold gambrelref18_Few.l0
      rw [if_neg (by omega)]
      simp [gambrelref18_Few.j1]
theorem fewD (l : List S76) : ∃ k b, gambrelref18_Few.f k l = some b ∧ (b = true → l.length ≤ 20 ∧ ∀ d ∈ l, okD d) := by
  obtain ⟨k, b, h1, h2⟩ := fewD_l l 21 0 (by omega) (by omega) (fun j hj => by omega)
  refine ⟨k, b, h1, fun hb => ⟨(h2 hb).1, fun d hd => ?_⟩⟩
  obtain ⟨j, hj, rfl⟩ := List.getElem_of_mem hd
  rw [← rd_at76 l j hj]
  exact (h2 hb).2 j hj
section
variable {w : World}
/-- A deed of the list, done to the store. -/
theorem do_at {B : Nat → Prop} {g : Nat} {s : SSt} {w0 : World} {n : Nat} (d : S76) (A4 : Option Addr) (c4 : Nat) (A7 : Option Addr) (c7 : Nat) (hr : Rep B g s w) (hi : Inv n s) (hn : n ≤ 999) (hB : Up B w.heap.size) (hd : okD d) (hb0 : ∀ k, k < w0.heap.size → w.heap[k]? = w0.heap[k]?) (hg : w0.heap.size ≤ g)
    (hC4 : (Kd.int .u8).C w0 A4 d.f1.f3.length d.f1.f3) (hc4 : d.f1.f3.length ≤ c4) (hC7 : (Kd.int .i64).C w0 A7 d.f4.length d.f4) (hw7 : ∀ n ∈ d.f4, (Lit.int .i64 n).wf = true) :
    Calls Try.prog 48 #[.pointer (some ⟨g, 0, none⟩), .agg #[.int .i64 d.f0, .string d.f1.f0, .int .i64 d.f1.f1, .int .i64 d.f1.f2, .slice A4 d.f1.f3.length c4, .string d.f2, .string d.f3, .slice A7 d.f4.length c7, .int .i64 d.f5]] w fun e w' => ∃ y z, e = .returned (.agg #[.int .i64 (doS s d).2.1, y, z]) ∧ (Kd.int .u8).R 5 w' w.heap.size (fun _ => True) y (doS s d).2.2.1 ∧ Kd.string.R 9 w' w.heap.size (fun _ => True) z (doS s d).2.2.2 ∧ Rep B g (doS s d).1 w' ∧ BelS B w w' :=
  do_real d A4 c4 A7 c7 hr (hi.fit (by omega)) (hi.fitA hn) hB (Kd.F_mono (Kd.F_step (Kd.C_F (Kd.heap_int .u8) hC4) fun k hk _ => hb0 k hk) fun k hk => by omega) hc4 (Kd.F_mono (Kd.F_step (Kd.C_F (Kd.heap_int .i64) hC7) fun k hk _ => hb0 k hk) fun k hk => by omega) (by have := hd.w; omega) (by have := hd.nums; omega) hw7 hd.k1 hd.k8
end
end Go.Proofs.Ytcgeioingikeeaa.P
namespace Go.Proofs.Ytcgeioingikeeaa.P
open Go.RowKit Go.Proofs.YtcgeioingikeeaaW.PrintWords Go.Proofs.YtcgeioingikeeaaW.PrintLast Go.Proofs.YtcgeioingikeeaaW.PrintMore
set_option linter.unusedVariables false
set_option linter.unusedSimpArgs false
section
variable {w : World}
/-- A variable that holds a deed. -/
def VarD (w : World) (b : Nat) (d : S76) (A4 : Option Addr) (c4 : Nat) (A7 : Option Addr) (c7 : Nat) : Prop := w.heap[b]? = some (.cells #[.int .i64 d.f0, .string d.f1.f0, .int .i64 d.f1.f1, .int .i64 d.f1.f2, .slice A4 d.f1.f3.length c4, .string d.f2, .string d.f3, .slice A7 d.f4.length c7, .int .i64 d.f5] 76 (0, 0))
theorem VarD.cell {b : Nat} {d : S76} {A4 : Option Addr} {c4 : Nat} {A7 : Option Addr} {c7 : Nat} (h : VarD w b d A4 c4 A7 c7) : w.cell? ⟨b, 0, none⟩ = some (.int .i64 d.f0) ∧ w.cell? ⟨b, 1, none⟩ = some (.string d.f1.f0) ∧ w.cell? ⟨b, 2, none⟩ = some (.int .i64 d.f1.f1) ∧ w.cell? ⟨b, 3, none⟩ = some (.int .i64 d.f1.f2) ∧ w.cell? ⟨b, 4, none⟩ = some (.slice A4 d.f1.f3.length c4) ∧ w.cell? ⟨b, 5, none⟩ = some (.string d.f2) ∧ w.cell? ⟨b, 6, none⟩ = some (.string d.f3) ∧ w.cell? ⟨b, 7, none⟩ = some (.slice A7 d.f4.length c7) ∧ w.cell? ⟨b, 8, none⟩ = some (.int .i64 d.f5) := by
  refine ⟨?_, ?_, ?_, ?_, ?_, ?_, ?_, ?_, ?_⟩ <;> (rw [cell_of_row w b _ _ 76 (0, 0) h]; rfl)
theorem VarD.below {w1 : World} {b : Nat} {d : S76} {A4 : Option Addr} {c4 : Nat} {A7 : Option Addr} {c7 : Nat} (h : VarD w b d A4 c4 A7 c7) (hb : Below w.heap.size w w1) : VarD w1 b d A4 c4 A7 c7 := blk_stays hb h
end
end Go.Proofs.Ytcgeioingikeeaa.P
namespace Go.Proofs.Ytcgeioingikeeaa.P
open Go.RowKit Go.Proofs.YtcgeioingikeeaaW.PrintWords Go.Proofs.YtcgeioingikeeaaW.PrintLast Go.Proofs.YtcgeioingikeeaaW.PrintMore
set_option linter.unusedVariables false
set_option linter.unusedSimpArgs false
section
variable {w : World} {B : Nat → Prop} {g : Nat} {s : SSt}
theorem files_at {F : List S38} (h : Rep B g s w) (hf : Fit s) (hF : filesOf s = F) :
    Calls Try.prog 42 #[.pointer (some ⟨g, 0, none⟩)] w fun e w' => ∃ A c, e = .returned (.slice A F.length c) ∧ Kd.V k38 38 w' 0 (fun k => w.heap.size ≤ k) (.slice A F.length c) F ∧ Below w.heap.size w w' := by
  subst hF
  refine (files_calls h hf).mono ?_
  rintro e w' ⟨v, rfl, hv, hb⟩
  obtain ⟨A, c, rfl⟩ := Kd.V_slice hv
  exact ⟨A, c, rfl, V_base hv, hb⟩
theorem safe_at {F : List S38} (h : Rep B g s w) (hf : Fit s) (hF : s.safe = F) :
    Calls Try.prog 45 #[.pointer (some ⟨g, 0, none⟩)] w fun e w' => ∃ A c, e = .returned (.slice A F.length c) ∧ Kd.V k38 38 w' 0 (fun k => w.heap.size ≤ k) (.slice A F.length c) F ∧ Below w.heap.size w w' := by
  subst hF
  refine (safe_calls h (by have := hf.len; omega) hf.safe).mono ?_
  rintro e w' ⟨v, rfl, hv, hb⟩
  obtain ⟨A, c, rfl⟩ := O_slice hv
  exact ⟨A, c, rfl, V_base (Kd.V_mono (O_V hv) fun k hk => hk.elim id id), hb⟩
theorem VarT.cells {b : Nat} {x y z : Value} (h : VarT w b x y z) : w.cell? ⟨b, 0, none⟩ = some x ∧ w.cell? ⟨b, 1, none⟩ = some y ∧ w.cell? ⟨b, 2, none⟩ = some z := by
  refine ⟨?_, ?_, ?_⟩ <;> (rw [cell_of_row w b _ _ 73 (0, 0) h]; rfl)
theorem VarT.below {w1 : World} {b : Nat} {x y z : Value} (h : VarT w b x y z) (hb : Below w.heap.size w w1) : VarT w1 b x y z := blk_stays hb h
theorem files_small (hf : Fit s) : (filesOf s).length ≤ 1000000 ∧ okL (filesOf s) := by
  obtain ⟨h1, h2⟩ := files_ok hf
  exact ⟨by omega, h1⟩
end
end Go.Proofs.Ytcgeioingikeeaa.P
namespace Go.Proofs.Ytcgeioingikeeaa.P
open Go.RowKit Go.Proofs.YtcgeioingikeeaaW.PrintWords Go.Proofs.YtcgeioingikeeaaW.PrintLast Go.Proofs.YtcgeioingikeeaaW.PrintMore
set_option linter.unusedVariables false
set_option linter.unusedSimpArgs false
def fine (x : S38) : Prop := 1 ≤ x.f0.size ∧ x.f0.size ≤ 40 ∧ x.f1.length ≤ 65536
def good (l : List S38) : Prop := asc l ∧ ∀ x ∈ l, fine x
theorem okAt_iff (l : List S38) (j : Nat) : okAt l j = true ↔ fine (rd_T38 l j) ∧ (j = 0 ∨ lessN (rd_T38 l ((j - 1 : Nat) : Int)) (rd_T38 l j)) := by
  unfold okAt fine lessN
  simp only [Bool.and_eq_true, Bool.or_eq_true, decide_eq_true_eq, and_assoc]
theorem all_of_good {l : List S38} (h : good l) : (List.range' 0 l.length).all (okAt l) = true := by
  refine List.all_eq_true.2 fun j hj => ?_
  have hj' : j < l.length := by simp [List.mem_range'_1] at hj; exact hj
  refine (okAt_iff l j).2 ⟨?_, ?_⟩
  · rw [rd_at l j hj']; exact h.2 _ (List.getElem_mem hj')
  · rcases Nat.eq_zero_or_pos j with h0 | h0
    · exact .inl h0
    · right
      rw [rd_at l (j - 1) (by omega), rd_at l j hj']
      exact List.pairwise_iff_getElem.1 h.1 (j - 1) j (by omega) hj' (by omega)
theorem may_good {l : List S38} (h : good l) (hl : l.length ≤ 1000000) : ∃ k, files_May.f k l = some true := by
  obtain ⟨k, hk⟩ := mayA l hl l.length 0 (by omega)
  rw [all_of_good h] at hk
  exact ⟨k, hk⟩
theorem good_filter {l : List S38} (h : good l) (p : S38 → Bool) : good (l.filter p) := ⟨List.Pairwise.sublist List.filter_sublist h.1, fun x hx => h.2 x (List.mem_filter.1 hx).1⟩
theorem asc_insert (x : S38) : ∀ l : List S38, asc l → (∀ y ∈ l, y.f0.toList ≠ x.f0.toList) → asc (insertAt x l)
  | [], _, _ => by simp [insertAt, asc]
  | y :: l, h, hn => by
    have hy := List.pairwise_cons.1 h
    unfold insertAt
    split
    · rename_i hlt
      refine List.pairwise_cons.2 ⟨fun z hz => ?_, h⟩
      rcases List.mem_cons.1 hz with rfl | hz
      · exact hlt
      · exact less_trans _ _ _ hlt (hy.1 z hz)
    · rename_i hlt
      have hyx : lessN y x := by
        unfold lessN
        rw [less_turn x.f0.toList y.f0.toList]
        have e1 : Op.bytesLess x.f0.toList y.f0.toList = false := by simpa using hlt
        have e2 : (x.f0.toList == y.f0.toList) = false := beq_eq_false_iff_ne.mpr fun e => hn y (by simp) e.symm
        rw [e1, e2]; rfl
      refine List.pairwise_cons.2 ⟨fun z hz => ?_, asc_insert x l hy.2 fun z hz => hn z (by simp [hz])⟩
      rcases (insertAt_mem _ _ _).1 hz with rfl | hz
      · exact hyx
      · exact hy.1 z hz
theorem good_put {l : List S38} (h : good l) {n : ByteArray} {d : List Int} (hn : 1 ≤ n.size ∧ n.size ≤ 40) (hd : d.length ≤ 65536) : good (putL l n d) := by
  unfold putL
  refine ⟨asc_insert _ _ (good_filter h _).1 fun y hy => ?_, fun x hx => ?_⟩
  · have := (List.mem_filter.1 hy).2
    simpa [named] using this
  · rcases (insertAt_mem _ _ _).1 hx with rfl | hx
    · exact ⟨hn.1, hn.2, hd⟩
    · exact h.2 x (List.mem_filter.1 hx).1
end Go.Proofs.Ytcgeioingikeeaa.P
namespace Go.Proofs.Ytcgeioingikeeaa.P
open Go.RowKit Go.Proofs.YtcgeioingikeeaaW.PrintWords Go.Proofs.YtcgeioingikeeaaW.PrintLast Go.Proofs.YtcgeioingikeeaaW.PrintMore
set_option linter.unusedVariables false
set_option linter.unusedSimpArgs false
/-- A name's bytes, if it is there. -/
def val (l : List S38) (n : ByteArray) : Option (List Int) := (l.find? (named n)).map (·.f1)
theorem find_filter {p q : S38 → Bool} (h : ∀ x, q x = true → p x = true) : ∀ l : List S38, (l.filter p).find? q = l.find? q
  | [] => rfl
  | x :: l => by
    cases hq : q x
    · rw [List.find?_cons, hq]
      cases hp : p x
      · rw [List.filter_cons_of_neg (by simp [hp])]; exact find_filter h l
      · rw [List.filter_cons_of_pos hp, List.find?_cons, hq]; exact find_filter h l
    · rw [List.filter_cons_of_pos (h x hq), List.find?_cons, List.find?_cons, hq]
theorem named_iff {n : ByteArray} {x : S38} : named n x = true ↔ x.f0 = n := by
  unfold named
  rw [beq_iff_eq]
  exact ⟨bytes_inj, fun h => by rw [h]⟩
theorem ownW_iff {n : ByteArray} {x : S31} : ownW n x = true ↔ x.f0 = n := by
  unfold ownW
  rw [beq_iff_eq]
  exact ⟨bytes_inj, fun h => by rw [h]⟩
theorem val_filter_self (l : List S38) (n : ByteArray) : val (l.filter fun x => !named n x) n = none := by unfold val; rw [find_filter_self]; rfl
theorem val_filter_other (l : List S38) {n m : ByteArray} (h : n ≠ m) : val (l.filter fun x => !named n x) m = val l m := by
  unfold val
  rw [find_filter fun x hx => ?_]
  have hm := named_iff.1 hx
  cases hn : named n x
  · rfl
  · exact absurd ((named_iff.1 hn).symm.trans hm) h
theorem val_put (l : List S38) (n : ByteArray) (d : List Int) (m : ByteArray) : val (putL l n d) m = if n = m then some d else val l m := by
  by_cases h : n = m
  · subst h
    rw [if_pos rfl]
    unfold val
    rw [find_put]
    rfl
  · rw [if_neg h]
    have h1 := val_filter_other l h
    unfold val at h1 ⊢
    rw [find_put_other l d (fun he => h (bytes_inj he)), h1]
theorem oldOf_val (l : List S38) (n : ByteArray) : oldOf l n = (val l n).getD [] := by
  unfold oldOf val
  cases l.find? (named n) <;> rfl
/-- What a write does to the bytes of its own name. -/
def stepV (v : Option (List Int)) (x : S31) (keep : Int) : Option (List Int) :=
  if x.f1 < 1 ∨ x.f1 > 3 ∨ x.f0.size < 1 ∨ x.f0.size > 40 ∨ (x.f1 = 3 ∧ x.f2 < 0) then v else
    if frmOf x.f1 x.f2 (v.getD []) > 65536 ∨ frmOf x.f1 x.f2 (v.getD []) + (keptOf x.f3 keep).length > 65536 ∨ (x.f1.toNat = 3 ∧ (v.getD []).length > 65536) then v else
      if (keptOf x.f3 keep).length = 0 ∧ x.f3.length > 0 then v else some (overlay (if x.f1.toNat = 1 then [] else v.getD []) (frmOf x.f1 x.f2 (v.getD [])).toNat (keptOf x.f3 keep))
theorem val_dn (l : List S38) (x : S31) (keep : Int) (m : ByteArray) : val (dn l x keep) m = if x.f0 = m then stepV (val l m) x keep else val l m := by
  by_cases hm : x.f0 = m
  · subst hm
    rw [if_pos rfl]
    unfold dn doT stepV
    rw [oldOf_val]
    by_cases h1 : x.f1 < 1 ∨ x.f1 > 3 ∨ x.f0.size < 1 ∨ x.f0.size > 40 ∨ (x.f1 = 3 ∧ x.f2 < 0)
    · rw [if_pos h1, if_pos h1, if_neg (by simp)]
    · rw [if_neg h1, if_neg h1]
      unfold doRes
      by_cases h2 : frmOf x.f1 x.f2 ((val l x.f0).getD []) > 65536 ∨ frmOf x.f1 x.f2 ((val l x.f0).getD []) + (keptOf x.f3 keep).length > 65536 ∨ (x.f1.toNat = 3 ∧ ((val l x.f0).getD []).length > 65536)
      · rw [if_pos h2, if_pos h2, if_neg (by simp)]
      · rw [if_neg h2, if_neg h2]
        by_cases h3 : (keptOf x.f3 keep).length = 0 ∧ x.f3.length > 0
        · rw [if_pos h3, if_pos h3, if_pos rfl]
        · rw [if_neg h3, if_neg h3, if_pos rfl, val_put, if_pos rfl]
  · rw [if_neg hm]
    unfold dn
    split
    · rename_i h0
      unfold doT at h0 ⊢
      split at h0
      · simp at h0
      · rename_i h1
        rw [if_neg h1]
        unfold doRes at h0 ⊢
        split at h0
        · simp at h0
        · rename_i h2
          rw [if_neg h2]
          split
          · rfl
          · rw [val_put, if_neg hm]
    · rfl
/-- What writes do to the bytes of a name. -/
def foldV (n : ByteArray) : Option (List Int) → List S31 → Option (List Int)
  | v, [] => v
  | v, x :: xs => foldV n (if x.f0 = n then stepV v x (-1) else v) xs
theorem val_all (n : ByteArray) : ∀ (xs : List S31) (i : Nat) (l : List S38), val (doneL (fun _ => -1) i l xs) n = foldV n (val l n) xs
  | [], i, l => rfl
  | x :: xs, i, l => by rw [doneL, val_all n xs, val_dn]; rfl
theorem foldV_none (n : ByteArray) : ∀ (xs : List S31) (v : Option (List Int)), (∀ x ∈ xs, x.f0 ≠ n) → foldV n v xs = v
  | [], v, _ => rfl
  | x :: xs, v, h => by rw [foldV, if_neg (h x List.mem_cons_self), foldV_none n xs v fun y hy => h y (List.mem_cons_of_mem _ hy)]
theorem foldV_filter (n : ByteArray) (p : S31 → Bool) (hp : ∀ x, x.f0 = n → p x = true) : ∀ (xs : List S31) (v : Option (List Int)), foldV n v (xs.filter p) = foldV n v xs
  | [], v => rfl
  | x :: xs, v => by
    cases h : p x
    · rw [List.filter_cons_of_neg (by simp [h]), foldV, if_neg (fun he => by rw [hp x he] at h; cases h), foldV_filter n p hp xs]
    · rw [List.filter_cons_of_pos h, foldV, foldV, foldV_filter n p hp xs]
theorem val_files (s : SSt) (n : ByteArray) : val (filesOf s) n = foldV n (val s.safe n) s.pend := val_all n s.pend 0 s.safe
theorem pend_not (xs : List S31) (n : ByteArray) : ∀ x ∈ xs.filter (fun x => !ownW n x), x.f0 ≠ n := fun x hx he => by
  have := (List.mem_filter.1 hx).2
  rw [ownW_iff.2 he] at this
  cases this
/-- Sync keeps a name's bytes: they are the safe ones then. -/
theorem val_sync (s : SSt) (n m : ByteArray) : val (filesOf (syncD s n)) m = val (filesOf s) m ∧ val (syncD s n).safe n = val (filesOf s) n := by
  have h1 : ∀ k, val (syncD s n).safe k = foldV k (val s.safe k) (s.pend.filter fun x => !othW n x) := fun k => val_all k _ 0 s.safe
  have hself : val (syncD s n).safe n = val (filesOf s) n := by
    rw [h1, val_files, foldV_filter n _ fun x hx => by rw [not_oth]; exact ownW_iff.2 hx]
  refine ⟨?_, hself⟩
  rw [val_files]
  by_cases hm : n = m
  · subst hm
    rw [hself]
    exact foldV_none n _ _ (pend_not s.pend n)
  · rw [h1, foldV_none m (s.pend.filter fun x => !othW n x) _ fun x hx he => by
      have := (List.mem_filter.1 hx).2
      rw [not_oth] at this
      exact hm ((ownW_iff.1 this).symm.trans he), val_files]
    exact foldV_filter m _ (fun x hx => by
      cases ho : ownW n x
      · rfl
      · exact absurd ((ownW_iff.1 ho).symm.trans hx) hm) _ _
/-- What StoreSynced asks for. -/
structure SyncOk (S : SSt) (n : ByteArray) (ks : List Int) (s1 : SSt) (e : Int) (was safe now : List Int × Bool) : Prop where
  told : syncR (planD S [] 0) n = (s1, e)
  hwas : getT (filesOf s1) n = was
  hsafe : getT s1.safe n = safe
  hnow : getT (filesOf (crashD s1 ks)) n = now
  way : e = 9 ∨ (e = 4 ∧ was.2 = false) ∨ (e = 0 ∧ was.2 = true ∧ safe = was ∧ now = was)
/-- Move: the bytes of the other name are those of the one, the one is gone. -/
theorem val_move (l : List S38) (a b m : ByteArray) (hab : a ≠ b) : val (moveT (l.filter fun x => !named b x) a b) m = if m = b then val l a else if m = a then none else val l m := by
  unfold moveT
  cases hf : (l.filter fun x => !named b x).find? (named a) with
  | none =>
    have hv : val l a = none := by
      have := val_filter_other l (Ne.symm hab)
      unfold val at this
      rw [hf] at this
      exact this.symm
    by_cases h1 : m = b
    · subst h1; rw [if_pos rfl, hv]; exact val_filter_self l m
    · rw [if_neg h1]
      show val (l.filter _) m = _
      rw [val_filter_other l (Ne.symm h1)]
      by_cases h2 : m = a
      · subst h2; rw [if_pos rfl, hv]
      · rw [if_neg h2]
  | some x =>
    have hv : val l a = some x.f1 := by
      have := val_filter_other l (Ne.symm hab)
      unfold val at this
      rw [hf] at this
      exact this.symm
    show val (putL _ b x.f1) m = _
    rw [val_put]
    by_cases h1 : m = b
    · subst h1; rw [if_pos rfl, if_pos rfl, hv]
    · rw [if_neg (Ne.symm h1), if_neg h1]
      by_cases h2 : m = a
      · subst h2; rw [if_pos rfl]; exact val_filter_self _ m
      · rw [if_neg h2, val_filter_other _ (Ne.symm h2), val_filter_other _ (Ne.symm h1)]
/-- What StoreMoves asks for. -/
structure MoveOk (S : SSt) (a b : ByteArray) (ks : List Int) (s1 : SSt) (e : Int) (was : List Int × Bool) (s2 : SSt) (g : Int) (now old : List Int × Bool) : Prop where
  told : syncR (planD S [] 0) a = (s1, e)
  hwas : getT (filesOf s1) a = was
  moved : moveR s1 a b = (s2, g)
  hnow : getT (filesOf (crashD s2 ks)) b = now
  hold : getT (filesOf (crashD s2 ks)) a = old
  way : (e = 9 ∧ g = 9) ∨ (e = 4 ∧ g = 4) ∨ (e = 0 ∧ g = 0 ∧ now.2 = true ∧ old.2 = false ∧ now.1 = was.1)
end Go.Proofs.Ytcgeioingikeeaa.P
namespace Go.Proofs.Ytcgeioingikeeaa.P
open Go.RowKit Go.Proofs.YtcgeioingikeeaaW.PrintWords Go.Proofs.YtcgeioingikeeaaW.PrintLast Go.Proofs.YtcgeioingikeeaaW.PrintMore
set_option linter.unusedVariables false
set_option linter.unusedSimpArgs false
/-- How many bytes there are. -/
def total : List S38 → Nat
  | [] => 0
  | x :: l => x.f1.length + total l
theorem sumW_total : ∀ (l : List S38) (acc : Int), 0 ≤ acc → acc + (total l : Int) < 4611686018427387904 → sumW acc l = acc + (total l : Int)
  | [], acc, _, _ => by simp [sumW, total]
  | x :: l, acc, h0, h1 => by
    unfold total at h1
    have hw : wrap64 (acc + (x.f1.length : Int)) = acc + (x.f1.length : Int) := by unfold wrap64; omega
    rw [sumW, hw, sumW_total l _ (by omega) (by omega), total]
    omega
theorem total_le {l : List S38} (h : okL l) : total l ≤ l.length * 65536 := by
  induction l with
  | nil => simp [total]
  | cons x l ih =>
    have h1 := h x List.mem_cons_self
    have h2 := ih fun y hy => h y (List.mem_cons_of_mem _ hy)
    rw [total, List.length_cons]
    omega
theorem sizeF_total {l : List S38} (h : okL l) (hl : l.length ≤ 1000000) : sizeF l = (total l : Int) := by
  have := total_le h
  unfold sizeF
  rw [sumW_total l 0 (by omega) (by omega)]
  omega
theorem total_filter (p : S38 → Bool) : ∀ l : List S38, total (l.filter p) ≤ total l
  | [] => Nat.le_refl _
  | x :: l => by
    have := total_filter p l
    cases h : p x
    · rw [List.filter_cons_of_neg (by simp [h]), total]; omega
    · rw [List.filter_cons_of_pos h, total, total]; omega
theorem total_insert (x : S38) : ∀ l : List S38, total (insertAt x l) = x.f1.length + total l
  | [] => rfl
  | y :: l => by
    unfold insertAt
    split
    · rfl
    · rw [total, total_insert x l, total]; omega
theorem total_found {n : ByteArray} {x : S38} : ∀ l : List S38, l.find? (named n) = some x → total (l.filter fun y => !named n y) + x.f1.length ≤ total l
  | [], h => by simp at h
  | y :: l, h => by
    rw [List.find?_cons] at h
    cases hy : named n y
    · rw [hy] at h
      have := total_found l h
      rw [List.filter_cons_of_pos (by simp [hy]), total, total]; omega
    · rw [hy] at h
      obtain rfl := Option.some.inj h
      have := total_filter (fun y => !named n y) l
      rw [List.filter_cons_of_neg (by simp [hy]), total]; omega
theorem val_cons (x : S38) (l : List S38) (n : ByteArray) : val (x :: l) n = if x.f0 = n then some x.f1 else val l n := by
  unfold val
  rw [List.find?_cons]
  by_cases h : x.f0 = n
  · rw [if_pos h, named_iff.2 h]; rfl
  · rw [if_neg h]
    cases hn : named n x
    · rfl
    · exact absurd (named_iff.1 hn) h
theorem val_some {l : List S38} {n : ByteArray} {d : List Int} (h : val l n = some d) : ∃ x ∈ l, x.f0 = n ∧ x.f1 = d := by
  unfold val at h
  cases hf : l.find? (named n) with
  | none => rw [hf] at h; cases h
  | some x =>
    rw [hf] at h
    exact ⟨x, List.mem_of_find?_eq_some hf, named_iff.1 (List.find?_some hf), Option.some.inj h⟩
theorem val_above {x : S38} {l : List S38} (h : asc (x :: l)) : val l x.f0 = none := by
  cases hv : val l x.f0 with
  | none => rfl
  | some d =>
    obtain ⟨y, hy, hyn, _⟩ := val_some hv
    have := (List.pairwise_cons.1 h).1 y hy
    unfold lessN at this
    rw [hyn, less_irrefl] at this
    cases this
/-- Files in order are told by what each name's bytes are. -/
theorem good_ext : ∀ (l m : List S38), asc l → asc m → (∀ n, val l n = val m n) → l = m
  | [], [], _, _, _ => rfl
  | [], y :: m, _, _, h => by
    have := h y.f0
    rw [val_cons, if_pos rfl] at this
    cases this
  | x :: l, [], _, _, h => by
    have := h x.f0
    rw [val_cons, if_pos rfl] at this
    cases this
  | x :: l, y :: m, hl, hm, h => by
    have hx := h x.f0
    have hy := h y.f0
    rw [val_cons, if_pos rfl] at hx
    rw [val_cons y, if_pos rfl] at hy
    have hxy : x.f0 = y.f0 := by
      rcases Classical.em (x.f0 = y.f0) with e | e
      · exact e
      · rw [val_cons, if_neg (Ne.symm e)] at hx
        rw [val_cons, if_neg e] at hy
        obtain ⟨z, hz, hzn, _⟩ := val_some hx.symm
        obtain ⟨u, hu, hun, _⟩ := val_some hy
        have h1 := (List.pairwise_cons.1 hm).1 z hz
        have h2 := (List.pairwise_cons.1 hl).1 u hu
        unfold lessN at h1 h2
        rw [hzn] at h1
        rw [hun] at h2
        rw [less_asymm h1] at h2
        cases h2
    rw [val_cons, if_pos hxy.symm] at hx
    have he : x = y := by
      have := Option.some.inj hx
      cases x; cases y
      simp only [S38.mk.injEq] at *
      exact ⟨hxy, this⟩
    subst he
    rw [good_ext l m (List.pairwise_cons.1 hl).2 (List.pairwise_cons.1 hm).2 fun n => ?_]
    by_cases hn : x.f0 = n
    · subst hn
      rw [val_above hl, val_above hm]
    · have := h n
      rw [val_cons, val_cons, if_neg hn, if_neg hn] at this
      exact this
theorem good_okL {l : List S38} (h : good l) : okL l := fun x hx => (h.2 x hx).2.2
/-- What a write comes to: nothing, or the file's bytes, by a name that may be. -/
theorem dn_cases (l : List S38) (x : S31) (keep : Int) (hd : okL l) : dn l x keep = l ∨ ∃ d, dn l x keep = putL l x.f0 d ∧ 1 ≤ x.f0.size ∧ x.f0.size ≤ 40 ∧ d.length ≤ 65536 := by
  have hok := (dn_ok l x keep hd).1
  unfold dn at hok ⊢
  split
  · rename_i h0
    rw [if_pos h0] at hok
    unfold doT at h0 hok ⊢
    split at h0
    · simp at h0
    · rename_i hb
      rw [if_neg hb] at hok ⊢
      unfold doRes at h0 hok ⊢
      split at h0
      · simp at h0
      · rename_i hc
        rw [if_neg hc] at hok ⊢
        by_cases h3 : (keptOf x.f3 keep).length = 0 ∧ x.f3.length > 0
        · rw [if_pos h3]; exact .inl rfl
        · rw [if_neg h3] at hok ⊢
          exact .inr ⟨_, rfl, by omega, by omega, hok ⟨x.f0, _⟩ (List.mem_of_find?_eq_some (find_put l x.f0 _))⟩
  · exact .inl rfl
theorem good_dn {l : List S38} (h : good l) (x : S31) (keep : Int) : good (dn l x keep) := by
  rcases dn_cases l x keep (good_okL h) with e | ⟨d, e, h1, h2, h3⟩
  · rw [e]; exact h
  · rw [e]; exact good_put h ⟨h1, h2⟩ h3
theorem good_done (keep : Nat → Int) : ∀ (xs : List S31) (i : Nat) (l : List S38), good l → good (doneL keep i l xs)
  | [], i, l, h => h
  | x :: xs, i, l, h => good_done keep xs (i + 1) _ (good_dn h x _)
theorem done_snoc (keep : Int) (x : S31) : ∀ (xs : List S31) (i : Nat) (l : List S38), doneL (fun _ => keep) i l (xs ++ [x]) = dn (doneL (fun _ => keep) i l xs) x keep
  | [], i, l => rfl
  | y :: xs, i, l => by rw [List.cons_append, doneL, doneL, done_snoc keep x xs]
/-- A name that may be. -/
def fineN (n : ByteArray) : Prop := 1 ≤ n.size ∧ n.size ≤ 40
/-- A store without a crash. -/
structure QInv (q : Int) (s : SSt) : Prop where
  quota : s.quota = q
  safe : good s.safe
  size : sizeF (filesOf s) ≤ q
  peak : s.peak ≤ q
  names : ∀ x ∈ s.pend, fineN x.f0
theorem QInv.files {q : Int} {s : SSt} (h : QInv q s) : good (filesOf s) := good_done _ _ _ _ h.safe
theorem QInv.new {q : Int} (hq : 0 ≤ q) : QInv q (newD q) := ⟨rfl, ⟨List.Pairwise.nil, fun x hx => by simp [newD] at hx⟩, hq, hq, fun x hx => by simp [newD] at hx⟩
theorem QInv.asked {q : Int} {s : SSt} (h : QInv q s) : QInv q (asked s).1 := by
  obtain ⟨h1, h2, h3, h4, _, _, _⟩ := asked_same s
  exact ⟨h3.trans h.quota, by rw [h1]; exact h.safe, by rw [asked_files]; exact h.size, by rw [h4]; exact h.peak, by rw [h2]; exact h.names⟩
theorem QInv.sync {q : Int} {s : SSt} (h : QInv q s) (n : ByteArray) : QInv q (syncD s n) := by
  have hs : good (syncD s n).safe := good_done _ _ _ _ h.safe
  have hf : filesOf (syncD s n) = filesOf s := good_ext _ _ (good_done _ _ _ _ hs).1 h.files.1 fun m => (val_sync s n m).1
  exact ⟨h.quota, hs, by rw [hf]; exact h.size, h.peak, fun x hx => h.names x (List.mem_filter.1 hx).1⟩
theorem size_le {l m : List S38} (hl : good l) (hm : good m) (h1 : l.length ≤ 1000000) (h2 : m.length ≤ 1000000) (h : total l ≤ total m) {q : Int} (hq : sizeF m ≤ q) : sizeF l ≤ q := by
  rw [sizeF_total (good_okL hm) h2] at hq
  rw [sizeF_total (good_okL hl) h1]
  omega
theorem files_len {n : Nat} {s : SSt} (h : Inv n s) (hn : n ≤ 1000) : (filesOf s).length ≤ 1000000 := by
  have := (files_ok (h.fit hn)).2
  omega
theorem QInv.drop {q : Int} {s : SSt} {k : Nat} (h : QInv q s) (hi : Inv k s) (hk : k ≤ 1000) (n : ByteArray) : QInv q (dropD s n) := by
  have hs : good (dropD s n).safe := good_filter h.safe _
  have hg : good (filesOf (dropD s n)) := good_done _ _ _ _ hs
  have hf : filesOf (dropD s n) = (filesOf s).filter fun x => !named n x := good_ext _ _ hg.1 (good_filter h.files _).1 fun m => by
    rw [val_files]
    show foldV m (val (s.safe.filter _) m) (s.pend.filter _) = _
    by_cases hm : n = m
    · subst hm
      rw [val_filter_self, val_filter_self]
      exact foldV_none n _ _ (pend_not s.pend n)
    · rw [val_filter_other _ hm, val_filter_other _ hm, val_files]
      exact foldV_filter m _ (fun x hx => by
        cases ho : ownW n x
        · rfl
        · exact absurd ((ownW_iff.1 ho).symm.trans hx) hm) _ _
  refine ⟨h.quota, hs, size_le hg h.files (files_len (hi.drop n) hk) (files_len hi hk) (by rw [hf]; exact total_filter _ _) h.size, h.peak, fun x hx => h.names x (List.mem_filter.1 hx).1⟩
theorem stepV_name (v : Option (List Int)) (x : S31) (b : ByteArray) (keep : Int) (h1 : fineN x.f0) (h2 : fineN b) : stepV v { x with f0 := b } keep = stepV v x keep := by
  have e : ∀ n : ByteArray, fineN n → (x.f1 < 1 ∨ x.f1 > 3 ∨ n.size < 1 ∨ n.size > 40 ∨ (x.f1 = 3 ∧ x.f2 < 0)) = (x.f1 < 1 ∨ x.f1 > 3 ∨ (x.f1 = 3 ∧ x.f2 < 0)) := fun n hn => by
    unfold fineN at hn
    apply propext
    constructor
    · intro h; omega
    · intro h; omega
  unfold stepV
  simp only [e _ h1, e _ h2]
theorem foldV_ren (a b : ByteArray) (hb : fineN b) (hab : a ≠ b) : ∀ (ys : List S31) (v : Option (List Int)), (∀ y ∈ ys, y.f0 ≠ b ∧ fineN y.f0) → foldV b v (ys.map (renW a b)) = foldV a v ys
  | [], v, _ => rfl
  | y :: ys, v, h => by
    obtain ⟨h1, h2⟩ := h y List.mem_cons_self
    rw [List.map_cons, foldV, foldV, foldV_ren a b hb hab ys _ fun z hz => h z (List.mem_cons_of_mem _ hz)]
    unfold renW
    by_cases hy : ownW a y = true
    · rw [if_pos hy, if_pos rfl, if_pos (ownW_iff.1 hy), stepV_name v y b (-1) h2 hb]
    · rw [if_neg hy, if_neg h1, if_neg (fun e => hy (ownW_iff.2 e))]
theorem foldV_ren_other (a b m : ByteArray) (ha : m ≠ a) (hb : m ≠ b) : ∀ (ys : List S31) (v : Option (List Int)), foldV m v (ys.map (renW a b)) = foldV m v ys
  | [], v => rfl
  | y :: ys, v => by
    rw [List.map_cons, foldV, foldV, foldV_ren_other a b m ha hb ys]
    unfold renW
    by_cases hy : ownW a y = true
    · rw [if_pos hy, if_neg (Ne.symm hb), if_neg (fun e => ha (e.symm.trans (ownW_iff.1 hy)))]
    · rw [if_neg hy]
theorem good_move {l : List S38} (h : good l) (a b : ByteArray) (hb : fineN b) : good (moveT l a b) := by
  unfold moveT
  cases hf : l.find? (named a) with
  | none => exact h
  | some x => exact good_put (good_filter h _) hb (h.2 x (List.mem_of_find?_eq_some hf)).2.2
theorem QInv.move {q : Int} {s : SSt} {k : Nat} (h : QInv q s) (hi : Inv k s) (hk : k ≤ 1000) (a b : ByteArray) (hb : fineN b) (hab : a ≠ b) (hx : (getT (filesOf s) a).2 = true) : QInv q (moveD s a b) := by
  have hs : good (moveD s a b).safe := good_move (good_filter h.safe _) a b hb
  have hg : good (filesOf (moveD s a b)) := good_done _ _ _ _ hs
  obtain ⟨x, hfx⟩ : ∃ x, (filesOf s).find? (named a) = some x := by
    unfold getT at hx
    cases hf : (filesOf s).find? (named a) with
    | none => rw [hf] at hx; cases hx
    | some x => exact ⟨x, rfl⟩
  have hvx : val (filesOf s) a = some x.f1 := by unfold val; rw [hfx]; rfl
  have hnb : ∀ y ∈ s.pend.filter (fun x => !ownW b x), y.f0 ≠ b ∧ fineN y.f0 := fun y hy => ⟨pend_not s.pend b y hy, h.names y (List.mem_filter.1 hy).1⟩
  have hfb : ∀ (m : ByteArray) (v : Option (List Int)), m ≠ b → foldV m v (s.pend.filter fun x => !ownW b x) = foldV m v s.pend := fun m v hm => foldV_filter m _ (fun x hx => by
        cases ho : ownW b x
        · rfl
        · exact absurd (hx.symm.trans (ownW_iff.1 ho)) hm) _ _
  have hgp : good (putL ((filesOf s).filter fun y => !named a y) b x.f1) := good_put (good_filter h.files _) hb (h.files.2 x (List.mem_of_find?_eq_some hfx)).2.2
  have hf : filesOf (moveD s a b) = putL ((filesOf s).filter fun y => !named a y) b x.f1 := good_ext _ _ hg.1 hgp.1 fun m => by
    rw [val_files]
    show foldV m (val (moveT (s.safe.filter _) a b) m) ((s.pend.filter _).map _) = _
    rw [val_move _ _ _ _ hab, val_put]
    by_cases h1 : m = b
    · subst h1
      rw [if_pos rfl, if_pos rfl, foldV_ren a m hb hab _ _ hnb, hfb a _ hab, ← val_files, hvx]
    · rw [if_neg h1, if_neg (Ne.symm h1)]
      by_cases h2 : m = a
      · subst h2
        rw [if_pos rfl, val_filter_self]
        refine foldV_none m _ _ fun y hy => ?_
        obtain ⟨z, hz, rfl⟩ := List.mem_map.1 hy
        unfold renW
        split
        · exact Ne.symm h1
        · rename_i ho
          exact fun he => ho (ownW_iff.2 he)
      · rw [if_neg h2, foldV_ren_other a b m h2 h1, hfb m _ h1, val_filter_other _ (Ne.symm h2), val_files]
  refine ⟨h.quota, hs, size_le hg h.files (files_len (hi.move a b) hk) (files_len hi hk) ?_ h.size, h.peak, ?_⟩
  · rw [hf]
    unfold putL
    rw [total_insert]
    have h1 := total_filter (fun y => !named b y) ((filesOf s).filter fun y => !named a y)
    have h2 := total_found _ hfx
    show x.f1.length + _ ≤ _
    omega
  · intro y hy
    obtain ⟨z, hz, rfl⟩ := List.mem_map.1 hy
    unfold renW
    split
    · exact hb
    · exact h.names z (List.mem_filter.1 hz).1
theorem QInv.ofR {q : Int} {s : SSt} (h : QInv q s) (name : ByteArray) (k : SSt → SSt × Int) (hk : (getT (filesOf s) name).2 = true → QInv q (k (P.asked s).1).1) : QInv q (P.ofR s name k).1 := by
  unfold P.ofR
  split
  · exact h.asked
  · split
    · rename_i h2
      exact hk h2
    · exact h.asked
theorem QInv.done {q : Int} {s : SSt} {n : Nat} (h : QInv q s) (hi : Inv n s) (hn : n ≤ 900) {d : S76} (hd : okD d) (h7 : d.f0 ≠ 7) : QInv q (doS s d).1 := by
  have ha := h.asked
  have hia := hi.asked.1
  unfold doS
  split
  · show QInv q (doR s (wOf d)).1
    unfold doR
    split
    · exact ha
    · obtain ⟨t, ht⟩ : ∃ t, (P.asked s).1 = t := ⟨_, rfl⟩
      rw [ht] at ha hia ⊢
      unfold doB
      split
      · rename_i h0
        have hE : (doT (filesOf t) (wOf d) (-1)).2 = 0 ∧ ¬ (t.quota < sizeF (doT (filesOf t) (wOf d) (-1)).1 ∧ sizeF (filesOf t) < sizeF (doT (filesOf t) (wOf d) (-1)).1) := by
          unfold doE at h0
          split at h0
          · cases h0
          · split at h0
            · rename_i h1; exact absurd h0 h1
            · rename_i h1
              split at h0
              · cases h0
              · rename_i h2
                exact ⟨by simpa using h1, h2⟩
        have hdn : dn (filesOf t) (wOf d) (-1) = (doT (filesOf t) (wOf d) (-1)).1 := by unfold dn; rw [if_pos hE.1]
        have hsz : sizeF (doT (filesOf t) (wOf d) (-1)).1 ≤ q := by
          have h1 := hE.2
          have h2 := ha.size
          have h3 := ha.quota
          omega
        refine ⟨ha.quota, ha.safe, ?_, ?_, ?_⟩
        · show sizeF (doneL _ 0 t.safe (t.pend ++ [wOf d])) ≤ q
          rw [done_snoc]
          show sizeF (dn (filesOf t) (wOf d) (-1)) ≤ q
          rw [hdn]
          exact hsz
        · show mx t.peak _ ≤ q
          unfold mx
          split
          · exact hsz
          · exact ha.peak
        · intro x hx
          rcases List.mem_append.1 hx with hx | hx
          · exact ha.names x hx
          · obtain rfl := List.mem_singleton.1 hx
            have h1 := hE.1
            unfold doT at h1
            split at h1
            · simp at h1
            · rename_i h2
              unfold fineN
              omega
      · exact ha
  split
  · exact h.ofR _ _ fun _ => ha.sync _
  split
  · refine h.ofR _ _ fun hx => ?_
    split
    · exact ha
    · rename_i hb
      split
      · exact ha
      · rename_i hne
        exact ha.move hia (by omega) _ _ (by unfold fineN; omega) (fun e => hne (by rw [e]; simp)) (by rw [asked_files]; exact hx)
  split
  · exact h.ofR _ _ fun _ => ha.drop hia (by omega) _
  split
  · show QInv q (readR s d.f2).1
    unfold readR
    split
    · exact ha
    · split <;> exact ha
  split
  · show QInv q (listR s).1
    unfold listR
    split <;> exact ha
  exact ⟨h.quota, h.safe, h.size, h.peak, h.names⟩
/-- The store behind deeds, crashes left out. -/
def runQ (s : SSt) (l : List S76) : SSt := l.foldl (fun s d => if d.f0 = 7 then s else (doS s d).1) s
theorem runQ_take (s : SSt) (l : List S76) (i : Nat) (h : i < l.length) : runQ s (l.take (i + 1)) = if l[i].f0 = 7 then runQ s (l.take i) else (doS (runQ s (l.take i)) l[i]).1 := by
  unfold runQ
  rw [List.take_succ_eq_append_getElem h, List.foldl_append]
  rfl
theorem quota_run {q : Int} (hq : 0 ≤ q) {l : List S76} (hok : ∀ d ∈ l, okD d) (hl : l.length ≤ 20) (i : Nat) (hi : i ≤ l.length) : Inv i (runQ (newD q) (l.take i)) ∧ QInv q (runQ (newD q) (l.take i)) := by
  induction i with
  | zero => exact ⟨Inv.new q, QInv.new hq⟩
  | succ i ih =>
    obtain ⟨h1, h2⟩ := ih (by omega)
    rw [runQ_take _ _ _ (by omega)]
    have hd := hok _ (List.getElem_mem (show i < l.length by omega))
    split
    · exact ⟨h1.more (by omega), h2⟩
    · rename_i h7
      exact ⟨h1.done hd, h2.done h1 (by omega) hd h7⟩
end Go.Proofs.Ytcgeioingikeeaa.P
namespace Go.Proofs.Ytcgeioingikeeaa.P
open Go.RowKit Go.Proofs.YtcgeioingikeeaaW.PrintWords Go.Proofs.YtcgeioingikeeaaW.PrintLast Go.Proofs.YtcgeioingikeeaaW.PrintMore
set_option linter.unusedVariables false
set_option linter.unusedSimpArgs false
section
variable {w : World}
theorem size_at {F : List S38} {A : Option Addr} {c e base : Nat} {ok : Nat → Prop} {z : Int} (hV : Kd.V k38 e w base ok (.slice A F.length c) F) (hl : F.length ≤ 1000000) (hz : sizeF F = z) :
    Calls Try.prog 35 #[.slice A F.length c] w fun e w' => e = .returned (.int .i64 z) ∧ Below w.heap.size w w' := by
  obtain ⟨_, hc, hC⟩ := Kd.V_reads' hV
  obtain ⟨k, hk⟩ := size_f F hl
  rw [hz] at hk
  exact files_Size.calls k A c F z w hC hc hk
theorem may_at {F : List S38} {A : Option Addr} {c e base : Nat} {ok : Nat → Prop} (hV : Kd.V k38 e w base ok (.slice A F.length c) F) (hl : F.length ≤ 1000000) (hg : good F) :
    Calls Try.prog 27 #[.slice A F.length c] w fun e w' => e = .returned (.bool true) ∧ Below w.heap.size w w' := by
  obtain ⟨_, hc, hC⟩ := Kd.V_reads' hV
  obtain ⟨k, hk⟩ := may_good hg hl
  exact files_May.calls k A c F true w hC hc hk
theorem peak_at {B : Nat → Prop} {g : Nat} {s : SSt} {p : Int} (h : Rep B g s w) (hp : s.peak = p) : Calls Try.prog 54 #[.pointer (some ⟨g, 0, none⟩)] w fun e w' => e = .returned (.int .i64 p) ∧ Below w.heap.size w w' := by
  subst hp
  exact peak_calls h
set_option maxHeartbeats 16000000 in
set_option maxRecDepth 100000 in
theorem quota_calls (A : Option Addr) (c : Nat) (l : List S76) (hC : Kd.C k76 w A l.length l) (hc : l.length ≤ c) (hw : ∀ d ∈ l, ∀ n ∈ d.f4, (Lit.int .i64 n).wf = true) (q : Int) (hq : (Lit.int .u8 q).wf = true) :
    Calls Try.prog 14 #[.slice A l.length c, .int .u8 q] w fun e w' => e = .returned (.bool true) ∧ Below w.heap.size w w' := by
  obtain ⟨kf, b, hkf, hb⟩ := fewD l
  have hq2 : 0 ≤ q ∧ q ≤ 255 := by
    have h2 : (decide (IntKind.u8.min ≤ q) && decide (q ≤ IntKind.u8.max)) = true := hq
    rw [show IntKind.u8.min = 0 by decide, show IntKind.u8.max = 255 by decide] at h2
    simp only [Bool.and_eq_true, decide_eq_true_eq] at h2
    exact h2
  obtain ⟨hq0, hq255⟩ := hq2
  have HC := Aside0.mk hC
  have HWF := Aside0.mk hw
  have HKF := Aside0.mk hkf
  clear hC hw hkf hq
  cases b
  · go_enter Try.func14, Try.ntmps14
    go_wp2_with (first
      | (go_at_call 37; refine (awake18 _).mono ?_; rintro e w1 ⟨rfl, hb1⟩; have HB1 := Aside0.mk hb1; clear hb1)
      | (go_at_call 38; (with_reducible refine (gambrelref18_Few.calls kf A c l false _ (Kd.C_below HC.out HB1.out) hc HKF.out).mono ?_); rintro e w2 ⟨rfl, hb2⟩; have HB2 := Aside0.mk (below_step HB1.out hb2); clear hb2))
    go_ret
    exact ⟨rfl, HB2.out⟩
  · obtain ⟨hl, hok⟩ := hb rfl
    have HOKD := Aside0.mk hok
    have HRUN := Aside0.mk (fun i hi => quota_run hq0 hok hl i hi)
    clear hok hb
    go_enter Try.func14, Try.ntmps14
    go_wp2_with (first
      | (go_at_call 37; refine (awake18 _).mono ?_; rintro e w1 ⟨rfl, hb1⟩; have HB1 := Aside0.mk hb1; clear hb1)
      | (go_at_call 38; (with_reducible refine (gambrelref18_Few.calls kf A c l true _ (Kd.C_below HC.out HB1.out) hc HKF.out).mono ?_); rintro e w2 ⟨rfl, hb2⟩; have HB2 := Aside0.mk (below_step HB1.out hb2); have HC2 := Aside0.mk (Kd.C_below HC.out HB2.out); clear hb2)
      | (go_at_call 47; refine (new_calls q hq0).mono ?_; rintro e w3 ⟨rfl, hr3, hb3⟩; have HR3 := Aside0.mk (hr3 (Since w2.heap.size) (Nat.le_refl _)); have HB3 := Aside0.mk hb3; clear hr3 hb3))
    go_loopg [7] l.length (fun kq v7 w' => ∃ i : Nat, v7 = .int .i64 i ∧ i + kq = l.length ∧ Aside0 (Rep (Since w2.heap.size) w2.heap.size (runQ (newD q) (l.take i)) w') ∧ Aside0 (Below w2.heap.size w2 w'))
    case atStart => exact ⟨0, rfl, by omega, HR3, HB3⟩
    case round =>
      obtain ⟨i, rfl, hi, HR, HB⟩ := hrel
      by_cases hlt : i < l.length
      · obtain ⟨k1, rfl⟩ : ∃ k1, gk = k1 + 1 := ⟨gk - 1, by omega⟩
        obtain ⟨ad, A4, c4, A7, c7, e1, hx0, hx1, hx2, hx3, hx4, hx5, hx6, hx7, hx8, hc4, hC4, hc7, hC7⟩ := at_T76 HC2.out (i : Int) (by omega) (by omega)
        cases e1
        replace hx0 := pw_cell_below HB.out hx0; replace hx1 := pw_cell_below HB.out hx1; replace hx2 := pw_cell_below HB.out hx2; replace hx3 := pw_cell_below HB.out hx3; replace hx4 := pw_cell_below HB.out hx4; replace hx5 := pw_cell_below HB.out hx5; replace hx6 := pw_cell_below HB.out hx6; replace hx7 := pw_cell_below HB.out hx7; replace hx8 := pw_cell_below HB.out hx8
        rw [Int.toNat_natCast] at hx0 hx1 hx2 hx3 hx4 hx5 hx6 hx7 hx8
        obtain ⟨x, hxe⟩ : ∃ x, rd_T76 l (i : Int) = x := ⟨_, rfl⟩
        rw [hxe] at hx0 hx1 hx2 hx3 hx4 hx5 hx6 hx7 hx8 hc4 hC4 hc7 hC7
        have hxm : x ∈ l ∧ runQ (newD q) (l.take (i + 1)) = if x.f0 = 7 then runQ (newD q) (l.take i) else (doS (runQ (newD q) (l.take i)) x).1 := by
          rw [rd_at76 l i hlt] at hxe
          exact ⟨hxe ▸ List.getElem_mem hlt, by rw [runQ_take _ _ _ hlt, hxe]⟩
        have HI := Aside0.mk (HRUN.out i (by omega))
        have HI2 := Aside0.mk (HRUN.out (i + 1) (by omega))
        obtain ⟨S, hS⟩ : ∃ S, runQ (newD q) (l.take i) = S := ⟨_, rfl⟩
        rw [hS] at HR HI hxm
        by_cases h7 : x.f0 = 7
        · rw [h7] at hx0
          have hnext : runQ (newD q) (l.take (i + 1)) = S := by rw [hxm.2, if_pos h7]
          have HNEXT := Aside0.mk hnext
          clear hxe hxm hC4 hC7 hS hnext hx1 hx2 hx3 hx4 hx5 hx6 hx7 hx8
          go_wp2
          go_roundg k1
          case measure => omega
          case rel => exact ⟨i + 1, by go_num, by omega, ⟨by rw [HNEXT.out]; exact HR.out⟩, HB⟩
        · obtain ⟨T, hT⟩ : ∃ T, (doS S x).1 = T := ⟨_, rfl⟩
          have hnext : runQ (newD q) (l.take (i + 1)) = T := by rw [hxm.2, if_neg h7, hT]
          rw [hnext] at HI2
          obtain ⟨F, hF⟩ : ∃ F, filesOf T = F := ⟨_, rfl⟩
          obtain ⟨G, hG⟩ : ∃ G, T.safe = G := ⟨_, rfl⟩
          obtain ⟨z, hz⟩ : ∃ z, sizeF F = z := ⟨_, rfl⟩
          have hdec : decide (q < z) = false := decide_eq_false (by have := HI2.out.2.size; rw [hF, hz] at this; omega)
          have HFIT := Aside0.mk (HI2.out.1.fit (by omega))
          have HLF := Aside0.mk (show F.length ≤ 1000000 ∧ good F by rw [← hF]; exact ⟨(files_small HFIT.out).1, HI2.out.2.files⟩)
          have HLG := Aside0.mk (show G.length ≤ 1000000 ∧ good G by rw [← hG]; exact ⟨by have := HFIT.out.len; omega, HI2.out.2.safe⟩)
          have HXM := Aside0.mk hxm.1
          have HNEXT := Aside0.mk hnext
          have HT := Aside0.mk hT
          have HF := Aside0.mk hF
          have HG := Aside0.mk hG
          have HZ := Aside0.mk hz
          have HX4 := Aside0.mk hC4
          have HX7 := Aside0.mk hC7
          clear hxe hxm hC4 hC7 hS hnext hT hF hG hz
          go_wp2_with (first
            | (go_at_call 48; (with_reducible refine (do_at (w0 := w2) x A4 c4 A7 c7 HR.out HI.out.1 (by omega) (up_since HB.out.size) (HOKD.out _ HXM.out) (fun k hk => HB.out.block k hk) (Nat.le_refl _) HX4.out hc4 HX7.out (HWF.out _ HXM.out)).mono ?_); rintro e w4 ⟨y, z, rfl, _, _, hr4, hb4⟩; rw [HT.out] at hr4; have HR4 := Aside0.mk hr4; have HB4 := Aside0.mk ((belowB_trans (bels_of (Nat.le_refl _) HB.out) hb4).below (Nat.le_refl _)); clear hr4 hb4 hx0 hx1 hx2 hx3 hx4 hx5 hx6 hx7 hx8)
            | (go_at_call 42; (with_reducible refine (files_at HR4.out HFIT.out HF.out).mono ?_); rintro e w5 ⟨A5, c5, rfl, hv5, hb5⟩; have HV5 := Aside0.mk hv5; have HB5 := Aside0.mk (below_step HB4.out hb5); have HR5 := Aside0.mk (HR4.out.below hb5); clear hv5 hb5)
            | (go_at_call 35; (with_reducible refine (size_at HV5.out HLF.out.1 HZ.out).mono ?_); rintro e w6 ⟨rfl, hb6⟩; have HB6 := Aside0.mk (below_step HB5.out hb6); have HR6 := Aside0.mk (HR5.out.below hb6); clear hb6)
            | (go_at_call 42; (with_reducible refine (files_at HR6.out HFIT.out HF.out).mono ?_); rintro e w7 ⟨A7x, c7x, rfl, hv7, hb7⟩; have HV7 := Aside0.mk hv7; have HB7 := Aside0.mk (below_step HB6.out hb7); have HR7 := Aside0.mk (HR6.out.below hb7); clear hv7 hb7)
            | (go_at_call 27; (with_reducible refine (may_at HV7.out HLF.out.1 HLF.out.2).mono ?_); rintro e w8 ⟨rfl, hb8⟩; have HB8 := Aside0.mk (below_step HB7.out hb8); have HR8 := Aside0.mk (HR7.out.below hb8); clear hb8)
            | (go_at_call 45; (with_reducible refine (safe_at HR8.out HFIT.out HG.out).mono ?_); rintro e w9 ⟨A9, c9, rfl, hv9, hb9⟩; have HV9 := Aside0.mk hv9; have HB9 := Aside0.mk (below_step HB8.out hb9); have HR9 := Aside0.mk (HR8.out.below hb9); clear hv9 hb9)
            | (go_at_call 27; (with_reducible refine (may_at HV9.out HLG.out.1 HLG.out.2).mono ?_); rintro e w10 ⟨rfl, hb10⟩; have HB10 := Aside0.mk (below_step HB9.out hb10); have HR10 := Aside0.mk (HR9.out.below hb10); clear hb10))
          go_wp2
          go_roundg k1
          case measure => omega
          case rel => exact ⟨i + 1, by go_num, by omega, ⟨by rw [HNEXT.out]; exact HR10.out⟩, HB10⟩
      · have hge : l.length ≤ i := by omega
        have hend : l.take i = l := List.take_of_length_le hge
        have HI := Aside0.mk (HRUN.out l.length (Nat.le_refl _))
        rw [List.take_length] at HI
        rw [hend] at HR
        obtain ⟨S, hS⟩ : ∃ S, runQ (newD q) l = S := ⟨_, rfl⟩
        rw [hS] at HI HR
        obtain ⟨p, hp⟩ : ∃ p, S.peak = p := ⟨_, rfl⟩
        have hdec : decide (p ≤ q) = true := decide_eq_true (by have := HI.out.2.peak; omega)
        have HP := Aside0.mk hp
        clear hlt hend hS hp
        go_wp2_with (go_at_call 54; (with_reducible refine (peak_at HR.out HP.out).mono ?_); rintro e w4 ⟨rfl, hb4⟩; have HB4 := Aside0.mk (below_step HB.out hb4); clear hb4)
        go_ret
        exact ⟨rfl, below_step HB2.out HB4.out⟩
end
end Go.Proofs.Ytcgeioingikeeaa.P
namespace Go.Proofs.Ytcgeioingikeeaa.P
open Go.RowKit Go.Proofs.YtcgeioingikeeaaW.PrintWords Go.Proofs.YtcgeioingikeeaaW.PrintLast Go.Proofs.YtcgeioingikeeaaW.PrintMore
open Go.ChangeShapes Go.WideShapes Go.ChangeAt
set_option linter.unusedVariables false
section
variable {H : Type} {enc : TypeId × Value → H} {W : World} {base : Nat} {sp : Nat → Bool} {held : Bool}
theorem C_of_cells {w : World} {a : Addr} {zs : List Int} {len : Nat} (hl : len ≤ zs.length) (hm : len ≤ 9223372036854775807) (hc : ∀ i, i < zs.length → w.cell? (a.add i) = some (.int .u8 (zs.getD i 0))) : (Kd.int .u8).C w (some a) len (zs.take len) := by
  refine ⟨by simp; omega, hm, fun _ => ⟨a, rfl, fun j p hj => ⟨[.int .u8 p], rfl, rfl, fun i u hu => ?_⟩⟩⟩
  have hi : i = 0 := by
    rcases Nat.eq_zero_or_pos i with h | h
    · exact h
    · rw [List.getElem?_eq_none (by simp; omega)] at hu; cases hu
  subst hi
  have hu' : u = .int .u8 p := by simpa using hu.symm
  subst hu'
  rw [show (Kd.int .u8).sz = 1 from rfl, Nat.mul_one, Nat.add_zero]
  have hj1 : j < (zs.take len).length := (List.getElem?_eq_some_iff.1 hj).1
  have hj2 : j < zs.length := by simp at hj1; omega
  rw [hc j hj2]
  rw [List.getElem?_take] at hj
  split at hj
  · simp [List.getD, hj]
  · cases hj
/-- bytes that came in -/
theorem open_bytes {fuel : Nat} {cs : List Value} {x : DataW H × List MemPlace} (h : DataW.trod enc Try.prog W base sp held fuel 23 cs = some x) :
    ∃ (A : Option Addr) (cap : Nat) (xs : List Int), cs = [.slice A xs.length cap] ∧ xs.length ≤ cap ∧ (Kd.int .u8).C W A xs.length xs ∧ ∀ n ∈ xs, 0 ≤ n ∧ n < 256 := by
  rcases open_ints Try.underlying23 Try.underlying5 (by kernel_rfl) h with ⟨rfl, _⟩ | ⟨a, l, c, zs, rfl, _, hl, hm, hz, _, hcell, hwz⟩
  · exact ⟨none, 0, [], rfl, Nat.le_refl _, Kd.C_nil _ _, by simp⟩
  · have hlz : l ≤ zs.length := by rw [hz]; split <;> omega
    have hlm : l ≤ 9223372036854775807 := by have : c ≤ 9223372036854775807 := hm; omega
    have ht : (zs.take l).length = l := by simp; omega
    refine ⟨some a, c, zs.take l, by rw [ht], by omega, by rw [ht]; exact C_of_cells hlz hlm hcell, fun n hn => ?_⟩
    have := hwz n (List.mem_of_mem_take hn)
    have h2 : (decide (IntKind.u8.min ≤ n) && decide (n ≤ IntKind.u8.max)) = true := this
    have e1 : IntKind.u8.min = 0 := by decide
    have e2 : IntKind.u8.max = 255 := by decide
    rw [e1, e2] at h2
    simp only [Bool.and_eq_true, decide_eq_true_eq] at h2
    omega
end
end Go.Proofs.Ytcgeioingikeeaa.P
namespace Go.Proofs.Ytcgeioingikeeaa.P
open Go.RowKit Go.Proofs.YtcgeioingikeeaaW.PrintWords Go.Proofs.YtcgeioingikeeaaW.PrintLast Go.Proofs.YtcgeioingikeeaaW.PrintMore
open Go.ChangeShapes Go.WideShapes Go.ChangeAt
set_option linter.unusedVariables false
section
variable {H : Type} {enc : TypeId × Value → H} {W : World} {base : Nat} {sp : Nat → Bool} {held : Bool}
theorem C_of_ints {w : World} {a : Addr} {zs : List Int} {len : Nat} (hl : len ≤ zs.length) (hm : len ≤ 9223372036854775807) (hc : ∀ i, i < zs.length → w.cell? (a.add i) = some (.int .i64 (zs.getD i 0))) : (Kd.int .i64).C w (some a) len (zs.take len) := by
  refine ⟨by simp; omega, hm, fun _ => ⟨a, rfl, fun j p hj => ⟨[.int .i64 p], rfl, rfl, fun i u hu => ?_⟩⟩⟩
  have hi : i = 0 := by
    rcases Nat.eq_zero_or_pos i with h | h
    · exact h
    · rw [List.getElem?_eq_none (by simp; omega)] at hu; cases hu
  subst hi
  have hu' : u = .int .i64 p := by simpa using hu.symm
  subst hu'
  rw [show (Kd.int .i64).sz = 1 from rfl, Nat.mul_one, Nat.add_zero]
  have hj1 : j < (zs.take len).length := (List.getElem?_eq_some_iff.1 hj).1
  have hj2 : j < zs.length := by simp at hj1; omega
  rw [hc j hj2]
  rw [List.getElem?_take] at hj
  split at hj
  · simp [List.getD, hj]
  · cases hj
/-- numbers that came in -/
theorem open_nums {fuel : Nat} {cs : List Value} {x : DataW H × List MemPlace} (h : DataW.trod enc Try.prog W base sp held fuel 56 cs = some x) :
    ∃ (A : Option Addr) (cap : Nat) (xs : List Int), cs = [.slice A xs.length cap] ∧ xs.length ≤ cap ∧ (Kd.int .i64).C W A xs.length xs ∧ ∀ n ∈ xs, (Lit.int .i64 n).wf = true := by
  rcases open_ints Try.underlying56 Try.underlying3 (by kernel_rfl) h with ⟨rfl, _⟩ | ⟨a, l, c, zs, rfl, _, hl, hm, hz, _, hcell, hwz⟩
  · exact ⟨none, 0, [], rfl, Nat.le_refl _, Kd.C_nil _ _, by simp⟩
  · have hlz : l ≤ zs.length := by rw [hz]; split <;> omega
    have hlm : l ≤ 9223372036854775807 := by have : c ≤ 9223372036854775807 := hm; omega
    have ht : (zs.take l).length = l := by simp; omega
    exact ⟨some a, c, zs.take l, by rw [ht], by omega, by rw [ht]; exact C_of_ints hlz hlm hcell, fun n hn => hwz n (List.mem_of_mem_take hn)⟩
theorem list9 {α : Type} {cs : List α} (h : cs.length = 9) : ∃ c0 c1 c2 c3 c4 c5 c6 c7 c8, cs = [c0, c1, c2, c3, c4, c5, c6, c7, c8] := by
  match cs, h with
  | [c0, c1, c2, c3, c4, c5, c6, c7, c8], _ => exact ⟨_, _, _, _, _, _, _, _, _, rfl⟩
theorem list6 {α : Type} {cs : List α} (h : cs.length = 6) : ∃ c0 c1 c2 c3 c4 c5, cs = [c0, c1, c2, c3, c4, c5] := by
  match cs, h with
  | [c0, c1, c2, c3, c4, c5], _ => exact ⟨_, _, _, _, _, _, rfl⟩
/-- What a deed that came in is. -/
def inDeed (W : World) (d : S76) (A4 : Option Addr) (c4 : Nat) (A7 : Option Addr) (c7 : Nat) : Prop :=
  d.f1.f3.length ≤ c4 ∧ (Kd.int .u8).C W A4 d.f1.f3.length d.f1.f3 ∧ d.f4.length ≤ c7 ∧ (Kd.int .i64).C W A7 d.f4.length d.f4 ∧ (∀ n ∈ d.f1.f3, 0 ≤ n ∧ n < 256) ∧ (∀ n ∈ d.f4, (Lit.int .i64 n).wf = true) ∧
    (Lit.int .i64 d.f0).wf = true ∧ (Lit.int .i64 d.f1.f1).wf = true ∧ (Lit.int .i64 d.f1.f2).wf = true ∧ (Lit.int .i64 d.f5).wf = true
set_option maxRecDepth 100000 in
theorem open_deed {fuel : Nat} {cs : List Value} {x : DataW H × List MemPlace} (h : DataW.trod enc Try.prog W base sp held fuel 76 cs = some x) :
    ∃ (d : S76) (A4 : Option Addr) (c4 : Nat) (A7 : Option Addr) (c7 : Nat), cs = [.int .i64 d.f0, .string d.f1.f0, .int .i64 d.f1.f1, .int .i64 d.f1.f2, .slice A4 d.f1.f3.length c4, .string d.f2, .string d.f3, .slice A7 d.f4.length c7, .int .i64 d.f5] ∧ inDeed W d A4 c4 A7 c7 := by
  obtain ⟨xs, n, _, _, hl, hlen, hf⟩ := DataW.trod_struct Try.underlying76 h
  obtain ⟨v0, v1, v2, v3, v4, v5, v6, v7, v8, rfl⟩ := list9 (hl.trans (show Try.prog.cellsOf 76 = 9 by kernel_rfl))
  obtain ⟨y0, y1, y2, y3, y4, y5, rfl⟩ := list6 (hlen.trans rfl)
  have e3 : Try.prog.cellsOf 3 = 1 := by kernel_rfl
  have e9 : Try.prog.cellsOf 9 = 1 := by kernel_rfl
  have e25 : Try.prog.cellsOf 25 = 4 := by kernel_rfl
  have e56 : Try.prog.cellsOf 56 = 1 := by kernel_rfl
  have e23 : Try.prog.cellsOf 23 = 1 := by kernel_rfl
  have t0 : DataW.trod enc Try.prog W base sp held n 3 [v0] = some y0 := by simpa [e3] using hf 0 _ rfl
  have t1 : DataW.trod enc Try.prog W base sp held n 25 [v1, v2, v3, v4] = some y1 := by simpa [e25] using hf 1 _ rfl
  have t2 : DataW.trod enc Try.prog W base sp held n 9 [v5] = some y2 := by simpa [e9] using hf 2 _ rfl
  have t3 : DataW.trod enc Try.prog W base sp held n 9 [v6] = some y3 := by simpa [e9] using hf 3 _ rfl
  have t4 : DataW.trod enc Try.prog W base sp held n 56 [v7] = some y4 := by simpa [e56] using hf 4 _ rfl
  have t5 : DataW.trod enc Try.prog W base sp held n 3 [v8] = some y5 := by simpa [e3] using hf 5 _ rfl
  obtain ⟨z0, z1, z2, z3, m, _, _, u0, u1, u2, u3⟩ := Go.Joins.trod_struct4 Try.underlying25 t1
  have u0' : DataW.trod enc Try.prog W base sp held m 9 [v1] = some z0 := by simpa [e9] using u0
  have u1' : DataW.trod enc Try.prog W base sp held m 3 [v2] = some z1 := by simpa [e3] using u1
  have u2' : DataW.trod enc Try.prog W base sp held m 3 [v3] = some z2 := by simpa [e3] using u2
  have u3' : DataW.trod enc Try.prog W base sp held m 23 [v4] = some z3 := by simpa [e23] using u3
  obtain ⟨i, hi, _, wi⟩ := DataW.trod_int Try.underlying3 t0
  obtain ⟨s1, hs1, _, _⟩ := DataW.trod_string Try.underlying9 u0'
  obtain ⟨i1, hi1, _, wi1⟩ := DataW.trod_int Try.underlying3 u1'
  obtain ⟨i2, hi2, _, wi2⟩ := DataW.trod_int Try.underlying3 u2'
  obtain ⟨A4, c4, l4, hv4, hc4, hC4, hb4⟩ := open_bytes u3'
  obtain ⟨s2, hs2, _, _⟩ := DataW.trod_string Try.underlying9 t2
  obtain ⟨s3, hs3, _, _⟩ := DataW.trod_string Try.underlying9 t3
  obtain ⟨A7, c7, l7, hv7, hc7, hC7, hb7⟩ := open_nums t4
  obtain ⟨i5, hi5, _, wi5⟩ := DataW.trod_int Try.underlying3 t5
  simp only [List.cons.injEq, and_true] at hi hs1 hi1 hi2 hv4 hs2 hs3 hv7 hi5
  exact ⟨⟨i, ⟨s1, i1, i2, l4⟩, s2, s3, l7, i5⟩, A4, c4, A7, c7, by rw [hi, hs1, hi1, hi2, hv4, hs2, hs3, hv7, hi5], hc4, hC4, hc7, hC7, hb4, hb7, wi, wi1, wi2, wi5⟩
end
end Go.Proofs.Ytcgeioingikeeaa.P
namespace Go.Proofs.Ytcgeioingikeeaa.P
open Go.RowKit Go.Proofs.YtcgeioingikeeaaW.PrintWords Go.Proofs.YtcgeioingikeeaaW.PrintLast Go.Proofs.YtcgeioingikeeaaW.PrintMore
open Go.ChangeShapes Go.WideShapes Go.ChangeAt
set_option linter.unusedVariables false
section
variable {H : Type} {enc : TypeId × Value → H} {W : World} {base : Nat} {sp : Nat → Bool} {held : Bool}
/-- What one deed of a list that came in is, beside its cells. -/
def deedIn (d : S76) : Prop := (∀ n ∈ d.f1.f3, 0 ≤ n ∧ n < 256) ∧ (∀ n ∈ d.f4, (Lit.int .i64 n).wf = true) ∧ (Lit.int .i64 d.f0).wf = true ∧ (Lit.int .i64 d.f1.f1).wf = true ∧ (Lit.int .i64 d.f1.f2).wf = true ∧ (Lit.int .i64 d.f5).wf = true
theorem open_deeds {fuel : Nat} {cs : List Value} {x : DataW H × List MemPlace} (h : DataW.trod enc Try.prog W base sp held fuel 54 cs = some x) :
    ∃ (A : Option Addr) (cap : Nat) (xs : List S76), cs = [.slice A xs.length cap] ∧ xs.length ≤ cap ∧ k76.C W A xs.length xs ∧ ∀ y ∈ xs, deedIn y := by
  rcases Go.Deep.open_slice Try.underlying54 h with ⟨rfl, _⟩ | ⟨a, l, c, m, n, D, Pl, rfl, _, hl, hm, hmm, _, hx⟩
  · exact ⟨none, 0, [], rfl, Nat.le_refl _, Kd.C_nil _ _, by simp⟩
  · have hlm : l ≤ m := by rw [hmm]; split <;> omega
    have hl63 : l ≤ 9223372036854775807 := by have : c ≤ 9223372036854775807 := hm; omega
    have ce : Try.prog.cellsOf 76 = 9 := by kernel_rfl
    have each : ∀ i, i < l → ∃ q : S76 × List Value, (∀ j u, q.2[j]? = some u → W.cell? (a.add (i * 9 + j)) = some u) ∧ k76.K W q.1 q.2 ∧ deedIn q.1 := by
      intro i hi
      obtain ⟨cs', h1, h2⟩ := hx i (by omega)
      rw [ce] at h1
      obtain ⟨_, hlen, hcell⟩ := World.cells?_some h1
      obtain ⟨d, A4, c4, A7, c7, rfl, hc4, hC4, hc7, hC7, hrest⟩ := open_deed h2
      refine ⟨(d, _), fun j u hj => ?_, k76_mk W d hc4 hC4 hc7 hC7, hrest⟩
      have hjl : j < 9 := by
        have := (List.getElem?_eq_some_iff.1 hj).1
        exact this
      have := hcell j hjl
      rw [Go.Deep.add_add] at this
      rw [this]
      exact hj
    haveI : Inhabited S76 := ⟨z76⟩
    obtain ⟨q, hq⟩ := Go.Deep.choose_lt each
    have hlen : ((List.range l).map fun i => (q i).1).length = l := by simp
    refine ⟨some a, c, (List.range l).map fun i => (q i).1, by rw [hlen], by omega, ?_, ?_⟩
    · rw [hlen]
      refine ⟨hlen, hl63, fun _ => ⟨a, rfl, fun j p hj => ?_⟩⟩
      have hjl : j < l := by
        have := (List.getElem?_eq_some_iff.1 hj).1
        rwa [hlen] at this
      have hp : p = (q j).1 := by simpa [hjl] using hj.symm
      subst hp
      obtain ⟨g0, g1, _⟩ := hq j hjl
      exact ⟨(q j).2, k76.K_len g1, g1, g0⟩
    · intro y hy
      obtain ⟨i, hi, rfl⟩ := List.mem_map.1 hy
      exact (hq i (List.mem_range.1 hi)).2.2
def inDeeds (W : World) (A : Option Addr) (len cap : Nat) (xs : List S76) : Prop := len = xs.length ∧ xs.length ≤ cap ∧ k76.C W A xs.length xs ∧ ∀ y ∈ xs, deedIn y
theorem in_deeds {A : Option Addr} {len cap : Nat} {d : DataW H} {p : List MemPlace} (h : DataW.Trod enc Try.prog W base sp held 54 (.slice A len cap) d p) : ∃ xs, inDeeds W A len cap xs := by
  obtain ⟨fuel, hf⟩ := h
  obtain ⟨A', c', xs, e1, e2, e3, e4⟩ := open_deeds hf
  simp only [Value.cells, List.cons.injEq, Value.slice.injEq, and_true] at e1
  obtain ⟨rfl, rfl, rfl⟩ := e1
  exact ⟨xs, rfl, e2, e3, e4⟩
end
end Go.Proofs.Ytcgeioingikeeaa.P
