/- The calls of awake, each at its own arguments. awake returns true. -/
import Derived.Test.YtcgeioingikeeaaH5
import Derived.Test.YtcgeioingikeeaaPf27
import Derived.Test.YtcgeioingikeeaaPf35
import Derived.Lib.SlBytesConst
import Derived.Lib.Strings
namespace Go.Proofs.Ytcgeioingikeeaa.P
open Go.RowKit Go.Proofs.YtcgeioingikeeaaW.PrintWords Go.Proofs.YtcgeioingikeeaaW.PrintLast Go.Proofs.YtcgeioingikeeaaW.PrintMore
set_option linter.unusedVariables false
set_option linter.unusedSimpArgs false

theorem C_marked {w : World} {g : Nat} {xs : List Int} {fr : Nat × Nat} (hg : w.heap[g]? = some (.cells (nums .u8 xs).toArray 5 fr)) (hl : xs.length ≤ 9223372036854775807) : (Kd.int .u8).C w (some ⟨g, 0, none⟩) xs.length xs := by
  refine ⟨rfl, hl, fun _ => ⟨⟨g, 0, none⟩, rfl, fun j p hj => ⟨[.int .u8 p], rfl, rfl, fun i u hu => ?_⟩⟩⟩
  have hi : i = 0 := by
    rcases Nat.eq_zero_or_pos i with h | h
    · exact h
    · rw [List.getElem?_eq_none (by simp; omega)] at hu; cases hu
  subst hi
  have hu' : u = .int .u8 p := by simpa using hu.symm
  subst hu'
  rw [show (Kd.int .u8).sz = 1 from rfl, Nat.mul_one, Nat.add_zero, add_plain, cell_of_row w g j _ 5 fr hg]
  simp [nums, hj]

def fa : S38 := ⟨⟨#[97]⟩, []⟩
def fb : S38 := ⟨⟨#[98]⟩, [120]⟩
def fb2 : S38 := ⟨⟨#[98]⟩, [120, 0, 0, 121, 122]⟩
theorem ev1 : files_Put.f [] ⟨#[98]⟩ [120] = some [fb] := by simp [files_Put.f, putL, insertAt, fb]
theorem ev2 : files_Put.f [fb] ⟨#[97]⟩ [] = some [fa, fb] := by simp [files_Put.f, putL, insertAt, fa, fb, named, Lib.toList_data, Op.bytesLess]
theorem ev3 : files_Do.f [fa, fb] ⟨#[98]⟩ 3 3 [121, 122] (-1) = some ([fa, fb2], 0) := by
  simp [files_Do.f, doRes, keptOf, frmOf, oldOf, putL, insertAt, overlay, fa, fb, fb2, named, Lib.toList_data, Op.bytesLess, ByteArray.size]
theorem ev4 : files_Get.f [fa, fb2] ⟨#[98]⟩ = some ([120, 0, 0, 121, 122], true) := by simp [files_Get.f, fa, fb2, named, Lib.toList_data]
theorem ev5 : files_May.f 3 [fa, fb] = some true := by
  simp [files_May.f, files_May.l0, files_fine.f, rd_T38, fa, fb, Lib.toList_data, Op.bytesLess, ByteArray.size, wrap64]
theorem ev6 : files_Size.f 3 [fa, fb2] = some 5 := by
  simp [files_Size.f, files_Size.l0, rd_T38, fa, fb2, wrap64]
theorem strs : (strOfNums [120, 0, 0, 121, 122]).toList = [120, 0, 0, 121, 122] := by simp [strOfNums, Lib.toList_data]

theorem V_slice {α : Type} {d : Kd α} {e : Nat} {w : World} {base : Nat} {ok : Nat → Prop} {v : Value} {xs : List α} (h : Kd.V d e w base ok v xs) : ∃ A c, v = .slice A xs.length c := by
  obtain ⟨A, c, h1, _⟩ := h; exact ⟨A, c, h1⟩
theorem V_base {α : Type} {d : Kd α} {e : Nat} {w : World} {base base' : Nat} {ok : Nat → Prop} {v : Value} {xs : List α} (h : Kd.V d e w base ok v xs) : Kd.V d e w base' ok v xs := h

theorem lput1 (w : World) (g : Nat) (hC : (Kd.int .u8).C w (some ⟨g, 0, none⟩) 1 [120]) :
    Calls Try.prog 23 #[.slice none 0 0, .string ⟨#[98]⟩, .slice (some ⟨g, 0, none⟩) 1 1] w fun e w' => ∃ (A : Option Addr) (c : Nat), e = .returned (.slice A 1 c) ∧ Kd.V k38 38 w' 0 (fun _ => True) (.slice A 1 c) [fb] ∧ Below w.heap.size w w' := by
  refine (files_Put.calls (fun _ => False) none 0 [] ⟨#[98]⟩ (some ⟨g, 0, none⟩) 1 [120] [fb] w (Kd.V_nil _ _ _ _ _) hC (by simp) ev1).mono ?_
  rintro e w1 ⟨v1, rfl, hv1, hb1⟩
  obtain ⟨A, c, ev⟩ := V_slice hv1
  subst ev
  exact ⟨A, c, rfl, Kd.V_mono (V_base hv1) fun _ _ => trivial, hb1⟩

theorem lput2 (w : World) (A : Option Addr) (c : Nat) (hv : Kd.V k38 38 w 0 (fun _ => True) (.slice A 1 c) [fb]) :
    Calls Try.prog 23 #[.slice A 1 c, .string ⟨#[97]⟩, .slice none 0 0] w fun e w' => ∃ (A : Option Addr) (c : Nat), e = .returned (.slice A 2 c) ∧ Kd.V k38 38 w' 0 (fun _ => True) (.slice A 2 c) [fa, fb] ∧ Below w.heap.size w w' := by
  refine (files_Put.calls (fun _ => True) A c [fb] ⟨#[97]⟩ none 0 [] [fa, fb] w (V_base hv) (Kd.C_nil _ _) (by simp) ev2).mono ?_
  rintro e w1 ⟨v1, rfl, hv1, hb1⟩
  obtain ⟨A, c, ev⟩ := V_slice hv1
  subst ev
  exact ⟨A, c, rfl, Kd.V_mono (V_base hv1) fun _ _ => trivial, hb1⟩

theorem ldo (w : World) (A : Option Addr) (c g : Nat) (hv : Kd.V k38 38 w 0 (fun _ => True) (.slice A 2 c) [fa, fb]) (hC : (Kd.int .u8).C w (some ⟨g, 0, none⟩) 2 [121, 122]) :
    Calls Try.prog 17 #[.slice A 2 c, .agg #[.string ⟨#[98]⟩, .int .i64 3, .int .i64 3, .slice (some ⟨g, 0, none⟩) 2 2], .int .i64 (-1)] w fun e w' => ∃ (A3 : Option Addr) (c3 : Nat), e = .returned (.tuple #[.slice A3 2 c3, .int .i64 0]) ∧ Kd.V k38 38 w' 0 (fun _ => True) (.slice A3 2 c3) [fa, fb2] ∧ Kd.V k38 38 w' 0 (fun _ => True) (.slice A 2 c) [fa, fb] ∧ Below w.heap.size w w' := by
  refine (files_Do.calls (fun _ => True) A c [fa, fb] ⟨#[98]⟩ 3 3 (some ⟨g, 0, none⟩) 2 [121, 122] (-1) [fa, fb2] 0 w (V_base hv) hC (by simp) ev3).mono ?_
  rintro e w1 ⟨v1, rfl, hv1, hb1⟩
  obtain ⟨A3, c3, ev⟩ := V_slice hv1
  subst ev
  exact ⟨A3, c3, rfl, Kd.V_mono (V_base hv1) fun _ _ => trivial, Kd.V_below hv hb1, hb1⟩

theorem lget (w : World) (A2 A : Option Addr) (c2 c : Nat) (hv : Kd.V k38 38 w 0 (fun _ => True) (.slice A 2 c) [fa, fb2]) (hv2 : Kd.V k38 38 w 0 (fun _ => True) (.slice A2 2 c2) [fa, fb]) :
    Calls Try.prog 28 #[.slice A 2 c, .string ⟨#[98]⟩] w fun e w' => ∃ (A4 : Option Addr) (c4 : Nat), e = .returned (.tuple #[.slice A4 5 c4, .bool true]) ∧ (Kd.V k38 38 w' 0 (fun _ => True) (.slice A 2 c) [fa, fb2] ∧ Kd.V k38 38 w' 0 (fun _ => True) (.slice A2 2 c2) [fa, fb] ∧ ∃ b, Kd.R (Kd.int .u8) 5 w' b (fun _ => True) (.slice A4 5 c4) [120, 0, 0, 121, 122]) ∧ Below w.heap.size w w' := by
  refine (files_Get.calls A c [fa, fb2] ⟨#[98]⟩ [120, 0, 0, 121, 122] true w (Kd.V_reads' hv).2.2 (Kd.V_reads' hv).2.1 ev4).mono ?_
  rintro e w1 ⟨v1, rfl, hv1, hb1⟩
  obtain ⟨A3, c3, ev⟩ := Kd.R_slice hv1
  subst ev
  exact ⟨A3, c3, rfl, ⟨Kd.V_below hv hb1, Kd.V_below hv2 hb1, _, hv1⟩, hb1⟩

theorem lmay (w : World) (b : Nat) (A2 A A4 : Option Addr) (c2 c c4 : Nat) (hv : Kd.V k38 38 w 0 (fun _ => True) (.slice A 2 c) [fa, fb2]) (hv2 : Kd.V k38 38 w 0 (fun _ => True) (.slice A2 2 c2) [fa, fb]) (hr : Kd.R (Kd.int .u8) 5 w b (fun _ => True) (.slice A4 5 c4) [120, 0, 0, 121, 122]) :
    Calls Try.prog 27 #[.slice A2 2 c2] w fun e w' => e = .returned (.bool true) ∧ (Kd.V k38 38 w' 0 (fun _ => True) (.slice A 2 c) [fa, fb2] ∧ Kd.V k38 38 w' 0 (fun _ => True) (.slice A2 2 c2) [fa, fb] ∧ ∃ b, Kd.R (Kd.int .u8) 5 w' b (fun _ => True) (.slice A4 5 c4) [120, 0, 0, 121, 122]) ∧ Below w.heap.size w w' := by
  refine (files_May.calls 3 A2 c2 [fa, fb] true w (Kd.V_reads' hv2).2.2 (Kd.V_reads' hv2).2.1 ev5).mono ?_
  rintro e w1 ⟨rfl, hb1⟩
  exact ⟨rfl, ⟨Kd.V_below hv hb1, Kd.V_below hv2 hb1, b, Kd.R_below hr hb1⟩, hb1⟩

theorem lsize (w : World) (A : Option Addr) (c : Nat) (hv : Kd.V k38 38 w 0 (fun _ => True) (.slice A 2 c) [fa, fb2]) :
    Calls Try.prog 35 #[.slice A 2 c] w fun e w' => e = .returned (.int .i64 5) ∧ Below w.heap.size w w' :=
  files_Size.calls 3 A c [fa, fb2] 5 w (Kd.V_reads' hv).2.2 (Kd.V_reads' hv).2.1 ev6

theorem lat0 (w : World) (ad : Addr) (v : Value) (h : w.cell? (ad.add 0) = some v) : w.cell? ad = some v := h
theorem lfirst (w : World) (A : Option Addr) (c : Nat) (hv : Kd.V k38 38 w 0 (fun _ => True) (.slice A 2 c) [fa, fb]) : ∃ ad : Addr, A = some ad ∧ w.cell? (ad.add 0) = some (.string ⟨#[97]⟩) := by
  obtain ⟨ad, B1, d1, ea, hx0, _⟩ := at_T38 (Kd.V_reads' hv).2.2 0 (by simp) (by simp)
  exact ⟨ad, ea, hx0⟩
end Go.Proofs.Ytcgeioingikeeaa.P
namespace Go.Proofs.Ytcgeioingikeeaa.P
open Go.RowKit Go.Proofs.YtcgeioingikeeaaW.PrintWords Go.Proofs.YtcgeioingikeeaaW.PrintLast Go.Proofs.YtcgeioingikeeaaW.PrintMore
set_option linter.unusedVariables false
set_option linter.unusedSimpArgs false
def gambrellaw17_awake.f : Option Bool := some true
set_option maxHeartbeats 16000000 in
set_option maxRecDepth 100000 in
theorem awake17 (w : World) : Calls Try.prog 15 #[] w fun e w' => e = .returned (.bool true) ∧ Below w.heap.size w w' := by
  have kc := fun (w : World) (C : Array Value) (n c : Nat) => Lib.run_convert_bytes_const (P := Try.prog) w 23 5 C n c Try.underlying23 Try.underlying5
  have hstr := strs
  go_enter Try.func15, Try.ntmps15
  go_wp2_with (first
    | (go_at_call 23; ((with_reducible refine (lput1 _ w.heap.size ?hC1).mono ?_); case hC1 => exact C_marked (heap_alloc_new _ _) (by simp)); rintro e w1 ⟨A1, c1, rfl, hv1, hb1⟩; have HV1 := Aside0.mk hv1; have HB1 := Aside0.mk (below_step (below_alloc (Below.refl w.heap.size w) _) hb1); clear hv1 hb1)
    | (go_at_call 23; (with_reducible refine (lput2 _ A1 c1 HV1.out).mono ?_); rintro e w2 ⟨A2, c2, rfl, hv2, hb2⟩; have HV2 := Aside0.mk hv2; have HB2 := Aside0.mk (below_step HB1.out hb2); clear hv2 hb2)
    | (go_at_call 17; (with_reducible refine (ldo _ A2 c2 w2.heap.size (Kd.V_alloc HV2.out _) (C_marked (heap_alloc_new _ _) (by simp))).mono ?_); rintro e w3 ⟨A3, c3, rfl, hv3, hv23, hb3⟩; have HV3 := Aside0.mk hv3; have HB3 := Aside0.mk (below_step (below_alloc HB2.out _) hb3); have HV23 := Aside0.mk hv23; clear hv3 hb3 hv23)
    | (go_at_call 28; (with_reducible refine (lget _ A2 A3 c2 c3 HV3.out HV23.out).mono ?_); rintro e w4 ⟨A4, c4, rfl, ho4, hb4⟩; have HB4 := Aside0.mk (below_step HB3.out hb4); have HO4 := Aside0.mk ho4; clear ho4 hb4)
    | (go_at_call 27; go_loud (obtain ⟨hva4, hvb4, b4, hr4⟩ := HO4.out; (with_reducible refine (lmay _ b4 A2 A3 A4 c2 c3 c4 hva4 hvb4 hr4).mono ?_); rintro e w5 ⟨rfl, ⟨hva5, hvb5, b5, hr5⟩, hb5⟩; have HB5 := Aside0.mk (below_step HB4.out hb5); have HV35 := Aside0.mk hva5; have hcv := own_string (P := Try.prog) Try.underlying23 Try.underlying5 Try.underlying9 (Kd.own_of_R hr5); obtain ⟨ad, ea, hx0⟩ := lfirst _ A2 c2 hvb5; cases ea; have hx1 := lat0 _ _ _ hx0; clear hva4 hvb4 hr4 hva5 hvb5 hr5 hb5))
    | (go_at_call 35; (with_reducible refine (lsize _ A3 c3 HV35.out).mono ?_); rintro e w6 ⟨rfl, hb6⟩; have HB6 := Aside0.mk (below_step HB5.out hb6); clear hb6))
  go_ret
  exact ⟨rfl, HB6.out⟩
theorem gambrellaw17_awake.calls (r : Bool) (w : World) (h : gambrellaw17_awake.f = some r) :
    Calls Try.prog 15 #[] w fun e w' => e = .returned (.bool r) ∧ Below w.heap.size w w' := by
  obtain rfl := Option.some.inj h
  exact awake17 w
end Go.Proofs.Ytcgeioingikeeaa.P
