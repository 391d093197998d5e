/- awake returns true. -/
import Derived.Test.YtcgeioingikeeaaH6
namespace Go.Proofs.Ytcgeioingikeeaa.P
open Go.RowKit Go.Proofs.YtcgeioingikeeaaW.PrintWords Go.Proofs.YtcgeioingikeeaaW.PrintLast Go.Proofs.YtcgeioingikeeaaW.PrintMore
def gambrellaw17_awake.f : Option Bool := some true
set_option maxHeartbeats 16000000 in
set_option maxRecDepth 100000 in
theorem awake17 (w : World) : Calls Try.prog 15 #[] w fun e w' => e = .returned (.bool true) ∧ Below w.heap.size w w' := by
  have kc := fun (w : World) (C : Array Value) (n c : Nat) => Lib.run_convert_bytes_const (P := Try.prog) w 23 5 C n c Try.underlying23 Try.underlying5
  have hstr := strs
  go_enter Try.func15, Try.ntmps15
  go_wp2_with (first
    | (go_at_call 23; ((with_reducible refine (lput1 _ w.heap.size ?hC1).mono ?_); case hC1 => exact C_marked (heap_alloc_new _ _) (by simp)); rintro e w1 ⟨A1, c1, rfl, hv1, hb1⟩; have HV1 := Aside0.mk hv1; have HB1 := Aside0.mk (below_step (below_alloc (Below.refl w.heap.size w) _) hb1); clear hv1 hb1)
    | (go_at_call 23; (with_reducible refine (lput2 _ A1 c1 HV1.out).mono ?_); rintro e w2 ⟨A2, c2, rfl, hv2, hb2⟩; have HV2 := Aside0.mk hv2; have HB2 := Aside0.mk (below_step HB1.out hb2); clear hv2 hb2)
    | (go_at_call 17; (with_reducible refine (ldo _ A2 c2 w2.heap.size (Kd.V_alloc HV2.out _) (C_marked (heap_alloc_new _ _) (by simp))).mono ?_); rintro e w3 ⟨A3, c3, rfl, hv3, hv23, hb3⟩; have HV3 := Aside0.mk hv3; have HB3 := Aside0.mk (below_step (below_alloc HB2.out _) hb3); have HV23 := Aside0.mk hv23; clear hv3 hb3 hv23)
    | (go_at_call 28; (with_reducible refine (lget _ A2 A3 c2 c3 HV3.out HV23.out).mono ?_); rintro e w4 ⟨A4, c4, rfl, ho4, hb4⟩; have HB4 := Aside0.mk (below_step HB3.out hb4); have HO4 := Aside0.mk ho4; clear ho4 hb4)
    | (go_at_call 27; go_loud (obtain ⟨hva4, hvb4, b4, hr4⟩ := HO4.out; (with_reducible refine (lmay _ b4 A2 A3 A4 c2 c3 c4 hva4 hvb4 hr4).mono ?_); rintro e w5 ⟨rfl, ⟨hva5, hvb5, b5, hr5⟩, hb5⟩; have HB5 := Aside0.mk (below_step HB4.out hb5); have HV35 := Aside0.mk hva5; have hcv := own_string (P := Try.prog) Try.underlying23 Try.underlying5 Try.underlying9 (Kd.own_of_R hr5); obtain ⟨ad, ea, hx0⟩ := lfirst _ A2 c2 hvb5; cases ea; have hx1 := lat0 _ _ _ hx0; clear hva4 hvb4 hr4 hva5 hvb5 hr5 hb5))
    | (go_at_call 35; (with_reducible refine (lsize _ A3 c3 HV35.out).mono ?_); rintro e w6 ⟨rfl, hb6⟩; have HB6 := Aside0.mk (below_step HB5.out hb6); clear hb6))
  go_ret
  exact ⟨rfl, HB6.out⟩
theorem gambrellaw17_awake.calls (r : Bool) (w : World) (h : gambrellaw17_awake.f = some r) :
    Calls Try.prog 15 #[] w fun e w' => e = .returned (.bool r) ∧ Below w.heap.size w w' := by
  obtain rfl := Option.some.inj h
  exact awake17 w
end Go.Proofs.Ytcgeioingikeeaa.P
