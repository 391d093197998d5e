/- slices.Grow over bytes of nothing: a row of bytes of its own that holds nothing yet, wherever what it must have room for is no less than 0 and at most 2^40. -/
import Derived.Test.YtibcgallhldnnaaP0
import Derived.Lib.AppendZeros
namespace Go.Proofs.Ytibcgallhldnnaa.P
open Go.RowKit Go.Proofs.YtibcgallhldnnaaW.PrintWords Go.Proofs.YtibcgallhldnnaaW.PrintLast Go.Proofs.YtibcgallhldnnaaW.PrintMore
set_option linter.unusedVariables false
set_option linter.unusedSimpArgs false

def slices_Grow_byte_byte.f (l0 : List Int) (a1 : Int) : Option (List Int) := if l0 = [] then (if 0 ≤ a1 then (if a1 ≤ 1099511627776 then some [] else none) else none) else none

theorem grow_fresh (w : World) (z : Array Value) (cap : Nat) (hz : z.size = cap) (hc : cap ≤ maxLen) : Kd.R (Kd.int .u8) 5 (w.drew.alloc (.cells z 5)) w.heap.size (fun _ => True) (.slice (some ⟨w.heap.size, 0, none⟩) 0 cap) [] := by
  refine ⟨fun _ _ => trivial, [], ⟨rfl, .inr ⟨w.heap.size, cap, z, rfl, Nat.le_refl _, heap_alloc_new w.drew _, Nat.zero_le _, hc, ?_, rfl⟩⟩, Reps.none _ _⟩
  rw [hz]; exact (Nat.mul_one _).symm

set_option maxHeartbeats 2000000 in
theorem slices_Grow_byte_byte.calls (A0 : Option Addr) (c0 : Nat) (l0 : List Int) (a1 : Int) (r : List Int) (w : World) (hr0 : Kd.C (Kd.int .u8) w A0 l0.length l0) (hc0 : l0.length ≤ c0) (h : slices_Grow_byte_byte.f l0 a1 = some r) :
    Calls Try.prog 37 #[.slice none 0 0, .int .i64 a1] w fun e w' => ∃ v0_ : Value, e = .returned (v0_) ∧ Kd.R (Kd.int .u8) 5 w' w.heap.size (fun _ => True) v0_ r ∧ Below w.heap.size w w' := by
  unfold slices_Grow_byte_byte.f at h
  by_cases h1 : l0 = []
  · rw [if_pos h1] at h
    by_cases h2 : 0 ≤ a1
    · rw [if_pos h2] at h
      by_cases h3 : a1 ≤ 1099511627776
      · rw [if_pos h3] at h
        obtain rfl := Option.some.inj h
        clear h hr0 hc0 h1
        obtain ⟨n, rfl⟩ := Int.eq_ofNat_of_zero_le h2
        by_cases h4 : n = 0
        · subst h4
          go_enter Try.func37, Try.ntmps37
          go_wp2
          go_ret
          exact ⟨_, rfl, Kd.R_nil _ _ _ _ _, Below.refl _ _⟩
        · obtain ⟨i0, hi, hz⟩ := Option.map_eq_some_iff.1 info5
          simp only [Prod.mk.injEq] at hz
          obtain ⟨hz0, hz1, hz2⟩ := hz
          have hn : (0 : Int) < (n : Int) := by omega
          have hap0 := Lib.run_append_nil_zeros (P := Try.prog) w 24 3 24 5 i0 (.int .u8 0) .i64 .i64 Try.underlying24 Try.underlying3 hi hz0 n (by omega) (by omega) (by omega) (by rw [hz2]; omega)
          obtain ⟨cap, hcap⟩ : ∃ c, c = grownCap w n 0 5 := ⟨_, rfl⟩
          have hge := grownCap_ge w n 0 5
          have hle := grownCap_le_maxLen w n 0 5 (by simp only [maxLen]; omega)
          obtain ⟨Z, hZ⟩ : ∃ Z, Z = Builtin.zeroCells (Value.int .u8 0).cells n ++ Builtin.zeroCells (Value.int .u8 0).cells (grownCap w n 0 5 - n) := ⟨_, rfl⟩
          have hzs : Z.size = cap := by
            rw [hZ, hcap, Array.size_append, size_zeroCells, size_zeroCells]
            show n * 1 + (grownCap w n 0 5 - n) * 1 = _
            omega
          rw [← hZ, ← hcap] at hap0
          rw [← hcap] at hge hle
          have HAP := Aside0.mk hap0
          have HF := Aside0.mk (grow_fresh w Z cap hzs hle)
          clear hap0 hZ hcap
          go_enter Try.func37, Try.ntmps37
          go_wp2_with (at_builtin; refine Lib.wpList_append_run _ rfl _ _ 24 3 rfl _ _ rfl rfl _ _ HAP.out ?_)
          go_ret
          exact ⟨_, rfl, HF.out, below_alloc (below_drew (Below.refl _ _)) _⟩
      · rw [if_neg h3] at h
        exact absurd h (by simp)
    · rw [if_neg h2] at h
      exact absurd h (by simp)
  · rw [if_neg h1] at h
    exact absurd h (by simp)

end Go.Proofs.Ytibcgallhldnnaa.P
