/- Plain laws of layout: what params may be, which unit and how many bytes ahead a layout has, how many bytes a shard has. -/
import Derived.Test.YtibcgallhldnnaaPf20
import Derived.Test.YtibcgallhldnnaaPf13
import Derived.Test.YtibcgallhldnnaaPf14
import Derived.Test.YtibcgallhldnnaaH3
import Derived.Test.YtibcgallhldnnaaH4
namespace Go.Proofs.Ytibcgallhldnnaa.P
open Go.RowKit Go.Proofs.YtibcgallhldnnaaW.PrintWords Go.Proofs.YtibcgallhldnnaaW.PrintLast Go.Proofs.YtibcgallhldnnaaW.PrintMore
set_option linter.unusedVariables false
set_option linter.unusedSimpArgs false

def layB (p : Int) : Int := if p = 1 ∨ p = 2 then 106 else if p = 3 ∨ p = 4 then 105 else if p = 5 then 98 else if p = 6 then 112 else 0
def maxM (p : Int) : Int := if p = 3 then 3 else if 1 ≤ p ∧ p ≤ 6 then 4 else 0
def mayB (p K M : Int) : Bool := decide ((1 ≤ p ∧ p ≤ 6) ∧ (1 ≤ K ∧ K ≤ 8) ∧ (1 ≤ M ∧ M ≤ maxM p))
def unitP (p : Int) : Int := if layB p = 106 then 8 else if layB p = 105 then 16 else 1
def aheadP (p : Int) : Int := if layB p = 98 then 4 else 0
theorem p_cases (p : Int) : p = 1 ∨ p = 2 ∨ p = 3 ∨ p = 4 ∨ p = 5 ∨ p = 6 ∨ (p < 1 ∨ 6 < p) := by omega
theorem of_pure (p : Int) : ∃ (nm : ByteArray) (a b : Int), profile_Of.f p = some (nm, a, b, layB p, maxM p, decide (1 ≤ p ∧ p ≤ 6)) ∧ gambrelref09_Of.f p = some (nm, a, b, layB p, maxM p, decide (1 ≤ p ∧ p ≤ 6)) := by
  rcases p_cases p with rfl | rfl | rfl | rfl | rfl | rfl | h
  · exact ⟨_, _, _, rfl, rfl⟩
  · exact ⟨_, _, _, rfl, rfl⟩
  · exact ⟨_, _, _, rfl, rfl⟩
  · exact ⟨_, _, _, rfl, rfl⟩
  · exact ⟨_, _, _, rfl, rfl⟩
  · exact ⟨_, _, _, rfl, rfl⟩
  · refine ⟨⟨#[]⟩, 0, 0, ?_, ?_⟩
    · unfold profile_Of.f layB maxM
      rw [if_neg (by omega), if_neg (by omega), if_neg (by omega), if_neg (by omega), if_neg (by omega), if_neg (by omega), if_neg (by omega), if_neg (by omega), if_neg (by omega), if_neg (by omega), if_neg (by omega), if_neg (by omega), decide_eq_false (by omega)]
    · unfold gambrelref09_Of.f layB maxM
      rw [if_neg (by omega), if_neg (by omega), if_neg (by omega), if_neg (by omega), if_neg (by omega), if_neg (by omega), if_neg (by omega), if_neg (by omega), if_neg (by omega), if_neg (by omega), if_neg (by omega), if_neg (by omega), decide_eq_false (by omega)]
theorem may_ifs {P0 : Prop} [Decidable P0] (ok : Bool) (K M mm : Int) (hok : ok = true ↔ P0) : (if ok = true then (if K ≥ 1 then (if K ≤ 8 then (if M ≥ 1 then (some (decide (M ≤ mm))) else (some false)) else (some false)) else (some false)) else (some false)) = some (decide (P0 ∧ (1 ≤ K ∧ K ≤ 8) ∧ (1 ≤ M ∧ M ≤ mm))) := by
  by_cases h0 : P0
  · rw [if_pos (hok.2 h0)]
    by_cases h1 : K ≥ 1
    · rw [if_pos h1]
      by_cases h2 : K ≤ 8
      · rw [if_pos h2]
        by_cases h3 : M ≥ 1
        · rw [if_pos h3]
          congr 1
          exact decide_eq_decide.2 ⟨fun h => ⟨h0, ⟨h1, h2⟩, h3, h⟩, fun h => h.2.2.2⟩
        · rw [if_neg h3, decide_eq_false (fun h => h3 h.2.2.1)]
      · rw [if_neg h2, decide_eq_false (fun h => h2 h.2.1.2)]
    · rw [if_neg h1, decide_eq_false (fun h => h1 h.2.1.1)]
  · rw [if_neg (fun h => h0 (hok.1 h)), decide_eq_false (fun h => h0 h.1)]
theorem may_pure (p K M : Int) : profile_May.f p K M = some (mayB p K M) := by
  obtain ⟨nm, a, b, h, _⟩ := of_pure p
  unfold profile_May.f mayB
  rw [h]
  exact may_ifs _ K M (maxM p) decide_eq_true_iff
theorem may_ref (p K M : Int) : gambrelref09_May.f p K M = some (mayB p K M) := by
  obtain ⟨nm, a, b, _, h⟩ := of_pure p
  unfold gambrelref09_May.f mayB
  rw [h]
  exact may_ifs _ K M (maxM p) decide_eq_true_iff
theorem rule_pure (p K M : Int) : layout_rule.f p K M = some (unitP p, aheadP p) := by
  obtain ⟨nm, a, b, h, _⟩ := of_pure p
  unfold layout_rule.f unitP aheadP
  rw [h]
  show (if layB p = 106 then some ((8 : Int), (0 : Int)) else _) = _
  by_cases h1 : layB p = 106
  · rw [if_pos h1, if_pos h1, if_neg (by omega)]
  · rw [if_neg h1, if_neg h1]
    show (if layB p = 105 then some ((16 : Int), (0 : Int)) else _) = _
    by_cases h2 : layB p = 105
    · rw [if_pos h2, if_pos h2, if_neg (by omega)]
    · rw [if_neg h2, if_neg h2]
      show (if layB p = 98 then some ((1 : Int), (4 : Int)) else _) = _
      by_cases h3 : layB p = 98
      · rw [if_pos h3, if_pos h3]
      · rw [if_neg h3, if_neg h3]
theorem layout_ref (p K M : Int) : gambrelref10_layout.f p K M = some (layB p) := by
  obtain ⟨nm, a, b, _, h⟩ := of_pure p
  unfold gambrelref10_layout.f
  rw [h]; rfl
theorem unit_ref (p : Int) : gambrelref10_unit.f (layB p) = some (unitP p) := by
  unfold gambrelref10_unit.f unitP
  by_cases h1 : layB p = 106
  · rw [if_pos h1, if_pos h1]
  · rw [if_neg h1, if_neg h1]
    by_cases h2 : layB p = 105
    · rw [if_pos h2, if_pos h2]
    · rw [if_neg h2, if_neg h2]
theorem unit_is (p : Int) : (unitP p = 8 ∨ unitP p = 16 ∨ unitP p = 1) := by
  unfold unitP
  by_cases h1 : layB p = 106
  · rw [if_pos h1]; omega
  · rw [if_neg h1]
    by_cases h2 : layB p = 105
    · rw [if_pos h2]; omega
    · rw [if_neg h2]; omega
theorem ahead_is (p : Int) : aheadP p = 0 ∨ aheadP p = 4 := by
  unfold aheadP
  by_cases h1 : layB p = 98
  · rw [if_pos h1]; omega
  · rw [if_neg h1]; omega

/-- How many bytes a shard has. -/
def sizeP (p K n : Int) : Int := unitP p * max ((n + aheadP p + unitP p * K - 1) / (unitP p * K)) 1
theorem mx_max (a b : Int) : mx a b = max a b := by
  unfold mx
  by_cases h : a < b
  · rw [if_pos h]; omega
  · rw [if_neg h]; omega
theorem stripe_le (p K : Int) (hK : 1 ≤ K) (hK8 : K ≤ 8) : 1 ≤ unitP p * K ∧ unitP p * K ≤ 128 := by
  rcases unit_is p with h | h | h <;> rw [h] <;> omega
theorem quo_le (a S : Int) (ha : 0 ≤ a) (hS : 1 ≤ S) : 0 ≤ a / S ∧ a / S ≤ a := ⟨Int.ediv_nonneg ha (by omega), Int.ediv_le_self S ha⟩
theorem may_K {p K M : Int} (h : mayB p K M = true) : 1 ≤ K ∧ K ≤ 8 := (of_decide_eq_true h).2.1
theorem may_p {p K M : Int} (h : mayB p K M = true) : 1 ≤ p ∧ p ≤ 6 := (of_decide_eq_true h).1
theorem sizeP_le (p K n : Int) (hn : 0 ≤ n) (hn2 : n ≤ 4096) (hK : 1 ≤ K) (hK8 : K ≤ 8) : 1 ≤ sizeP p K n ∧ sizeP p K n ≤ 80000 := by
  obtain ⟨h1, h2⟩ := stripe_le p K hK hK8
  unfold sizeP
  obtain ⟨S, hS⟩ : ∃ S, unitP p * K = S := ⟨_, rfl⟩
  rw [hS] at h1 h2 ⊢
  have ha := ahead_is p
  obtain ⟨q0, q1⟩ := quo_le (n + aheadP p + S - 1) S (by omega) h1
  obtain ⟨q, hq⟩ : ∃ q, (n + aheadP p + S - 1) / S = q := ⟨_, rfl⟩
  rw [hq] at q0 q1 ⊢
  rcases unit_is p with h | h | h <;> rw [h] <;> omega
theorem size_j (k : Nat) (p K M n : Int) (hn : 0 ≤ n) (hn2 : n ≤ 4096) (hK : 1 ≤ K) (hK8 : K ≤ 8) :
    ((layout_rule.f p K M).bind fun bt119 => (if (wrap64 (bt119.1 * K)) = 0 then (none) else (some (wrap64 (bt119.1 * (mx (wrap64 (Int.tdiv (wrap64 ((wrap64 ((wrap64 (n + bt119.2)) + (wrap64 (bt119.1 * K)))) - 1)) (wrap64 (bt119.1 * K)))) 1)), (0 : Int))))) = some (sizeP p K n, 0) := by
  have hle := sizeP_le p K n hn hn2 hK hK8
  obtain ⟨h1, h2⟩ := stripe_le p K hK hK8
  rw [rule_pure]
  show (if wrap64 (unitP p * K) = 0 then none else some (wrap64 (unitP p * (mx (wrap64 (Int.tdiv (wrap64 ((wrap64 ((wrap64 (n + aheadP p)) + (wrap64 (unitP p * K)))) - 1)) (wrap64 (unitP p * K)))) 1)), (0 : Int))) = _
  unfold sizeP at hle ⊢
  obtain ⟨S, hS⟩ : ∃ S, unitP p * K = S := ⟨_, rfl⟩
  rw [hS] at h1 h2 hle ⊢
  have ha := ahead_is p
  rw [wrap_is S (by omega) (by omega), if_neg (by omega), wrap_is (n + aheadP p) (by omega) (by omega), wrap_is (n + aheadP p + S) (by omega) (by omega), wrap_is (n + aheadP p + S - 1) (by omega) (by omega), Int.tdiv_eq_ediv_of_nonneg (by omega)]
  obtain ⟨q0, q1⟩ := quo_le (n + aheadP p + S - 1) S (by omega) h1
  obtain ⟨q, hq⟩ : ∃ q, (n + aheadP p + S - 1) / S = q := ⟨_, rfl⟩
  rw [hq] at q0 q1 hle ⊢
  rw [wrap_is q (by omega) (by omega), mx_max, wrap_is _ (by omega) (by omega)]
theorem size_pure (k : Nat) (p K M n : Int) :
    layout_Size.f (k + 1) p K M n = some (if mayB p K M = true ∧ 0 ≤ n then (if n > 4096 then (0, 11) else (sizeP p K n, 0)) else (0, 1)) := by
  unfold layout_Size.f
  rw [may_pure]
  show (if mayB p K M = true then _ else _) = _
  by_cases hm : mayB p K M = true
  · rw [if_pos hm]
    rw [layout_Size.j0]
    by_cases h0 : n < 0
    · rw [if_pos (decide_eq_true h0), if_neg (by omega)]
    · rw [if_neg (show ¬ decide (n < 0) = true from fun h => h0 (of_decide_eq_true h)), if_pos (show mayB p K M = true ∧ 0 ≤ n from ⟨hm, by omega⟩)]
      by_cases h1 : n > 4096
      · rw [if_pos h1, if_pos h1]
      · rw [if_neg h1, if_neg h1]
        exact size_j k p K M n (by omega) (by omega) (may_K hm).1 (may_K hm).2
  · rw [if_neg hm, if_neg (fun h => hm h.1)]
    rw [layout_Size.j0]
    rw [if_pos rfl]

/-- The reference's loop: unit by unit. -/
theorem ref_size_l (p K M n' : Int) (u : Int) (hu : unitP p = u) (hK : 1 ≤ K) (hK8 : K ≤ 8) (hn0 : 0 ≤ n') (hn : n' ≤ 5000) (J : Nat) (hJ : J ≤ 6000) (hJ1 : u * (J : Int) * K ≥ n') (hJ2 : ∀ j : Nat, 1 ≤ j → j < J → u * (j : Int) * K < n') : ∀ d j : Nat, j + d = J → 1 ≤ j →
    gambrelref10_Size.l0 (d + 1) n' (u * (j : Int)) p K M = some (u * (J : Int), 0)
  | 0, j, hj, h1 => by
    obtain rfl : j = J := by omega
    have hb : -1000000 ≤ u * (j : Int) * K ∧ u * (j : Int) * K ≤ 1000000 := by
      have hK' : K = 1 ∨ K = 2 ∨ K = 3 ∨ K = 4 ∨ K = 5 ∨ K = 6 ∨ K = 7 ∨ K = 8 := by omega
      rcases unit_is p with h | h | h <;> rw [hu] at h <;> subst h <;> rcases hK' with rfl | rfl | rfl | rfl | rfl | rfl | rfl | rfl <;> omega
    rw [gambrelref10_Size.l0]
    rw [wrap_is _ (by omega) (by omega), if_neg (by omega)]
  | d + 1, j, hj, h1 => by
    have hb : -1000000 ≤ u * (j : Int) * K ∧ u * (j : Int) * K ≤ 1000000 ∧ 0 ≤ u * (j : Int) ∧ u * (j : Int) ≤ 100000 ∧ 0 ≤ u ∧ u ≤ 16 := by
      have hK' : K = 1 ∨ K = 2 ∨ K = 3 ∨ K = 4 ∨ K = 5 ∨ K = 6 ∨ K = 7 ∨ K = 8 := by omega
      rcases unit_is p with h | h | h <;> rw [hu] at h <;> subst h <;> rcases hK' with rfl | rfl | rfl | rfl | rfl | rfl | rfl | rfl <;> omega
    have h2 := hJ2 j h1 (by omega)
    rw [gambrelref10_Size.l0]
    rw [wrap_is _ (by omega) (by omega), if_pos h2, layout_ref, Option.bind_some, unit_ref, Option.bind_some, hu, wrap_is _ (by omega) (by omega), show u * (j : Int) + u = u * ((j + 1 : Nat) : Int) from by rw [Int.natCast_add, Int.mul_add]; simp]
    exact ref_size_l p K M n' u hu hK hK8 hn0 hn J hJ hJ1 hJ2 d (j + 1) (by omega) (by omega)
theorem ref_size (p K M n : Int) (hm : mayB p K M = true) (hn0 : 0 ≤ n) (hn : n ≤ 4096) : ∃ k, gambrelref10_Size.f k p K M n = some (sizeP p K n, 0) := by
  obtain ⟨hK, hK8⟩ := may_K hm
  obtain ⟨h1, h2⟩ := stripe_le p K hK hK8
  have ha := ahead_is p
  obtain ⟨q0, q1⟩ := quo_le (n + aheadP p + unitP p * K - 1) (unitP p * K) (by omega) h1
  obtain ⟨J, hJ⟩ := Int.eq_ofNat_of_zero_le (show 0 ≤ max ((n + aheadP p + unitP p * K - 1) / (unitP p * K)) 1 by omega)
  have hs : sizeP p K n = unitP p * (J : Int) := by unfold sizeP; rw [hJ]
  have hJ1 : unitP p * (J : Int) * K ≥ n + aheadP p ∧ ∀ j : Nat, 1 ≤ j → j < J → unitP p * (j : Int) * K < n + aheadP p := by
    have hK' : K = 1 ∨ K = 2 ∨ K = 3 ∨ K = 4 ∨ K = 5 ∨ K = 6 ∨ K = 7 ∨ K = 8 := by omega
    rcases unit_is p with h | h | h <;> rw [h] at hJ ⊢ <;> rcases hK' with rfl | rfl | rfl | rfl | rfl | rfl | rfl | rfl <;> (refine ⟨by omega, fun j hj1 hj2 => by omega⟩)
  have hl := ref_size_l p K M (n + aheadP p) (unitP p) rfl hK hK8 (by omega) (by omega) J (by omega) hJ1.1 hJ1.2 (J - 1) 1 (by omega) (by omega)
  rw [show unitP p * ((1 : Nat) : Int) = unitP p from by omega] at hl
  refine ⟨J - 1 + 1 + 1 + 1, ?_⟩
  unfold gambrelref10_Size.f
  rw [may_ref, Option.bind_some, if_pos hm]
  rw [gambrelref10_Size.j0]
  rw [if_neg (show ¬ decide (n < 0) = true from fun h => absurd (of_decide_eq_true h) (by omega)), if_neg (by omega), layout_ref, Option.bind_some]
  have hj1 : ∀ x, x = n + aheadP p → gambrelref10_Size.j1 (J - 1 + 1 + 1) x p K M = some (sizeP p K n, 0) := by
    rintro x rfl
    rw [gambrelref10_Size.j1]
    rw [layout_ref, Option.bind_some, unit_ref, Option.bind_some, hl, hs]
  by_cases h98 : layB p = 98
  · rw [if_pos h98]
    have : aheadP p = 4 := by unfold aheadP; rw [if_pos h98]
    exact hj1 _ (by rw [wrap_is _ (by omega) (by omega), this])
  · rw [if_neg h98]
    have : aheadP p = 0 := by unfold aheadP; rw [if_neg h98]
    exact hj1 _ (by omega)
theorem ref_size_no (p K M n : Int) (h : ¬ (mayB p K M = true ∧ 0 ≤ n)) : gambrelref10_Size.f 1 p K M n = some (0, 1) := by
  unfold gambrelref10_Size.f
  rw [may_ref, Option.bind_some]
  by_cases hm : mayB p K M = true
  · rw [if_pos hm]
    rw [gambrelref10_Size.j0]
    rw [if_pos (decide_eq_true (by have : ¬ 0 ≤ n := fun h0 => h ⟨hm, h0⟩; omega))]
  · rw [if_neg hm]
    rw [gambrelref10_Size.j0]
    rw [if_pos rfl]
theorem ref_size_big (p K M n : Int) (hm : mayB p K M = true) (hn : 4096 < n) : gambrelref10_Size.f 1 p K M n = some (0, 11) := by
  unfold gambrelref10_Size.f
  rw [may_ref, Option.bind_some, if_pos hm]
  rw [gambrelref10_Size.j0]
  rw [if_neg (show ¬ decide (n < 0) = true from fun h => absurd (of_decide_eq_true h) (by omega)), if_pos (by omega)]
end Go.Proofs.Ytibcgallhldnnaa.P
