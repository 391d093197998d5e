/- Plain laws of layout: what params may be, how many bytes a shard has, what bytes are, split and joined. -/
import Derived.Test.YtibcgallhldnnaaPf20
import Derived.Test.YtibcgallhldnnaaPf13
import Derived.Test.YtibcgallhldnnaaPf14
import Derived.Test.YtibcgallhldnnaaM2
import Derived.Test.YtibcgallhldnnaaH4
namespace Go.Proofs.Ytibcgallhldnnaa.P
open Go.RowKit Go.Proofs.YtibcgallhldnnaaW.PrintWords Go.Proofs.YtibcgallhldnnaaW.PrintLast Go.Proofs.YtibcgallhldnnaaW.PrintMore
set_option linter.unusedVariables false
set_option linter.unusedSimpArgs false

def layB (p : Int) : Int := if p = 1 ∨ p = 2 then 106 else if p = 3 ∨ p = 4 then 105 else if p = 5 then 98 else if p = 6 then 112 else 0
def maxM (p : Int) : Int := if p = 3 then 3 else if 1 ≤ p ∧ p ≤ 6 then 4 else 0
def mayB (p K M : Int) : Bool := decide ((1 ≤ p ∧ p ≤ 6) ∧ (1 ≤ K ∧ K ≤ 8) ∧ (1 ≤ M ∧ M ≤ maxM p))
def unitP (p : Int) : Int := if layB p = 106 then 8 else if layB p = 105 then 16 else 1
def aheadP (p : Int) : Int := if layB p = 98 then 4 else 0
theorem p_cases (p : Int) : p = 1 ∨ p = 2 ∨ p = 3 ∨ p = 4 ∨ p = 5 ∨ p = 6 ∨ (p < 1 ∨ 6 < p) := by omega
theorem of_pure (p : Int) : ∃ (nm : ByteArray) (a b : Int), profile_Of.f p = some (nm, a, b, layB p, maxM p, decide (1 ≤ p ∧ p ≤ 6)) ∧ gambrelref09_Of.f p = some (nm, a, b, layB p, maxM p, decide (1 ≤ p ∧ p ≤ 6)) := by
  rcases p_cases p with rfl | rfl | rfl | rfl | rfl | rfl | h
  · exact ⟨_, _, _, rfl, rfl⟩
  · exact ⟨_, _, _, rfl, rfl⟩
  · exact ⟨_, _, _, rfl, rfl⟩
  · exact ⟨_, _, _, rfl, rfl⟩
  · exact ⟨_, _, _, rfl, rfl⟩
  · exact ⟨_, _, _, rfl, rfl⟩
  · refine ⟨⟨#[]⟩, 0, 0, ?_, ?_⟩
    · unfold profile_Of.f layB maxM
      rw [if_neg (by omega), if_neg (by omega), if_neg (by omega), if_neg (by omega), if_neg (by omega), if_neg (by omega), if_neg (by omega), if_neg (by omega), if_neg (by omega), if_neg (by omega), if_neg (by omega), if_neg (by omega), decide_eq_false (by omega)]
    · unfold gambrelref09_Of.f layB maxM
      rw [if_neg (by omega), if_neg (by omega), if_neg (by omega), if_neg (by omega), if_neg (by omega), if_neg (by omega), if_neg (by omega), if_neg (by omega), if_neg (by omega), if_neg (by omega), if_neg (by omega), if_neg (by omega), decide_eq_false (by omega)]
theorem may_ifs {P0 : Prop} [Decidable P0] (ok : Bool) (K M mm : Int) (hok : ok = true ↔ P0) : (if ok = true then (if K ≥ 1 then (if K ≤ 8 then (if M ≥ 1 then (some (decide (M ≤ mm))) else (some false)) else (some false)) else (some false)) else (some false)) = some (decide (P0 ∧ (1 ≤ K ∧ K ≤ 8) ∧ (1 ≤ M ∧ M ≤ mm))) := by
  by_cases h0 : P0
  · rw [if_pos (hok.2 h0)]
    by_cases h1 : K ≥ 1
    · rw [if_pos h1]
      by_cases h2 : K ≤ 8
      · rw [if_pos h2]
        by_cases h3 : M ≥ 1
        · rw [if_pos h3]
          congr 1
          exact decide_eq_decide.2 ⟨fun h => ⟨h0, ⟨h1, h2⟩, h3, h⟩, fun h => h.2.2.2⟩
        · rw [if_neg h3, decide_eq_false (fun h => h3 h.2.2.1)]
      · rw [if_neg h2, decide_eq_false (fun h => h2 h.2.1.2)]
    · rw [if_neg h1, decide_eq_false (fun h => h1 h.2.1.1)]
  · rw [if_neg (fun h => h0 (hok.1 h)), decide_eq_false (fun h => h0 h.1)]
theorem may_pure (p K M : Int) : profile_May.f p K M = some (mayB p K M) := by
  obtain ⟨nm, a, b, h, _⟩ := of_pure p
  unfold profile_May.f mayB
  rw [h]
  exact may_ifs _ K M (maxM p) decide_eq_true_iff
theorem may_ref (p K M : Int) : gambrelref09_May.f p K M = some (mayB p K M) := by
  obtain ⟨nm, a, b, _, h⟩ := of_pure p
  unfold gambrelref09_May.f mayB
  rw [h]
  exact may_ifs _ K M (maxM p) decide_eq_true_iff
theorem rule_pure (p K M : Int) : layout_rule.f p K M = some (unitP p, aheadP p) := by
  obtain ⟨nm, a, b, h, _⟩ := of_pure p
  unfold layout_rule.f unitP aheadP
  rw [h]
  show (if layB p = 106 then some ((8 : Int), (0 : Int)) else _) = _
  by_cases h1 : layB p = 106
  · rw [if_pos h1, if_pos h1, if_neg (by omega)]
  · rw [if_neg h1, if_neg h1]
    show (if layB p = 105 then some ((16 : Int), (0 : Int)) else _) = _
    by_cases h2 : layB p = 105
    · rw [if_pos h2, if_pos h2, if_neg (by omega)]
    · rw [if_neg h2, if_neg h2]
      show (if layB p = 98 then some ((1 : Int), (4 : Int)) else _) = _
      by_cases h3 : layB p = 98
      · rw [if_pos h3, if_pos h3]
      · rw [if_neg h3, if_neg h3]
theorem layout_ref (p K M : Int) : gambrelref10_layout.f p K M = some (layB p) := by
  obtain ⟨nm, a, b, _, h⟩ := of_pure p
  unfold gambrelref10_layout.f
  rw [h]; rfl
theorem unit_ref (p : Int) : gambrelref10_unit.f (layB p) = some (unitP p) := by
  unfold gambrelref10_unit.f unitP
  by_cases h1 : layB p = 106
  · rw [if_pos h1, if_pos h1]
  · rw [if_neg h1, if_neg h1]
    by_cases h2 : layB p = 105
    · rw [if_pos h2, if_pos h2]
    · rw [if_neg h2, if_neg h2]
theorem unit_is (p : Int) : (unitP p = 8 ∨ unitP p = 16 ∨ unitP p = 1) := by
  unfold unitP
  by_cases h1 : layB p = 106
  · rw [if_pos h1]; omega
  · rw [if_neg h1]
    by_cases h2 : layB p = 105
    · rw [if_pos h2]; omega
    · rw [if_neg h2]; omega
theorem ahead_is (p : Int) : aheadP p = 0 ∨ aheadP p = 4 := by
  unfold aheadP
  by_cases h1 : layB p = 98
  · rw [if_pos h1]; omega
  · rw [if_neg h1]; omega

/-- How many bytes a shard has. -/
def sizeP (p K n : Int) : Int := unitP p * max ((n + aheadP p + unitP p * K - 1) / (unitP p * K)) 1
theorem mx_max (a b : Int) : mx a b = max a b := by
  unfold mx
  by_cases h : a < b
  · rw [if_pos h]; omega
  · rw [if_neg h]; omega
theorem stripe_le (p K : Int) (hK : 1 ≤ K) (hK8 : K ≤ 8) : 1 ≤ unitP p * K ∧ unitP p * K ≤ 128 := by
  rcases unit_is p with h | h | h <;> rw [h] <;> omega
theorem quo_le (a S : Int) (ha : 0 ≤ a) (hS : 1 ≤ S) : 0 ≤ a / S ∧ a / S ≤ a := ⟨Int.ediv_nonneg ha (by omega), Int.ediv_le_self S ha⟩
theorem may_K {p K M : Int} (h : mayB p K M = true) : 1 ≤ K ∧ K ≤ 8 := (of_decide_eq_true h).2.1
theorem may_p {p K M : Int} (h : mayB p K M = true) : 1 ≤ p ∧ p ≤ 6 := (of_decide_eq_true h).1
theorem sizeP_le (p K n : Int) (hn : 0 ≤ n) (hn2 : n ≤ 4096) (hK : 1 ≤ K) (hK8 : K ≤ 8) : 1 ≤ sizeP p K n ∧ sizeP p K n ≤ 80000 := by
  obtain ⟨h1, h2⟩ := stripe_le p K hK hK8
  unfold sizeP
  obtain ⟨S, hS⟩ : ∃ S, unitP p * K = S := ⟨_, rfl⟩
  rw [hS] at h1 h2 ⊢
  have ha := ahead_is p
  obtain ⟨q0, q1⟩ := quo_le (n + aheadP p + S - 1) S (by omega) h1
  obtain ⟨q, hq⟩ : ∃ q, (n + aheadP p + S - 1) / S = q := ⟨_, rfl⟩
  rw [hq] at q0 q1 ⊢
  rcases unit_is p with h | h | h <;> rw [h] <;> omega
theorem size_j (k : Nat) (p K M n : Int) (hn : 0 ≤ n) (hn2 : n ≤ 4096) (hK : 1 ≤ K) (hK8 : K ≤ 8) :
    ((layout_rule.f p K M).bind fun bt119 => (if (wrap64 (bt119.1 * K)) = 0 then (none) else (some (wrap64 (bt119.1 * (mx (wrap64 (Int.tdiv (wrap64 ((wrap64 ((wrap64 (n + bt119.2)) + (wrap64 (bt119.1 * K)))) - 1)) (wrap64 (bt119.1 * K)))) 1)), (0 : Int))))) = some (sizeP p K n, 0) := by
  have hle := sizeP_le p K n hn hn2 hK hK8
  obtain ⟨h1, h2⟩ := stripe_le p K hK hK8
  rw [rule_pure]
  show (if wrap64 (unitP p * K) = 0 then none else some (wrap64 (unitP p * (mx (wrap64 (Int.tdiv (wrap64 ((wrap64 ((wrap64 (n + aheadP p)) + (wrap64 (unitP p * K)))) - 1)) (wrap64 (unitP p * K)))) 1)), (0 : Int))) = _
  unfold sizeP at hle ⊢
  obtain ⟨S, hS⟩ : ∃ S, unitP p * K = S := ⟨_, rfl⟩
  rw [hS] at h1 h2 hle ⊢
  have ha := ahead_is p
  rw [wrap_is S (by omega) (by omega), if_neg (by omega), wrap_is (n + aheadP p) (by omega) (by omega), wrap_is (n + aheadP p + S) (by omega) (by omega), wrap_is (n + aheadP p + S - 1) (by omega) (by omega), Int.tdiv_eq_ediv_of_nonneg (by omega)]
  obtain ⟨q0, q1⟩ := quo_le (n + aheadP p + S - 1) S (by omega) h1
  obtain ⟨q, hq⟩ : ∃ q, (n + aheadP p + S - 1) / S = q := ⟨_, rfl⟩
  rw [hq] at q0 q1 hle ⊢
  rw [wrap_is q (by omega) (by omega), mx_max, wrap_is _ (by omega) (by omega)]
theorem size_pure (k : Nat) (p K M n : Int) :
    layout_Size.f (k + 1) p K M n = some (if mayB p K M = true ∧ 0 ≤ n then (if n > 4096 then (0, 11) else (sizeP p K n, 0)) else (0, 1)) := by
  unfold layout_Size.f
  rw [may_pure]
  show (if mayB p K M = true then _ else _) = _
  by_cases hm : mayB p K M = true
  · rw [if_pos hm]
    rw [layout_Size.j0]
    by_cases h0 : n < 0
    · rw [if_pos (decide_eq_true h0), if_neg (by omega)]
    · rw [if_neg (show ¬ decide (n < 0) = true from fun h => h0 (of_decide_eq_true h)), if_pos (show mayB p K M = true ∧ 0 ≤ n from ⟨hm, by omega⟩)]
      by_cases h1 : n > 4096
      · rw [if_pos h1, if_pos h1]
      · rw [if_neg h1, if_neg h1]
        exact size_j k p K M n (by omega) (by omega) (may_K hm).1 (may_K hm).2
  · rw [if_neg hm, if_neg (fun h => hm h.1)]
    rw [layout_Size.j0]
    rw [if_pos rfl]

/-- The reference's loop: unit by unit. -/
theorem ref_size_l (p K M n' : Int) (u : Int) (hu : unitP p = u) (hK : 1 ≤ K) (hK8 : K ≤ 8) (hn0 : 0 ≤ n') (hn : n' ≤ 5000) (J : Nat) (hJ : J ≤ 6000) (hJ1 : u * (J : Int) * K ≥ n') (hJ2 : ∀ j : Nat, 1 ≤ j → j < J → u * (j : Int) * K < n') : ∀ d j : Nat, j + d = J → 1 ≤ j →
    gambrelref10_Size.l0 (d + 1) n' (u * (j : Int)) p K M = some (u * (J : Int), 0)
  | 0, j, hj, h1 => by
    obtain rfl : j = J := by omega
    have hb : -1000000 ≤ u * (j : Int) * K ∧ u * (j : Int) * K ≤ 1000000 := by
      have hK' : K = 1 ∨ K = 2 ∨ K = 3 ∨ K = 4 ∨ K = 5 ∨ K = 6 ∨ K = 7 ∨ K = 8 := by omega
      rcases unit_is p with h | h | h <;> rw [hu] at h <;> subst h <;> rcases hK' with rfl | rfl | rfl | rfl | rfl | rfl | rfl | rfl <;> omega
    rw [gambrelref10_Size.l0]
    rw [wrap_is _ (by omega) (by omega), if_neg (by omega)]
  | d + 1, j, hj, h1 => by
    have hb : -1000000 ≤ u * (j : Int) * K ∧ u * (j : Int) * K ≤ 1000000 ∧ 0 ≤ u * (j : Int) ∧ u * (j : Int) ≤ 100000 ∧ 0 ≤ u ∧ u ≤ 16 := by
      have hK' : K = 1 ∨ K = 2 ∨ K = 3 ∨ K = 4 ∨ K = 5 ∨ K = 6 ∨ K = 7 ∨ K = 8 := by omega
      rcases unit_is p with h | h | h <;> rw [hu] at h <;> subst h <;> rcases hK' with rfl | rfl | rfl | rfl | rfl | rfl | rfl | rfl <;> omega
    have h2 := hJ2 j h1 (by omega)
    rw [gambrelref10_Size.l0]
    rw [wrap_is _ (by omega) (by omega), if_pos h2, layout_ref, Option.bind_some, unit_ref, Option.bind_some, hu, wrap_is _ (by omega) (by omega), show u * (j : Int) + u = u * ((j + 1 : Nat) : Int) from by rw [Int.natCast_add, Int.mul_add]; simp]
    exact ref_size_l p K M n' u hu hK hK8 hn0 hn J hJ hJ1 hJ2 d (j + 1) (by omega) (by omega)
theorem ref_size (p K M n : Int) (hm : mayB p K M = true) (hn0 : 0 ≤ n) (hn : n ≤ 4096) : ∃ k, gambrelref10_Size.f k p K M n = some (sizeP p K n, 0) := by
  obtain ⟨hK, hK8⟩ := may_K hm
  obtain ⟨h1, h2⟩ := stripe_le p K hK hK8
  have ha := ahead_is p
  obtain ⟨q0, q1⟩ := quo_le (n + aheadP p + unitP p * K - 1) (unitP p * K) (by omega) h1
  obtain ⟨J, hJ⟩ := Int.eq_ofNat_of_zero_le (show 0 ≤ max ((n + aheadP p + unitP p * K - 1) / (unitP p * K)) 1 by omega)
  have hs : sizeP p K n = unitP p * (J : Int) := by unfold sizeP; rw [hJ]
  have hJ1 : unitP p * (J : Int) * K ≥ n + aheadP p ∧ ∀ j : Nat, 1 ≤ j → j < J → unitP p * (j : Int) * K < n + aheadP p := by
    have hK' : K = 1 ∨ K = 2 ∨ K = 3 ∨ K = 4 ∨ K = 5 ∨ K = 6 ∨ K = 7 ∨ K = 8 := by omega
    rcases unit_is p with h | h | h <;> rw [h] at hJ ⊢ <;> rcases hK' with rfl | rfl | rfl | rfl | rfl | rfl | rfl | rfl <;> (refine ⟨by omega, fun j hj1 hj2 => by omega⟩)
  have hl := ref_size_l p K M (n + aheadP p) (unitP p) rfl hK hK8 (by omega) (by omega) J (by omega) hJ1.1 hJ1.2 (J - 1) 1 (by omega) (by omega)
  rw [show unitP p * ((1 : Nat) : Int) = unitP p from by omega] at hl
  refine ⟨J - 1 + 1 + 1 + 1, ?_⟩
  unfold gambrelref10_Size.f
  rw [may_ref, Option.bind_some, if_pos hm]
  rw [gambrelref10_Size.j0]
  rw [if_neg (show ¬ decide (n < 0) = true from fun h => absurd (of_decide_eq_true h) (by omega)), if_neg (by omega), layout_ref, Option.bind_some]
  have hj1 : ∀ x, x = n + aheadP p → gambrelref10_Size.j1 (J - 1 + 1 + 1) x p K M = some (sizeP p K n, 0) := by
    rintro x rfl
    rw [gambrelref10_Size.j1]
    rw [layout_ref, Option.bind_some, unit_ref, Option.bind_some, hl, hs]
  by_cases h98 : layB p = 98
  · rw [if_pos h98]
    have : aheadP p = 4 := by unfold aheadP; rw [if_pos h98]
    exact hj1 _ (by rw [wrap_is _ (by omega) (by omega), this])
  · rw [if_neg h98]
    have : aheadP p = 0 := by unfold aheadP; rw [if_neg h98]
    exact hj1 _ (by omega)
theorem ref_size_no (p K M n : Int) (h : ¬ (mayB p K M = true ∧ 0 ≤ n)) : gambrelref10_Size.f 1 p K M n = some (0, 1) := by
  unfold gambrelref10_Size.f
  rw [may_ref, Option.bind_some]
  by_cases hm : mayB p K M = true
  · rw [if_pos hm]
    rw [gambrelref10_Size.j0]
    rw [if_pos (decide_eq_true (by have : ¬ 0 ≤ n := fun h0 => h ⟨hm, h0⟩; omega))]
  · rw [if_neg hm]
    rw [gambrelref10_Size.j0]
    rw [if_pos rfl]
theorem ref_size_big (p K M n : Int) (hm : mayB p K M = true) (hn : 4096 < n) : gambrelref10_Size.f 1 p K M n = some (0, 11) := by
  unfold gambrelref10_Size.f
  rw [may_ref, Option.bind_some, if_pos hm]
  rw [gambrelref10_Size.j0]
  rw [if_neg (show ¬ decide (n < 0) = true from fun h => absurd (of_decide_eq_true h) (by omega)), if_pos (by omega)]
theorem layOf_length (ah : Int) (h : ah = 0 ∨ ah = 4) (l : List Int) : ((layOf ah l).length : Int) = (l.length : Int) + ah := by
  unfold layOf
  rcases h with rfl | rfl
  · rw [if_neg (by decide)]; omega
  · rw [if_pos rfl]; simp [head4]; omega
theorem size_room (p K n : Int) (hn : 0 ≤ n) (hn2 : n ≤ 4096) (hK : 1 ≤ K) (hK8 : K ≤ 8) : n + aheadP p ≤ K * sizeP p K n ∧ sizeP p K n ≤ 10000 ∧ (sizeP p K n = unitP p ∨ (sizeP p K n - unitP p) * K < n + aheadP p) ∧ (sizeP p K n) % (unitP p) = 0 ∧ unitP p ≤ sizeP p K n := by
  have ha := ahead_is p
  have hK' : K = 1 ∨ K = 2 ∨ K = 3 ∨ K = 4 ∨ K = 5 ∨ K = 6 ∨ K = 7 ∨ K = 8 := by omega
  unfold sizeP
  rcases unit_is p with h | h | h <;> rw [h] <;> rcases hK' with rfl | rfl | rfl | rfl | rfl | rfl | rfl | rfl <;> (refine ⟨by omega, by omega, by omega, by omega, by omega⟩)
/-- The shards of bytes. -/
def shards (p K : Int) (l : List Int) : List (List Int) := splitL K.toNat (sizeP p K (l.length : Int)).toNat (layOf (aheadP p) l)
theorem split_pure (p K M : Int) (l : List Int) (hm : mayB p K M = true) (hl : l.length ≤ 4096) : layout_Split.f p K M l = some (shards p K l, 0) := by
  obtain ⟨hK, hK8⟩ := may_K hm
  unfold layout_Split.f
  rw [size_pure, if_pos ⟨hm, by omega⟩, if_neg (by omega), Option.bind_some, if_pos rfl, rule_pure, Option.bind_some]
  obtain ⟨h1, h2, _⟩ := size_room p K (l.length : Int) (by omega) (by omega) hK hK8
  obtain ⟨h3, _⟩ := sizeP_le p K (l.length : Int) (by omega) (by omega) hK hK8
  rw [if_pos]
  · rfl
  · exact ⟨ahead_is p, hl, h3, h2, hK, hK8, by show ((layOf (aheadP p) l).length : Int) ≤ _; rw [layOf_length _ (ahead_is p)]; exact h1⟩
theorem split_no (p K M : Int) (l : List Int) (hm : ¬ mayB p K M = true) : layout_Split.f p K M l = some ([], 1) := by
  unfold layout_Split.f
  rw [size_pure, if_neg (fun h => hm h.1), Option.bind_some, if_neg (by decide)]
theorem split_big (p K M : Int) (l : List Int) (hm : mayB p K M = true) (hl : 4096 < l.length) : layout_Split.f p K M l = some ([], 11) := by
  unfold layout_Split.f
  rw [size_pure, if_pos ⟨hm, by omega⟩, if_pos (by omega), Option.bind_some, if_neg (by decide)]

theorem laid_ref (p K M : Int) (l : List Int) (hl : l.length ≤ 4096) : gambrelref10_laid.f p K M l = some (layOf (aheadP p) l) := by
  unfold gambrelref10_laid.f
  rw [layout_ref, Option.bind_some]
  by_cases h98 : layB p = 98
  · have ha : aheadP p = 4 := by unfold aheadP; rw [if_pos h98]
    rw [if_pos h98, Option.bind_some, if_pos (by simp), Option.bind_some, List.nil_append, if_pos (by simp; omega), ha]
    unfold layOf head4
    rw [if_pos rfl]
    congr 1
    have e1 : Int.tmod (wrap64 ((l.length : Int) / 16777216)) 256 % 256 = (l.length : Int) / 256 / 256 / 256 := by
      rw [wrap_is _ (by omega) (by omega), Int.tmod_eq_emod_of_nonneg (by omega)]; omega
    have e2 : Int.tmod (wrap64 ((l.length : Int) / 65536)) 256 % 256 = (l.length : Int) / 256 / 256 := by
      rw [wrap_is _ (by omega) (by omega), Int.tmod_eq_emod_of_nonneg (by omega)]; omega
    have e3 : Int.tmod (wrap64 ((l.length : Int) / 256)) 256 % 256 = (l.length : Int) / 256 % 256 := by
      rw [wrap_is _ (by omega) (by omega), Int.tmod_eq_emod_of_nonneg (by omega)]; omega
    rw [e1, e2, e3]
  · have ha : aheadP p = 0 := by unfold aheadP; rw [if_neg h98]
    rw [if_neg h98, if_pos (by simp; omega), List.nil_append, ha]
    unfold layOf
    rw [if_neg (by decide)]

theorem row_elem (fl : List Int) (size i k K : Nat) (hfl : fl.length = K * size) (hi : i < K) (hk : k < size) : ∃ h : i * size + k < fl.length, (rowAt fl size i).take (k + 1) = (rowAt fl size i).take k ++ [fl[i * size + k]] := by
  have h1 : (i + 1) * size ≤ K * size := Nat.mul_le_mul_right _ hi
  rw [Nat.add_mul, Nat.one_mul] at h1
  have hb : i * size + k < fl.length := by omega
  have hr : k < (rowAt fl size i).length := by rw [rowAt_length fl size i K hfl hi]; exact hk
  refine ⟨hb, ?_⟩
  rw [List.take_succ_eq_append_getElem hr]
  congr 2
  simp [rowAt]
theorem row_bound (i K size : Nat) (hi : i < K) (hK : K ≤ 8) (hs : size ≤ 10000) : i * size ≤ 80000 := by
  have h7 : i * size ≤ 8 * size := Nat.mul_le_mul_right _ (by omega)
  omega
theorem row_index (i size k : Nat) (hm : i * size ≤ 80000) (hk : k ≤ 10000) : wrap64 (wrap64 ((i : Int) * (size : Int)) + (k : Int)) = ((i * size + k : Nat) : Int) := by
  have e0 : (i : Int) * (size : Int) = ((i * size : Nat) : Int) := by simp
  rw [e0]
  obtain ⟨m, hm2⟩ : ∃ m, i * size = m := ⟨_, rfl⟩
  rw [hm2] at hm ⊢
  rw [wrap_is (m : Int) (by omega) (by omega), wrap_is ((m : Int) + (k : Int)) (by omega) (by omega)]
  omega
theorem take_small (l : List Int) (k : Nat) (hk : k ≤ 10000) : (l.take k).length < 140737488355328 := by rw [List.length_take]; omega
theorem ref_row (p K' M : Int) (xs fl : List Int) (K size : Nat) (hfl : fl.length = K * size) (hlo : ∀ (j : Nat) (h : j < fl.length) (hx : j < xs.length), fl[j] = xs[j]) (hhi : ∀ (j : Nat) (h : j < fl.length), ¬ j < xs.length → fl[j] = 0) (hK : K ≤ 8) (hs : size ≤ 10000) (rows : List (List Int)) (hrows : rows.length < 5864062014805) (i : Nat) (hi : i < K) (F : Nat) : ∀ d k : Nat, k + d = size →
    gambrelref10_Split.l1 (d + 1 + F) (size : Int) xs rows (i : Int) ((rowAt fl size i).take k) (k : Int) p K' M =
      gambrelref10_Split.l0 F (size : Int) xs (rows ++ [rowAt fl size i]) (wrap64 ((i : Int) + 1)) p K' M
  | 0, k, hk => by
    obtain rfl : k = size := by omega
    have ht : (rowAt fl k i).take k = rowAt fl k i := List.take_of_length_le (Nat.le_of_eq (rowAt_length _ k i K hfl hi))
    obtain ⟨row, hrow⟩ : ∃ row, rowAt fl k i = row := ⟨_, rfl⟩
    rw [hrow] at ht ⊢
    rw [ht, Nat.zero_add, Nat.add_comm 1 F, gambrelref10_Split.l1, if_neg (by omega), if_pos hrows]
  | d + 1, k, hk => by
    obtain ⟨hb, he⟩ := row_elem fl size i k K hfl hi (by omega)
    have hm := row_bound i K size hi hK hs
    have e1 := row_index i size k hm (by omega)
    have hlen := take_small (rowAt fl size i) k (by omega)
    have ih := ref_row p K' M xs fl K size hfl hlo hhi hK hs rows hrows i hi F d (k + 1) (by omega)
    have hl : i * size + k < xs.length → fl[i * size + k] = rd xs ((i * size + k : Nat) : Int) := fun hx => (hlo (i * size + k) hb hx).trans (rdi xs _ hx).symm
    have hh : ¬ i * size + k < xs.length → fl[i * size + k] = 0 := hhi (i * size + k) hb
    obtain ⟨row, hrow⟩ : ∃ row, rowAt fl size i = row := ⟨_, rfl⟩
    obtain ⟨z, hz⟩ : ∃ z, fl[i * size + k] = z := ⟨_, rfl⟩
    rw [hz] at he hl hh
    rw [hrow] at he hlen ih ⊢
    obtain ⟨m, hm2⟩ : ∃ m, i * size + k = m := ⟨_, rfl⟩
    rw [hm2] at e1 hl hh
    clear hlo hhi hfl hm
    rw [show d + 1 + 1 + F = (d + 1 + F) + 1 from by omega, gambrelref10_Split.l1, if_pos (by omega), e1]
    by_cases hlt : m < xs.length
    · rw [if_pos (by omega), if_pos (by omega), if_pos hlen, wrap_nat k (by omega), ← hl hlt, ← he]
      exact ih
    · rw [if_neg (by omega), if_pos hlen, wrap_nat k (by omega), ← hh hlt, ← he]
      exact ih
theorem fl_lo (K size : Nat) (xs : List Int) : ∀ (j : Nat) (h : j < (xs ++ List.replicate (K * size - xs.length) 0).length) (hx : j < xs.length), (xs ++ List.replicate (K * size - xs.length) (0 : Int))[j] = xs[j] := fun j h hx => List.getElem_append_left hx
theorem fl_hi (K size : Nat) (xs : List Int) : ∀ (j : Nat) (h : j < (xs ++ List.replicate (K * size - xs.length) 0).length), ¬ j < xs.length → (xs ++ List.replicate (K * size - xs.length) (0 : Int))[j] = 0 := fun j h hx => by
  rw [List.getElem_append_right (by omega)]; simp
theorem fl_len (K size : Nat) (xs : List Int) (hx : xs.length ≤ K * size) : (xs ++ List.replicate (K * size - xs.length) (0 : Int)).length = K * size := by simp; omega
def fuel (size : Nat) : Nat → Nat
  | 0 => 1
  | e + 1 => size + 1 + fuel size e + 1
theorem ref_rows (p M : Int) (xs : List Int) (K size : Nat) (hx : xs.length ≤ K * size) (hK : K ≤ 8) (hs : size ≤ 10000) : ∀ e i : Nat, i + e = K →
    gambrelref10_Split.l0 (fuel size e) (size : Int) xs ((splitL K size xs).take i) (i : Int) p (K : Int) M = some (splitL K size xs, 0)
  | 0, i, hi => by
    obtain rfl : i = K := by omega
    unfold fuel
    rw [gambrelref10_Split.l0, if_neg (by omega), List.take_of_length_le (by simp [splitL])]
  | e + 1, i, hi => by
    have hlt : i < (splitL K size xs).length := by simp [splitL]; omega
    have hrow : (splitL K size xs)[i] = rowAt (xs ++ List.replicate (K * size - xs.length) 0) size i := by simp [splitL]
    unfold fuel
    rw [gambrelref10_Split.l0, if_pos (by omega)]
    have h := ref_row p (K : Int) M xs _ K size (fl_len K size xs hx) (fl_lo K size xs) (fl_hi K size xs) hK hs ((splitL K size xs).take i) (by rw [List.length_take]; omega) i (by omega) (fuel size e) size 0 (by omega)
    rw [List.take_zero] at h
    rw [show ((0 : Nat) : Int) = 0 from rfl] at h
    rw [h, wrap_nat i (by omega), ← hrow, ← List.take_succ_eq_append_getElem hlt]
    exact ref_rows p M xs K size hx hK hs e (i + 1) (by omega)
theorem some_pure (n0 n1 n2 : Int) (h0 : 0 ≤ n0 ∧ n0 ≤ 255) (h1 : 0 ≤ n1 ∧ n1 ≤ 255) (h2 : 0 ≤ n2 ∧ n2 ≤ 255) : ∃ p K M, gambrelref09_Some.f n0 n1 n2 = some (p, K, M) ∧ (1 ≤ p ∧ p ≤ 6) ∧ (1 ≤ K ∧ K ≤ 8) ∧ (1 ≤ M ∧ M ≤ maxM p) := by
  obtain ⟨nm, a, b, _, h⟩ := of_pure (1 + n0 % 6)
  have hp : 1 ≤ 1 + n0 % 6 ∧ 1 + n0 % 6 ≤ 6 := by omega
  have hM : 0 < maxM (1 + n0 % 6) ∧ maxM (1 + n0 % 6) ≤ 100 := by
    unfold maxM
    by_cases h3 : 1 + n0 % 6 = 3
    · rw [if_pos h3]; omega
    · rw [if_neg h3, if_pos hp]; omega
  refine ⟨1 + n0 % 6, 1 + n1 % 8, 1 + n2 % maxM (1 + n0 % 6), ?_, hp, by omega, ?_, ?_⟩
  · unfold gambrelref09_Some.f
    rw [if_pos ⟨h0.1, h0.2, h1.1, h1.2, h2.1, h2.2⟩, h, Option.bind_some, if_pos hM]
  · have := Int.emod_nonneg n2 (show maxM (1 + n0 % 6) ≠ 0 by omega); omega
  · have := Int.emod_lt_of_pos n2 hM.1; omega
theorem may_of_some {p K M : Int} (hp : 1 ≤ p ∧ p ≤ 6) (hK : 1 ≤ K ∧ K ≤ 8) (hM : 1 ≤ M ∧ M ≤ maxM p) : mayB p K M = true := decide_eq_true ⟨hp, hK, hM⟩
theorem size_mono (p K n : Int) (hn : 0 ≤ n) (hn2 : n ≤ 4095) (hK : 1 ≤ K) (hK8 : K ≤ 8) : sizeP p K n ≤ sizeP p K (n + 1) := by
  have ha := ahead_is p
  have hK' : K = 1 ∨ K = 2 ∨ K = 3 ∨ K = 4 ∨ K = 5 ∨ K = 6 ∨ K = 7 ∨ K = 8 := by omega
  unfold sizeP
  rcases unit_is p with h | h | h <;> rw [h] <;> rcases hK' with rfl | rfl | rfl | rfl | rfl | rfl | rfl | rfl <;> omega
theorem small_mul (s K : Int) (hs : 0 ≤ s) (hs2 : s ≤ 10000) (hK : 1 ≤ K) (hK8 : K ≤ 8) : wrap64 (s * K) = s * K ∧ 0 ≤ s * K ∧ s * K ≤ 80000 := by
  have hK' : K = 1 ∨ K = 2 ∨ K = 3 ∨ K = 4 ∨ K = 5 ∨ K = 6 ∨ K = 7 ∨ K = 8 := by omega
  rcases hK' with rfl | rfl | rfl | rfl | rfl | rfl | rfl | rfl <;> exact ⟨wrap_is _ (by omega) (by omega), by omega, by omega⟩
/-- The checks of one unit u, a bytes ahead. -/
theorem size_checks (s t K u n a : Int) (hst : s ≤ t) (hu : u ≤ s) (hmod : s % u = 0) (h0 : 0 ≤ s) (hs2 : s ≤ 10000) (hu0 : 0 < u) (hu2 : u ≤ 16) (hK : 1 ≤ K) (hK8 : K ≤ 8) (hn : 0 ≤ n) (hn2 : n ≤ 4095) (ha : 0 ≤ a) (ha2 : a ≤ 4) (hroom : n + a ≤ K * s) (hless : s = u ∨ (s - u) * K < n + a) (x : Int) (hx : x = wrap64 (n + a)) :
    (if s ≤ t then (if s ≥ u then (if (Int.tmod s u) = 0 then (if (wrap64 (s * K)) ≥ x then (if s = u then (some true) else (some (decide ((wrap64 ((wrap64 (s - u)) * K)) < x)))) else (none)) else (none)) else (none)) else (none)) = some true := by
  obtain ⟨e1, e2, e3⟩ := small_mul s K h0 hs2 hK hK8
  rw [if_pos hst, if_pos hu, Int.tmod_eq_emod_of_nonneg h0, if_pos hmod, e1, hx, wrap_is (n + a) (by omega) (by omega), if_pos (by rw [Int.mul_comm]; exact hroom)]
  by_cases h : s = u
  · rw [if_pos h]
  · rw [if_neg h]
    obtain ⟨f1, f2, f3⟩ := small_mul (s - u) K (by omega) (by omega) hK hK8
    rw [wrap_is (s - u) (by omega) (by omega), f1, decide_eq_true]
    exact hless.resolve_left h
theorem up_to {α : Type} {f : Nat → Option α} (h : ∀ k, LeO (f k) (f (k + 1))) {k : Nat} {r : α} (e : f k = some r) : ∀ d, f (k + d) = some r
  | 0 => e
  | d + 1 => h (k + d) r (up_to h e d)
theorem up_le {α : Type} {f : Nat → Option α} (h : ∀ k, LeO (f k) (f (k + 1))) {k k' : Nat} {r : α} (e : f k = some r) (hk : k ≤ k') : f k' = some r := by
  obtain ⟨d, rfl⟩ := Nat.le.dest hk
  exact up_to h e d
def sizeR (p K M n : Int) : Int × Int := if mayB p K M = true ∧ 0 ≤ n then (if n > 4096 then (0, 11) else (sizeP p K n, 0)) else (0, 1)
theorem ref_size_all (p K M n : Int) : ∃ k, gambrelref10_Size.f k p K M n = some (sizeR p K M n) := by
  unfold sizeR
  by_cases h : mayB p K M = true ∧ 0 ≤ n
  · rw [if_pos h]
    by_cases h1 : n > 4096
    · rw [if_pos h1]
      exact ⟨1, ref_size_big p K M n h.1 h1⟩
    · rw [if_neg h1]
      exact ref_size p K M n h.1 h.2 (by omega)
  · rw [if_neg h]
    exact ⟨1, ref_size_no p K M n h⟩
def splitR (p K M : Int) (l : List Int) : List (List Int) × Int := if mayB p K M = true then (shards p K l, 0) else ([], 1)
theorem split_all (p K M : Int) (l : List Int) (hl : l.length ≤ 4096) : layout_Split.f p K M l = some (splitR p K M l) := by
  unfold splitR
  by_cases h : mayB p K M = true
  · rw [if_pos h]; exact split_pure p K M l h hl
  · rw [if_neg h]; exact split_no p K M l h
theorem ref_split_all (p K M : Int) (l : List Int) (hl : l.length ≤ 4096) : ∃ k, gambrelref10_Split.f k p K M l = some (splitR p K M l) := by
  obtain ⟨k1, h1⟩ := ref_size_all p K M (l.length : Int)
  unfold splitR
  by_cases h : mayB p K M = true
  · obtain ⟨hK, hK8⟩ := may_K h
    unfold sizeR at h1
    rw [if_pos ⟨h, by omega⟩, if_neg (by omega)] at h1
    obtain ⟨hr1, hr2, _⟩ := size_room p K (l.length : Int) (by omega) (by omega) hK hK8
    obtain ⟨hs1, hs2⟩ := sizeP_le p K (l.length : Int) (by omega) (by omega) hK hK8
    obtain ⟨K0, hK0⟩ := Int.eq_ofNat_of_zero_le (show 0 ≤ K by omega)
    obtain ⟨s0, hs0⟩ := Int.eq_ofNat_of_zero_le (show 0 ≤ sizeP p K (l.length : Int) by omega)
    have hx : (layOf (aheadP p) l).length ≤ K0 * s0 := by
      have h3 := layOf_length (aheadP p) (ahead_is p) l
      rw [hs0, hK0, ← Int.natCast_mul] at hr1
      omega
    have h2 := ref_rows p M (layOf (aheadP p) l) K0 s0 hx (by omega) (by omega) K0 0 (by omega)
    refine ⟨max k1 (fuel s0 K0), ?_⟩
    unfold gambrelref10_Split.f
    rw [up_le (fun k => gambrelref10_Size.mono p K M (l.length : Int) k) h1 (Nat.le_max_left _ _), Option.bind_some, if_pos rfl, laid_ref p K M l hl, Option.bind_some, if_pos h, hs0]
    have h4 := up_le (fun k => (gambrelref10_Split.mono_l k).1 (s0 : Int) (layOf (aheadP p) l) ((splitL K0 s0 (layOf (aheadP p) l)).take 0) ((0 : Nat) : Int) p (K0 : Int) M) h2 (Nat.le_max_right k1 (fuel s0 K0))
    rw [List.take_zero, ← hK0] at h4
    rw [show ((0 : Nat) : Int) = 0 from rfl] at h4
    rw [h4]
    unfold shards
    rw [hs0, hK0]
    rfl
  · rw [if_neg h]
    unfold sizeR at h1
    rw [if_neg (fun hh => h hh.1)] at h1
    refine ⟨k1, ?_⟩
    unfold gambrelref10_Split.f
    rw [h1, Option.bind_some, if_neg (by decide)]
theorem same_l (a : List (List Int)) (hb : a.length < 4611686018427387904) : ∀ m i : Nat, i + m = a.length → gambrelref10_Same.l0 (m + 1) a a (i : Int) = some true
  | 0, i, hi => by
    rw [gambrelref10_Same.l0, if_neg (by omega)]
  | m + 1, i, hi => by
    rw [gambrelref10_Same.l0, if_pos (by omega), if_pos (by omega), if_pos (by omega), if_pos rfl, wrap_nat i (by omega)]
    exact same_l a hb m (i + 1) (by omega)
theorem same_refl (a : List (List Int)) (hb : a.length < 4611686018427387904) : gambrelref10_Same.f (a.length + 1) a a = some true := by
  unfold gambrelref10_Same.f
  rw [if_pos rfl]
  exact same_l a hb a.length 0 (by omega)
theorem shards_length (p K : Int) (l : List Int) : (shards p K l).length = K.toNat := by simp [shards, splitL]
theorem splitR_length (p K M : Int) (l : List Int) : (splitR p K M l).1.length ≤ 8 := by
  unfold splitR
  by_cases h : mayB p K M = true
  · rw [if_pos h]; have := may_K h; rw [shards_length]; omega
  · rw [if_neg h]; exact Nat.zero_le _

/-- How many bytes there are, by the first four. -/
def told4 (b : List Int) : Int := 256 * (256 * (256 * rd b 0 + rd b 1) + rd b 2) + rd b 3
theorem told_pure (b : List Int) (hb : b.length = 4) (h0 : 0 ≤ rd b 0 ∧ rd b 0 < 256) (h1 : 0 ≤ rd b 1 ∧ rd b 1 < 256) (h2 : 0 ≤ rd b 2 ∧ rd b 2 < 256) (h3 : 0 ≤ rd b 3 ∧ rd b 3 < 256) : layout_told.f 9 b = some (told4 b) := by
  unfold layout_told.f told4
  rw [hb]
  rw [show layout_told.l0 9 0 b ((4 : Nat) : Int) 0 = layout_told.l0 (8 + 1) 0 b 4 0 from rfl, layout_told.l0, if_pos (by omega), if_pos (by omega), if_pos (by omega), wrap_is (256 * 0) (by omega) (by omega), wrap_is (rd b 0) (by omega) (by omega), wrap_is _ (by omega) (by omega), show wrap64 (0 + 1) = 1 from wrap_is 1 (by omega) (by omega)]
  rw [layout_told.l0, if_pos (by omega), if_pos (by omega), if_pos (by omega), wrap_is (256 * (256 * 0 + rd b 0)) (by omega) (by omega), wrap_is (rd b 1) (by omega) (by omega), wrap_is _ (by omega) (by omega), show wrap64 (1 + 1) = 2 from wrap_is 2 (by omega) (by omega)]
  rw [layout_told.l0, if_pos (by omega), if_pos (by omega), if_pos (by omega), wrap_is (256 * (256 * (256 * 0 + rd b 0) + rd b 1)) (by omega) (by omega), wrap_is (rd b 2) (by omega) (by omega), wrap_is _ (by omega) (by omega), show wrap64 (2 + 1) = 3 from wrap_is 3 (by omega) (by omega)]
  rw [layout_told.l0, if_pos (by omega), if_pos (by omega), if_pos (by omega), wrap_is (256 * (256 * (256 * (256 * 0 + rd b 0) + rd b 1) + rd b 2)) (by omega) (by omega), wrap_is (rd b 3) (by omega) (by omega), wrap_is _ (by omega) (by omega), show wrap64 (3 + 1) = 4 from wrap_is 4 (by omega) (by omega)]
  rw [layout_told.l0, if_neg (by omega)]
  congr 1
  omega
theorem head4_told (n : Nat) (h : n ≤ 4096) : layout_told.f 9 (head4 n) = some (n : Int) := by
  have e0 : rd (head4 n) 0 = (n : Int) / 256 / 256 / 256 := rfl
  have e1 : rd (head4 n) 1 = (n : Int) / 256 / 256 := rfl
  have e2 : rd (head4 n) 2 = (n : Int) / 256 % 256 := rfl
  have e3 : rd (head4 n) 3 = (n : Int) % 256 := rfl
  rw [told_pure (head4 n) rfl (by rw [e0]; omega) (by rw [e1]; omega) (by rw [e2]; omega) (by rw [e3]; omega)]
  unfold told4
  rw [e0, e1, e2, e3]
  congr 1
  omega

theorem flat_rows (fl : List Int) (size : Nat) : ∀ K : Nat, ((List.range K).map (rowAt fl size)).flatten = fl.take (K * size)
  | 0 => by simp
  | K + 1 => by
    rw [List.range_succ, List.map_append, List.flatten_append, flat_rows fl size K, Nat.add_mul, Nat.one_mul, List.take_add]
    simp [rowAt]
theorem shards_flat (p K : Int) (l : List Int) (hl : l.length ≤ 4096) (hK : 1 ≤ K) (hK8 : K ≤ 8) : (∃ m, (shards p K l).flatten = layOf (aheadP p) l ++ List.replicate m 0) ∧ (shards p K l).flatten.length ≤ 80000 := by
  obtain ⟨hr1, hr2, _⟩ := size_room p K (l.length : Int) (by omega) (by omega) hK hK8
  obtain ⟨hs1, hs2⟩ := sizeP_le p K (l.length : Int) (by omega) (by omega) hK hK8
  obtain ⟨K0, hK0⟩ := Int.eq_ofNat_of_zero_le (show 0 ≤ K by omega)
  obtain ⟨s0, hs0⟩ := Int.eq_ofNat_of_zero_le (show 0 ≤ sizeP p K (l.length : Int) by omega)
  have hx : (layOf (aheadP p) l).length ≤ K0 * s0 := by
    have h3 := layOf_length (aheadP p) (ahead_is p) l
    rw [hs0, hK0, ← Int.natCast_mul] at hr1
    omega
  have hlen := fl_len K0 s0 (layOf (aheadP p) l) hx
  have hf : (shards p K l).flatten = layOf (aheadP p) l ++ List.replicate (K0 * s0 - (layOf (aheadP p) l).length) 0 := by
    unfold shards splitL
    rw [hs0, hK0, Int.toNat_natCast, Int.toNat_natCast, flat_rows, List.take_of_length_le (Nat.le_of_eq hlen)]
  refine ⟨⟨_, hf⟩, ?_⟩
  rw [hf, hlen]
  have : K0 * s0 ≤ 8 * s0 := Nat.mul_le_mul_right _ (by omega)
  omega
theorem shards_row (p K : Int) (l : List Int) (hl : l.length ≤ 4096) (hK : 1 ≤ K) (hK8 : K ≤ 8) : ∀ x ∈ shards p K l, (x.length : Int) = sizeP p K (l.length : Int) := by
  intro x hx
  obtain ⟨hr1, hr2, _⟩ := size_room p K (l.length : Int) (by omega) (by omega) hK hK8
  obtain ⟨hs1, hs2⟩ := sizeP_le p K (l.length : Int) (by omega) (by omega) hK hK8
  obtain ⟨K0, hK0⟩ := Int.eq_ofNat_of_zero_le (show 0 ≤ K by omega)
  obtain ⟨s0, hs0⟩ := Int.eq_ofNat_of_zero_le (show 0 ≤ sizeP p K (l.length : Int) by omega)
  have hxl : (layOf (aheadP p) l).length ≤ K0 * s0 := by
    have h3 := layOf_length (aheadP p) (ahead_is p) l
    rw [hs0, hK0, ← Int.natCast_mul] at hr1
    omega
  unfold shards splitL at hx
  rw [hs0, hK0, Int.toNat_natCast, Int.toNat_natCast] at hx
  obtain ⟨j, hj, rfl⟩ := List.mem_map.1 hx
  rw [rowAt_length _ s0 j K0 (fl_len K0 s0 _ hxl) (List.mem_range.1 hj), hs0]
theorem odd_no (d : List (List Int)) (s : Int) (h : ∀ x ∈ d, (x.length : Int) = s) : d.any (odd d) = false := by
  rw [List.any_eq_false]
  intro x hx
  have h0 : 0 < d.length := List.length_pos_of_mem hx
  have h1 : ((rd_L6 d 0).length : Int) = s := by
    have := rd_at d 0 h0
    rw [show ((0 : Nat) : Int) = 0 from rfl] at this
    rw [this]
    exact h _ (List.getElem_mem h0)
  unfold odd
  rw [h x hx, h1]
  simp
theorem joinForm_back (p K M : Int) (l : List Int) (m : Nat) (hm : mayB p K M = true) (hl : l.length ≤ 4096) : joinForm p K M (shards p K l) (l.length : Int) (l ++ List.replicate m 0) = some (l, 0) := by
  unfold joinForm
  have ht : (l ++ List.replicate m 0).take (l.length : Int).toNat = l := by rw [Int.toNat_natCast]; simp
  rw [if_neg (by omega), if_neg (by omega), if_neg (by rw [List.length_append]; omega), ht, split_pure p K M l hm hl, Option.bind_some, if_pos rfl, if_pos rfl]
theorem join_back (p K M : Int) (l : List Int) (hm : mayB p K M = true) (hl : l.length ≤ 4096) : layout_Join.f p K M (shards p K l) (l.length : Int) = some (l, 0) := by
  obtain ⟨hK, hK8⟩ := may_K hm
  obtain ⟨⟨m, hf⟩, hfl⟩ := shards_flat p K l hl hK hK8
  have hrow := shards_row p K l hl hK hK8
  have hlen := shards_length p K l
  obtain ⟨hs1, hs2⟩ := sizeP_le p K (l.length : Int) (by omega) (by omega) hK hK8
  obtain ⟨hr1, hr2, hr3, hr4, hr5⟩ := size_room p K (l.length : Int) (by omega) (by omega) hK hK8
  have h0 : 0 < (shards p K l).length := by omega
  have hq : ((rd_L6 (shards p K l) 0).length : Int) = sizeP p K (l.length : Int) := by
    have := rd_at (shards p K l) 0 h0
    rw [show ((0 : Nat) : Int) = 0 from rfl] at this
    rw [this]
    exact hrow _ (List.getElem_mem h0)
  have ha := ahead_is p
  have hu := unit_is p
  have hla := layOf_length (aheadP p) ha l
  unfold layout_Join.f
  rw [may_pure, Option.bind_some, if_pos hm, if_pos (by omega), odd_no _ _ hrow, if_neg (by decide), if_pos ⟨h0, by omega, by omega⟩, rule_pure, Option.bind_some]
  dsimp only
  rw [if_pos ⟨by omega, by omega⟩, hq, if_neg (by omega), Int.tmod_eq_emod_of_nonneg (by omega), if_neg (fun h => h hr4), hf, if_neg (by rw [List.length_append]; omega)]
  rcases ha with ha | ha
  · rw [ha, if_neg (by decide)]
    have e : layOf 0 l = l := rfl
    rw [e]
    exact joinForm_back p K M l m hm hl
  · rw [ha, if_pos (by decide)]
    have e : layOf 4 l = head4 l.length ++ l := rfl
    have e1 : (layOf 4 l ++ List.replicate m 0).take (4 : Int).toNat = head4 l.length := by rw [e]; rfl
    have e2 : (layOf 4 l ++ List.replicate m 0).drop (4 : Int).toNat = l ++ List.replicate m 0 := by rw [e]; rfl
    rw [e1, e2, head4_told _ hl, Option.bind_some]
    exact joinForm_back p K M l m hm hl

end Go.Proofs.Ytibcgallhldnnaa.P
