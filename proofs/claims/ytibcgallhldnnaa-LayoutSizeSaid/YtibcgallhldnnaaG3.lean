/- Plain law: LayoutSize answers true for every three small numbers and every count. -/
import Derived.Test.YtibcgallhldnnaaG2
import Derived.Test.YtibcgallhldnnaaPf7
namespace Go.Proofs.Ytibcgallhldnnaa.P
open Go.RowKit Go.Proofs.YtibcgallhldnnaaW.PrintWords Go.Proofs.YtibcgallhldnnaaW.PrintLast Go.Proofs.YtibcgallhldnnaaW.PrintMore
set_option linter.unusedVariables false
set_option linter.unusedSimpArgs false

theorem some_pure (n0 n1 n2 : Int) (h0 : 0 ≤ n0 ∧ n0 ≤ 255) (h1 : 0 ≤ n1 ∧ n1 ≤ 255) (h2 : 0 ≤ n2 ∧ n2 ≤ 255) : ∃ p K M, gambrelref09_Some.f n0 n1 n2 = some (p, K, M) ∧ (1 ≤ p ∧ p ≤ 6) ∧ (1 ≤ K ∧ K ≤ 8) ∧ (1 ≤ M ∧ M ≤ maxM p) := by
  obtain ⟨nm, a, b, _, h⟩ := of_pure (1 + n0 % 6)
  have hp : 1 ≤ 1 + n0 % 6 ∧ 1 + n0 % 6 ≤ 6 := by omega
  have hM : 0 < maxM (1 + n0 % 6) ∧ maxM (1 + n0 % 6) ≤ 100 := by
    unfold maxM
    by_cases h3 : 1 + n0 % 6 = 3
    · rw [if_pos h3]; omega
    · rw [if_neg h3, if_pos hp]; omega
  refine ⟨1 + n0 % 6, 1 + n1 % 8, 1 + n2 % maxM (1 + n0 % 6), ?_, hp, by omega, ?_, ?_⟩
  · unfold gambrelref09_Some.f
    rw [if_pos ⟨h0.1, h0.2, h1.1, h1.2, h2.1, h2.2⟩, h, Option.bind_some, if_pos hM]
  · have := Int.emod_nonneg n2 (show maxM (1 + n0 % 6) ≠ 0 by omega); omega
  · have := Int.emod_lt_of_pos n2 hM.1; omega
theorem may_of_some {p K M : Int} (hp : 1 ≤ p ∧ p ≤ 6) (hK : 1 ≤ K ∧ K ≤ 8) (hM : 1 ≤ M ∧ M ≤ maxM p) : mayB p K M = true := decide_eq_true ⟨hp, hK, hM⟩
theorem size_mono (p K n : Int) (hn : 0 ≤ n) (hn2 : n ≤ 4095) (hK : 1 ≤ K) (hK8 : K ≤ 8) : sizeP p K n ≤ sizeP p K (n + 1) := by
  have ha := ahead_is p
  have hK' : K = 1 ∨ K = 2 ∨ K = 3 ∨ K = 4 ∨ K = 5 ∨ K = 6 ∨ K = 7 ∨ K = 8 := by omega
  unfold sizeP
  rcases unit_is p with h | h | h <;> rw [h] <;> rcases hK' with rfl | rfl | rfl | rfl | rfl | rfl | rfl | rfl <;> omega
theorem small_mul (s K : Int) (hs : 0 ≤ s) (hs2 : s ≤ 10000) (hK : 1 ≤ K) (hK8 : K ≤ 8) : wrap64 (s * K) = s * K ∧ 0 ≤ s * K ∧ s * K ≤ 80000 := by
  have hK' : K = 1 ∨ K = 2 ∨ K = 3 ∨ K = 4 ∨ K = 5 ∨ K = 6 ∨ K = 7 ∨ K = 8 := by omega
  rcases hK' with rfl | rfl | rfl | rfl | rfl | rfl | rfl | rfl <;> exact ⟨wrap_is _ (by omega) (by omega), by omega, by omega⟩
/-- The checks of one unit u, a bytes ahead. -/
theorem size_checks (s t K u n a : Int) (hst : s ≤ t) (hu : u ≤ s) (hmod : s % u = 0) (h0 : 0 ≤ s) (hs2 : s ≤ 10000) (hu0 : 0 < u) (hu2 : u ≤ 16) (hK : 1 ≤ K) (hK8 : K ≤ 8) (hn : 0 ≤ n) (hn2 : n ≤ 4095) (ha : 0 ≤ a) (ha2 : a ≤ 4) (hroom : n + a ≤ K * s) (hless : s = u ∨ (s - u) * K < n + a) (x : Int) (hx : x = wrap64 (n + a)) :
    (if s ≤ t then (if s ≥ u then (if (Int.tmod s u) = 0 then (if (wrap64 (s * K)) ≥ x then (if s = u then (some true) else (some (decide ((wrap64 ((wrap64 (s - u)) * K)) < x)))) else (none)) else (none)) else (none)) else (none)) = some true := by
  obtain ⟨e1, e2, e3⟩ := small_mul s K h0 hs2 hK hK8
  rw [if_pos hst, if_pos hu, Int.tmod_eq_emod_of_nonneg h0, if_pos hmod, e1, hx, wrap_is (n + a) (by omega) (by omega), if_pos (by rw [Int.mul_comm]; exact hroom)]
  by_cases h : s = u
  · rw [if_pos h]
  · rw [if_neg h]
    obtain ⟨f1, f2, f3⟩ := small_mul (s - u) K (by omega) (by omega) hK hK8
    rw [wrap_is (s - u) (by omega) (by omega), f1, decide_eq_true]
    exact hless.resolve_left h
theorem layout_size (n0 n1 n2 many : Int) (h0 : 0 ≤ n0 ∧ n0 ≤ 255) (h1 : 0 ≤ n1 ∧ n1 ≤ 255) (h2 : 0 ≤ n2 ∧ n2 ≤ 255) (hm : 0 ≤ many ∧ many ≤ 65535) : ∃ k, gambrellaw10_LayoutSize.f k n0 n1 n2 many = some true := by
  obtain ⟨p, K, M, hs, hp, hK, hM⟩ := some_pure n0 n1 n2 h0 h1 h2
  have hmay := may_of_some hp hK hM
  obtain ⟨nm, a, b, _, hof⟩ := of_pure p
  refine ⟨1, ?_⟩
  unfold gambrellaw10_LayoutSize.f gambrellaw10_awake.f
  have e0 : Int.tmod (wrap64 many) 4096 = many % 4096 := by rw [wrap_is many (by omega) (by omega), Int.tmod_eq_emod_of_nonneg hm.1]
  obtain ⟨n, hn⟩ : ∃ n, many % 4096 = n := ⟨_, rfl⟩
  have hn0 : 0 ≤ n ∧ n ≤ 4095 := by omega
  rw [hs, e0, hn]
  simp only [Option.bind_some]
  rw [show wrap64 (n + 1) = n + 1 from wrap_is _ (by omega) (by omega)]
  rw [size_pure, if_pos ⟨hmay, hn0.1⟩, if_neg (by omega), size_pure, if_pos (show mayB p K M = true ∧ 0 ≤ n + 1 from ⟨hmay, by omega⟩), if_neg (by omega), hof]
  simp only [Option.bind_some]
  have hroom := size_room p K n hn0.1 (by omega) hK.1 hK.2
  have hmono := size_mono p K n hn0.1 hn0.2 hK.1 hK.2
  have hle := sizeP_le p K n hn0.1 (by omega) hK.1 hK.2
  obtain ⟨s, hsz⟩ : ∃ s, sizeP p K n = s := ⟨_, rfl⟩
  obtain ⟨t, htz⟩ : ∃ t, sizeP p K (n + 1) = t := ⟨_, rfl⟩
  rw [hsz] at hroom hmono hle ⊢
  rw [htz] at hmono ⊢
  unfold unitP aheadP at hroom
  by_cases l1 : layB p = 106
  · rw [if_pos l1, if_neg (by omega)] at hroom
    rw [if_pos l1, if_pos trivial, if_pos trivial, if_pos trivial]
    exact size_checks s t K 8 n 0 hmono hroom.2.2.2.2 hroom.2.2.2.1 (by omega) hroom.2.1 (by omega) (by omega) hK.1 hK.2 hn0.1 hn0.2 (by omega) (by omega) hroom.1 hroom.2.2.1 _ (by rw [Int.add_zero])
  rw [if_neg l1] at hroom ⊢
  by_cases l2 : layB p = 105
  · rw [if_pos l2, if_neg (by omega)] at hroom
    rw [if_pos l2, if_pos trivial, if_pos trivial, if_pos trivial]
    exact size_checks s t K 16 n 0 hmono hroom.2.2.2.2 hroom.2.2.2.1 (by omega) hroom.2.1 (by omega) (by omega) hK.1 hK.2 hn0.1 hn0.2 (by omega) (by omega) hroom.1 hroom.2.2.1 _ (by rw [Int.add_zero])
  rw [if_neg l2] at hroom ⊢
  by_cases l3 : layB p = 98
  · rw [if_pos l3] at hroom
    rw [if_pos l3, if_pos trivial, if_pos trivial, if_pos trivial]
    exact size_checks s t K 1 n 4 hmono hroom.2.2.2.2 hroom.2.2.2.1 (by omega) hroom.2.1 (by omega) (by omega) hK.1 hK.2 hn0.1 hn0.2 (by omega) (by omega) hroom.1 hroom.2.2.1 _ rfl
  · rw [if_neg l3] at hroom
    rw [if_neg l3, if_pos trivial, if_pos trivial, if_pos trivial]
    exact size_checks s t K 1 n 0 hmono hroom.2.2.2.2 hroom.2.2.2.1 (by omega) hroom.2.1 (by omega) (by omega) hK.1 hK.2 hn0.1 hn0.2 (by omega) (by omega) hroom.1 hroom.2.2.1 _ (by rw [Int.add_zero])
end Go.Proofs.Ytibcgallhldnnaa.P
