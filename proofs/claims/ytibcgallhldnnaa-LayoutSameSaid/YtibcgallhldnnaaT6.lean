/- Plain law: LayoutSame answers true. -/
import Derived.Test.YtibcgallhldnnaaU
import Derived.Test.YtibcgallhldnnaaPf6
namespace Go.Proofs.Ytibcgallhldnnaa.P
open Go.RowKit Go.Proofs.YtibcgallhldnnaaW.PrintWords Go.Proofs.YtibcgallhldnnaaW.PrintLast Go.Proofs.YtibcgallhldnnaaW.PrintMore
set_option linter.unusedVariables false
set_option linter.unusedSimpArgs false

theorem layout_same (n0 n1 n2 m0 m1 m2 : Int) (l : List Int) (h0 : 0 ≤ n0 ∧ n0 ≤ 255) (h1 : 0 ≤ n1 ∧ n1 ≤ 255) (h2 : 0 ≤ n2 ∧ n2 ≤ 255) (g0 : 0 ≤ m0 ∧ m0 ≤ 255) (g1 : 0 ≤ m1 ∧ m1 ≤ 255) (g2 : 0 ≤ m2 ∧ m2 ≤ 255) : ∃ k, gambrellaw10_LayoutSame.f k n0 n1 n2 m0 m1 m2 l = some true := by
  by_cases hl : (l.length : Int) > 300
  · refine ⟨0, ?_⟩
    unfold gambrellaw10_LayoutSame.f gambrellaw10_awake.f
    rw [Option.bind_some, if_pos hl]
  · obtain ⟨p, K, M, hs, hp, hK, hM⟩ := some_pure n0 n1 n2 h0 h1 h2
    obtain ⟨q, K', N, ht, hq, hK', hN⟩ := some_pure m0 m1 m2 g0 g1 g2
    have hm1 := may_of_some hp hK hM
    have hm2 := may_of_some hq hK hN
    obtain ⟨_, _, _, _, hof⟩ := of_pure p
    obtain ⟨_, _, _, _, hog⟩ := of_pure q
    refine ⟨(shards p K l).length + 1, ?_⟩
    unfold gambrellaw10_LayoutSame.f gambrellaw10_awake.f
    rw [Option.bind_some, if_neg hl, hs, Option.bind_some, ht, Option.bind_some, hof, Option.bind_some, hog, Option.bind_some]
    dsimp only
    rw [split_pure p K M l hm1 (by omega), Option.bind_some, split_pure q K N l hm2 (by omega), Option.bind_some, if_pos rfl, if_pos rfl, if_pos rfl]
    by_cases he : layB p = layB q
    · rw [if_pos he]
      have e : shards q K l = shards p K l := by
        unfold shards sizeP unitP aheadP
        rw [he]
      rw [e, same_refl _ (by rw [shards_length]; omega), Option.bind_some]
    · rw [if_neg he]

end Go.Proofs.Ytibcgallhldnnaa.P
