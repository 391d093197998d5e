/- Plain law: LayoutTells answers true. -/
import Derived.Test.YtibcgallhldnnaaU
import Derived.Test.YtibcgallhldnnaaPf3
namespace Go.Proofs.Ytibcgallhldnnaa.P
open Go.RowKit Go.Proofs.YtibcgallhldnnaaW.PrintWords Go.Proofs.YtibcgallhldnnaaW.PrintLast Go.Proofs.YtibcgallhldnnaaW.PrintMore
set_option linter.unusedVariables false
set_option linter.unusedSimpArgs false

theorem layout_tells (p K M n : Int) (l : List Int) : ∃ k, gambrellaw10_LayoutTells.f k p K M n l = some true := by
  by_cases hl : (l.length : Int) > 300
  · refine ⟨0, ?_⟩
    unfold gambrellaw10_LayoutTells.f gambrellaw10_awake.f
    rw [Option.bind_some, if_pos hl]
  · obtain ⟨k1, h1⟩ := ref_size_all p K M n
    obtain ⟨k2, h2⟩ := ref_split_all p K M l (by omega)
    obtain ⟨k, hk⟩ : ∃ k, k = max (max k1 k2) (max 1 ((splitR p K M l).1.length + 1)) := ⟨_, rfl⟩
    have e1 := up_le (fun k => gambrelref10_Size.mono p K M n k) h1 (show k1 ≤ k by omega)
    have e2 := up_le (fun k => gambrelref10_Split.mono p K M l k) h2 (show k2 ≤ k by omega)
    have hs := splitR_length p K M l
    have e3 := up_le (fun k => gambrelref10_Same.mono (splitR p K M l).1 (splitR p K M l).1 k) (same_refl (splitR p K M l).1 (by omega)) (show _ ≤ k by omega)
    obtain ⟨j, hj⟩ : ∃ j, k = j + 1 := ⟨k - 1, by omega⟩
    have e4 : layout_Size.f k p K M n = some (sizeR p K M n) := by rw [hj]; exact size_pure j p K M n
    refine ⟨k, ?_⟩
    unfold gambrellaw10_LayoutTells.f gambrellaw10_awake.f
    rw [Option.bind_some, if_neg hl, e4, Option.bind_some, e1, Option.bind_some, split_all p K M l (by omega), Option.bind_some, e2, Option.bind_some, if_pos rfl, if_pos rfl, if_pos rfl, e3, Option.bind_some, if_pos rfl]
    simp

end Go.Proofs.Ytibcgallhldnnaa.P
