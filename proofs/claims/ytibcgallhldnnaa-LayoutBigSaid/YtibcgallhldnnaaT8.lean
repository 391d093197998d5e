/- Plain law: LayoutBig answers true. -/
import Derived.Test.YtibcgallhldnnaaU
import Derived.Test.YtibcgallhldnnaaPf8
namespace Go.Proofs.Ytibcgallhldnnaa.P
open Go.RowKit Go.Proofs.YtibcgallhldnnaaW.PrintWords Go.Proofs.YtibcgallhldnnaaW.PrintLast Go.Proofs.YtibcgallhldnnaaW.PrintMore
set_option linter.unusedVariables false
set_option linter.unusedSimpArgs false

theorem layout_big (n0 n1 n2 more p' K' M' : Int) (h0 : 0 ≤ n0 ∧ n0 ≤ 255) (h1 : 0 ≤ n1 ∧ n1 ≤ 255) (h2 : 0 ≤ n2 ∧ n2 ≤ 255) (hm : 0 ≤ more ∧ more ≤ 65535) : ∃ k, gambrellaw10_LayoutBig.f k n0 n1 n2 more p' K' M' = some true := by
  obtain ⟨p, K, M, hs, hp, hK, hM⟩ := some_pure n0 n1 n2 h0 h1 h2
  have hmay := may_of_some hp hK hM
  refine ⟨1, ?_⟩
  unfold gambrellaw10_LayoutBig.f gambrellaw10_awake.f
  rw [Option.bind_some, hs, Option.bind_some]
  dsimp only
  rw [wrap_is more (by omega) (by omega), wrap_is (4097 + more) (by omega) (by omega), wrap_is (-1 - more) (by omega) (by omega)]
  rw [size_pure, if_pos (show mayB p K M = true ∧ 0 ≤ 4097 + more from ⟨hmay, by omega⟩), if_pos (by omega), Option.bind_some, size_pure, if_neg (show ¬ (mayB p K M = true ∧ 0 ≤ -1 - more) from fun h => absurd h.2 (by omega)), Option.bind_some, if_pos (by omega), split_big p K M _ hmay (by rw [List.length_replicate]; omega), Option.bind_some, if_pos (by omega), split_pure p K M _ hmay (by rw [List.length_replicate]; omega), Option.bind_some, size_pure, Option.bind_some]
  have hj : layout_Join.f p K M [] 0 = some ([], 1) := by
    unfold layout_Join.f
    rw [may_pure, Option.bind_some, if_pos hmay, if_neg (by simp; omega)]
  rw [hj, Option.bind_some, if_pos rfl, if_pos rfl, if_pos rfl, if_pos rfl, if_pos rfl]
  dsimp only
  rw [if_pos (by rw [shards_length]; omega), may_ref, Option.bind_some]
  by_cases hx : mayB p' K' M' = true
  · have e : (if mayB p' K' M' = true ∧ (0 : Int) ≤ 5 then (if (5 : Int) > 4096 then ((0 : Int), (11 : Int)) else (sizeP p' K' 5, 0)) else (0, 1)) = (sizeP p' K' 5, 0) := by
      rw [if_pos ⟨hx, by omega⟩, if_neg (by omega)]
    rw [e, hx]
    rfl
  · have e : (if mayB p' K' M' = true ∧ (0 : Int) ≤ 5 then (if (5 : Int) > 4096 then ((0 : Int), (11 : Int)) else (sizeP p' K' 5, 0)) else (0, 1)) = (0, 1) := by
      rw [if_neg (fun h => hx h.1)]
    have hf : mayB p' K' M' = false := by simpa using hx
    rw [e, hf]
    rfl
end Go.Proofs.Ytibcgallhldnnaa.P
