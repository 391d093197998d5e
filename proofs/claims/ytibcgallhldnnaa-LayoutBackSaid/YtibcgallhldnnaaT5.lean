/- Plain law: LayoutBack answers true. -/
import Derived.Test.YtibcgallhldnnaaU
import Derived.Test.YtibcgallhldnnaaPf5
namespace Go.Proofs.Ytibcgallhldnnaa.P
open Go.RowKit Go.Proofs.YtibcgallhldnnaaW.PrintWords Go.Proofs.YtibcgallhldnnaaW.PrintLast Go.Proofs.YtibcgallhldnnaaW.PrintMore
set_option linter.unusedVariables false
set_option linter.unusedSimpArgs false

theorem back_l (l : List Int) (d : List (List Int)) (s : Int) (hd : ∀ x ∈ d, (x.length : Int) = s) (hb : d.length ≤ 8) : ∀ m i : Nat, i + m = d.length → gambrellaw10_LayoutBack.l0 (m + 1) l true d l 0 s 0 (i : Int) = some true
  | 0, i, hi => by
    rw [gambrellaw10_LayoutBack.l0, if_neg (by omega), if_pos rfl, if_pos rfl, if_pos rfl]
    simp
  | m + 1, i, hi => by
    have h : i < d.length := by omega
    rw [gambrellaw10_LayoutBack.l0, if_pos (by omega), if_pos (by omega), if_pos (by rw [rd_at d i h]; exact hd _ (List.getElem_mem h)), wrap_nat i (by omega)]
    exact back_l l d s hd hb m (i + 1) (by omega)
theorem layout_back (n0 n1 n2 : Int) (l : List Int) (h0 : 0 ≤ n0 ∧ n0 ≤ 255) (h1 : 0 ≤ n1 ∧ n1 ≤ 255) (h2 : 0 ≤ n2 ∧ n2 ≤ 255) : ∃ k, gambrellaw10_LayoutBack.f k n0 n1 n2 l = some true := by
  by_cases hl : (l.length : Int) > 300
  · refine ⟨0, ?_⟩
    unfold gambrellaw10_LayoutBack.f gambrellaw10_awake.f
    rw [Option.bind_some, if_pos hl]
  · obtain ⟨p, K, M, hs, hp, hK, hM⟩ := some_pure n0 n1 n2 h0 h1 h2
    have hm := may_of_some hp hK hM
    have hlen := shards_length p K l
    refine ⟨(shards p K l).length + 1 + 1, ?_⟩
    unfold gambrellaw10_LayoutBack.f gambrellaw10_awake.f
    rw [Option.bind_some, if_neg hl, hs, Option.bind_some]
    dsimp only
    rw [split_pure p K M l hm (by omega), Option.bind_some]
    dsimp only
    rw [join_back p K M l hm (by omega), Option.bind_some, size_pure, if_pos ⟨hm, by omega⟩, if_neg (by omega), Option.bind_some, if_pos rfl]
    dsimp only
    have e : (((shards p K l).length : Int) != K) = false := bne_eq_false_iff_eq.mpr (by omega)
    rw [e, gambrellaw10_LayoutBack.j0, if_neg (by decide)]
    exact back_l l (shards p K l) _ (shards_row p K l (by omega) hK.1 hK.2) (by omega) (shards p K l).length 0 (by omega)
end Go.Proofs.Ytibcgallhldnnaa.P
