/- layout.Join, put together: what it returns, for every row of shards. -/
import Derived.Test.YtibcgallhldnnaaH3w
namespace Go.Proofs.Ytibcgallhldnnaa.P
open Go.RowKit Go.Shelf Go.Proofs.YtibcgallhldnnaaW.PrintWords Go.Proofs.YtibcgallhldnnaaW.PrintLast Go.Proofs.YtibcgallhldnnaaW.PrintMore
set_option linter.unusedVariables false
set_option linter.unusedSimpArgs false

def joinForm (a0 a1 a2 : Int) (l1 : List (List Int)) (n1 : Int) (rest : List Int) : Option (List Int × Int) :=
  if n1 < 0 then some ([], 3) else if 4096 < n1 then some ([], 3) else if (rest.length : Int) < n1 then some ([], 3) else
    (layout_Split.f a0 a1 a2 (rest.take n1.toNat)).bind fun s => if s.2 = 0 then (if s.1 = l1 then some (rest.take n1.toNat, 0) else if (∀ x ∈ s.1, x.length ≤ 4294967296) then some ([], 3) else none) else some ([], 3)
def layout_Join.f (a0 a1 a2 : Int) (l1 : List (List Int)) (n : Int) : Option (List Int × Int) :=
  (profile_May.f a0 a1 a2).bind fun ok => if ok = true then
    if (l1.length : Int) = a1 then
      if l1.any (odd l1) = true then some ([], 1) else
      if 0 < l1.length ∧ l1.length ≤ 8 ∧ l1.flatten.length ≤ 1000000 then
        (layout_rule.f a0 a1 a2).bind fun r => if 0 < r.1 ∧ 0 ≤ r.2 then
          if ((rd_L6 l1 0).length : Int) = 0 then some ([], 3) else if ¬ Int.tmod ((rd_L6 l1 0).length : Int) r.1 = 0 then some ([], 3) else if (l1.flatten.length : Int) < r.2 then some ([], 3) else
          if 0 < r.2 then (layout_told.f 9 (l1.flatten.take r.2.toNat)).bind fun n1 => joinForm a0 a1 a2 l1 n1 (l1.flatten.drop r.2.toNat) else joinForm a0 a1 a2 l1 n (l1.flatten.drop r.2.toNat)
        else none
      else none
    else some ([], 1)
  else some ([], 1)

theorem join_calls_of {P : Program} {args : Array Value} {w : World} {c : Int} {f : FuncId} (h : Calls P f args w fun e w' => e = .returned (.tuple #[.slice none 0 0, .int .i64 c]) ∧ Below w.heap.size w w') :
    Calls P f args w fun e w' => ∃ v, e = .returned (.tuple #[v, .int .i64 c]) ∧ Kd.R (Kd.int .u8) 5 w' w.heap.size (fun _ => True) v [] ∧ Below w.heap.size w w' :=
  h.mono (fun e w' he => ⟨_, he.1, Kd.R_nil _ _ _ _ _, he.2⟩)

theorem layout_Join.calls (a0_0 : Int) (a0_1 : Int) (a0_2 : Int) (A1 : Option Addr) (c1 : Nat) (l1 : List (List Int)) (a2 : Int) (r1 : List Int) (r2 : Int) (w : World) (hr1 : Kd.C (Kd.slice 5 (Kd.int .u8)) w A1 l1.length l1) (hc1 : l1.length ≤ c1) (h : layout_Join.f a0_0 a0_1 a0_2 l1 a2 = some (r1, r2)) :
    Calls Try.prog 16 #[.agg #[.int .i64 a0_0, .int .i64 a0_1, .int .i64 a0_2], .slice A1 l1.length c1, .int .i64 a2] w fun e w' => ∃ v0_ : Value, e = .returned (.tuple #[v0_, .int .i64 r2]) ∧ Kd.R (Kd.int .u8) 5 w' w.heap.size (fun _ => True) v0_ r1 ∧ Below w.heap.size w w' := by
  unfold layout_Join.f at h
  obtain ⟨ok, hM, h⟩ := Option.bind_eq_some_iff.mp h
  cases ok with
  | false =>
    rw [if_neg (by decide)] at h
    simp only [Option.some.injEq, Prod.mk.injEq] at h
    obtain ⟨rfl, rfl⟩ := h
    exact join_calls_of (join_may a0_0 a0_1 a0_2 a2 l1 A1 c1 w hM)
  | true =>
  rw [if_pos rfl] at h
  by_cases hK : (l1.length : Int) = a0_1
  case neg =>
    rw [if_neg hK] at h
    simp only [Option.some.injEq, Prod.mk.injEq] at h
    obtain ⟨rfl, rfl⟩ := h
    exact join_calls_of (join_len a0_0 a0_1 a0_2 a2 l1 A1 c1 w hM hK)
  rw [if_pos hK] at h
  cases hodd : l1.any (odd l1) with
  | true =>
    rw [hodd, if_pos rfl] at h
    simp only [Option.some.injEq, Prod.mk.injEq] at h
    obtain ⟨rfl, rfl⟩ := h
    exact join_calls_of (join_odd a0_0 a0_1 a0_2 a2 l1 A1 c1 w ⟨hr1⟩ hM hK hodd)
  | false =>
  rw [hodd, if_neg (by decide)] at h
  by_cases hg : 0 < l1.length ∧ l1.length ≤ 8 ∧ l1.flatten.length ≤ 1000000
  case neg => rw [if_neg hg] at h; exact absurd h (by simp)
  rw [if_pos hg] at h
  obtain ⟨h0, h8, hal⟩ := hg
  obtain ⟨⟨unit, ah⟩, hR, h⟩ := Option.bind_eq_some_iff.mp h
  dsimp only at h
  by_cases hu : 0 < unit ∧ 0 ≤ ah
  case neg => rw [if_neg hu] at h; exact absurd h (by simp)
  rw [if_pos hu] at h
  obtain ⟨hu, hah0⟩ := hu
  subst hK
  by_cases hq0 : ((rd_L6 l1 0).length : Int) = 0
  · rw [if_pos hq0] at h
    simp only [Option.some.injEq, Prod.mk.injEq] at h
    obtain ⟨rfl, rfl⟩ := h
    exact join_calls_of (join_form0 a0_0 a0_2 a2 l1 _ A1 c1 unit ah w hr1 hc1 h0 h8 rfl hal hM hodd hR hu hq0)
  rw [if_neg hq0] at h
  by_cases hqm : Int.tmod ((rd_L6 l1 0).length : Int) unit = 0
  case neg =>
    rw [if_pos hqm] at h
    simp only [Option.some.injEq, Prod.mk.injEq] at h
    obtain ⟨rfl, rfl⟩ := h
    exact join_calls_of (join_form1 a0_0 a0_2 a2 l1 _ A1 c1 unit ah w hr1 hc1 h0 h8 rfl hal hM hodd hR hu hq0 hqm)
  rw [if_neg (fun hh => hh hqm)] at h
  by_cases hah2 : (l1.flatten.length : Int) < ah
  · rw [if_pos hah2] at h
    simp only [Option.some.injEq, Prod.mk.injEq] at h
    obtain ⟨rfl, rfl⟩ := h
    exact join_calls_of (join_form2 a0_0 a0_2 a2 l1 _ A1 c1 unit ah w hr1 hc1 h0 h8 rfl hal hM hodd hR hu hq0 hqm hah2)
  rw [if_neg hah2] at h
  by_cases hah : 0 < ah
  · rw [if_pos hah] at h
    obtain ⟨n1, hT, h⟩ := Option.bind_eq_some_iff.mp h
    unfold joinForm at h
    by_cases hn0 : n1 < 0
    · rw [if_pos hn0] at h
      simp only [Option.some.injEq, Prod.mk.injEq] at h
      obtain ⟨rfl, rfl⟩ := h
      exact join_calls_of (join_range0t a0_0 a0_2 a2 l1 _ A1 c1 unit ah n1 (l1.flatten.take ah.toNat) (l1.flatten.drop ah.toNat) w hr1 hc1 h0 h8 rfl hal hM hodd hR hu hq0 hqm hah (by omega) rfl hT rfl hn0)
    rw [if_neg hn0] at h
    by_cases hn1 : 4096 < n1
    · rw [if_pos hn1] at h
      simp only [Option.some.injEq, Prod.mk.injEq] at h
      obtain ⟨rfl, rfl⟩ := h
      exact join_calls_of (join_range1t a0_0 a0_2 a2 l1 _ A1 c1 unit ah n1 (l1.flatten.take ah.toNat) (l1.flatten.drop ah.toNat) w hr1 hc1 h0 h8 rfl hal hM hodd hR hu hq0 hqm hah (by omega) rfl hT rfl (by omega) hn1)
    rw [if_neg hn1] at h
    by_cases hn2 : ((l1.flatten.drop ah.toNat).length : Int) < n1
    · rw [if_pos hn2] at h
      simp only [Option.some.injEq, Prod.mk.injEq] at h
      obtain ⟨rfl, rfl⟩ := h
      exact join_calls_of (join_range2t a0_0 a0_2 a2 l1 _ A1 c1 unit ah n1 (l1.flatten.take ah.toNat) (l1.flatten.drop ah.toNat) w hr1 hc1 h0 h8 rfl hal hM hodd hR hu hq0 hqm hah (by omega) rfl hT rfl (by omega) (by omega) hn2)
    rw [if_neg hn2] at h
    obtain ⟨⟨l2, e2⟩, hS, h⟩ := Option.bind_eq_some_iff.mp h
    dsimp only at h
    by_cases he2 : e2 = 0
    · subst he2
      rw [if_pos rfl] at h
      by_cases hl2 : l2 = l1
      · subst hl2
        rw [if_pos rfl] at h
        simp only [Option.some.injEq, Prod.mk.injEq] at h
        obtain ⟨rfl, rfl⟩ := h
        exact join_okt a0_0 a0_2 a2 l2 _ A1 c1 unit ah n1 (l2.flatten.take ah.toNat) (l2.flatten.drop ah.toNat) _ w hr1 hc1 h0 h8 rfl hal hM hodd hR hu hq0 hqm hah (by omega) rfl hT rfl (by omega) (by omega) (by omega) rfl hS
      · rw [if_neg hl2] at h
        by_cases hsm : ∀ x ∈ l2, x.length ≤ 4294967296
        · rw [if_pos hsm] at h
          simp only [Option.some.injEq, Prod.mk.injEq] at h
          obtain ⟨rfl, rfl⟩ := h
          exact join_calls_of (join_noeqt a0_0 a0_2 a2 l1 _ A1 c1 unit ah n1 (l1.flatten.take ah.toNat) (l1.flatten.drop ah.toNat) _ l2 w hr1 hc1 h0 h8 rfl hal hM hodd hR hu hq0 hqm hah (by omega) rfl hT rfl (by omega) (by omega) (by omega) rfl hS hl2 hsm)
        · rw [if_neg hsm] at h
          exact absurd h (by simp)
    · rw [if_neg he2] at h
      simp only [Option.some.injEq, Prod.mk.injEq] at h
      obtain ⟨rfl, rfl⟩ := h
      exact join_calls_of (join_badt a0_0 a0_2 a2 l1 _ A1 c1 unit ah n1 (l1.flatten.take ah.toNat) (l1.flatten.drop ah.toNat) _ l2 e2 w hr1 hc1 h0 h8 rfl hal hM hodd hR hu hq0 hqm hah (by omega) rfl hT rfl (by omega) (by omega) (by omega) rfl hS he2)
  · rw [if_neg hah] at h
    unfold joinForm at h
    by_cases hn0 : a2 < 0
    · rw [if_pos hn0] at h
      simp only [Option.some.injEq, Prod.mk.injEq] at h
      obtain ⟨rfl, rfl⟩ := h
      exact join_calls_of (join_range0n a0_0 a0_2 a2 l1 _ A1 c1 unit ah (l1.flatten.drop ah.toNat) w hr1 hc1 h0 h8 rfl hal hM hodd hR hu hq0 hqm hah hah0 rfl hn0)
    rw [if_neg hn0] at h
    by_cases hn1 : 4096 < a2
    · rw [if_pos hn1] at h
      simp only [Option.some.injEq, Prod.mk.injEq] at h
      obtain ⟨rfl, rfl⟩ := h
      exact join_calls_of (join_range1n a0_0 a0_2 a2 l1 _ A1 c1 unit ah (l1.flatten.drop ah.toNat) w hr1 hc1 h0 h8 rfl hal hM hodd hR hu hq0 hqm hah hah0 rfl (by omega) hn1)
    rw [if_neg hn1] at h
    by_cases hn2 : ((l1.flatten.drop ah.toNat).length : Int) < a2
    · rw [if_pos hn2] at h
      simp only [Option.some.injEq, Prod.mk.injEq] at h
      obtain ⟨rfl, rfl⟩ := h
      exact join_calls_of (join_range2n a0_0 a0_2 a2 l1 _ A1 c1 unit ah (l1.flatten.drop ah.toNat) w hr1 hc1 h0 h8 rfl hal hM hodd hR hu hq0 hqm hah hah0 rfl (by omega) (by omega) hn2)
    rw [if_neg hn2] at h
    obtain ⟨⟨l2, e2⟩, hS, h⟩ := Option.bind_eq_some_iff.mp h
    dsimp only at h
    by_cases he2 : e2 = 0
    · subst he2
      rw [if_pos rfl] at h
      by_cases hl2 : l2 = l1
      · subst hl2
        rw [if_pos rfl] at h
        simp only [Option.some.injEq, Prod.mk.injEq] at h
        obtain ⟨rfl, rfl⟩ := h
        exact join_okn a0_0 a0_2 a2 l2 _ A1 c1 unit ah (l2.flatten.drop ah.toNat) _ w hr1 hc1 h0 h8 rfl hal hM hodd hR hu hq0 hqm hah hah0 rfl (by omega) (by omega) (by omega) rfl hS
      · rw [if_neg hl2] at h
        by_cases hsm : ∀ x ∈ l2, x.length ≤ 4294967296
        · rw [if_pos hsm] at h
          simp only [Option.some.injEq, Prod.mk.injEq] at h
          obtain ⟨rfl, rfl⟩ := h
          exact join_calls_of (join_noeqn a0_0 a0_2 a2 l1 _ A1 c1 unit ah (l1.flatten.drop ah.toNat) _ l2 w hr1 hc1 h0 h8 rfl hal hM hodd hR hu hq0 hqm hah hah0 rfl (by omega) (by omega) (by omega) rfl hS hl2 hsm)
        · rw [if_neg hsm] at h
          exact absurd h (by simp)
    · rw [if_neg he2] at h
      simp only [Option.some.injEq, Prod.mk.injEq] at h
      obtain ⟨rfl, rfl⟩ := h
      exact join_calls_of (join_badn a0_0 a0_2 a2 l1 _ A1 c1 unit ah (l1.flatten.drop ah.toNat) _ l2 e2 w hr1 hc1 h0 h8 rfl hal hM hodd hR hu hq0 hqm hah hah0 rfl (by omega) (by omega) (by omega) rfl hS he2)
end Go.Proofs.Ytibcgallhldnnaa.P
