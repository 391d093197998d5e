/- Plain law: LayoutJoins answers true: what any shards are of is what the reference says. -/
import Derived.Test.YtibcgallhldnnaaU
import Derived.Test.YtibcgallhldnnaaPf4
namespace Go.Proofs.Ytibcgallhldnnaa.P
open Go.RowKit Go.Proofs.YtibcgallhldnnaaW.PrintWords Go.Proofs.YtibcgallhldnnaaW.PrintLast Go.Proofs.YtibcgallhldnnaaW.PrintMore
set_option linter.unusedVariables false
set_option linter.unusedSimpArgs false

theorem ofNum_inj {a b : Int} (ha : 0 ≤ a ∧ a < 256) (hb : 0 ≤ b ∧ b < 256) (h : UInt8.ofNat a.toNat = UInt8.ofNat b.toNat) : a = b := by
  have := congrArg UInt8.toNat h
  simp only [UInt8.toNat_ofNat'] at this
  omega
theorem nums_inj : ∀ (x y : List Int), (∀ n ∈ x, 0 ≤ n ∧ n < 256) → (∀ n ∈ y, 0 ≤ n ∧ n < 256) → x.map (fun n => UInt8.ofNat n.toNat) = y.map (fun n => UInt8.ofNat n.toNat) → x = y
  | [], [], _, _, _ => rfl
  | [], b :: y, _, _, h => by simp at h
  | a :: x, [], _, _, h => by simp at h
  | a :: x, b :: y, hx, hy, h => by
    simp only [List.map_cons, List.cons.injEq] at h
    rw [ofNum_inj (hx a (by simp)) (hy b (by simp)) h.1, nums_inj x y (fun n hn => hx n (by simp [hn])) (fun n hn => hy n (by simp [hn])) h.2]
theorem strOf_list (x : List Int) : (strOfNums x).toList = x.map fun n => UInt8.ofNat n.toNat := by simp [strOfNums, ByteArray.toList_eq]
theorem strOf_eq {x y : List Int} (hx : ∀ n ∈ x, 0 ≤ n ∧ n < 256) (hy : ∀ n ∈ y, 0 ≤ n ∧ n < 256) : (strOfNums x).toList = (strOfNums y).toList ↔ x = y := by
  rw [strOf_list, strOf_list]
  exact ⟨nums_inj x y hx hy, fun h => by rw [h]⟩

def inByte (l : List Int) : Prop := ∀ n ∈ l, 0 ≤ n ∧ n < 256
def joinQ (p K : Int) (d : List (List Int)) (n1 : Int) (rest : List Int) : List Int × Int :=
  if n1 < 0 then ([], 3) else if 4096 < n1 then ([], 3) else if (rest.length : Int) < n1 then ([], 3) else if shards p K (rest.take n1.toNat) = d then (rest.take n1.toNat, 0) else ([], 3)
def joinP (p K M : Int) (d : List (List Int)) (n : Int) : List Int × Int :=
  if mayB p K M = true ∧ (d.length : Int) = K then
    if d.any (odd d) = true then ([], 1) else
    if ((rd_L6 d 0).length : Int) = 0 then ([], 3) else
    if ¬ ((rd_L6 d 0).length : Int) % unitP p = 0 then ([], 3) else
    if (d.flatten.length : Int) < aheadP p then ([], 3) else
    joinQ p K d (if aheadP p = 4 then told4 d.flatten else n) (d.flatten.drop (aheadP p).toNat)
  else ([], 1)
theorem flat_bound : ∀ d : List (List Int), (∀ x ∈ d, x.length ≤ 300) → d.flatten.length ≤ 300 * d.length
  | [], _ => by simp
  | a :: d, h => by
    have h1 := flat_bound d (fun x hx => h x (List.mem_cons_of_mem _ hx))
    have h2 := h a (List.mem_cons_self)
    rw [List.flatten_cons, List.length_append, List.length_cons]
    omega
theorem flat_byte {d : List (List Int)} (h : ∀ y ∈ d, inByte y) : inByte d.flatten := by
  intro n hn
  obtain ⟨y, hy, hny⟩ := List.mem_flatten.1 hn
  exact h y hy n hny
theorem rd_byte {l : List Int} (h : inByte l) (i : Nat) (hi : i < l.length) : 0 ≤ rd l (i : Int) ∧ rd l (i : Int) < 256 := by
  rw [rdi l i hi]; exact h _ (List.getElem_mem hi)
theorem rd_take (l : List Int) (i : Nat) (hi : i < 4) (hl : 4 ≤ l.length) : rd (l.take 4) (i : Int) = rd l (i : Int) := by
  rw [rdi _ i (by rw [List.length_take]; omega), rdi l i (by omega)]
  simp
theorem told_take (l : List Int) (hl : 4 ≤ l.length) (h : inByte l) : layout_told.f 9 (l.take 4) = some (told4 l) := by
  have e : ∀ i : Nat, i < 4 → rd (l.take 4) (i : Int) = rd l (i : Int) := fun i hi => rd_take l i hi hl
  have e0 : rd (l.take 4) 0 = rd l 0 := e 0 (by omega)
  have e1 : rd (l.take 4) 1 = rd l 1 := e 1 (by omega)
  have e2 : rd (l.take 4) 2 = rd l 2 := e 2 (by omega)
  have e3 : rd (l.take 4) 3 = rd l 3 := e 3 (by omega)
  have b0 : 0 ≤ rd l 0 ∧ rd l 0 < 256 := rd_byte h 0 (by omega)
  have b1 : 0 ≤ rd l 1 ∧ rd l 1 < 256 := rd_byte h 1 (by omega)
  have b2 : 0 ≤ rd l 2 ∧ rd l 2 < 256 := rd_byte h 2 (by omega)
  have b3 : 0 ≤ rd l 3 ∧ rd l 3 < 256 := rd_byte h 3 (by omega)
  rw [told_pure (l.take 4) (by rw [List.length_take]; omega) (by rw [e0]; exact b0) (by rw [e1]; exact b1) (by rw [e2]; exact b2) (by rw [e3]; exact b3)]
  unfold told4
  rw [e0, e1, e2, e3]
theorem joinForm_pure (p K M : Int) (d : List (List Int)) (n1 : Int) (rest : List Int) (hm : mayB p K M = true) : joinForm p K M d n1 rest = some (joinQ p K d n1 rest) := by
  obtain ⟨hK, hK8⟩ := may_K hm
  unfold joinForm joinQ
  by_cases h1 : n1 < 0
  · rw [if_pos h1, if_pos h1]
  rw [if_neg h1, if_neg h1]
  by_cases h2 : 4096 < n1
  · rw [if_pos h2, if_pos h2]
  rw [if_neg h2, if_neg h2]
  by_cases h3 : (rest.length : Int) < n1
  · rw [if_pos h3, if_pos h3]
  rw [if_neg h3, if_neg h3]
  have hl : (rest.take n1.toNat).length ≤ 4096 := by rw [List.length_take]; omega
  rw [split_pure p K M _ hm hl, Option.bind_some, if_pos rfl]
  dsimp only
  by_cases h4 : shards p K (rest.take n1.toNat) = d
  · rw [if_pos h4, if_pos h4]
  · rw [if_neg h4, if_neg h4, if_pos]
    intro x hx
    have h5 := shards_row p K _ hl hK hK8 x hx
    have h6 := (size_room p K ((rest.take n1.toNat).length : Int) (by omega) (by omega) hK hK8).2.1
    omega
theorem join_pure (p K M : Int) (d : List (List Int)) (n : Int) (hd : d.length ≤ 12) (hr : ∀ x ∈ d, x.length ≤ 300) (hb : ∀ y ∈ d, inByte y) : layout_Join.f p K M d n = some (joinP p K M d n) := by
  have hf := flat_bound d hr
  unfold layout_Join.f joinP
  rw [may_pure, Option.bind_some]
  by_cases hm : mayB p K M = true
  case neg => rw [if_neg hm, if_neg (fun h => hm h.1)]
  rw [if_pos hm]
  obtain ⟨hK, hK8⟩ := may_K hm
  by_cases hlen : (d.length : Int) = K
  case neg => rw [if_neg hlen, if_neg (fun h => hlen h.2)]
  rw [if_pos hlen, if_pos (show mayB p K M = true ∧ (d.length : Int) = K from ⟨hm, hlen⟩)]
  by_cases ho : d.any (odd d) = true
  · rw [if_pos ho, if_pos ho]
  rw [if_neg ho, if_neg ho, if_pos ⟨by omega, by omega, by omega⟩, rule_pure, Option.bind_some]
  dsimp only
  have hu := unit_is p
  have ha := ahead_is p
  rw [if_pos ⟨by omega, by omega⟩]
  by_cases hq : ((rd_L6 d 0).length : Int) = 0
  · rw [if_pos hq, if_pos hq]
  rw [if_neg hq, if_neg hq, Int.tmod_eq_emod_of_nonneg (by omega)]
  by_cases hq2 : ((rd_L6 d 0).length : Int) % unitP p = 0
  case neg => rw [if_pos hq2, if_pos hq2]
  have hnn : ¬ ¬ ((rd_L6 d 0).length : Int) % unitP p = 0 := fun h => h hq2
  rw [if_neg hnn, if_neg hnn]
  by_cases hfa : (d.flatten.length : Int) < aheadP p
  · rw [if_pos hfa, if_pos hfa]
  rw [if_neg hfa, if_neg hfa]
  rcases ha with ha | ha
  · rw [ha, if_neg (by decide), if_neg (by decide)]
    exact joinForm_pure p K M d n _ hm
  · rw [ha] at hfa
    rw [ha, if_pos (by decide), if_pos rfl, show (4 : Int).toNat = 4 from rfl, told_take d.flatten (by omega) (flat_byte hb), Option.bind_some]
    exact joinForm_pure p K M d _ _ hm

theorem ev_split (p K M : Int) (l : List Int) (hl : l.length ≤ 4096) (hm : mayB p K M = true) : ∃ k0, ∀ k, k0 ≤ k → gambrelref10_Split.f k p K M l = some (shards p K l, 0) := by
  obtain ⟨k, h⟩ := ref_split_all p K M l hl
  unfold splitR at h
  rw [if_pos hm] at h
  exact ⟨k, fun k' hk => up_le (fun k => gambrelref10_Split.mono p K M l k) h hk⟩
theorem sames_l (a b : List (List Int)) (hl : a.length = b.length) (ha : ∀ y ∈ a, inByte y) (hb : ∀ y ∈ b, inByte y) (hs : a.length < 4611686018427387904) : ∀ m i : Nat, i + m = a.length → (∀ j : Nat, j < i → rd_L6 a j = rd_L6 b j) → gambrelref10_Same.l0 (m + 1) a b (i : Int) = some (decide (a = b))
  | 0, i, hi, he => by
    rw [gambrelref10_Same.l0, if_neg (by omega), decide_eq_true (eq_of_all hl (fun j hj => he j (by omega)))]
  | m + 1, i, hi, he => by
    have h1 : i < a.length := by omega
    have h2 : i < b.length := by omega
    have ia : inByte (rd_L6 a (i : Int)) := by rw [rd_at a i h1]; exact ha _ (List.getElem_mem h1)
    have ib : inByte (rd_L6 b (i : Int)) := by rw [rd_at b i h2]; exact hb _ (List.getElem_mem h2)
    rw [gambrelref10_Same.l0, if_pos (by omega), if_pos (by omega), if_pos (by omega)]
    by_cases h : rd_L6 a (i : Int) = rd_L6 b (i : Int)
    · rw [if_pos ((strOf_eq ia ib).2 h), wrap_nat i (by omega)]
      exact sames_l a b hl ha hb hs m (i + 1) (by omega) (fun j hj => by
        rcases Nat.lt_or_ge j i with h3 | h3
        · exact he j h3
        · obtain rfl : j = i := by omega
          exact h)
    · rw [if_neg (fun hh => h ((strOf_eq ia ib).1 hh)), decide_eq_false (fun e => h (by rw [e]))]
theorem ev_same (a b : List (List Int)) (ha : ∀ y ∈ a, inByte y) (hb : ∀ y ∈ b, inByte y) (hs : a.length ≤ 1000000) : ∃ k0, ∀ k, k0 ≤ k → gambrelref10_Same.f k a b = some (decide (a = b)) := by
  have h : ∃ k, gambrelref10_Same.f k a b = some (decide (a = b)) := by
    by_cases hl : a.length = b.length
    · refine ⟨a.length + 1, ?_⟩
      unfold gambrelref10_Same.f
      rw [if_pos (by omega)]
      exact sames_l a b hl ha hb (by omega) a.length 0 (by omega) (fun j hj => absurd hj (by omega))
    · refine ⟨0, ?_⟩
      unfold gambrelref10_Same.f
      rw [if_neg (by omega), decide_eq_false (fun e => hl (by rw [e]))]
  obtain ⟨k, h⟩ := h
  exact ⟨k, fun k' hk => up_le (fun k => gambrelref10_Same.mono a b k) h hk⟩
theorem head4_byte (n : Nat) (h : n ≤ 4096) : inByte (head4 n) := by
  intro v hv
  unfold head4 at hv
  simp only [List.mem_cons, List.not_mem_nil, or_false] at hv
  rcases hv with rfl | rfl | rfl | rfl <;> omega
theorem shards_byte (p K : Int) (l : List Int) (hl : l.length ≤ 4096) (h : inByte l) : ∀ y ∈ shards p K l, inByte y := by
  intro y hy n hn
  unfold shards splitL at hy
  obtain ⟨j, hj, rfl⟩ := List.mem_map.1 hy
  have h1 := List.mem_of_mem_drop (List.mem_of_mem_take hn)
  rcases List.mem_append.1 h1 with h2 | h2
  · unfold layOf at h2
    by_cases h3 : aheadP p = 4
    · rw [if_pos h3] at h2
      rcases List.mem_append.1 h2 with h4 | h4
      · exact head4_byte _ hl n h4
      · exact h n h4
    · rw [if_neg h3] at h2; exact h n h2
  · have := List.eq_of_mem_replicate h2
    omega
theorem cut_eq (all : List Int) (a n : Int) (ha : 0 ≤ a) (hn : 0 ≤ n) : (all.take (a + n).toNat).drop a.toNat = (all.drop a.toNat).take n.toNat := by
  rw [List.drop_take]
  congr 1
  omega
theorem ev_j5t (d : List (List Int)) (n : Int) (all : List Int) (at_ : Int) (p K M : Int) : ∃ k0, ∀ k, k0 ≤ k → gambrelref10_Join.j5 k d n all at_ true p K M = some ([], 3) := by
  refine ⟨1, fun k hk => ?_⟩
  obtain ⟨j, rfl⟩ : ∃ j, k = j + 1 := ⟨k - 1, by omega⟩
  rw [gambrelref10_Join.j5, if_pos rfl]
theorem ev_j5 (d : List (List Int)) (n : Int) (all : List Int) (a : Int) (p K M : Int) (hm : mayB p K M = true) (ha0 : 0 ≤ a) (ha4 : a ≤ 4) (hn0 : 0 ≤ n) (hn : n ≤ 4096) (hl : a + n ≤ (all.length : Int)) (hall : all.length ≤ 4000) (hb : inByte all) (hd : ∀ y ∈ d, inByte y) :
    ∃ k0, ∀ k, k0 ≤ k → gambrelref10_Join.j5 k d n all a false p K M = some (if shards p K ((all.drop a.toNat).take n.toNat) = d then ((all.drop a.toNat).take n.toNat, 0) else ([], 3)) := by
  obtain ⟨y, hy⟩ : ∃ y, (all.drop a.toNat).take n.toNat = y := ⟨_, rfl⟩
  have hyl : y.length ≤ 4000 := by rw [← hy, List.length_take, List.length_drop]; omega
  have hyb : inByte y := fun v hv => by
    rw [← hy] at hv
    exact hb v (List.mem_of_mem_drop (List.mem_of_mem_take hv))
  obtain ⟨hK, hK8⟩ := may_K hm
  obtain ⟨k1, h1⟩ := ev_split p K M y (by omega) hm
  obtain ⟨k2, h2⟩ := ev_same (shards p K y) d (shards_byte p K y (by omega) hyb) hd (by rw [shards_length]; omega)
  refine ⟨max k1 k2 + 1, fun k hk => ?_⟩
  obtain ⟨j, rfl⟩ : ∃ j, k = j + 1 := ⟨k - 1, by omega⟩
  have e := cut_eq all a n ha0 hn0
  rw [hy] at e ⊢
  rw [gambrelref10_Join.j5, if_neg (by decide), Option.bind_some, if_pos ha0, wrap_is (a + n) (by omega) (by omega), if_pos (by omega), if_pos hl, e, Option.bind_some, List.nil_append, if_pos (by simp only [List.length_nil]; omega), Option.bind_some, h1 j (by omega), Option.bind_some]
  dsimp only
  rw [h2 j (by omega), Option.bind_some]
  by_cases h : shards p K y = d
  · rw [if_pos (decide_eq_true h), if_pos h]
  · rw [if_neg (fun hh => h (of_decide_eq_true hh)), if_neg h]
theorem ev_j4 (d : List (List Int)) (n : Int) (all : List Int) (a : Int) (p K M : Int) (hm : mayB p K M = true) (ha0 : 0 ≤ a) (ha4 : a ≤ 4) (hal : a ≤ (all.length : Int)) (hall : all.length ≤ 4000) (hb : inByte all) (hd : ∀ y ∈ d, inByte y) :
    ∃ k0, ∀ k, k0 ≤ k → gambrelref10_Join.j4 k d n all a p K M = some (joinQ p K d n (all.drop a.toNat)) := by
  obtain ⟨kt, ht⟩ := ev_j5t d n all a p K M
  have hrl : ((all.drop a.toNat).length : Int) = (all.length : Int) - a := by rw [List.length_drop]; omega
  unfold joinQ
  by_cases h1 : n < 0
  · refine ⟨kt + 1, fun k hk => ?_⟩
    obtain ⟨j, rfl⟩ : ∃ j, k = j + 1 := ⟨k - 1, by omega⟩
    rw [gambrelref10_Join.j4, if_pos h1, if_pos h1, ht j (by omega)]
  by_cases h2 : 4096 < n
  · refine ⟨kt + 1, fun k hk => ?_⟩
    obtain ⟨j, rfl⟩ : ∃ j, k = j + 1 := ⟨k - 1, by omega⟩
    rw [gambrelref10_Join.j4, if_neg h1, if_pos h2, if_neg h1, if_pos h2, ht j (by omega)]
  by_cases h3 : ((all.drop a.toNat).length : Int) < n
  · refine ⟨kt + 1, fun k hk => ?_⟩
    obtain ⟨j, rfl⟩ : ∃ j, k = j + 1 := ⟨k - 1, by omega⟩
    rw [gambrelref10_Join.j4, if_neg h1, if_neg h2, if_neg h1, if_neg h2, if_pos h3, wrap_is _ (by omega) (by omega), decide_eq_true (by omega), ht j (by omega)]
  obtain ⟨k1, hk1⟩ := ev_j5 d n all a p K M hm ha0 ha4 (by omega) (by omega) (by omega) hall hb hd
  refine ⟨k1 + 1, fun k hk => ?_⟩
  obtain ⟨j, rfl⟩ : ∃ j, k = j + 1 := ⟨k - 1, by omega⟩
  rw [gambrelref10_Join.j4, if_neg h1, if_neg h2, if_neg h1, if_neg h2, if_neg h3, wrap_is _ (by omega) (by omega), decide_eq_false (by omega), hk1 j (by omega)]
theorem ref_told (k : Nat) (d : List (List Int)) (all : List Int) (p K M : Int) (h4 : 4 ≤ all.length) (hb : inByte all) : gambrelref10_Join.l1 (k + 5) d 0 all 0 p K M = gambrelref10_Join.j4 k d (told4 all) all 4 p K M := by
  have b0 : 0 ≤ rd all 0 ∧ rd all 0 < 256 := rd_byte hb 0 (by omega)
  have b1 : 0 ≤ rd all 1 ∧ rd all 1 < 256 := rd_byte hb 1 (by omega)
  have b2 : 0 ≤ rd all 2 ∧ rd all 2 < 256 := rd_byte hb 2 (by omega)
  have b3 : 0 ≤ rd all 3 ∧ rd all 3 < 256 := rd_byte hb 3 (by omega)
  rw [show k + 5 = (k + 4) + 1 from rfl, gambrelref10_Join.l1, if_pos (by omega), if_pos (by omega), if_pos (by omega), wrap_is (256 * 0) (by omega) (by omega), wrap_is (rd all 0) (by omega) (by omega), wrap_is _ (by omega) (by omega), show wrap64 (0 + 1) = 1 from wrap_is 1 (by omega) (by omega)]
  rw [show k + 4 = (k + 3) + 1 from rfl, gambrelref10_Join.l1, if_pos (by omega), if_pos (by omega), if_pos (by omega), wrap_is (256 * (256 * 0 + rd all 0)) (by omega) (by omega), wrap_is (rd all 1) (by omega) (by omega), wrap_is _ (by omega) (by omega), show wrap64 (1 + 1) = 2 from wrap_is 2 (by omega) (by omega)]
  rw [show k + 3 = (k + 2) + 1 from rfl, gambrelref10_Join.l1, if_pos (by omega), if_pos (by omega), if_pos (by omega), wrap_is (256 * (256 * (256 * 0 + rd all 0) + rd all 1)) (by omega) (by omega), wrap_is (rd all 2) (by omega) (by omega), wrap_is _ (by omega) (by omega), show wrap64 (2 + 1) = 3 from wrap_is 3 (by omega) (by omega)]
  rw [show k + 2 = (k + 1) + 1 from rfl, gambrelref10_Join.l1, if_pos (by omega), if_pos (by omega), if_pos (by omega), wrap_is (256 * (256 * (256 * (256 * 0 + rd all 0) + rd all 1) + rd all 2)) (by omega) (by omega), wrap_is (rd all 3) (by omega) (by omega), wrap_is _ (by omega) (by omega), show wrap64 (3 + 1) = 4 from wrap_is 4 (by omega) (by omega)]
  rw [gambrelref10_Join.l1, if_neg (by omega)]
  have e : 256 * (256 * (256 * (256 * 0 + rd all 0) + rd all 1) + rd all 2) + rd all 3 = told4 all := by unfold told4; omega
  rw [e]
theorem ahead_98 (p : Int) : (layB p = 98 ∧ aheadP p = 4) ∨ (¬ layB p = 98 ∧ aheadP p = 0) := by
  unfold aheadP
  by_cases h : layB p = 98
  · rw [if_pos h]; exact .inl ⟨h, rfl⟩
  · rw [if_neg h]; exact .inr ⟨h, rfl⟩
theorem ev_j2 (d : List (List Int)) (n : Int) (all : List Int) (p K M : Int) (hm : mayB p K M = true) (hall : all.length ≤ 4000) (hb : inByte all) (hd : ∀ y ∈ d, inByte y) :
    ∃ k0, ∀ k, k0 ≤ k → gambrelref10_Join.j2 k d n all false p K M = some (if (all.length : Int) < aheadP p then ([], 3) else joinQ p K d (if aheadP p = 4 then told4 all else n) (all.drop (aheadP p).toNat)) := by
  rcases ahead_98 p with ⟨h98, ha⟩ | ⟨h98, ha⟩
  · by_cases hlt : (all.length : Int) < 4
    · refine ⟨1, fun k hk => ?_⟩
      obtain ⟨j, rfl⟩ : ∃ j, k = j + 1 := ⟨k - 1, by omega⟩
      rw [gambrelref10_Join.j2, if_neg (by decide), layout_ref, Option.bind_some, if_pos h98, if_pos hlt, ha, if_pos hlt]
    · obtain ⟨k1, h1⟩ := ev_j4 d (told4 all) all 4 p K M hm (by omega) (by omega) (by omega) hall hb hd
      refine ⟨k1 + 6, fun k hk => ?_⟩
      obtain ⟨j, rfl⟩ : ∃ j, k = (j + 5) + 1 := ⟨k - 6, by omega⟩
      rw [gambrelref10_Join.j2, if_neg (by decide), layout_ref, Option.bind_some, if_pos h98, if_neg hlt, ref_told j d all p K M (by omega) hb, h1 j (by omega), ha, if_neg hlt, if_pos rfl]
  · obtain ⟨k1, h1⟩ := ev_j4 d n all 0 p K M hm (by omega) (by omega) (by omega) hall hb hd
    refine ⟨k1 + 1, fun k hk => ?_⟩
    obtain ⟨j, rfl⟩ : ∃ j, k = j + 1 := ⟨k - 1, by omega⟩
    rw [gambrelref10_Join.j2, if_neg (by decide), layout_ref, Option.bind_some, if_neg h98, h1 j (by omega), ha, if_neg (by omega), if_neg (by decide)]
theorem j2_true (k : Nat) (d : List (List Int)) (n : Int) (all : List Int) (p K M : Int) : gambrelref10_Join.j2 (k + 1) d n all true p K M = some ([], 3) := by
  rw [gambrelref10_Join.j2, if_pos rfl]
/-- The rows are joined, one behind the other. -/
theorem l0_even (d : List (List Int)) (n p K M : Int) (hd : d.length ≤ 12) (hf : d.flatten.length ≤ 4000) (F : Nat) (he : ∀ j : Nat, j < d.length → ((rd_L6 d (j : Int)).length : Int) = ((rd_L6 d 0).length : Int)) : ∀ m i : Nat, i + m = d.length →
    gambrelref10_Join.l0 (m + (F + 1)) d n (d.take i).flatten (i : Int) p K M = gambrelref10_Join.l0 (F + 1) d n d.flatten (d.length : Int) p K M
  | 0, i, hi => by
    obtain rfl : i = d.length := by omega
    rw [Nat.zero_add, List.take_length]
  | m + 1, i, hi => by
    have h : i < d.length := by omega
    have h1 := flat_le d (i + 1)
    rw [flat_take d i h, List.length_append] at h1
    rw [show m + 1 + (F + 1) = (m + (F + 1)) + 1 from by omega, gambrelref10_Join.l0, if_pos (by omega), if_pos (by omega), if_pos (by omega), if_pos (he i h), rd_at d i h, if_pos (by omega), wrap_nat i (by omega), ← flat_take d i h]
    exact l0_even d n p K M hd hf F he m (i + 1) (by omega)
theorem l0_odd (d : List (List Int)) (n p K M : Int) (hd : d.length ≤ 12) (hf : d.flatten.length ≤ 4000) : ∀ m i : Nat, i + m = d.length → (∃ j : Nat, i ≤ j ∧ j < d.length ∧ ¬ ((rd_L6 d (j : Int)).length : Int) = ((rd_L6 d 0).length : Int)) →
    ∀ k, m + 1 ≤ k → gambrelref10_Join.l0 k d n (d.take i).flatten (i : Int) p K M = some ([], 1)
  | 0, i, hi, ⟨j, h1, h2, _⟩ => by omega
  | m + 1, i, hi, ⟨j, h1, h2, h3⟩ => by
    intro k hk
    have h : i < d.length := by omega
    have hfl := flat_le d (i + 1)
    rw [flat_take d i h, List.length_append] at hfl
    obtain ⟨q, rfl⟩ : ∃ q, k = q + 1 := ⟨k - 1, by omega⟩
    rw [gambrelref10_Join.l0, if_pos (by omega), if_pos (by omega), if_pos (by omega)]
    by_cases he : ((rd_L6 d (i : Int)).length : Int) = ((rd_L6 d 0).length : Int)
    · rw [if_pos he, rd_at d i h, if_pos (by omega), wrap_nat i (by omega), ← flat_take d i h]
      refine l0_odd d n p K M hd hf m (i + 1) (by omega) ⟨j, ?_, h2, h3⟩ q (by omega)
      rcases Nat.lt_or_ge i j with h4 | h4
      · exact h4
      · obtain rfl : j = i := by omega
        exact absurd he h3
    · rw [if_neg he]
theorem odd_iff (d : List (List Int)) : d.any (odd d) = true ↔ ∃ j : Nat, j < d.length ∧ ¬ ((rd_L6 d (j : Int)).length : Int) = ((rd_L6 d 0).length : Int) := by
  rw [List.any_eq_true]
  constructor
  · rintro ⟨x, hx, ho⟩
    obtain ⟨j, hj, rfl⟩ := List.mem_iff_getElem.1 hx
    refine ⟨j, hj, ?_⟩
    rw [rd_at d j hj]
    unfold odd at ho
    exact bne_iff_ne.1 ho
  · rintro ⟨j, hj, ho⟩
    refine ⟨d[j], List.getElem_mem hj, ?_⟩
    rw [rd_at d j hj] at ho
    unfold odd
    exact bne_iff_ne.2 ho
theorem ref_join_pure (p K M : Int) (d : List (List Int)) (n : Int) (hd : d.length ≤ 12) (hr : ∀ x ∈ d, x.length ≤ 300) (hb : ∀ y ∈ d, inByte y) : ∃ k0, ∀ k, k0 ≤ k → gambrelref10_Join.f k p K M d n = some (joinP p K M d n) := by
  have hf := flat_bound d hr
  unfold gambrelref10_Join.f joinP
  by_cases hm : mayB p K M = true
  case neg =>
    refine ⟨1, fun k hk => ?_⟩
    obtain ⟨j, rfl⟩ : ∃ j, k = j + 1 := ⟨k - 1, by omega⟩
    rw [may_ref, Option.bind_some, if_neg hm, if_neg (fun h => hm h.1), gambrelref10_Join.j0, if_pos rfl]
  obtain ⟨hK, hK8⟩ := may_K hm
  by_cases hlen : (d.length : Int) = K
  case neg =>
    refine ⟨1, fun k hk => ?_⟩
    obtain ⟨j, rfl⟩ : ∃ j, k = j + 1 := ⟨k - 1, by omega⟩
    rw [may_ref, Option.bind_some, if_pos hm, if_neg (fun h => hlen h.2), gambrelref10_Join.j0, if_pos (bne_iff_ne.2 hlen)]
  have hne : ((d.length : Int) != K) = false := bne_eq_false_iff_eq.2 hlen
  rw [if_pos (show mayB p K M = true ∧ (d.length : Int) = K from ⟨hm, hlen⟩)]
  by_cases ho : d.any (odd d) = true
  · rw [if_pos ho]
    obtain ⟨j, hj, hjo⟩ := (odd_iff d).1 ho
    refine ⟨d.length + 1 + 1, fun k hk => ?_⟩
    obtain ⟨q, rfl⟩ : ∃ q, k = q + 1 := ⟨k - 1, by omega⟩
    rw [may_ref, Option.bind_some, if_pos hm, hne, gambrelref10_Join.j0, if_neg (by decide)]
    exact l0_odd d n p K M hd (by omega) d.length 0 (by omega) ⟨j, Nat.zero_le _, hj, hjo⟩ q (by omega)
  rw [if_neg ho]
  have he : ∀ j : Nat, j < d.length → ((rd_L6 d (j : Int)).length : Int) = ((rd_L6 d 0).length : Int) := by
    intro j hj
    by_cases h : ((rd_L6 d (j : Int)).length : Int) = ((rd_L6 d 0).length : Int)
    · exact h
    · exact absurd ((odd_iff d).2 ⟨j, hj, h⟩) ho
  have hu := unit_is p
  have start : ∀ F : Nat, ∀ v, gambrelref10_Join.l0 (F + 1) d n d.flatten (d.length : Int) p K M = v → gambrelref10_Join.j0 (d.length + (F + 1) + 1) d n false p K M = v := by
    intro F v hv
    rw [gambrelref10_Join.j0, if_neg (by decide)]
    have := l0_even d n p K M hd (by omega) F he d.length 0 (by omega)
    rw [List.take_zero] at this
    rw [show ((0 : Nat) : Int) = 0 from rfl] at this
    rw [show ([] : List (List Int)).flatten = [] from rfl] at this
    rw [this]
    exact hv
  by_cases hq : ((rd_L6 d 0).length : Int) = 0
  · rw [if_pos hq]
    refine ⟨d.length + 3, fun k hk => ?_⟩
    obtain ⟨F, rfl⟩ : ∃ F, k = d.length + (F + 1 + 1) + 1 := ⟨k - d.length - 3, by omega⟩
    rw [may_ref, Option.bind_some, if_pos hm, hne]
    refine start (F + 1) _ ?_
    rw [gambrelref10_Join.l0, if_neg (by omega), if_pos (by omega), if_pos hq, j2_true]
  rw [if_neg hq]
  by_cases hq2 : ((rd_L6 d 0).length : Int) % unitP p = 0
  case neg =>
    rw [if_pos hq2]
    refine ⟨d.length + 3, fun k hk => ?_⟩
    obtain ⟨F, rfl⟩ : ∃ F, k = d.length + (F + 1 + 1) + 1 := ⟨k - d.length - 3, by omega⟩
    rw [may_ref, Option.bind_some, if_pos hm, hne]
    refine start (F + 1) _ ?_
    rw [gambrelref10_Join.l0, if_neg (by omega), if_pos (by omega), if_neg hq, layout_ref, Option.bind_some, unit_ref, Option.bind_some, if_neg (by omega), bne_iff_ne.2 hq2, j2_true]
  rw [if_neg (fun h => h hq2)]
  obtain ⟨k1, h1⟩ := ev_j2 d n d.flatten p K M hm (by omega) (flat_byte hb) hb
  refine ⟨d.length + k1 + 2, fun k hk => ?_⟩
  obtain ⟨F, rfl⟩ : ∃ F, k = d.length + (F + 1) + 1 := ⟨k - d.length - 2, by omega⟩
  rw [may_ref, Option.bind_some, if_pos hm, hne]
  refine start F _ ?_
  rw [gambrelref10_Join.l0, if_neg (by omega), if_pos (by omega), if_neg hq, layout_ref, Option.bind_some, unit_ref, Option.bind_some, if_neg (by omega), bne_eq_false_iff_eq.2 hq2, h1 F (by omega)]

/-- Few: an answer for every row of shards; where it is true the rows are few and short. -/
theorem few_l (d : List (List Int)) : ∀ m i : Nat, i + m = 13 → i ≤ d.length → (∀ j : Nat, j < i → (rd_L6 d (j : Int)).length ≤ 300) → ∃ b, (∀ k, 2 * m + 2 ≤ k → gambrelref10_Few.l0 k d (i : Int) = some b) ∧ (b = true → d.length ≤ 12 ∧ ∀ j : Nat, j < d.length → (rd_L6 d (j : Int)).length ≤ 300)
  | 0, i, hi, hl, hs => by
    refine ⟨decide ((d.length : Int) ≤ 12), fun k hk => ?_, fun h => ?_⟩
    · obtain ⟨q, rfl⟩ : ∃ q, k = (q + 1) + 1 := ⟨k - 2, by omega⟩
      obtain rfl : i = 13 := by omega
      rw [gambrelref10_Few.l0]
      by_cases h : ((13 : Nat) : Int) < (d.length : Int)
      · rw [if_pos h, decide_eq_false (by omega), gambrelref10_Few.j1, if_neg (by decide)]
      · rw [if_neg h, gambrelref10_Few.j1, if_neg (by decide)]
    · have := of_decide_eq_true h
      omega
  | m + 1, i, hi, hl, hs => by
    by_cases h : i < d.length
    · by_cases h1 : ((rd_L6 d (i : Int)).length : Int) > 300
      · refine ⟨false, fun k hk => ?_, fun h => by cases h⟩
        obtain ⟨q, rfl⟩ : ∃ q, k = (q + 1) + 1 := ⟨k - 2, by omega⟩
        rw [gambrelref10_Few.l0, if_pos (by omega), decide_eq_true (by omega), gambrelref10_Few.j1, if_pos rfl, if_pos (by omega), if_pos (by omega), if_pos h1]
      · obtain ⟨b, h3, h4⟩ := few_l d m (i + 1) (by omega) (by omega) (fun j hj => by
          by_cases e : j = i
          · subst e; omega
          · exact hs j (by omega))
        refine ⟨b, fun k hk => ?_, h4⟩
        obtain ⟨q, rfl⟩ : ∃ q, k = (q + 1) + 1 := ⟨k - 2, by omega⟩
        rw [gambrelref10_Few.l0, if_pos (by omega), decide_eq_true (by omega), gambrelref10_Few.j1, if_pos rfl, if_pos (by omega), if_pos (by omega), if_neg h1, wrap_nat i (by omega)]
        exact h3 q (by omega)
    · obtain rfl : i = d.length := by omega
      refine ⟨decide ((d.length : Int) ≤ 12), fun k hk => ?_, fun hh => ⟨by have := of_decide_eq_true hh; omega, fun j hj => hs j hj⟩⟩
      obtain ⟨q, rfl⟩ : ∃ q, k = (q + 1) + 1 := ⟨k - 2, by omega⟩
      rw [gambrelref10_Few.l0, if_neg (by omega), gambrelref10_Few.j1, if_neg (by decide)]
theorem layout_joins (p K M : Int) (d : List (List Int)) (n : Int) (hb : ∀ y ∈ d, ∀ v ∈ y, 0 ≤ v ∧ v < 256) : ∃ k, gambrellaw10_LayoutJoins.f k p K M d n = some true := by
  obtain ⟨b, h1, h2⟩ := few_l d 13 0 (by omega) (by omega) (fun j hj => absurd hj (by omega))
  cases b with
  | false =>
    refine ⟨28, ?_⟩
    unfold gambrellaw10_LayoutJoins.f gambrellaw10_awake.f gambrelref10_Few.f
    have := h1 28 (by omega)
    rw [show ((0 : Nat) : Int) = 0 from rfl] at this
    rw [Option.bind_some, this, Option.bind_some, if_neg (by decide)]
  | true =>
    obtain ⟨hd, hr⟩ := h2 rfl
    have hr' : ∀ x ∈ d, x.length ≤ 300 := by
      intro x hx
      obtain ⟨j, hj, rfl⟩ := List.mem_iff_getElem.1 hx
      have := hr j hj
      rwa [rd_at d j hj] at this
    obtain ⟨k1, h3⟩ := ref_join_pure p K M d n hd hr' hb
    refine ⟨max k1 28, ?_⟩
    unfold gambrellaw10_LayoutJoins.f gambrellaw10_awake.f gambrelref10_Few.f
    have := h1 (max k1 28) (by omega)
    rw [show ((0 : Nat) : Int) = 0 from rfl] at this
    rw [Option.bind_some, this, Option.bind_some, if_pos rfl, join_pure p K M d n hd hr' hb, Option.bind_some, h3 _ (by omega), Option.bind_some, if_pos rfl, if_pos rfl]
    simp
end Go.Proofs.Ytibcgallhldnnaa.P
