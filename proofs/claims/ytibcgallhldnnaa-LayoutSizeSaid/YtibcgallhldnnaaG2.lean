/- Plain laws of layout: what bytes are, split, as layout.Split has it and as the reference has it: the same rows. -/
import Derived.Test.YtibcgallhldnnaaG1
namespace Go.Proofs.Ytibcgallhldnnaa.P
open Go.RowKit Go.Proofs.YtibcgallhldnnaaW.PrintWords Go.Proofs.YtibcgallhldnnaaW.PrintLast Go.Proofs.YtibcgallhldnnaaW.PrintMore
set_option linter.unusedVariables false
set_option linter.unusedSimpArgs false

theorem layOf_length (ah : Int) (h : ah = 0 ∨ ah = 4) (l : List Int) : ((layOf ah l).length : Int) = (l.length : Int) + ah := by
  unfold layOf
  rcases h with rfl | rfl
  · rw [if_neg (by decide)]; omega
  · rw [if_pos rfl]; simp [head4]; omega
theorem size_room (p K n : Int) (hn : 0 ≤ n) (hn2 : n ≤ 4096) (hK : 1 ≤ K) (hK8 : K ≤ 8) : n + aheadP p ≤ K * sizeP p K n ∧ sizeP p K n ≤ 10000 ∧ (sizeP p K n = unitP p ∨ (sizeP p K n - unitP p) * K < n + aheadP p) ∧ (sizeP p K n) % (unitP p) = 0 ∧ unitP p ≤ sizeP p K n := by
  have ha := ahead_is p
  have hK' : K = 1 ∨ K = 2 ∨ K = 3 ∨ K = 4 ∨ K = 5 ∨ K = 6 ∨ K = 7 ∨ K = 8 := by omega
  unfold sizeP
  rcases unit_is p with h | h | h <;> rw [h] <;> rcases hK' with rfl | rfl | rfl | rfl | rfl | rfl | rfl | rfl <;> (refine ⟨by omega, by omega, by omega, by omega, by omega⟩)
/-- The shards of bytes. -/
def shards (p K : Int) (l : List Int) : List (List Int) := splitL K.toNat (sizeP p K (l.length : Int)).toNat (layOf (aheadP p) l)
theorem split_pure (p K M : Int) (l : List Int) (hm : mayB p K M = true) (hl : l.length ≤ 4096) : layout_Split.f p K M l = some (shards p K l, 0) := by
  obtain ⟨hK, hK8⟩ := may_K hm
  unfold layout_Split.f
  rw [size_pure, if_pos ⟨hm, by omega⟩, if_neg (by omega), Option.bind_some, if_pos rfl, rule_pure, Option.bind_some]
  obtain ⟨h1, h2, _⟩ := size_room p K (l.length : Int) (by omega) (by omega) hK hK8
  obtain ⟨h3, _⟩ := sizeP_le p K (l.length : Int) (by omega) (by omega) hK hK8
  rw [if_pos]
  · rfl
  · exact ⟨ahead_is p, hl, h3, h2, hK, hK8, by show ((layOf (aheadP p) l).length : Int) ≤ _; rw [layOf_length _ (ahead_is p)]; exact h1⟩
theorem split_no (p K M : Int) (l : List Int) (hm : ¬ mayB p K M = true) : layout_Split.f p K M l = some ([], 1) := by
  unfold layout_Split.f
  rw [size_pure, if_neg (fun h => hm h.1), Option.bind_some, if_neg (by decide)]
theorem split_big (p K M : Int) (l : List Int) (hm : mayB p K M = true) (hl : 4096 < l.length) : layout_Split.f p K M l = some ([], 11) := by
  unfold layout_Split.f
  rw [size_pure, if_pos ⟨hm, by omega⟩, if_pos (by omega), Option.bind_some, if_neg (by decide)]

theorem laid_ref (p K M : Int) (l : List Int) (hl : l.length ≤ 4096) : gambrelref10_laid.f p K M l = some (layOf (aheadP p) l) := by
  unfold gambrelref10_laid.f
  rw [layout_ref, Option.bind_some]
  by_cases h98 : layB p = 98
  · have ha : aheadP p = 4 := by unfold aheadP; rw [if_pos h98]
    rw [if_pos h98, Option.bind_some, if_pos (by simp), Option.bind_some, List.nil_append, if_pos (by simp; omega), ha]
    unfold layOf head4
    rw [if_pos rfl]
    congr 1
    have e1 : Int.tmod (wrap64 ((l.length : Int) / 16777216)) 256 % 256 = (l.length : Int) / 256 / 256 / 256 := by
      rw [wrap_is _ (by omega) (by omega), Int.tmod_eq_emod_of_nonneg (by omega)]; omega
    have e2 : Int.tmod (wrap64 ((l.length : Int) / 65536)) 256 % 256 = (l.length : Int) / 256 / 256 := by
      rw [wrap_is _ (by omega) (by omega), Int.tmod_eq_emod_of_nonneg (by omega)]; omega
    have e3 : Int.tmod (wrap64 ((l.length : Int) / 256)) 256 % 256 = (l.length : Int) / 256 % 256 := by
      rw [wrap_is _ (by omega) (by omega), Int.tmod_eq_emod_of_nonneg (by omega)]; omega
    rw [e1, e2, e3]
  · have ha : aheadP p = 0 := by unfold aheadP; rw [if_neg h98]
    rw [if_neg h98, if_pos (by simp; omega), List.nil_append, ha]
    unfold layOf
    rw [if_neg (by decide)]

theorem row_elem (fl : List Int) (size i k K : Nat) (hfl : fl.length = K * size) (hi : i < K) (hk : k < size) : ∃ h : i * size + k < fl.length, (rowAt fl size i).take (k + 1) = (rowAt fl size i).take k ++ [fl[i * size + k]] := by
  have h1 : (i + 1) * size ≤ K * size := Nat.mul_le_mul_right _ hi
  rw [Nat.add_mul, Nat.one_mul] at h1
  have hb : i * size + k < fl.length := by omega
  have hr : k < (rowAt fl size i).length := by rw [rowAt_length fl size i K hfl hi]; exact hk
  refine ⟨hb, ?_⟩
  rw [List.take_succ_eq_append_getElem hr]
  congr 2
  simp [rowAt]
theorem row_bound (i K size : Nat) (hi : i < K) (hK : K ≤ 8) (hs : size ≤ 10000) : i * size ≤ 80000 := by
  have h7 : i * size ≤ 8 * size := Nat.mul_le_mul_right _ (by omega)
  omega
theorem row_index (i size k : Nat) (hm : i * size ≤ 80000) (hk : k ≤ 10000) : wrap64 (wrap64 ((i : Int) * (size : Int)) + (k : Int)) = ((i * size + k : Nat) : Int) := by
  have e0 : (i : Int) * (size : Int) = ((i * size : Nat) : Int) := by simp
  rw [e0]
  obtain ⟨m, hm2⟩ : ∃ m, i * size = m := ⟨_, rfl⟩
  rw [hm2] at hm ⊢
  rw [wrap_is (m : Int) (by omega) (by omega), wrap_is ((m : Int) + (k : Int)) (by omega) (by omega)]
  omega
theorem take_small (l : List Int) (k : Nat) (hk : k ≤ 10000) : (l.take k).length < 140737488355328 := by rw [List.length_take]; omega
theorem ref_row (p K' M : Int) (xs fl : List Int) (K size : Nat) (hfl : fl.length = K * size) (hlo : ∀ (j : Nat) (h : j < fl.length) (hx : j < xs.length), fl[j] = xs[j]) (hhi : ∀ (j : Nat) (h : j < fl.length), ¬ j < xs.length → fl[j] = 0) (hK : K ≤ 8) (hs : size ≤ 10000) (rows : List (List Int)) (hrows : rows.length < 5864062014805) (i : Nat) (hi : i < K) (F : Nat) : ∀ d k : Nat, k + d = size →
    gambrelref10_Split.l1 (d + 1 + F) (size : Int) xs rows (i : Int) ((rowAt fl size i).take k) (k : Int) p K' M =
      gambrelref10_Split.l0 F (size : Int) xs (rows ++ [rowAt fl size i]) (wrap64 ((i : Int) + 1)) p K' M
  | 0, k, hk => by
    obtain rfl : k = size := by omega
    have ht : (rowAt fl k i).take k = rowAt fl k i := List.take_of_length_le (Nat.le_of_eq (rowAt_length _ k i K hfl hi))
    obtain ⟨row, hrow⟩ : ∃ row, rowAt fl k i = row := ⟨_, rfl⟩
    rw [hrow] at ht ⊢
    rw [ht, Nat.zero_add, Nat.add_comm 1 F, gambrelref10_Split.l1, if_neg (by omega), if_pos hrows]
  | d + 1, k, hk => by
    obtain ⟨hb, he⟩ := row_elem fl size i k K hfl hi (by omega)
    have hm := row_bound i K size hi hK hs
    have e1 := row_index i size k hm (by omega)
    have hlen := take_small (rowAt fl size i) k (by omega)
    have ih := ref_row p K' M xs fl K size hfl hlo hhi hK hs rows hrows i hi F d (k + 1) (by omega)
    have hl : i * size + k < xs.length → fl[i * size + k] = rd xs ((i * size + k : Nat) : Int) := fun hx => (hlo (i * size + k) hb hx).trans (rdi xs _ hx).symm
    have hh : ¬ i * size + k < xs.length → fl[i * size + k] = 0 := hhi (i * size + k) hb
    obtain ⟨row, hrow⟩ : ∃ row, rowAt fl size i = row := ⟨_, rfl⟩
    obtain ⟨z, hz⟩ : ∃ z, fl[i * size + k] = z := ⟨_, rfl⟩
    rw [hz] at he hl hh
    rw [hrow] at he hlen ih ⊢
    obtain ⟨m, hm2⟩ : ∃ m, i * size + k = m := ⟨_, rfl⟩
    rw [hm2] at e1 hl hh
    clear hlo hhi hfl hm
    rw [show d + 1 + 1 + F = (d + 1 + F) + 1 from by omega, gambrelref10_Split.l1, if_pos (by omega), e1]
    by_cases hlt : m < xs.length
    · rw [if_pos (by omega), if_pos (by omega), if_pos hlen, wrap_nat k (by omega), ← hl hlt, ← he]
      exact ih
    · rw [if_neg (by omega), if_pos hlen, wrap_nat k (by omega), ← hh hlt, ← he]
      exact ih
theorem fl_lo (K size : Nat) (xs : List Int) : ∀ (j : Nat) (h : j < (xs ++ List.replicate (K * size - xs.length) 0).length) (hx : j < xs.length), (xs ++ List.replicate (K * size - xs.length) (0 : Int))[j] = xs[j] := fun j h hx => List.getElem_append_left hx
theorem fl_hi (K size : Nat) (xs : List Int) : ∀ (j : Nat) (h : j < (xs ++ List.replicate (K * size - xs.length) 0).length), ¬ j < xs.length → (xs ++ List.replicate (K * size - xs.length) (0 : Int))[j] = 0 := fun j h hx => by
  rw [List.getElem_append_right (by omega)]; simp
theorem fl_len (K size : Nat) (xs : List Int) (hx : xs.length ≤ K * size) : (xs ++ List.replicate (K * size - xs.length) (0 : Int)).length = K * size := by simp; omega
def fuel (size : Nat) : Nat → Nat
  | 0 => 1
  | e + 1 => size + 1 + fuel size e + 1
theorem ref_rows (p M : Int) (xs : List Int) (K size : Nat) (hx : xs.length ≤ K * size) (hK : K ≤ 8) (hs : size ≤ 10000) : ∀ e i : Nat, i + e = K →
    gambrelref10_Split.l0 (fuel size e) (size : Int) xs ((splitL K size xs).take i) (i : Int) p (K : Int) M = some (splitL K size xs, 0)
  | 0, i, hi => by
    obtain rfl : i = K := by omega
    unfold fuel
    rw [gambrelref10_Split.l0, if_neg (by omega), List.take_of_length_le (by simp [splitL])]
  | e + 1, i, hi => by
    have hlt : i < (splitL K size xs).length := by simp [splitL]; omega
    have hrow : (splitL K size xs)[i] = rowAt (xs ++ List.replicate (K * size - xs.length) 0) size i := by simp [splitL]
    unfold fuel
    rw [gambrelref10_Split.l0, if_pos (by omega)]
    have h := ref_row p (K : Int) M xs _ K size (fl_len K size xs hx) (fl_lo K size xs) (fl_hi K size xs) hK hs ((splitL K size xs).take i) (by rw [List.length_take]; omega) i (by omega) (fuel size e) size 0 (by omega)
    rw [List.take_zero] at h
    rw [show ((0 : Nat) : Int) = 0 from rfl] at h
    rw [h, wrap_nat i (by omega), ← hrow, ← List.take_succ_eq_append_getElem hlt]
    exact ref_rows p M xs K size hx hK hs e (i + 1) (by omega)
end Go.Proofs.Ytibcgallhldnnaa.P
