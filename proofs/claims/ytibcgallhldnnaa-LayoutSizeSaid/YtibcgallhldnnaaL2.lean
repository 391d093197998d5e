/- Rows of bytes that lie in blocks one behind the other: how they are made, written, and told as rows of the call's own. -/
import Derived.Test.YtibcgallhldnnaaL1
namespace Go.Proofs.Ytibcgallhldnnaa.P
open Go.RowKit Go.Proofs.YtibcgallhldnnaaW.PrintWords Go.Proofs.YtibcgallhldnnaaW.PrintLast Go.Proofs.YtibcgallhldnnaaW.PrintMore
set_option linter.unusedVariables false
set_option linter.unusedSimpArgs false

def bytesArr (l : List Int) : Array Value := (l.map (Value.int .u8)).toArray
def ptrs (B size k K : Nat) : Array Value := ((List.range k).map (fun j => Value.slice (some ⟨B + j, 0, none⟩) size size) ++ List.replicate (K - k) (Value.slice none 0 0)).toArray
theorem ptrs_zero (B size K : Nat) : madeCells #[.slice none 0 0] K = ptrs B size 0 K := by
  apply Array.ext'
  rw [toList_madeCells_one]
  simp [ptrs]
theorem ptrs_size (B size k K : Nat) (h : k ≤ K) : (ptrs B size k K).size = K := by simp [ptrs]; omega
theorem ptrs_get (B size k K j : Nat) (h : j < k) : (ptrs B size k K)[j]? = some (.slice (some ⟨B + j, 0, none⟩) size size) := by
  simp only [ptrs, List.getElem?_toArray]
  rw [List.getElem?_append_left (by simpa using h)]
  simp [h]
theorem ptrs_get_nil (B size k K : Nat) (h : k < K) : (ptrs B size k K)[k]? = some (.slice none 0 0) := by
  simp only [ptrs, List.getElem?_toArray]
  rw [List.getElem?_append_right (by simp)]
  simp only [List.length_map, List.length_range, Nat.sub_self, List.getElem?_replicate]
  rw [if_pos (by omega)]
theorem ptrs_set (B size k K : Nat) (h : k < K) : (ptrs B size k K).setIfInBounds k (.slice (some ⟨B + k, 0, none⟩) size size) = ptrs B size (k + 1) K := by
  apply Array.ext'
  simp only [ptrs, Array.toList_setIfInBounds]
  rw [List.set_append_right _ _ (by simp), List.range_succ, List.map_append]
  simp only [List.length_map, List.length_range, Nat.sub_self]
  obtain ⟨m, hm⟩ : ∃ m, K - k = m + 1 := ⟨K - k - 1, by omega⟩
  rw [hm, show K - (k + 1) = m from by omega, List.replicate_succ]
  simp
theorem made_bytes (n : Nat) : madeCells #[.int .u8 0] n = bytesArr (List.replicate n 0) := by
  apply Array.ext'
  rw [toList_madeCells_one]
  simp [bytesArr]
theorem bytesArr_set (l : List Int) (r : Nat) (v : Int) : (bytesArr l).setIfInBounds r (.int .u8 v) = bytesArr (l.set r v) := by
  apply Array.ext'
  simp [bytesArr, List.map_set]
theorem bytesArr_get (l : List Int) (r : Nat) (h : r < l.length) : (bytesArr l)[r]? = some (.int .u8 l[r]) := by
  simp [bytesArr, h]
theorem bytesArr_size (l : List Int) : (bytesArr l).size = l.length := by simp [bytesArr]

def rowAt (fl : List Int) (size j : Nat) : List Int := (fl.drop (j * size)).take size
theorem rowAt_length (fl : List Int) (size j K : Nat) (h : fl.length = K * size) (hj : j < K) : (rowAt fl size j).length = size := by
  have : (j + 1) * size ≤ K * size := Nat.mul_le_mul_right _ hj
  rw [Nat.add_mul, Nat.one_mul] at this
  simp only [rowAt, List.length_take, List.length_drop]; omega
theorem rowAt_set (fl : List Int) (size i j : Nat) (v : Int) (hs : 0 < size) : rowAt (fl.set i v) size j = if j = i / size then (rowAt fl size j).set (i % size) v else rowAt fl size j := by
  have hd : i / size * size + i % size = i := Nat.div_add_mod' i size
  have hm := Nat.mod_lt i hs
  unfold rowAt
  by_cases h : j = i / size
  · rw [if_pos h, List.drop_set, if_neg (by rw [h]; omega), List.take_set]
    rw [show i - j * size = i % size from by rw [h]; omega]
  · rw [if_neg h, List.drop_set]
    by_cases h1 : i < j * size
    · rw [if_pos h1]
    · rw [if_neg h1, List.take_set]
      have h2 : (j + 1) ≤ i / size := by
        have := (Nat.le_div_iff_mul_le hs).2 (Nat.le_of_not_lt h1)
        omega
      have h3 := Nat.mul_le_mul_right size h2
      rw [Nat.add_mul, Nat.one_mul] at h3
      rw [List.set_eq_of_length_le]
      simp only [List.length_take, List.length_drop]; omega

def fillL (N : Nat) (xs : List Int) (pre : List (Fin xs.length)) : List Int := pre.foldl (fun fl i => fl.set i.1 xs[i.1]) (List.replicate N 0)
theorem fill_snoc (N : Nat) (xs : List Int) (pre : List (Fin xs.length)) (i : Fin xs.length) : fillL N xs (pre ++ [i]) = (fillL N xs pre).set i.1 xs[i.1] := by simp [fillL]
theorem fold_set_length (xs : List Int) : ∀ (pre : List (Fin xs.length)) (l : List Int), (pre.foldl (fun fl i => fl.set i.1 xs[i.1]) l).length = l.length
  | [], l => rfl
  | i :: pre, l => by rw [List.foldl_cons, fold_set_length xs pre, List.length_set]
theorem fill_length (N : Nat) (xs : List Int) (pre : List (Fin xs.length)) : (fillL N xs pre).length = N := by
  unfold fillL
  rw [fold_set_length, List.length_replicate]
theorem fill_pres (N : Nat) (xs : List Int) (h : xs.length ≤ N) : ∀ k, k ≤ xs.length → fillL N xs (pres xs.length k) = xs.take k ++ List.replicate (N - k) 0
  | 0, _ => by simp [fillL, pres]
  | k + 1, hk => by
    rw [pres_succ (by omega), fill_snoc, fill_pres N xs h k (by omega)]
    show (xs.take k ++ List.replicate (N - k) 0).set k xs[k] = _
    rw [List.set_append_right _ _ (by simp; omega), List.take_succ_eq_append_getElem (by omega)]
    simp only [List.length_take]
    rw [show k - min k xs.length = 0 from by omega]
    obtain ⟨m, hm⟩ : ∃ m, N - k = m + 1 := ⟨N - k - 1, by omega⟩
    rw [hm, show N - (k + 1) = m from by omega, List.replicate_succ, List.set_cons_zero, List.append_assoc]
    rfl
theorem fill_all (N : Nat) (xs : List Int) (h : xs.length ≤ N) : fillL N xs (List.finRange xs.length) = xs ++ List.replicate (N - xs.length) 0 := by
  rw [← pres_all, fill_pres N xs h _ (Nat.le_refl _), List.take_length]

theorem S_of_blocks (W : World) (base G B size K : Nat) (rows : Nat → List Int) (hG : W.heap[G]? = some (.cells (ptrs B size K K) 24 (0, 0))) (hr : ∀ j, j < K → W.heap[B + j]? = some (.cells (bytesArr (rows j)) 5 (0, 0)))
    (hl : ∀ j, j < K → (rows j).length = size) (h1 : base ≤ G) (h2 : base ≤ B) (h3 : G < B) (hK : K ≤ 1000000) (hsz : size ≤ 1000000) :
    Kd.S (Kd.slice 5 (Kd.int .u8)) 24 W base (fun _ => True) (.slice (some ⟨G, 0, none⟩) K K) ((List.range K).map rows) := by
  refine ⟨fun k => k - B, fun _ _ => trivial, (ptrs B size K K).toList, ⟨?_, .inr ⟨G, K, ptrs B size K K, ?_, h1, hG, by simp, by unfold maxLen; omega, ?_, ?_⟩⟩, ?_, ?_⟩
  · simp [ptrs, Kd.tag, Kd.slice]
  · simp
  · rw [ptrs_size _ _ _ _ (Nat.le_refl _)]; exact (Nat.mul_one _).symm
  · rw [List.take_of_length_le]
    simp [ptrs, Kd.tag, Kd.slice]
  · simp [ptrs, Kd.tag, Kd.slice]
  · intro j p hp
    rw [List.getElem?_zipIdx] at hp
    have hj : j < K := by
      rcases Nat.lt_or_ge j K with h | h
      · exact h
      · rw [List.getElem?_eq_none (by simpa using h)] at hp; cases hp
    rw [List.getElem?_map, List.getElem?_range hj] at hp
    simp only [Option.map_some, Option.some.injEq, Nat.zero_add] at hp
    subst hp
    have hc : ((ptrs B size K K).toList.drop (j * 1)).take 1 = [Value.slice (some ⟨B + j, 0, none⟩) size size] := by
      have h4 := ptrs_get B size K K j hj
      have h5 : j < (ptrs B size K K).toList.length := by rw [Array.length_toList, ptrs_size _ _ _ _ (Nat.le_refl _)]; exact hj
      rw [Nat.mul_one, List.drop_eq_getElem_cons h5]
      simp only [List.take_succ_cons, List.take_zero, List.cons.injEq, and_true]
      have h6 : (ptrs B size K K).toList[j]? = some (.slice (some ⟨B + j, 0, none⟩) size size) := by rw [Array.getElem?_toList]; exact h4
      rw [List.getElem?_eq_getElem h5] at h6
      exact Option.some.inj h6
    show Kd.M (Kd.slice 5 (Kd.int .u8)) W base _ (rows j) (((ptrs B size K K).toList.drop (j * 1)).take 1)
    rw [hc]
    refine ⟨_, rfl, fun k hk => ?_, (bytesArr (rows j)).toList, ⟨?_, .inr ⟨B + j, size, bytesArr (rows j), ?_, by omega, hr j hj, ?_, by unfold maxLen; omega, ?_, ?_⟩⟩, ?_⟩
    · simp only [Value.ownBlock, Option.some.injEq] at hk
      subst hk
      refine ⟨⟨trivial, ?_⟩, by simp⟩
      simp only [Value.ownBlock, ne_eq, Option.some.injEq]; omega
    · simp [bytesArr, Kd.int, Kd.scalar]
    · rw [hl j hj]
    · rw [hl j hj]; exact Nat.le_refl _
    · rw [bytesArr_size, hl j hj]; exact (Nat.mul_one _).symm
    · rw [List.take_of_length_le]
      simp [bytesArr, Kd.int, Kd.scalar]
    · refine ⟨by simp [bytesArr, Kd.int, Kd.scalar], fun i p hp => ?_⟩
      obtain ⟨hi, e⟩ := List.getElem?_eq_some_iff.1 hp
      have h5 : i < (bytesArr (rows j)).toList.length := by simpa [bytesArr] using hi
      show ((bytesArr (rows j)).toList.drop (i * 1)).take 1 = [Value.int .u8 p]
      rw [Nat.mul_one, List.drop_eq_getElem_cons h5]
      simp only [List.take_succ_cons, List.take_zero, List.cons.injEq, and_true]
      simp [bytesArr, e]
end Go.Proofs.Ytibcgallhldnnaa.P
