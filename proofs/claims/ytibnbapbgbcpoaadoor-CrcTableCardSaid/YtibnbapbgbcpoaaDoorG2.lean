/- The document's sums are crc's; the law CrcTells, plainly. -/
import Derived.Test.YtibnbapbgbcpoaaDoorG1
import Derived.Test.YtibnbapbgbcpoaaDoorPf3
namespace Go.Proofs.YtibnbapbgbcpoaaDoor.P
open Go.RowKit Go.Proofs.YtibnbapbgbcpoaaDoorW.PrintWords Go.Proofs.YtibnbapbgbcpoaaDoorW.PrintLast
set_option linter.unusedVariables false

theorem ref_step (n : Nat) (hn : n < 4294967296) : gambrelref13_step.f (n : Int) = some ((stN n : Nat) : Int) := by
  have hm : Int.tmod (n : Int) 2 = ((n % 2 : Nat) : Int) := rfl
  have hd : Int.tdiv (n : Int) 2 = ((n / 2 : Nat) : Int) := rfl
  unfold gambrelref13_step.f stN
  rw [hm, hd]
  have h2 : ((n / 2 : Nat) : Int) % 4294967296 = ((n / 2 : Nat) : Int) := by omega
  rw [h2]
  have hx := (xor_u32 (n / 2) 3988292384 (by omega) (by omega)).1
  by_cases h : n % 2 = 1
  · rw [if_pos (by omega), if_pos h, ← hx]; rfl
  · rw [if_neg (by omega), if_neg h]
theorem ref_take0 : ∀ (m j x k : Nat), x < 4294967296 → j + m = 8 → m + 1 ≤ k → gambrelref13_take.l0 k (x : Int) (j : Int) = some ((itN m x : Nat) : Int)
  | 0, j, x, k, hx, hj, hk => by
    obtain ⟨k1, rfl⟩ : ∃ k1, k = k1 + 1 := ⟨k - 1, by omega⟩
    rw [gambrelref13_take.l0, if_neg (by omega)]; rfl
  | m + 1, j, x, k, hx, hj, hk => by
    obtain ⟨k1, rfl⟩ : ∃ k1, k = k1 + 1 := ⟨k - 1, by omega⟩
    have hw : wrap64 ((j : Int) + 1) = ((j + 1 : Nat) : Int) := by unfold wrap64; omega
    rw [gambrelref13_take.l0, if_pos (by omega), ref_step x hx, Option.bind_some, hw, ref_take0 m (j + 1) (stN x) k1 (st_lt x hx) (by omega) (by omega), it_step]
theorem ref_take (n c k : Nat) (hn : n < 4294967296) (hc : c < 256) (hk : 9 ≤ k) : gambrelref13_take.f k (n : Int) (c : Int) = some ((tkN n c : Nat) : Int) := by
  have hx := xor_u32 n c hn (by omega)
  unfold gambrelref13_take.f
  rw [show ((c : Int)) % 4294967296 = (c : Int) from by omega, hx.1]
  rw [show (0 : Int) = ((0 : Nat) : Int) from rfl, ref_take0 8 0 _ k hx.2 rfl (by omega), tk_it n c hc]
theorem rd_nat (l : List Int) (i : Nat) (h : i < l.length) : rd l (i : Int) = l[i] := by
  unfold rd
  simp [List.getD_eq_getElem?_getD, List.getElem?_eq_getElem h]
theorem ref_more0 (l : List Int) (hl : ∀ v ∈ l, 0 ≤ v ∧ v < 256) (hll : l.length ≤ 140737488355328) : ∀ (m i n k : Nat), n < 4294967296 → i + m = l.length → m + 10 ≤ k → gambrelref13_More.l0 k l (n : Int) (i : Int) = some ((4294967295 - foldN n ((l.drop i).map Int.toNat) : Nat) : Int)
  | 0, i, n, k, hn, hi, hk => by
    obtain ⟨k1, rfl⟩ : ∃ k1, k = k1 + 1 := ⟨k - 1, by omega⟩
    rw [gambrelref13_More.l0, if_neg (by omega), List.drop_eq_nil_of_le (by omega)]
    show some _ = some (((4294967295 - n : Nat)) : Int)
    congr 1; omega
  | m + 1, i, n, k, hn, hi, hk => by
    obtain ⟨k1, rfl⟩ : ∃ k1, k = k1 + 1 := ⟨k - 1, by omega⟩
    have hlt : i < l.length := by omega
    have hw : wrap64 ((i : Int) + 1) = ((i + 1 : Nat) : Int) := by unfold wrap64; omega
    have hb := hl _ (List.getElem_mem hlt)
    obtain ⟨c, hc⟩ := Int.eq_ofNat_of_zero_le hb.1
    rw [gambrelref13_More.l0, if_pos (by omega), if_pos (by omega), rd_nat l i hlt, hc, ref_take n c k1 hn (by omega) (by omega), Option.bind_some, hw,
      ref_more0 l hl hll m (i + 1) (tkN n c) k1 (tk_lt n c hn (by omega)) (by omega) (by omega), List.drop_eq_getElem_cons hlt, List.map_cons, hc]
    rfl
/-- The bytes of a list. -/
def bysL (l : List Int) : List Nat := l.map Int.toNat
def mrN (s : Nat) (l : List Int) : Nat := 4294967295 - foldN (4294967295 - s) (bysL l)
theorem bys_lt {l : List Int} (hl : ∀ v ∈ l, 0 ≤ v ∧ v < 256) : ∀ c ∈ bysL l, c < 256 := by
  intro c hc
  obtain ⟨v, hv, rfl⟩ := List.mem_map.1 hc
  have := hl v hv
  omega
theorem mr_lt (s : Nat) (l : List Int) : mrN s l < 4294967296 := by unfold mrN; omega
theorem mr_f (s : Nat) (hs : s < 4294967296) (l : List Int) (hl : ∀ v ∈ l, 0 ≤ v ∧ v < 256) : crc_More.f (s : Int) l = some ((mrN s l : Nat) : Int) := by
  unfold crc_More.f
  rw [if_pos ⟨by omega, by omega, hl⟩]
  rfl
theorem sum_f (l : List Int) (hl : ∀ v ∈ l, 0 ≤ v ∧ v < 256) : crc_Sum.f l = some ((mrN 0 l : Nat) : Int) := by
  unfold crc_Sum.f
  have := mr_f 0 (by omega) l hl
  rw [show (0 : Int) = ((0 : Nat) : Int) from rfl, this]; rfl
theorem ref_more (s : Nat) (hs : s < 4294967296) (l : List Int) (hl : ∀ v ∈ l, 0 ≤ v ∧ v < 256) (hll : l.length ≤ 140737488355328) (k : Nat) (hk : l.length + 10 ≤ k) : gambrelref13_More.f k (s : Int) l = some ((mrN s l : Nat) : Int) := by
  unfold gambrelref13_More.f
  rw [show (4294967295 - (s : Int)) % 4294967296 = ((4294967295 - s : Nat) : Int) from by omega, show (0 : Int) = ((0 : Nat) : Int) from rfl, ref_more0 l hl hll l.length 0 _ k (by omega) (by omega) hk]
  rfl
theorem ref_sum (l : List Int) (hl : ∀ v ∈ l, 0 ≤ v ∧ v < 256) (hll : l.length ≤ 140737488355328) (k : Nat) (hk : l.length + 10 ≤ k) : gambrelref13_Sum.f k l = some ((mrN 0 l : Nat) : Int) := by
  unfold gambrelref13_Sum.f
  have := ref_more 0 (by omega) l hl hll k hk
  rw [show (0 : Int) = ((0 : Nat) : Int) from rfl, this]; rfl
theorem u32_nat {a : Int} (h : (Lit.int .u32 a).wf = true) : ∃ n : Nat, a = n ∧ n < 4294967296 := by
  have h' : 0 ≤ a ∧ a ≤ 4294967295 := by simpa [Lit.wf, IntKind.min, IntKind.max, IntKind.signed, IntKind.bits] using h
  exact ⟨a.toNat, by omega, by omega⟩
theorem u8_in {a : Int} (h : (Lit.int .u8 a).wf = true) : 0 ≤ a ∧ a < 256 := by
  have h' : 0 ≤ a ∧ a ≤ 255 := by simpa [Lit.wf, IntKind.min, IntKind.max, IntKind.signed, IntKind.bits] using h
  omega

theorem crc_tells : gambrellaw13_CrcTells.Pure := by
  intro a0 l1 w0 hm y1 hw
  obtain ⟨n, rfl, hn⟩ := u32_nat w0
  have hl : ∀ v ∈ l1, 0 ≤ v ∧ v < 256 := fun v hv => u8_in (hw v hv)
  refine ⟨l1.length + 10, ?_⟩
  unfold gambrellaw13_CrcTells.f gambrellaw13_awake.f
  rw [Option.bind_some]
  split
  · rfl
  · rw [if_pos rfl, sum_f l1 hl, Option.bind_some, ref_sum l1 hl (by omega) _ (Nat.le_refl _), Option.bind_some, if_pos rfl, mr_f n hn l1 hl, Option.bind_some, ref_more n hn l1 hl (by omega) _ (Nat.le_refl _), Option.bind_some]
    simp
end Go.Proofs.YtibnbapbgbcpoaaDoor.P
