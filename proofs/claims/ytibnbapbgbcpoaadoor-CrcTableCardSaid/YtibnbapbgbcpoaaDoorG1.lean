/- The steps of sums, plainly: they are linear over exclusive or; a step is told by the table; nothing but 0 ends at 0. -/
import Derived.Test.YtibnbapbgbcpoaaDoorH2
namespace Go.Proofs.YtibnbapbgbcpoaaDoor.P
open Go.RowKit
set_option linter.unusedVariables false

theorem xor_half (a b : Nat) : (a ^^^ b) / 2 = a / 2 ^^^ b / 2 := by
  have := Nat.xor_div_two_pow (a := a) (b := b) (n := 1)
  simpa using this
theorem xor_par (a b : Nat) : (a ^^^ b) % 2 = (a % 2) ^^^ (b % 2) := by
  have := Nat.xor_mod_two_pow (a := a) (b := b) (n := 1)
  simpa using this
theorem st_xor (a b : Nat) : stN (a ^^^ b) = stN a ^^^ stN b := by
  unfold stN
  rw [xor_half, xor_par]
  rcases Nat.mod_two_eq_zero_or_one a with ha | ha <;> rcases Nat.mod_two_eq_zero_or_one b with hb | hb <;> rw [ha, hb]
  · simp
  · simp [Nat.xor_assoc]
  · simp
    rw [Nat.xor_assoc, Nat.xor_assoc, Nat.xor_comm 3988292384]
  · simp
    generalize a / 2 = x
    generalize b / 2 = y
    rw [Nat.xor_comm y 3988292384, Nat.xor_assoc, ← Nat.xor_assoc 3988292384, Nat.xor_self, Nat.zero_xor]
theorem it_xor (a b : Nat) : ∀ k, itN k (a ^^^ b) = itN k a ^^^ itN k b
  | 0 => rfl
  | k + 1 => by rw [itN, it_xor a b k, st_xor]; rfl
theorem it_step : ∀ k n, itN k (stN n) = itN (k + 1) n
  | 0, n => rfl
  | k + 1, n => by
    have := it_step k n
    show stN (itN k (stN n)) = stN (itN (k + 1) n)
    rw [this]
theorem st_two (m : Nat) : stN (2 * m) = m := by unfold stN; rw [if_neg (by omega)]; omega
theorem it_pow (h : Nat) : ∀ k, itN k (2 ^ k * h) = h
  | 0 => by simp [itN]
  | k + 1 => by rw [← it_step, show 2 ^ (k + 1) * h = 2 * (2 ^ k * h) from by rw [Nat.pow_succ, Nat.mul_comm (2 ^ k) 2, Nat.mul_assoc], st_two, it_pow h k]
theorem split8 (n c : Nat) (hc : c < 256) : n ^^^ c = 2 ^ 8 * (n / 256) ^^^ ((n % 256) ^^^ c) := by
  have hy : (n % 256) ^^^ c < 256 := (xor_u8 (n % 256) c (by omega) hc).2
  generalize hz : (n % 256) ^^^ c = y at hy
  have h1 : (n ^^^ c) / 2 ^ 8 = (2 ^ 8 * (n / 256) ^^^ y) / 2 ^ 8 := by
    rw [Nat.xor_div_two_pow, Nat.xor_div_two_pow, Nat.mul_div_cancel_left _ (by decide), Nat.div_eq_of_lt (show c < 2 ^ 8 by omega), Nat.div_eq_of_lt (show y < 2 ^ 8 by omega)]
  have h2 : (n ^^^ c) % 2 ^ 8 = (2 ^ 8 * (n / 256) ^^^ y) % 2 ^ 8 := by
    rw [Nat.xor_mod_two_pow, Nat.xor_mod_two_pow, Nat.mul_mod_right, Nat.zero_xor, Nat.mod_eq_of_lt (show c < 2 ^ 8 by omega), Nat.mod_eq_of_lt (show y < 2 ^ 8 by omega)]
    exact hz
  have e1 := Nat.div_add_mod (n ^^^ c) (2 ^ 8)
  have e2 := Nat.div_add_mod (2 ^ 8 * (n / 256) ^^^ y) (2 ^ 8)
  rw [← e1, ← e2, h1, h2]
/-- A byte is taken in eight steps. -/
theorem tk_it (n c : Nat) (hc : c < 256) : tkN n c = itN 8 (n ^^^ c) := by
  rw [split8 n c hc, it_xor, it_pow]
  rfl
theorem xor_zero {a b : Nat} (h : a ^^^ b = 0) : a = b := by
  have h1 : (a ^^^ b) ^^^ b = 0 ^^^ b := by rw [h]
  rwa [Nat.xor_assoc, Nat.xor_self, Nat.xor_zero, Nat.zero_xor] at h1
theorem st_zero (n : Nat) (hn : n < 4294967296) (h : stN n = 0) : n = 0 := by
  unfold stN at h
  split at h
  · have : n / 2 = 3988292384 := xor_zero h
    omega
  · omega
theorem it_zero (n : Nat) (hn : n < 4294967296) : ∀ k, itN k n = 0 → n = 0
  | 0, h => h
  | k + 1, h => it_zero n hn k (st_zero _ (it_lt n hn k) h)
theorem tN_big : ∀ d : Fin 256, d.val ≠ 0 → 256 ≤ tN d.val := by decide +kernel
theorem compl (x : Nat) (h : x < 4294967296) : 4294967295 - x = 4294967295 ^^^ x := by
  have h1 : 4294967295 = 2 ^ 32 - 1 := by decide
  have := (BitVec.toNat_not (x := BitVec.ofNat 32 x)).symm
  rw [BitVec.toNat_ofNat, Nat.mod_eq_of_lt (by omega : x < 2 ^ 32)] at this
  rw [show 2 ^ 32 - 1 - x = 4294967295 - x from by omega] at this
  rw [this, ← BitVec.allOnes_xor, BitVec.toNat_xor, BitVec.toNat_ofNat, Nat.mod_eq_of_lt (by omega : x < 2 ^ 32)]
  rfl
end Go.Proofs.YtibnbapbgbcpoaaDoor.P
