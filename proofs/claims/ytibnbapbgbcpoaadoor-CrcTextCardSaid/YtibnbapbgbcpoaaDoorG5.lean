/- The law CrcText, plainly: a sum is told there and back as a text; any text, as a sum, is what the document says. -/
import Derived.Test.YtibnbapbgbcpoaaDoorG2
import Derived.Test.YtibnbapbgbcpoaaDoorPf8
namespace Go.Proofs.YtibnbapbgbcpoaaDoor.P
open Go.RowKit Go.Proofs.YtibnbapbgbcpoaaDoorW.PrintWords Go.Proofs.YtibnbapbgbcpoaaDoorW.PrintLast Go.Proofs.YtibnbapbgbcpoaaDoorW.PrintMore
set_option linter.unusedVariables false

/-- What a figure says, in the document. -/
def loN (c : Nat) : Option Nat := if 48 ≤ c ∧ c ≤ 57 then some (c - 48) else if 97 ≤ c ∧ c ≤ 102 then some (c - 97 + 10) else none
/-- So many figures of a number. -/
def dig : Nat → Nat → List Nat
  | 0, _ => []
  | k + 1, u => dig k (u / 16) ++ [dgN (u % 16)]
theorem dig_len : ∀ k u, (dig k u).length = k
  | 0, _ => rfl
  | k + 1, u => by rw [dig, List.length_append, dig_len k]; rfl
theorem dig_zero : ∀ k, dig k 0 = List.replicate k 48
  | 0 => rfl
  | k + 1 => by rw [dig, show 0 / 16 = 0 from rfl, dig_zero k, List.replicate_succ']; rfl
theorem hex_dig : ∀ k u, 1 ≤ k → u < 16 ^ k → List.replicate (k - (hexF k u).length) 48 ++ hexF k u = dig k u
  | 0, u, h, _ => by omega
  | k + 1, u, _, hu => by
    rw [hexF, dig]
    split
    · rename_i h
      rw [show u / 16 = 0 from by omega, dig_zero, Nat.mod_eq_of_lt h]
      simp
    · rename_i h
      have hk : 1 ≤ k := by
        rcases Nat.eq_zero_or_pos k with rfl | h0
        · simp at hu; omega
        · exact h0
      rw [Nat.pow_succ] at hu
      have := hex_dig k (u / 16) hk (by omega)
      rw [List.length_append, show ([dgN (u % 16)] : List Nat).length = 1 from rfl, show k + 1 - ((hexF k (u / 16)).length + 1) = k - (hexF k (u / 16)).length from by omega, ← List.append_assoc, this]
theorem hexT_dig (u : Nat) (h : u < 4294967296) : hexT u = ⟨((dig 8 u).map (fun d => UInt8.ofNat d)).toArray⟩ := by
  unfold hexT
  rw [hex_dig 8 u (by omega) (by omega)]
theorem dig_lt : ∀ k u, ∀ c ∈ dig k u, c < 256
  | 0, _, c, h => by simp [dig] at h
  | k + 1, u, c, h => by
    rcases List.mem_append.1 h with h | h
    · exact dig_lt k _ c h
    · have hc : c = dgN (u % 16) := by simpa using h
      rw [hc]
      exact dg_lt _ (by omega)
theorem byS_hexT (u : Nat) (h : u < 4294967296) : byS (hexT u) = dig 8 u := by
  rw [hexT_dig u h]
  unfold byS
  rw [List.map_map]
  conv => rhs; rw [← List.map_id (dig 8 u)]
  refine List.map_congr_left fun c hc => ?_
  have := dig_lt 8 u c hc
  simp only [Function.comp, UInt8.toNat_ofNat', id]
  omega
theorem hexT_of (s : ByteArray) (u : Nat) (h : u < 4294967296) (e : byS s = dig 8 u) : hexT u = s := by
  rw [hexT_dig u h, ← e]
  apply ByteArray.ext
  unfold byS
  rw [List.map_map]
  have : (s.data.toList.map ((fun d => UInt8.ofNat d) ∘ UInt8.toNat)) = s.data.toList := by
    conv => rhs; rw [← List.map_id s.data.toList]
    exact List.map_congr_left fun c hc => by simp
  rw [this]
theorem lo_low (c d : Nat) (h : loN c = some d) : fgN c = some d ∧ d < 16 ∧ dgN d = c := by
  unfold loN at h
  split at h
  · rename_i hc
    obtain rfl := Option.some.inj h
    unfold fgN dgN
    rw [if_pos hc, if_pos (by omega)]
    exact ⟨rfl, by omega, by omega⟩
  · rename_i hn
    split at h
    · rename_i hc
      obtain rfl := Option.some.inj h
      have h32 : ∀ e : Fin 103, 97 ≤ e.val → e.val ||| 32 = e.val := by decide
      have := h32 ⟨c, by omega⟩ hc.1
      unfold fgN dgN
      simp only at this
      rw [if_neg hn, this, if_pos (by omega), if_neg (by omega)]
      exact ⟨rfl, by omega, by omega⟩
    · cases h
theorem lo_dg (d : Nat) (h : d < 16) : loN (dgN d) = some d := by
  unfold loN dgN
  split
  · rw [if_pos (by omega)]; congr 1; omega
  · rw [if_neg (by omega), if_pos (by omega)]; congr 1; omega
/-- What figures say, behind others. -/
def rdL : Nat → List Nat → Option Nat
  | acc, [] => some acc
  | acc, c :: l => match loN c with
    | none => none
    | some d => rdL (16 * acc + d) l
theorem rdL_app (c : Nat) : ∀ (l : List Nat) (acc : Nat), rdL acc (l ++ [c]) = (rdL acc l).bind fun a => (loN c).map fun d => 16 * a + d
  | [], acc => by
    simp only [List.nil_append, rdL, Option.bind_some]
    cases loN c <;> rfl
  | b :: l, acc => by
    simp only [List.cons_append, rdL]
    cases loN b with
    | none => rfl
    | some d => exact rdL_app c l _
theorem rdL_dig : ∀ k n acc, n < 16 ^ k → rdL acc (dig k n) = some (acc * 16 ^ k + n)
  | 0, n, acc, h => by
    simp at h
    subst h
    simp [dig, rdL]
  | k + 1, n, acc, h => by
    rw [Nat.pow_succ] at h ⊢
    rw [dig, rdL_app, rdL_dig k (n / 16) acc (by omega), Option.bind_some, lo_dg _ (by omega), Option.map_some, ← Nat.mul_assoc]
    congr 1
    omega
theorem rdL_inv : ∀ k l n, l.length = k → rdL 0 l = some n → n < 16 ^ k ∧ dig k n = l
  | 0, l, n, hl, h => by
    obtain rfl := List.length_eq_zero_iff.1 hl
    obtain rfl := Option.some.inj h
    exact ⟨by simp, rfl⟩
  | k + 1, l, n, hl, h => by
    obtain ⟨l', c, rfl⟩ : ∃ l' c, l = l' ++ [c] := ⟨l.dropLast, l.getLast (by intro h; subst h; simp at hl), (List.dropLast_concat_getLast _).symm⟩
    rw [rdL_app] at h
    obtain ⟨a, ha, h2⟩ := Option.bind_eq_some_iff.1 h
    obtain ⟨d, hd, rfl⟩ := Option.map_eq_some_iff.1 h2
    obtain ⟨_, hd16, hdc⟩ := lo_low c d hd
    obtain ⟨h3, h4⟩ := rdL_inv k l' a (by simpa using hl) ha
    rw [Nat.pow_succ]
    refine ⟨by omega, ?_⟩
    rw [dig, show (16 * a + d) / 16 = a from by omega, show (16 * a + d) % 16 = d from by omega, h4, hdc]
theorem rdL_ge : ∀ (l : List Nat) (acc n : Nat), rdL acc l = some n → acc ≤ n
  | [], acc, n, h => by obtain rfl := Option.some.inj h; exact Nat.le_refl _
  | c :: l, acc, n, h => by
    simp only [rdL] at h
    cases hd : loN c with
    | none => rw [hd] at h; cases h
    | some d =>
      rw [hd] at h
      have := rdL_ge l _ n h
      omega
theorem puF_rd : ∀ (l : List Nat) (acc n : Nat), rdL acc l = some n → n < 4294967296 → puF acc l = (n, none)
  | [], acc, n, h, _ => by obtain rfl := Option.some.inj h; rfl
  | c :: l, acc, n, h, hn => by
    simp only [rdL] at h
    cases hd : loN c with
    | none => rw [hd] at h; cases h
    | some d =>
      rw [hd] at h
      simp only at h
      have hge := rdL_ge l _ n h
      obtain ⟨hf, h16, _⟩ := lo_low c d hd
      simp only [puF, hf]
      rw [if_neg (by omega), if_neg (by omega), Nat.mul_comm acc 16]
      exact puF_rd l _ n h hn
/-- The document's answer. -/
def rS (s : ByteArray) : Int × Bool := if s.size = 8 then match rdL 0 (byS s) with
  | some n => ((n : Int), true)
  | none => (0, false) else (0, false)
theorem byS_len (s : ByteArray) : (byS s).length = s.size := by
  unfold byS
  rw [List.length_map, Array.length_toList]; rfl
theorem rdS_hexT (n : Nat) (hn : n < 4294967296) : rdS (hexT n) = ((n : Int), true) := by
  have hb := byS_hexT n hn
  have hl := byS_len (hexT n)
  rw [hb, dig_len] at hl
  have hp : puS (hexT n) = (n, none) := by
    unfold puS
    rw [if_neg (by omega), hb]
    refine puF_rd _ _ _ ?_ hn
    rw [rdL_dig 8 n 0 (by omega)]
    simp
  unfold rdS
  rw [hp]
  simp
theorem rS_hexT (n : Nat) (hn : n < 4294967296) : rS (hexT n) = ((n : Int), true) := by
  have hb := byS_hexT n hn
  have hl := byS_len (hexT n)
  rw [hb, dig_len] at hl
  unfold rS
  rw [if_pos hl.symm, hb, rdL_dig 8 n 0 (by omega)]
  simp
/-- A text that says a number, in the document, is that number's. -/
theorem rS_some (s : ByteArray) (n : Nat) (h8 : s.size = 8) (h : rdL 0 (byS s) = some n) : n < 4294967296 ∧ hexT n = s := by
  obtain ⟨h1, h2⟩ := rdL_inv 8 (byS s) n (by rw [byS_len, h8]) h
  have hn : n < 4294967296 := by omega
  exact ⟨hn, hexT_of s n hn h2.symm⟩
theorem rdS_rS (s : ByteArray) : rdS s = rS s := by
  by_cases h8 : s.size = 8
  · cases hr : rdL 0 (byS s) with
    | some n =>
      obtain ⟨hn, he⟩ := rS_some s n h8 hr
      rw [← he, rdS_hexT n hn, rS_hexT n hn]
    | none =>
      have hz : rS s = (0, false) := by unfold rS; rw [if_pos h8, hr]
      rw [hz]
      unfold rdS
      rcases hp : puS s with ⟨n, _ | c⟩
      · simp only
        by_cases he : hexT n = s
        · have hn : n < 4294967296 := by have := puS_lt s; rw [hp] at this; exact this
          have hb := byS_hexT n hn
          rw [he] at hb
          rw [hb, rdL_dig 8 n 0 (by omega)] at hr
          cases hr
        · rw [if_neg he]
      · rfl
  · have hz : rS s = (0, false) := by unfold rS; rw [if_neg h8]
    rw [hz]
    unfold rdS
    rcases hp : puS s with ⟨n, _ | c⟩
    · simp only
      by_cases he : hexT n = s
      · have hn : n < 4294967296 := by have := puS_lt s; rw [hp] at this; exact this
        have hb := byS_hexT n hn
        have hl := byS_len (hexT n)
        rw [hb, dig_len, he] at hl
        exact absurd hl.symm h8
      · rw [if_neg he]
    · rfl
theorem rdS_true (s : ByteArray) (h : (rdS s).2 = true) : ∃ n : Nat, n < 4294967296 ∧ (rdS s).1 = n ∧ hexT n = s := by
  rw [rdS_rS] at h ⊢
  unfold rS at h ⊢
  by_cases h8 : s.size = 8
  · rw [if_pos h8] at h ⊢
    cases hr : rdL 0 (byS s) with
    | none => rw [hr] at h; cases h
    | some n =>
      obtain ⟨hn, he⟩ := rS_some s n h8 hr
      exact ⟨n, hn, rfl, he⟩
  · rw [if_neg h8] at h; cases h
theorem dig_ext : ∀ d : Fin 16, (⟨#[48, 49, 50, 51, 52, 53, 54, 55, 56, 57, 97, 98, 99, 100, 101, 102]⟩ : ByteArray).extract d.val (d.val + 1) = ⟨#[UInt8.ofNat (dgN d.val)]⟩ := by decide
theorem ref_text1 (D : ByteArray) (hsz : (D.size : Int) = 16) (hext : ∀ d, d < 16 → D.extract d (d + 1) = ⟨#[UInt8.ofNat (dgN d)]⟩) (x i k : Nat) (s : ByteArray) (hx : x < 4294967296) (hi : i < 8) (hs : s.size ≤ 8) :
    gambrelref13_Text.l0 (k + 1) (x : Int) D s (i : Int) = gambrelref13_Text.l0 k ((x / 16 : Nat) : Int) D (⟨#[UInt8.ofNat (dgN (x % 16))]⟩ ++ s) ((i + 1 : Nat) : Int) := by
  have h16 : wrap64 (Int.tmod (x : Int) 16) = ((x % 16 : Nat) : Int) := by
    rw [show Int.tmod (x : Int) 16 = ((x % 16 : Nat) : Int) from rfl]
    unfold wrap64; omega
  have h17 : wrap64 (((x % 16 : Nat) : Int) + 1) = ((x % 16 + 1 : Nat) : Int) := by unfold wrap64; omega
  have hd : (Int.tdiv (x : Int) 16) % 4294967296 = ((x / 16 : Nat) : Int) := by
    rw [show Int.tdiv (x : Int) 16 = ((x / 16 : Nat) : Int) from rfl]
    omega
  have hw : wrap64 ((i : Int) + 1) = ((i + 1 : Nat) : Int) := by unfold wrap64; omega
  have he := hext (x % 16) (Nat.mod_lt _ (by omega))
  have h1 : (⟨#[UInt8.ofNat (dgN (x % 16))]⟩ : ByteArray).size = 1 := rfl
  rw [gambrelref13_Text.l0, if_pos (by omega), h16, h17, if_pos (by omega), if_pos (by omega), hsz, if_pos (by omega), Int.toNat_natCast, Int.toNat_natCast, he, if_pos (by rw [h1]; omega), hd, hw]
/-- Bytes of numbers. -/
def baN (t : List Nat) : ByteArray := ⟨(t.map (fun d => UInt8.ofNat d)).toArray⟩
theorem baN_cons (d : Nat) (t : List Nat) : (⟨#[UInt8.ofNat d]⟩ : ByteArray) ++ baN t = baN (d :: t) := by
  apply ByteArray.ext
  rw [ByteArray.data_append]
  simp [baN]
theorem baN_size (t : List Nat) : (baN t).size = t.length := by
  show (baN t).data.size = _
  simp [baN]
theorem ref_text0 (D : ByteArray) (hsz : (D.size : Int) = 16) (hext : ∀ d, d < 16 → D.extract d (d + 1) = ⟨#[UInt8.ofNat (dgN d)]⟩) (m : Nat) : ∀ (i x k : Nat) (t : List Nat), x < 4294967296 → i + m = 8 → t.length = i → m + 1 ≤ k →
    gambrelref13_Text.l0 k (x : Int) D (baN t) (i : Int) = some (baN (dig m x ++ t)) := by
  induction m with
  | zero =>
    intro i x k t hx hi ht hk
    obtain ⟨k1, rfl⟩ : ∃ k1, k = k1 + 1 := ⟨k - 1, by omega⟩
    rw [gambrelref13_Text.l0, if_neg (by omega)]
    rfl
  | succ m ih =>
    intro i x k t hx hi ht hk
    obtain ⟨k1, rfl⟩ : ∃ k1, k = k1 + 1 := ⟨k - 1, by omega⟩
    rw [ref_text1 D hsz hext x i k1 (baN t) hx (by omega) (by rw [baN_size]; omega), baN_cons,
      ih (i + 1) (x / 16) k1 (dgN (x % 16) :: t) (by omega) (by omega) (by simp [ht]) (by omega), dig, List.append_assoc]
    rfl
theorem ref_text (n k : Nat) (hn : n < 4294967296) (hk : 9 ≤ k) : gambrelref13_Text.f k (n : Int) = some (hexT n) := by
  unfold gambrelref13_Text.f
  have := ref_text0 _ rfl (fun d hd => dig_ext ⟨d, hd⟩) 8 0 n k [] hn rfl rfl hk
  rw [List.append_nil] at this
  rw [hexT_dig n hn]
  exact this
theorem byS_get (s : ByteArray) (i : Nat) (h : i < (byS s).length) (hs : i < s.size) : (byS s)[i] = (s[i]).toNat := by
  have h2 : i < (s.data.toList.map UInt8.toNat).length := h
  have h1 : (s.data.toList.map UInt8.toNat)[i] = (s.data.toList[i]'(by rw [List.length_map] at h2; exact h2)).toNat := List.getElem_map _
  exact h1
theorem bt_by (s : ByteArray) (i : Nat) (h : i < (byS s).length) : bt s (i : Int) = (((byS s)[i] : Nat) : Int) := by
  have hs : i < s.size := by rw [byS_len] at h; exact h
  unfold bt
  rw [Int.toNat_natCast, dif_pos hs, byS_get s i h hs]
def rO : Option Nat → Int × Bool
  | some n => ((n : Int), true)
  | none => (0, false)
theorem ref_read0 (s : ByteArray) (h8 : s.size = 8) : ∀ (m i acc k : Nat), acc < 16 ^ i → i + m = 8 → 2 * m + 1 ≤ k →
    gambrelref13_Read.l0 k s (acc : Int) (i : Int) = some (rO (rdL acc ((byS s).drop i)))
  | 0, i, acc, k, ha, hi, hk => by
    obtain ⟨k1, rfl⟩ : ∃ k1, k = k1 + 1 := ⟨k - 1, by omega⟩
    rw [gambrelref13_Read.l0, if_neg (by omega), List.drop_eq_nil_of_le (by rw [byS_len]; omega)]
    rfl
  | m + 1, i, acc, k, ha, hi, hk => by
    obtain ⟨k1, rfl⟩ : ∃ k1, k = k1 + 2 := ⟨k - 2, by omega⟩
    have hlt : i < (byS s).length := by rw [byS_len]; omega
    have hw : wrap64 ((i : Int) + 1) = ((i + 1 : Nat) : Int) := by unfold wrap64; omega
    have hpow : 16 ^ i ≤ 16 ^ 7 := Nat.pow_le_pow_right (by omega) (by omega)
    have hc256 : (byS s)[i] < 256 := by
      rw [byS_get s i hlt (by omega)]
      exact UInt8.toNat_lt _
    rw [gambrelref13_Read.l0, if_pos (by omega), if_pos (by omega), if_pos (by omega), bt_by s i hlt, List.drop_eq_getElem_cons hlt]
    generalize (byS s)[i] = c at hc256
    simp only [rdL]
    have step : ∀ d : Nat, d < 16 → gambrelref13_Read.l0 k1 s ((16 * acc + d : Nat) : Int) ((i + 1 : Nat) : Int) = some (rO (rdL (16 * acc + d) ((byS s).drop (i + 1)))) := fun d hd =>
      ref_read0 s h8 m (i + 1) (16 * acc + d) k1 (by rw [Nat.pow_succ]; omega) (by omega) (by omega)
    have e1 : (16 * (acc : Int)) % 4294967296 = ((16 * acc : Nat) : Int) := by omega
    by_cases h48 : 48 ≤ c ∧ c ≤ 57
    · have hl : loN c = some (c - 48) := by unfold loN; rw [if_pos h48]
      rw [if_pos (by omega), gambrelref13_Read.j1, if_pos (by simp; omega), hl, hw, ← step (c - 48) (by omega), e1]
      congr 1
      omega
    · have hj : (if (c : Int) ≥ 48 then gambrelref13_Read.j1 (k1 + 1) s acc i c (decide ((c : Int) ≤ 57)) else gambrelref13_Read.j1 (k1 + 1) s acc i c false) = gambrelref13_Read.j1 (k1 + 1) s acc i c false := by
        split
        · rw [decide_eq_false (by omega)]
        · rfl
      rw [hj, gambrelref13_Read.j1, if_neg (by simp)]
      by_cases h97 : 97 ≤ c ∧ c ≤ 102
      · have hl : loN c = some (c - 97 + 10) := by unfold loN; rw [if_neg h48, if_pos h97]
        rw [if_pos (by omega), if_pos (by omega), hl, hw, ← step (c - 97 + 10) (by omega), e1]
        congr 1
        omega
      · have hl : loN c = none := by unfold loN; rw [if_neg h48, if_neg h97]
        rw [hl]
        by_cases h9 : (c : Int) ≥ 97
        · rw [if_pos h9, if_neg (by omega)]; rfl
        · rw [if_neg h9]; rfl
theorem ref_read (s : ByteArray) (k : Nat) (hk : 17 ≤ k) : gambrelref13_Read.f k s = some (rS s) := by
  unfold gambrelref13_Read.f rS
  by_cases h8 : s.size = 8
  · rw [if_pos (by omega), if_pos h8]
    have := ref_read0 s h8 8 0 0 k (by simp) rfl (by omega)
    rw [List.drop_zero] at this
    refine this.trans ?_
    cases rdL 0 (byS s) <;> rfl
  · rw [if_neg (by omega), if_neg h8]
theorem text_f (n : Nat) (hn : n < 4294967296) : crc_Text.f (n : Int) = some (hexT n) := by
  unfold crc_Text.f
  rw [if_pos (by omega)]
  rfl
theorem crc_text : gambrellaw13_CrcText.Pure := by
  intro a0 s w0 hs
  obtain ⟨n, rfl, hn⟩ := u32_nat w0
  refine ⟨17, ?_⟩
  have hl : (hexT n).size = 8 := by rw [← byS_len, byS_hexT n hn, dig_len]
  have hr : crc_Read.f s = some (rdS s) := by unfold crc_Read.f; rw [if_pos hs]
  have hr2 : crc_Read.f (hexT n) = some ((n : Int), true) := by unfold crc_Read.f; rw [if_pos (by omega), rdS_hexT n hn]
  unfold gambrellaw13_CrcText.f gambrellaw13_awake.f
  rw [Option.bind_some, text_f n hn, Option.bind_some, hr2, Option.bind_some, hr, Option.bind_some, ref_read s 17 (Nat.le_refl _), Option.bind_some, if_pos rfl, if_pos rfl, if_pos rfl, Option.bind_some, ref_text n 17 hn (by omega),
    Option.bind_some, if_pos rfl, rdS_rS, if_pos rfl, if_pos (by simp)]
  by_cases ht : (rS s).2 = true
  · obtain ⟨m, hm, e1, e2⟩ := rdS_true s (by rw [rdS_rS]; exact ht)
    rw [rdS_rS] at e1
    rw [if_pos ht, e1, text_f m hm, Option.bind_some, e2]
    simp
  · rw [if_neg ht]
end Go.Proofs.YtibnbapbgbcpoaaDoor.P
