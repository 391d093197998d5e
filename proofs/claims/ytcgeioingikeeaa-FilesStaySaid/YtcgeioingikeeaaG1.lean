/- Plain laws: Few and May end with an answer; names in order; a file put back at its place. -/
import Derived.Test.YtcgeioingikeeaaPf16
import Derived.Test.YtcgeioingikeeaaPf27
import Derived.Test.YtcgeioingikeeaaH2
namespace Go.Proofs.Ytcgeioingikeeaa.P
open Go.RowKit Go.Proofs.YtcgeioingikeeaaW.PrintWords Go.Proofs.YtcgeioingikeeaaW.PrintLast Go.Proofs.YtcgeioingikeeaaW.PrintMore
set_option linter.unusedVariables false
set_option linter.unusedSimpArgs false

def small (x : S38) : Prop := x.f0.size ≤ 60 ∧ x.f1.length ≤ 1000
theorem wrap_nat (i : Nat) (h : i < 4611686018427387904) : wrap64 ((i : Int) + 1) = ((i + 1 : Nat) : Int) := by unfold wrap64; omega
theorem wrap_pred (i : Nat) (h : i < 4611686018427387904) : wrap64 (((i + 1 : Nat) : Int) - 1) = (i : Int) := by unfold wrap64; omega

theorem few_l (l : List S38) : ∀ m i : Nat, i + m = 31 → i ≤ l.length → (∀ j : Nat, j < i → small (rd_T38 l j)) → ∃ k b, gambrelref17_Few.l0 k l i = some b ∧ (b = true → l.length ≤ 30 ∧ ∀ j : Nat, j < l.length → small (rd_T38 l j))
  | 0, i, hi, hl, hs => by
    refine ⟨2, decide ((l.length : Int) ≤ 30), ?_, fun h => ?_⟩
    · obtain rfl : i = 31 := by omega
      simp [gambrelref17_Few.l0, gambrelref17_Few.j1]
    · have := of_decide_eq_true h
      omega
  | m + 1, i, hi, hl, hs => by
    by_cases h : i < l.length
    · by_cases h1 : (((rd_T38 l (i : Int)).f0).size : Int) > 60
      · refine ⟨2, false, ?_, fun h => by cases h⟩
        unfold gambrelref17_Few.l0
        rw [if_pos (by omega), show decide ((i : Int) < 31) = true from decide_eq_true (by omega)]
        unfold gambrelref17_Few.j1
        rw [if_pos rfl, if_pos (by omega), if_pos (by omega), if_pos h1]
      by_cases h2 : (((rd_T38 l (i : Int)).f1).length : Int) > 1000
      · refine ⟨2, false, ?_, fun h => by cases h⟩
        unfold gambrelref17_Few.l0
        rw [if_pos (by omega), show decide ((i : Int) < 31) = true from decide_eq_true (by omega)]
        unfold gambrelref17_Few.j1
        rw [if_pos rfl, if_pos (by omega), if_pos (by omega), if_neg h1, if_pos h2]
      obtain ⟨k, b, h3, h4⟩ := few_l l m (i + 1) (by omega) (by omega) (fun j hj => by
        by_cases e : j = i
        · subst e; exact ⟨by omega, by omega⟩
        · exact hs j (by omega))
      refine ⟨k + 2, b, ?_, h4⟩
      unfold gambrelref17_Few.l0
      rw [if_pos (by omega), show decide ((i : Int) < 31) = true from decide_eq_true (by omega)]
      unfold gambrelref17_Few.j1
      rw [if_pos rfl, if_pos (by omega), if_pos (by omega), if_neg h1, if_neg h2, wrap_nat i (by omega)]
      exact h3
    · refine ⟨2, decide ((l.length : Int) ≤ 30), ?_, fun h => ⟨by have := of_decide_eq_true h; omega, fun j hj => hs j (by omega)⟩⟩
      unfold gambrelref17_Few.l0
      rw [if_neg (by omega)]
      simp [gambrelref17_Few.j1]

theorem rd_mem {l : List S38} {x : S38} (h : x ∈ l) : ∃ j : Nat, j < l.length ∧ rd_T38 l j = x := by
  obtain ⟨j, hj, e⟩ := List.mem_iff_getElem.1 h
  exact ⟨j, hj, by simp [rd_T38, hj, e, List.getD]⟩
theorem rd_at (l : List S38) (j : Nat) (h : j < l.length) : rd_T38 l (j : Int) = l[j] := by simp [rd_T38, h, List.getD]

theorem few_ends (l : List S38) : ∃ k b, gambrelref17_Few.f k l = some b ∧ (b = true → l.length ≤ 30 ∧ ∀ x ∈ l, small x) := by
  obtain ⟨k, b, h, h1⟩ := few_l l 31 0 rfl (Nat.zero_le _) (fun j hj => by omega)
  refine ⟨k, b, h, fun hb => ⟨(h1 hb).1, fun x hx => ?_⟩⟩
  obtain ⟨j, hj, rfl⟩ := rd_mem hx
  exact (h1 hb).2 j hj

def lessN (x y : S38) : Prop := Op.bytesLess x.f0.toList y.f0.toList = true
theorem may_l (l : List S38) (hlen : l.length ≤ 1000000) : ∀ m i : Nat, i + m = l.length → (∀ j : Nat, j + 1 < i → lessN (rd_T38 l j) (rd_T38 l (j + 1 : Nat))) → ∃ k b, files_May.l0 k l l (l.length : Int) i = some b ∧ (b = true → ∀ j : Nat, j + 1 < l.length → lessN (rd_T38 l j) (rd_T38 l (j + 1 : Nat)))
  | 0, i, hi, hs => by
    refine ⟨1, true, ?_, fun _ j hj => hs j (by omega)⟩
    unfold files_May.l0
    rw [if_neg (by omega)]
  | m + 1, i, hi, hs => by
    have hfine : ∃ b, files_fine.f ((rd_T38 l (i : Int)).f0) = some b := by unfold files_fine.f; split <;> exact ⟨_, rfl⟩
    obtain ⟨b0, hb0⟩ := hfine
    cases b0 with
    | false =>
      refine ⟨1, false, ?_, fun h => by cases h⟩
      unfold files_May.l0
      rw [if_pos (by omega), if_pos (by omega), if_pos (by omega), hb0]
      rfl
    | true =>
      by_cases h2 : (((rd_T38 l (i : Int)).f1).length : Int) > 65536
      · refine ⟨1, false, ?_, fun h => by cases h⟩
        unfold files_May.l0
        rw [if_pos (by omega), if_pos (by omega), if_pos (by omega), hb0, Option.bind_some, if_pos rfl, if_pos h2]
      cases i with
      | zero =>
        obtain ⟨k, b, h3, h4⟩ := may_l l hlen m 1 (by omega) (fun j hj => by omega)
        refine ⟨k + 1, b, ?_, h4⟩
        unfold files_May.l0
        rw [if_pos (by omega), if_pos (by omega), if_pos (by omega), hb0, Option.bind_some, if_pos rfl, if_neg h2, if_neg (by simp), wrap_nat 0 (by omega)]
        exact h3
      | succ i =>
        by_cases hlt : Op.bytesLess ((rd_T38 l (i : Int)).f0.toList) ((rd_T38 l ((i + 1 : Nat) : Int)).f0.toList) = true
        · obtain ⟨k, b, h3, h4⟩ := may_l l hlen m (i + 2) (by omega) (fun j hj => by
            by_cases e : j = i
            · subst e; exact hlt
            · exact hs j (by omega))
          refine ⟨k + 1, b, ?_, h4⟩
          unfold files_May.l0
          rw [if_pos (by omega), if_pos (by omega), if_pos (by omega), hb0, Option.bind_some, if_pos rfl, if_neg h2, if_pos (by omega), wrap_pred i (by omega), if_pos (by omega), if_pos (by omega), if_pos hlt, wrap_nat (i + 1) (by omega)]
          exact h3
        · refine ⟨1, false, ?_, fun h => by cases h⟩
          unfold files_May.l0
          rw [if_pos (by omega), if_pos (by omega), if_pos (by omega), hb0, Option.bind_some, if_pos rfl, if_neg h2, if_pos (by omega), wrap_pred i (by omega), if_pos (by omega), if_pos (by omega), if_neg hlt]

theorem less_trans : ∀ a b c : List UInt8, Op.bytesLess a b = true → Op.bytesLess b c = true → Op.bytesLess a c = true
  | [], [], c, h, _ => by simp [Op.bytesLess] at h
  | [], b :: bs, [], _, h => by simp [Op.bytesLess] at h
  | [], b :: bs, c :: cs, _, _ => by simp [Op.bytesLess]
  | a :: x, [], c, h, _ => by simp [Op.bytesLess] at h
  | a :: x, b :: bs, [], _, h => by simp [Op.bytesLess] at h
  | a :: x, b :: bs, c :: cs, h, k => by
    have ih := less_trans x bs cs
    simp only [Op.bytesLess, Bool.or_eq_true, decide_eq_true_eq, Bool.and_eq_true, beq_iff_eq, UInt8.lt_iff_toNat_lt, ← UInt8.toNat_inj] at h k ⊢
    rcases h with h | ⟨h, h'⟩ <;> rcases k with k | ⟨k, k'⟩
    · left; omega
    · left; omega
    · left; omega
    · right; exact ⟨by omega, ih h' k'⟩
theorem less_irrefl : ∀ a : List UInt8, Op.bytesLess a a = false
  | [] => by simp [Op.bytesLess]
  | a :: x => by simp [Op.bytesLess, less_irrefl x]
theorem less_asymm {a b : List UInt8} (h : Op.bytesLess a b = true) : Op.bytesLess b a = false := by
  cases e : Op.bytesLess b a with
  | false => rfl
  | true => have := less_trans a b a h e; rw [less_irrefl] at this; exact this.symm
def asc (l : List S38) : Prop := l.Pairwise lessN
theorem asc_of : ∀ l : List S38, (∀ j : Nat, j + 1 < l.length → lessN (rd_T38 l j) (rd_T38 l (j + 1 : Nat))) → asc l := by
  intro l h
  have key : ∀ i d : Nat, i + d + 1 < l.length → lessN (rd_T38 l i) (rd_T38 l (i + d + 1 : Nat)) := by
    intro i d
    induction d with
    | zero => intro hd; exact h i hd
    | succ d ih => intro hd; exact less_trans _ _ _ (ih (by omega)) (h (i + d + 1) (by omega))
  refine List.pairwise_iff_getElem.2 fun i j hi hj hij => ?_
  have := key i (j - i - 1) (by omega)
  rw [show i + (j - i - 1) + 1 = j by omega, rd_at l i hi, rd_at l j hj] at this
  exact this
theorem may_ends (l : List S38) (hlen : l.length ≤ 1000000) : ∃ k b, files_May.f k l = some b ∧ (b = true → asc l) := by
  obtain ⟨k, b, h, h1⟩ := may_l l hlen l.length 0 (by omega) (fun j hj => by omega)
  exact ⟨k, b, h, fun hb => asc_of l (h1 hb)⟩

theorem insertAt_mem (x : S38) : ∀ (l : List S38) (y : S38), y ∈ insertAt x l ↔ y = x ∨ y ∈ l
  | [], y => by simp [insertAt]
  | z :: l, y => by
    unfold insertAt
    split
    · simp
    · simp [insertAt_mem x l y]; grind
theorem insertAt_len (x : S38) : ∀ (l : List S38), (insertAt x l).length = l.length + 1
  | [] => by simp [insertAt]
  | z :: l => by
    unfold insertAt
    split
    · simp
    · simp [insertAt_len x l]
theorem find_insertAt (x : S38) (p : S38 → Bool) (hx : p x = true) : ∀ l : List S38, (∀ y ∈ l, p y = false) → (insertAt x l).find? p = some x
  | [], _ => by simp [insertAt, hx]
  | z :: l, h => by
    unfold insertAt
    split
    · simp [hx]
    · rw [List.find?_cons, h z (by simp)]
      exact find_insertAt x p hx l fun y hy => h y (by simp [hy])
theorem find_insertAt_no (x : S38) (p : S38 → Bool) (hx : p x = false) : ∀ l : List S38, (insertAt x l).find? p = l.find? p
  | [] => by simp [insertAt, hx]
  | z :: l => by
    unfold insertAt
    split
    · rw [List.find?_cons, hx]
    · rw [List.find?_cons, List.find?_cons, find_insertAt_no x p hx l]
theorem filter_insertAt_no (x : S38) (p : S38 → Bool) (hx : p x = false) : ∀ l : List S38, (insertAt x l).filter p = l.filter p
  | [] => by simp [insertAt, hx]
  | z :: l => by
    unfold insertAt
    split
    · rw [List.filter_cons, hx]; rfl
    · rw [List.filter_cons, List.filter_cons, filter_insertAt_no x p hx l]

theorem back_in (n : ByteArray) (x : S38) : ∀ l : List S38, asc l → l.find? (named n) = some x → insertAt x (l.filter fun y => !named n y) = l
  | [], _, h => by simp at h
  | y :: l, ha, h => by
    rw [List.find?_cons] at h
    have hy := List.pairwise_cons.1 ha
    cases e : named n y with
    | true =>
      rw [e] at h
      obtain rfl := Option.some.inj h
      have hno : ∀ z ∈ l, named n z = false := fun z hz => by
        have h1 := hy.1 z hz
        unfold lessN at h1
        cases e2 : named n z with
        | false => rfl
        | true =>
          unfold named at e e2
          rw [beq_iff_eq] at e e2
          rw [e, e2, less_irrefl] at h1
          cases h1
      rw [List.filter_cons, e]
      simp only [Bool.not_true, Bool.false_eq_true, if_false]
      rw [List.filter_eq_self.2 fun z hz => by simp [hno z hz]]
      cases l with
      | nil => rfl
      | cons z l =>
        unfold insertAt
        rw [if_pos (show Op.bytesLess _ _ = true from hy.1 z (by simp))]
    | false =>
      rw [e] at h
      have hx : x ∈ l := List.mem_of_find?_eq_some h
      rw [List.filter_cons, e]
      simp only [Bool.not_false, if_true]
      unfold insertAt
      rw [if_neg (by rw [less_asymm (hy.1 x hx)]; decide), back_in n x l hy.2 h]
end Go.Proofs.Ytcgeioingikeeaa.P
