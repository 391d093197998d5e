/- Small laws on files: what is put is found; names are equal where their bytes are. -/
import Derived.Test.YtcgeioingikeeaaGZ
import Derived.Lib.SlBytesConst
import Derived.Lib.Strings
import Derived.Test.YtcgeioingikeeaaH2
namespace Go.Proofs.Ytcgeioingikeeaa.P
open Go.RowKit Go.Proofs.YtcgeioingikeeaaW.PrintWords Go.Proofs.YtcgeioingikeeaaW.PrintLast Go.Proofs.YtcgeioingikeeaaW.PrintMore
set_option linter.unusedVariables false
set_option linter.unusedSimpArgs false

theorem find_insertAt (x : S38) (p : S38 → Bool) (hx : p x = true) : ∀ l : List S38, (∀ y ∈ l, p y = false) → (insertAt x l).find? p = some x
  | [], _ => by simp [insertAt, hx]
  | z :: l, h => by
    unfold insertAt
    split
    · simp [hx]
    · rw [List.find?_cons, h z (by simp)]
      exact find_insertAt x p hx l fun y hy => h y (by simp [hy])
theorem find_insertAt_no (x : S38) (p : S38 → Bool) (hx : p x = false) : ∀ l : List S38, (insertAt x l).find? p = l.find? p
  | [] => by simp [insertAt, hx]
  | z :: l => by
    unfold insertAt
    split
    · rw [List.find?_cons, hx]
    · rw [List.find?_cons, List.find?_cons, find_insertAt_no x p hx l]
theorem bytes_inj {a b : ByteArray} (h : a.toList = b.toList) : a = b := by
  rcases a with ⟨a⟩; rcases b with ⟨b⟩
  rw [Lib.toList_data, Lib.toList_data] at h
  congr 1
  exact Array.toList_inj.1 h
theorem named_self (n : ByteArray) (d : List Int) : named n ⟨n, d⟩ = true := by simp [named]
theorem named_other {n m : ByteArray} (d : List Int) (h : m.toList ≠ n.toList) : named n ⟨m, d⟩ = false := by simpa [named] using h
theorem find_put (l : List S38) (n : ByteArray) (d : List Int) : (putL l n d).find? (named n) = some ⟨n, d⟩ := by
  unfold putL
  refine find_insertAt _ _ (named_self n d) _ fun y hy => ?_
  have := (List.mem_filter.1 hy).2
  simpa using this
theorem find_put_other (l : List S38) {n m : ByteArray} (d : List Int) (h : m.toList ≠ n.toList) : (putL l m d).find? (named n) = (l.filter fun x => !named m x).find? (named n) := by
  unfold putL
  exact find_insertAt_no _ _ (named_other d h) _
theorem find_filter_self (l : List S38) (n : ByteArray) : (l.filter fun x => !named n x).find? (named n) = none := by
  rw [List.find?_eq_none]
  intro x hx
  have := (List.mem_filter.1 hx).2
  simpa using this
end Go.Proofs.Ytcgeioingikeeaa.P
