/- The string orders >, >= and <= as the walks meet them; bytes that came back as a string. -/
import Derived.Test.YtcgeioingikeeaaP0
namespace Go.Proofs.Ytcgeioingikeeaa.P
open Go Go.RowKit Go.Proofs.YtcgeioingikeeaaW.PrintWords Go.Proofs.YtcgeioingikeeaaW.PrintLast Go.Proofs.YtcgeioingikeeaaW.PrintMore
set_option linter.unusedVariables false
set_option linter.unusedSimpArgs false
theorem less_eq : ∀ (x y : List UInt8), Op.bytesLess x y = decide (x < y)
  | _, [] => by simp [Op.bytesLess]
  | [], _ :: _ => by simp [Op.bytesLess]
  | a :: x, b :: y => by
    rw [Op.bytesLess, less_eq x y]
    by_cases h : a < b
    · simp [h, List.cons_lt_cons_iff]
    · by_cases e : a = b
      · subst e; simp [List.cons_lt_cons_iff, UInt8.lt_irrefl]
      · simp [h, e, List.cons_lt_cons_iff]
theorem less_turn (x y : List UInt8) : Op.bytesLess y x = !(Op.bytesLess x y || x == y) := by
  rw [less_eq, less_eq]
  rcases Decidable.em (x < y) with h | h
  · have : ¬ y < x := fun h' => List.lt_irrefl _ (List.lt_trans h h')
    simp [h, this]
  · by_cases e : x = y
    · subst e; simp [List.lt_irrefl]
    · have : y < x := by
        rcases List.le_total x y with h1 | h1
        · exact absurd (List.le_antisymm h1 (List.not_lt.1 h)) e
        · exact Decidable.byContradiction fun h2 => e (List.le_antisymm (List.not_lt.1 h2) (List.not_lt.1 h))
      simp [h, e, this]
theorem str_geq (t : TypeId) (a b : ByteArray) : binOp .geq t (.string a) (.string b) = pure (.bool !(Op.bytesLess a.toList b.toList)) := by simp [binOp, Op.stringOp]
theorem str_gtr (t : TypeId) (a b : ByteArray) : binOp .gtr t (.string a) (.string b) = pure (.bool (Op.bytesLess b.toList a.toList)) := by
  rw [less_turn a.toList b.toList]; simp [binOp, Op.stringOp]
theorem str_leq (t : TypeId) (a b : ByteArray) : binOp .leq t (.string a) (.string b) = pure (.bool !(Op.bytesLess b.toList a.toList)) := by
  rw [less_turn a.toList b.toList]; simp [binOp, Op.stringOp]
theorem conv_V {P : Program} {w : World} {base : Nat} {ok : Nat → Prop} {e' src dst e : TypeId} {v : Value} {xs : List Int} (hs : P.underlying src = some (.slice e)) (he : P.underlying e = some (.int .u8)) (hd : P.underlying dst = some .string)
    (h : Kd.V (Kd.int .u8) e' w base ok v xs) : (convert src dst v).run P w = .ok (.string (strOfNums xs)) w := by
  obtain ⟨A, c, rfl, _, hf⟩ := h
  exact Kd.C_string hs he hd (Kd.F_now hf)
end Go.Proofs.Ytcgeioingikeeaa.P
