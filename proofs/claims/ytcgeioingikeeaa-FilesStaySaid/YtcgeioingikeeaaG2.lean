/- Plain law: FilesMove answers true for every row of files and two names. -/
import Derived.Test.YtcgeioingikeeaaG1
import Derived.Test.YtcgeioingikeeaaPf8
namespace Go.Proofs.Ytcgeioingikeeaa.P
open Go.RowKit Go.Proofs.YtcgeioingikeeaaW.PrintWords Go.Proofs.YtcgeioingikeeaaW.PrintLast Go.Proofs.YtcgeioingikeeaaW.PrintMore
set_option linter.unusedVariables false
set_option linter.unusedSimpArgs false

theorem sameL_refl : ∀ l : List S38, sameL l l = true
  | [] => rfl
  | x :: l => by simp [sameL, sameB, sameL_refl l]
def tame (l : List S38) : Prop := l.length ≤ 1000 ∧ ∀ x ∈ l, x.f1.length ≤ 1000
def getL (l : List S38) (n : ByteArray) : List Int × Bool := match l.find? (named n) with | some x => (x.f1, true) | none => ([], false)
theorem getL_some {l : List S38} {n : ByteArray} {x : S38} (h : l.find? (named n) = some x) : getL l n = (x.f1, true) := by unfold getL; rw [h]
theorem getL_none {l : List S38} {n : ByteArray} (h : l.find? (named n) = none) : getL l n = ([], false) := by unfold getL; rw [h]
theorem get_of {l : List S38} (h : tame l) (n : ByteArray) : files_Get.f l n = some (getL l n) := by
  unfold files_Get.f
  rw [if_pos ⟨by have := h.1; omega, fun x hx => by have := h.2 x hx; omega⟩]
  rfl
theorem tame_filter {l : List S38} (h : tame l) (p : S38 → Bool) : tame (l.filter p) := ⟨by have := List.length_filter_le p l; have := h.1; omega, fun x hx => h.2 x (List.mem_filter.1 hx).1⟩
theorem bytes_inj {a b : ByteArray} (h : a.toList = b.toList) : a = b := by
  rcases a with ⟨a⟩; rcases b with ⟨b⟩
  rw [Lib.toList_data, Lib.toList_data] at h
  congr 1
  exact Array.toList_inj.1 h
theorem named_self (n : ByteArray) (d : List Int) : named n ⟨n, d⟩ = true := by simp [named]
theorem named_other {n m : ByteArray} (d : List Int) (h : m.toList ≠ n.toList) : named n ⟨m, d⟩ = false := by simpa [named] using h
theorem put_len (l : List S38) (n : ByteArray) (d : List Int) : (putL l n d).length ≤ l.length + 1 := by
  unfold putL; rw [insertAt_len]; have := List.length_filter_le (fun x => !named n x) l; omega
theorem put_data {l : List S38} {n : ByteArray} {d : List Int} (h : ∀ x ∈ l, x.f1.length ≤ 1000) (hd : d.length ≤ 1000) : ∀ x ∈ putL l n d, x.f1.length ≤ 1000 := by
  intro x hx
  unfold putL at hx
  rcases (insertAt_mem _ _ _).1 hx with rfl | hx
  · exact hd
  · exact h x (List.mem_filter.1 hx).1
theorem find_put (l : List S38) (n : ByteArray) (d : List Int) : (putL l n d).find? (named n) = some ⟨n, d⟩ := by
  unfold putL
  refine find_insertAt _ _ (named_self n d) _ fun y hy => ?_
  have := (List.mem_filter.1 hy).2
  simpa using this
theorem find_put_other (l : List S38) {n m : ByteArray} (d : List Int) (h : m.toList ≠ n.toList) : (putL l m d).find? (named n) = (l.filter fun x => !named m x).find? (named n) := by
  unfold putL
  exact find_insertAt_no _ _ (named_other d h) _
theorem find_filter_self (l : List S38) (n : ByteArray) : (l.filter fun x => !named n x).find? (named n) = none := by
  rw [List.find?_eq_none]
  intro x hx
  have := (List.mem_filter.1 hx).2
  simpa using this
theorem find_none_of {l : List S38} {p q : S38 → Bool} (h : l.find? p = none) : (l.filter q).find? p = none := by
  rw [List.find?_eq_none] at h ⊢
  exact fun x hx => h x (List.mem_filter.1 hx).1

theorem move_back {l : List S38} {a b : ByteArray} {x : S38} (ha : asc l) (hx : l.find? (named a) = some x) (hb : l.find? (named b) = none) :
    putL ((putL (l.filter fun y => !named a y) b x.f1).filter fun y => !named b y) a x.f1 = l := by
  have e1 : (putL (l.filter fun y => !named a y) b x.f1).filter (fun y => !named b y) = l.filter fun y => !named a y := by
    unfold putL
    rw [filter_insertAt_no _ _ (by simp [named_self]), List.filter_filter, List.filter_filter]
    refine List.filter_congr fun y hy => ?_
    have := List.find?_eq_none.1 hb y hy
    simp [this]
  rw [e1]
  unfold putL
  rw [List.filter_filter]
  have hn : named a x = true := List.find?_some hx
  have hxa : (⟨a, x.f1⟩ : S38) = x := by
    have : x.f0 = a := bytes_inj (by simpa [named] using hn)
    rw [← this]
  rw [hxa]
  simpa using back_in a x l ha hx

theorem files_move_true (l : List S38) (a b : ByteArray) (hl : l.length ≤ 30) (hd : ∀ x ∈ l, x.f1.length ≤ 1000) (hs : asc l) (k : Nat) : gambrellaw17_FilesMove.j0 (k + 1) l a b true false = some true := by
  have tl : tame l := ⟨by omega, hd⟩
  rw [gambrellaw17_FilesMove.j0, if_neg (by decide)]
  unfold files_Move.f
  rw [get_of tl a]
  rcases hx : l.find? (named a) with _ | x
  · rw [getL_none hx]
    have hc : slices_CloneF.f l = some l := by unfold slices_CloneF.f; rw [if_pos (by omega)]
    simp [hc, files_Same.f, sameL_refl]
  · rw [getL_some hx]
    have hxd : x.f1.length ≤ 1000 := hd x (List.mem_of_find?_eq_some hx)
    have tdrop : tame (l.filter fun y => !named a y) := tame_filter tl _
    have dl := List.length_filter_le (fun y => !named a y) l
    have hdrop : files_Drop.f l a = some (l.filter fun y => !named a y) := by unfold files_Drop.f; rw [if_pos (by omega)]
    have hput : files_Put.f (l.filter fun y => !named a y) b x.f1 = some (putL (l.filter fun y => !named a y) b x.f1) := by unfold files_Put.f; rw [if_pos ⟨by omega, by omega⟩]
    have pl := put_len (l.filter fun y => !named a y) b x.f1
    have tput : tame (putL (l.filter fun y => !named a y) b x.f1) := ⟨by omega, put_data tdrop.2 hxd⟩
    have dl2 := List.length_filter_le (fun y => !named b y) (putL (l.filter fun y => !named a y) b x.f1)
    have hdrop2 : files_Drop.f (putL (l.filter fun y => !named a y) b x.f1) b = some ((putL (l.filter fun y => !named a y) b x.f1).filter fun y => !named b y) := by unfold files_Drop.f; rw [if_pos (by omega)]
    have hput2 : files_Put.f ((putL (l.filter fun y => !named a y) b x.f1).filter fun y => !named b y) a x.f1 = some (putL ((putL (l.filter fun y => !named a y) b x.f1).filter fun y => !named b y) a x.f1) := by unfold files_Put.f; rw [if_pos ⟨by omega, by omega⟩]
    simp only [Option.bind_some, if_true, hdrop, hput, get_of tput b, get_of tput a, get_of tl b, getL_some (find_put _ _ _), hdrop2, hput2]
    have hab : ((getL (putL (l.filter fun y => !named a y) b x.f1) a).2 == (a.toList == b.toList)) = true := by
      by_cases e : a.toList = b.toList
      · have e' := bytes_inj e
        subst e'
        rw [getL_some (find_put _ _ _)]
        simp
      · rw [getL_none (by rw [find_put_other _ _ (fun h => e h.symm), find_none_of (find_filter_self l a)])]
        simp [e]
    simp only [hab, bne_self_eq_false, Bool.false_eq_true, if_false, if_true]
    rcases hb : l.find? (named b) with _ | y
    · simp only [getL_none hb, Bool.false_eq_true, if_false, move_back hs hx hb, files_Same.f, sameL_refl, Option.bind_some]
    · simp [getL_some hb]

theorem files_move (l : List S38) (a b : ByteArray) : ∃ k, gambrellaw17_FilesMove.f k l a b = some true := by
  obtain ⟨k1, b1, h1, g1⟩ := few_ends l
  cases b1 with
  | false =>
    refine ⟨k1 + 1, ?_⟩
    unfold gambrellaw17_FilesMove.f
    rw [at_rounds (gambrelref17_Few.mono l) (by omega) h1]
    simp [gambrellaw17_awake.f, gambrellaw17_FilesMove.j0]
  | true =>
    obtain ⟨hl, hsm⟩ := g1 rfl
    obtain ⟨k2, b2, h2, g2⟩ := may_ends l (by omega)
    refine ⟨k1 + k2 + 1, ?_⟩
    unfold gambrellaw17_FilesMove.f
    rw [at_rounds (gambrelref17_Few.mono l) (by omega) h1, at_rounds (files_May.mono l) (show k2 ≤ k1 + k2 + 1 by omega) h2]
    cases b2 with
    | false => simp [gambrellaw17_awake.f, gambrellaw17_FilesMove.j0]
    | true =>
      have hj : gambrellaw17_FilesMove.j0 (k1 + k2 + 1) l a b true false = some true :=
        files_move_true l a b hl (fun x hx => (hsm x hx).2) (g2 rfl) (k1 + k2)
      have ht : gambrellaw17_FilesMove.j0 (k1 + k2 + 1) l a b true true = some true := by unfold gambrellaw17_FilesMove.j0; simp
      simp only [gambrellaw17_awake.f, Option.bind_some, if_true]
      split
      · exact ht
      · cases decide ((b.size : Int) > 60) with
        | true => exact ht
        | false => exact hj
end Go.Proofs.Ytcgeioingikeeaa.P
