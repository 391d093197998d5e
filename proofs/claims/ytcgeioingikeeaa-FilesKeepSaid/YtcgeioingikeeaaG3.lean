/- Plain law: FilesKeep answers true for every row of files and two rows of bytes. -/
import Derived.Test.YtcgeioingikeeaaG2
import Derived.Test.YtcgeioingikeeaaPf5
namespace Go.Proofs.Ytcgeioingikeeaa.P
open Go.RowKit Go.Proofs.YtcgeioingikeeaaW.PrintWords Go.Proofs.YtcgeioingikeeaaW.PrintLast Go.Proofs.YtcgeioingikeeaaW.PrintMore
set_option linter.unusedVariables false
set_option linter.unusedSimpArgs false

theorem oldOf_put (l : List S38) (n : ByteArray) (d : List Int) : oldOf (putL l n d) n = d := by unfold oldOf; rw [find_put]
theorem oldOf_le {l : List S38} {m : Nat} (h : ∀ x ∈ l, x.f1.length ≤ m) (n : ByteArray) : (oldOf l n).length ≤ m := by
  unfold oldOf
  split
  · rename_i x hx; exact h x (List.mem_of_find?_eq_some hx)
  · simp
theorem overlay_end (old d : List Int) : overlay old old.length d = old ++ d := by simp [overlay]
theorem overlay_new (d : List Int) : overlay [] 0 d = d := by simp [overlay]
theorem put_put (l : List S38) (n : ByteArray) (y z : List Int) : putL (putL l n y) n z = putL l n z := by
  unfold putL
  rw [filter_insertAt_no _ _ (by simp [named_self]), List.filter_filter]
  congr 1
  exact List.filter_congr fun x _ => by simp
theorem put_data' {l : List S38} {n : ByteArray} {d : List Int} {m : Nat} (h : ∀ x ∈ l, x.f1.length ≤ m) (hd : d.length ≤ m) : ∀ x ∈ putL l n d, x.f1.length ≤ m := by
  intro x hx
  unfold putL at hx
  rcases (insertAt_mem _ _ _).1 hx with rfl | hx
  · exact hd
  · exact h x (List.mem_filter.1 hx).1
theorem do_add {l : List S38} {n : ByteArray} (hn : 1 ≤ n.size ∧ n.size ≤ 40) {d : List Int} {keep : Int} (hl : l.length ≤ 1000) (hx : ∀ x ∈ l, x.f1.length ≤ 20000) (hd : d.length ≤ 20000) (h0 : 0 < d.length) (hk : keptOf d keep = d) :
    files_Do.f l n 2 0 d keep = some (putL l n (oldOf l n ++ d), 0) := by
  have ho := oldOf_le hx n
  unfold files_Do.f
  rw [if_pos ⟨by omega, by omega, fun x h => by have := hx x h; omega⟩, if_neg (by omega), hk]
  have hfr : frmOf 2 0 (oldOf l n) = ((oldOf l n).length : Int) := by simp [frmOf]
  rw [hfr]
  show some (doRes 2 l n ((oldOf l n).length : Int) (oldOf l n) d d) = _
  unfold doRes
  rw [if_neg (by omega), if_neg (by omega), if_neg (by decide), Int.toNat_natCast, overlay_end]
theorem do_new {l : List S38} {n : ByteArray} (hn : 1 ≤ n.size ∧ n.size ≤ 40) {d : List Int} {keep : Int} (hl : l.length ≤ 1000) (hx : ∀ x ∈ l, x.f1.length ≤ 20000) (hd : d.length ≤ 20000) (h0 : 0 < d.length) (kept : List Int) (hk : keptOf d keep = kept) (hkl : kept.length ≤ 20000) :
    files_Do.f l n 1 0 d keep = some (if kept.length = 0 then l else putL l n kept, 0) := by
  unfold files_Do.f
  rw [if_pos ⟨by omega, by omega, fun x h => by have := hx x h; omega⟩, if_neg (by omega), hk]
  have hfr : frmOf 1 0 (oldOf l n) = 0 := by simp [frmOf]
  rw [hfr]
  show some (doRes 1 l n 0 (oldOf l n) d kept) = _
  unfold doRes
  rw [if_neg (by omega)]
  by_cases h : kept.length = 0
  · rw [if_pos ⟨h, h0⟩, if_pos h]
  · rw [if_neg (fun c => h c.1), if_neg h]
    simp [overlay_new]

theorem files_keep_true (l : List S38) (x1 x2 : List Int) (hl : l.length ≤ 30) (hd : ∀ x ∈ l, x.f1.length ≤ 1000) (h1 : x1.length ≤ 500) (h2 : x2.length ≤ 500) (p1 : 0 < x1.length) (p2 : 0 < x2.length) (k : Nat) : gambrellaw17_FilesKeep.j0 (k + 1) l x1 x2 true false = some true := by
  rw [gambrellaw17_FilesKeep.j0, if_neg (by decide)]
  have hq : 1 ≤ (⟨#[113]⟩ : ByteArray).size ∧ (⟨#[113]⟩ : ByteArray).size ≤ 40 := by decide
  have hd' : ∀ x ∈ l, x.f1.length ≤ 20000 := fun x hx => by have := hd x hx; omega
  have ho := oldOf_le hd (⟨#[113]⟩ : ByteArray)
  have e1 := do_add hq (l := l) (d := x1) (keep := (x1.length : Int)) (by omega) hd' (by omega) p1 (by simp [keptOf])
  have pl := put_len l (⟨#[113]⟩ : ByteArray) (oldOf l ⟨#[113]⟩ ++ x1)
  have e2 := do_add hq (l := putL l ⟨#[113]⟩ (oldOf l ⟨#[113]⟩ ++ x1)) (d := x2) (keep := -1) (by omega) (put_data' hd' (by simp; omega)) (by omega) p2 (by simp [keptOf])
  have e3 := do_add hq (l := l) (d := x1 ++ x2) (keep := -1) (by omega) hd' (by simp; omega) (by simp; omega) (by simp [keptOf])
  have e4 := do_new hq (l := l) (d := x1 ++ x2) (keep := 0) (by omega) hd' (by simp; omega) (by simp; omega) [] (by simp [keptOf]) (by simp)
  have e5 := do_new hq (l := l) (d := x1 ++ x2) (keep := (x1.length : Int)) (by omega) hd' (by simp; omega) (by simp; omega) x1 (by simp [keptOf]) (by omega)
  rw [if_pos (by rfl)] at e4
  rw [if_neg (by omega)] at e5
  rw [oldOf_put, put_put] at e2
  have pl2 := put_len l (⟨#[113]⟩ : ByteArray) x1
  have e6 := get_of (l := putL l ⟨#[113]⟩ x1) ⟨by omega, put_data hd (by omega)⟩ (⟨#[113]⟩ : ByteArray)
  rw [getL_some (find_put _ _ _)] at e6
  have e0 : wrap64 (wrap64 (wrap64 (wrap64 (0 + 0) + 0) + 0) + 0) = 0 := by simp [wrap64]
  simp only [Option.bind_some, List.nil_append, List.length_nil]
  rw [if_pos (by omega)]
  rw [if_pos (by omega)]
  simp only [Option.bind_some, e1, e2, e3, e4, e5, e6, if_true, e0, files_Same.f]
  rw [List.append_assoc, sameL_refl, if_pos rfl, sameL_refl, if_pos rfl]
  simp

theorem files_keep (l : List S38) (x1 x2 : List Int) : ∃ k, gambrellaw17_FilesKeep.f k l x1 x2 = some true := by
  obtain ⟨k1, b1, h1, g1⟩ := few_ends l
  have ht : ∀ k, gambrellaw17_FilesKeep.j0 (k + 1) l x1 x2 true true = some true := fun k => by rw [gambrellaw17_FilesKeep.j0, if_pos rfl]
  cases b1 with
  | false =>
    refine ⟨k1 + 1, ?_⟩
    unfold gambrellaw17_FilesKeep.f
    rw [at_rounds (gambrelref17_Few.mono l) (by omega) h1]
    simp [gambrellaw17_awake.f, ht]
  | true =>
    obtain ⟨hl, hsm⟩ := g1 rfl
    obtain ⟨k2, b2, h2, g2⟩ := may_ends l (by omega)
    refine ⟨k1 + k2 + 1, ?_⟩
    unfold gambrellaw17_FilesKeep.f
    rw [at_rounds (gambrelref17_Few.mono l) (by omega) h1, at_rounds (files_May.mono l) (show k2 ≤ k1 + k2 + 1 by omega) h2]
    cases b2 with
    | false => simp [gambrellaw17_awake.f, ht]
    | true =>
      simp only [gambrellaw17_awake.f, Option.bind_some, if_true]
      by_cases c1 : (x1.length : Int) > 500
      · rw [if_pos c1]; exact ht _
      by_cases c2 : (x2.length : Int) > 500
      · rw [if_neg c1, if_pos c2]; exact ht _
      by_cases c3 : (x1.length : Int) = 0
      · rw [if_neg c1, if_neg c2, if_pos c3]; exact ht _
      rw [if_neg c1, if_neg c2, if_neg c3]
      by_cases c4 : (x2.length : Int) = 0
      · rw [beq_iff_eq.mpr c4]; exact ht _
      · rw [beq_eq_false_iff_ne.mpr c4]
        exact files_keep_true l x1 x2 hl (fun x hx => (hsm x hx).2) (by omega) (by omega) (by omega) (by omega) (k1 + k2)
end Go.Proofs.Ytcgeioingikeeaa.P
