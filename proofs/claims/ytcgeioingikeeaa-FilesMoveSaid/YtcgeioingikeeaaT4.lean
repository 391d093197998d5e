/- A row of files of the call's own: opened, made, cut and written at one place. -/
import Derived.Test.YtcgeioingikeeaaT3
namespace Go.Proofs.Ytcgeioingikeeaa.P
open Go.RowKit Go.Proofs.YtcgeioingikeeaaW.PrintWords Go.Proofs.YtcgeioingikeeaaW.PrintLast Go.Proofs.YtcgeioingikeeaaW.PrintMore

theorem O_open {α : Type} {d : Kd α} {e : Nat} {w : World} {base : Nat} {ok : Nat → Prop} {v : Value} {xs : List α} (h : O d e w base ok v xs) (hp : 0 < xs.length) :
    ∃ g cap cur, v = .slice (some ⟨g, 0, none⟩) xs.length cap ∧ base ≤ g ∧ g < w.heap.size ∧ w.heap[g]? = some (.cells cur e (0, 0)) ∧ xs.length ≤ cap ∧ cap ≤ maxLen ∧ cur.size = cap * d.sz ∧
      Reps (fun x c => Kd.FK d w (fun k => ok k ∧ k ≠ g) x c) d.sz xs (cur.toList.take (xs.length * d.sz)) := by
  obtain ⟨inner, ⟨hl, h2⟩, hr⟩ := h
  rcases h2 with ⟨_, h0⟩ | ⟨g, cap, cur, rfl, hg, hh, h3, h4, h5, h6⟩
  · omega
  · refine ⟨g, cap, cur, rfl, hg, (Array.getElem?_eq_some_iff.1 hh).1, hh, h3, h4, h5, ?_⟩
    rw [h6]
    exact hr.imp_ fun x c hx => Kd.FK_mono hx fun k hk => ⟨hk.1, fun he => hk.2 (by subst he; rfl)⟩
theorem O_mk {α : Type} {d : Kd α} {e : Nat} {w : World} {base : Nat} {ok : Nat → Prop} {xs : List α} {g cap : Nat} {cur : Array Value} (hg : base ≤ g) (hh : w.heap[g]? = some (.cells cur e (0, 0))) (h3 : xs.length ≤ cap) (h4 : cap ≤ maxLen) (h5 : cur.size = cap * d.sz)
    (hr : Reps (fun x c => Kd.FK d w (fun k => ok k ∧ k ≠ g) x c) d.sz xs (cur.toList.take (xs.length * d.sz))) : O d e w base ok (.slice (some ⟨g, 0, none⟩) xs.length cap) xs :=
  ⟨_, ⟨hr.1, .inr ⟨g, cap, cur, rfl, hg, hh, h3, h4, h5, rfl⟩⟩, hr.imp_ fun x c hx => Kd.FK_mono hx fun k hk => ⟨hk.1, fun he => hk.2 (by injection he)⟩⟩
/-- Its first ones, by the same address. -/
theorem O_take {α : Type} {d : Kd α} {e : Nat} {w : World} {base : Nat} {ok : Nat → Prop} {xs : List α} {g cap n : Nat} (h : O d e w base ok (.slice (some ⟨g, 0, none⟩) n cap) xs) (hp : 0 < xs.length) (m : Nat) (hm : m ≤ xs.length) : O d e w base ok (.slice (some ⟨g, 0, none⟩) m cap) (xs.take m) := by
  obtain ⟨g', cap', cur, he, hg, _, hh, h3, h4, h5, hr⟩ := O_open h hp
  injection he with he1 he2 he3
  injection he1 with he1
  injection he1 with he1
  subst he1 he3
  have hl : (xs.take m).length = m := by rw [List.length_take]; omega
  have := O_mk (ok := ok) (xs := xs.take m) (cap := cap) hg hh (by omega) h4 h5 (by
    have := Kd.reps_take hr hm
    rw [List.take_take, Nat.min_eq_left (Nat.mul_le_mul_right _ hm)] at this
    rw [hl]
    exact this)
  rwa [hl] at this
theorem splice_take {β : Type} (cs seg : List β) {a T : Nat} (h1 : a + seg.length ≤ T) (h2 : T ≤ cs.length) : (cs.take T).take a ++ seg ++ (cs.take T).drop (a + seg.length) = (cs.take a ++ seg ++ cs.drop (a + seg.length)).take T := by
  rw [List.take_take, Nat.min_eq_left (by omega), List.append_assoc, List.append_assoc, List.take_append, List.take_append, List.length_take, Nat.min_eq_left (by omega : a ≤ cs.length),
    List.take_of_length_le (l := cs.take a) (by rw [List.length_take]; omega), List.take_of_length_le (l := seg) (by omega), List.drop_take]
  congr 3
  omega
/-- One of its elements is written. -/
theorem O_set {α : Type} {d : Kd α} {e : Nat} {w w1 : World} {base : Nat} {ok : Nat → Prop} {xs : List α} {g cap n : Nat} (h : O d e w base ok (.slice (some ⟨g, 0, none⟩) n cap) xs) (i : Nat) (hi : i < xs.length) (x : α) (seg : List Value) (cur : Array Value) (hc : w.heap[g]? = some (.cells cur e (0, 0)))
    (hx : Kd.FK d w (fun k => ok k ∧ k ≠ g) x seg) (h1 : w1.heap[g]? = some (.cells (cur.toList.take (i * d.sz) ++ seg ++ cur.toList.drop (i * d.sz + seg.length)).toArray e (0, 0))) (hs : ∀ k, k < w.heap.size → k ≠ g → w1.heap[k]? = w.heap[k]?) :
    O d e w1 base ok (.slice (some ⟨g, 0, none⟩) n cap) (xs.set i x) := by
  have hp : 0 < xs.length := by omega
  obtain ⟨g', cap', cur', he, hg, _, hh, h3, h4, h5, hr⟩ := O_open h hp
  injection he with he1 he2 he3
  injection he1 with he1
  injection he1 with he1
  subst he1 he3
  rw [hc] at hh
  injection hh with hh
  injection hh with hh
  subst hh
  have hsl : seg.length = d.sz := (FK_one hx).1
  have hroom : (i + 1) * d.sz ≤ xs.length * d.sz := Nat.mul_le_mul_right _ hi
  have hroom2 : xs.length * d.sz ≤ cap * d.sz := Nat.mul_le_mul_right _ h3
  rw [Nat.add_mul, Nat.one_mul] at hroom
  have hcl : cur.toList.length = cap * d.sz := by rw [Array.length_toList]; exact h5
  have := O_mk (d := d) (ok := ok) (w := w1) (xs := xs.set i x) (cap := cap) hg h1 (by simpa using h3) h4 (by
    simp only [List.size_toArray, List.length_append, List.length_take, List.length_drop]; omega) (by
    have hr' := Kd.reps_set hr hi hx hsl
    have hr2 := hr'.imp_ (R' := fun x c => Kd.FK d w1 (fun k => ok k ∧ k ≠ g) x c) fun y c hy => Kd.FK_mono (Kd.FK_step (Kd.FK_bound hy) fun k hk hlt => hs k hlt hk.1.2) fun k hk => hk.1
    rw [List.length_set]
    rw [splice_take cur.toList seg (by omega) (by omega)] at hr2
    exact hr2)
  rw [List.length_set] at this
  rw [he2]
  exact this
end Go.Proofs.Ytcgeioingikeeaa.P
