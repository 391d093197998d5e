/- A block of files that the call owns, cell by cell: how it reads and how it stays. -/
import Derived.Test.YtcgeioingikeeaaT1
namespace Go.Proofs.Ytcgeioingikeeaa.P
open Go.RowKit Go.Proofs.YtcgeioingikeeaaW.PrintWords Go.Proofs.YtcgeioingikeeaaW.PrintLast Go.Proofs.YtcgeioingikeeaaW.PrintMore

/-- A row that is read, laid flat. -/
theorem row_cells {α : Type} {R : α → List Value → Prop} {size : Nat} {w : World} {A : Option Addr} {n : Nat} {ps : List α} (h : ReadsRow R size w A n ps) (hn : 0 < n) :
    ∃ ad cs, A = some ad ∧ Reps R size ps cs ∧ ∀ j u, cs[j]? = some u → w.cell? (ad.add j) = some u := by
  obtain ⟨hl, _, hc0⟩ := h
  obtain ⟨ad, rfl, hc⟩ := hc0 hn
  have key : ∀ m, m ≤ ps.length → ∃ cs, Reps R size (ps.take m) cs ∧ ∀ j u, cs[j]? = some u → w.cell? (ad.add j) = some u := by
    intro m
    induction m with
    | zero => intro _; exact ⟨[], by rw [List.take_zero]; exact Reps.none _ _, fun j u hu => by simp at hu⟩
    | succ m ih =>
      intro hm
      obtain ⟨cs, hr, hcs⟩ := ih (by omega)
      obtain ⟨c, hcl, hR, hcc⟩ := hc m ps[m] (List.getElem?_eq_getElem (by omega))
      refine ⟨cs ++ c, ?_, fun j u hu => ?_⟩
      · rw [List.take_succ_eq_append_getElem (by omega)]
        exact hr.snoc hR hcl
      · have hlen : cs.length = m * size := by rw [hr.1, List.length_take, Nat.min_eq_left (by omega)]
        rcases Nat.lt_or_ge j cs.length with hj | hj
        · rw [List.getElem?_append_left hj] at hu
          exact hcs j u hu
        · rw [List.getElem?_append_right hj] at hu
          have := hcc _ u hu
          rwa [show m * size + (j - cs.length) = j by omega] at this
  obtain ⟨cs, hr, hcs⟩ := key ps.length (Nat.le_refl _)
  rw [List.take_length] at hr
  exact ⟨ad, cs, rfl, hr, hcs⟩

/-- A row of the call's own, whose elements lead to what is only read and lies in ok, apart from the row. -/
def O {α : Type} (d : Kd α) (e : Nat) (w : World) (base : Nat) (ok : Nat → Prop) (v : Value) (xs : List α) : Prop :=
  ∃ inner, w.ownsRow base e d.sz v xs.length inner ∧ Reps (fun x c => Kd.FK d w (fun k => ok k ∧ some k ≠ v.ownBlock) x c) d.sz xs inner

theorem FK_one {α : Type} {d : Kd α} {w : World} {ok : Nat → Prop} {x : α} {c : List Value} (h : Kd.FK d w ok x c) : c.length = d.sz ∧ ∀ u ∈ c, u.oneCell' = true := ⟨d.K_len (Kd.FK_now h), d.K_one (Kd.FK_now h)⟩
theorem reps_length {α : Type} {R : α → List Value → Prop} {size : Nat} {ps : List α} {cs : List Value} (h : Reps R size ps cs) : cs.length = ps.length * size := h.1

theorem O_nil {α : Type} (d : Kd α) (e : Nat) (w : World) (base : Nat) (ok : Nat → Prop) : O d e w base ok (.slice none 0 0) [] := ⟨[], own_nil _ _ _ _, Reps.none _ _⟩
theorem O_slice {α : Type} {d : Kd α} {e : Nat} {w : World} {base : Nat} {ok : Nat → Prop} {v : Value} {xs : List α} (h : O d e w base ok v xs) : ∃ A c, v = .slice A xs.length c := by
  obtain ⟨_, h1, _⟩ := h; exact own_slice h1
theorem O_mono {α : Type} {d : Kd α} {e : Nat} {w : World} {base : Nat} {ok ok' : Nat → Prop} {v : Value} {xs : List α} (h : O d e w base ok v xs) (hok : ∀ k, ok k → ok' k) : O d e w base ok' v xs := by
  obtain ⟨inner, h1, h2⟩ := h; exact ⟨inner, h1, h2.imp_ fun x c hx => Kd.FK_mono hx fun k hk => ⟨hok k hk.1, hk.2⟩⟩
theorem O_below {α : Type} {d : Kd α} {e : Nat} {w w1 : World} {base : Nat} {ok : Nat → Prop} {v : Value} {xs : List α} (h : O d e w base ok v xs) (hb : Below w.heap.size w w1) : O d e w1 base ok v xs := by
  obtain ⟨inner, h1, h2⟩ := h; exact ⟨inner, pw_own_below h1 hb, h2.imp_ fun x c hx => Kd.FK_below hx hb⟩
theorem O_grown {α : Type} {d : Kd α} {e : Nat} {w w1 : World} {base : Nat} {ok : Nat → Prop} {v : Value} {xs : List α} {row : Option Nat} (h : O d e w base ok v xs) (hg : w.grownBy w1 row) (hne : v.ownBlock = none ∨ v.ownBlock ≠ row) (hok : ∀ k, ok k → some k ≠ row) : O d e w1 base ok v xs := by
  obtain ⟨inner, h1, h2⟩ := h; exact ⟨inner, own_other h1 hg hne, h2.imp_ fun x c hx => Kd.FK_grown hx hg fun k hk => hok k hk.1⟩
theorem O_lower {α : Type} {d : Kd α} {e : Nat} {w : World} {base base' : Nat} {ok : Nat → Prop} {v : Value} {xs : List α} (h : O d e w base ok v xs) (hb : base' ≤ base) : O d e w base' ok v xs := by
  obtain ⟨inner, h1, h2⟩ := h; exact ⟨inner, own_weaken h1 hb, h2⟩
theorem O_base {α : Type} {d : Kd α} {e : Nat} {w : World} {base : Nat} {ok : Nat → Prop} {v : Value} {xs : List α} (h : O d e w base ok v xs) : ∀ k, v.ownBlock = some k → base ≤ k := by
  obtain ⟨_, h1, _⟩ := h; exact own_base h1
theorem O_N {α : Type} {d : Kd α} {e : Nat} {w : World} {base : Nat} {ok : Nat → Prop} {v : Value} {xs : List α} (h : O d e w base ok v xs) : Kd.N d e w base (fun k => ok k ∨ base ≤ k) v xs := by
  obtain ⟨inner, h1, h2⟩ := h
  refine ⟨fun k hk => .inr (own_base h1 k hk), Kd.chunks d.sz xs.length inner, Kd.chunks_length _ _ _, ⟨fun k hk => hk.symm, inner, by rw [Kd.chunks_length]; exact h1, Kd.reps_raw h2 (fun x c hp => FK_one hp)⟩, fun j x c hx hc => ?_⟩
  rw [Kd.chunks_get hc]
  exact Kd.FK_mono (h2.2 j x hx) fun k hk => ⟨.inl hk.1, hk.2⟩
theorem O_V {α : Type} {d : Kd α} {e : Nat} {w : World} {base : Nat} {ok : Nat → Prop} {v : Value} {xs : List α} (h : O d e w base ok v xs) : Kd.V d e w base (fun k => ok k ∨ base ≤ k) v xs := Kd.N_V (O_N h)
theorem C_none {α : Type} {d : Kd α} {w : World} {n : Nat} {xs : List α} (h : d.C w none n xs) : xs = [] := by
  obtain ⟨hl, _, hc⟩ := h
  rcases Nat.eq_zero_or_pos n with h0 | h0
  · exact List.eq_nil_of_length_eq_zero (by omega)
  · obtain ⟨_, h, _⟩ := hc h0; cases h
end Go.Proofs.Ytcgeioingikeeaa.P
