/- slices.Clone over bytes: a row of the call's own that holds the same, for every row of at most a million bytes. -/
import Derived.Test.YtibcgallhldnnaaP0
import Derived.Lib.SliceRun
namespace Go.Proofs.Ytibcgallhldnnaa.P
open Go.RowKit Go.Proofs.YtibcgallhldnnaaW.PrintWords Go.Proofs.YtibcgallhldnnaaW.PrintLast Go.Proofs.YtibcgallhldnnaaW.PrintMore
set_option linter.unusedVariables false
set_option linter.unusedSimpArgs false

theorem row_cells {α : Type} {R : α → List Value → Prop} {size : Nat} {w : World} {A : Option Addr} {n : Nat} {ps : List α} (h : ReadsRow R size w A n ps) (hn : 0 < n) :
    ∃ ad inner, A = some ad ∧ Reps R size ps inner ∧ ∀ j u, inner[j]? = some u → w.cell? (ad.add j) = some u := by
  obtain ⟨ad, e, _⟩ := h.2.2 hn
  subst e
  obtain ⟨inner, hr, hc⟩ := ReadsRow.inner_ h
  exact ⟨ad, inner, rfl, hr, hc⟩
theorem C_none {α : Type} {d : Kd α} {w : World} {n : Nat} {xs : List α} (h : d.C w none n xs) : xs = [] := by
  rcases Nat.eq_zero_or_pos n with h0 | h0
  · exact List.eq_nil_of_length_eq_zero (by rw [h.1]; exact h0)
  · obtain ⟨ad, e, _⟩ := h.2.2 h0
    cases e
theorem later_cell {w : World} {a : Addr} {v : Value} {o : Obj} (h : w.cell? a = some v) : (w.alloc o).cell? a = some v := pw_cell_below (below_alloc (Below.refl _ _) o) h
theorem own_empty (w : World) (e size : Nat) : (w.alloc (.cells #[] e (0, 0))).ownsRow w.heap.size e size (.slice (some ⟨w.heap.size, 0, none⟩) 0 0) 0 [] :=
  ⟨by simp, .inr ⟨w.heap.size, 0, #[], rfl, Nat.le_refl _, heap_alloc_new _ _, Nat.le_refl _, by unfold maxLen; omega, by simp, by simp⟩⟩
/-- An append of nothing. -/
theorem run_append_nothing {P : Program} (w : World) (t ty e : TypeId) {z : Option Value} {size bytes : Nat} (ht : P.underlying t = some (.slice e)) (hi : (P.info? e).map (fun i => (i.zero, i.size, i.bytes)) = some (z, size, bytes)) (A : Option Addr) (n c : Nat) (B : Addr) (d : Nat) (hn : n ≤ c) :
    (Builtin.append_ #[t, t] ty #[.slice A n c, .slice (some B) 0 d]).run P w = .ok (.slice A n c) w := by
  cases hq : P.info? e with
  | none => simp [hq] at hi
  | some i =>
    have hfc := run_firstCells_some (P := P) w i.size 0 B 0 d [] (by simp) (fun j u hu => by simp at hu)
    cases A <;> simp [Builtin.append_, run_underlying ht, sizeOf, typeInfo, hq, Builtin.lenOf, hn, hfc, storeCells]
theorem wpList_append_nothing {P : Program} {w : World} {ops : Array Oper} {rest : List Oper} {o : Oper} {a : Act} {Q : Exit → Act → World → Prop} (hgd : o.guard = none) (s x : Operand) (t : TypeId)
    (ho : o.op = .call { callee := .builtin .append, args := #[s, x], argTypes := #[t, t] }) {e : TypeId} {z : Option Value} {size bytes : Nat} (ht : P.underlying t = some (.slice e)) (hi : (P.info? e).map (fun i => (i.zero, i.size, i.bytes)) = some (z, size, bytes))
    (A : Option Addr) (n c : Nat) (B : Addr) (d : Nat) (hs : a.eval s = .slice A n c) (hx : a.eval x = .slice (some B) 0 d) (h : wpList P ops Q rest (a.put o.dst (.slice A n c)) w) (hn : n ≤ c := by omega) : wpList P ops Q (o :: rest) a w := by
  refine wpList_plain hgd fun K hK => ?_
  have hrun := run_append_nothing (P := P) w t o.type e ht hi A n c B d hn
  unfold Oper.wp
  simp [execOp, ho, resolve, invoke, builtin, hs, hx, hrun, Result.andThen]
  exact hK _ _ h

def slices_Clone_byte_byte.f (l0 : List Int) : Option (List Int) := if l0.length ≤ 1000000 then some l0 else none
set_option maxHeartbeats 2000000 in
theorem slices_Clone_byte_byte.calls (A0 : Option Addr) (c0 : Nat) (l0 : List Int) (r : List Int) (w : World) (hr0 : Kd.C (Kd.int .u8) w A0 l0.length l0) (hc0 : l0.length ≤ c0) (h : slices_Clone_byte_byte.f l0 = some r) :
    Calls Try.prog 33 #[.slice A0 l0.length c0] w fun e w' => ∃ v0_ : Value, e = .returned (v0_) ∧ Kd.R (Kd.int .u8) 5 w' w.heap.size (fun _ => True) v0_ r ∧ Below w.heap.size w w' := by
  unfold slices_Clone_byte_byte.f at h
  by_cases hlen : l0.length ≤ 1000000
  case neg => rw [if_neg hlen] at h; exact absurd h (by simp)
  rw [if_pos hlen] at h
  obtain rfl := Option.some.inj h
  clear h hc0
  have hnil := Lib.run_eql_slice_nil (P := Try.prog)
  cases A0 with
  | none =>
    have h0 := C_none hr0
    subst h0
    go_enter Try.func33, Try.ntmps33
    go_wp2
    go_ret
    exact ⟨_, rfl, Kd.R_nil _ _ _ _ _, Below.refl _ _⟩
  | some a =>
    rcases Nat.eq_zero_or_pos l0.length with h0 | h0
    · obtain rfl := List.eq_nil_of_length_eq_zero h0
      clear h0 hlen hr0
      go_enter Try.func33, Try.ntmps33
      go_wp2_with (at_builtin; refine wpList_append_nothing rfl _ _ 24 rfl Try.underlying24 info5 (some ⟨w.heap.size, 0, none⟩) 0 0 a c0 rfl rfl ?_)
      go_ret
      exact ⟨_, rfl, ⟨fun _ _ => trivial, [], own_empty _ _ _, Reps.none _ _⟩, (Below.refl _ _).alloc (Nat.le_refl _) _⟩
    · obtain ⟨ad, cs, e1, hreps, hcs⟩ := row_cells hr0 h0
      cases e1
      obtain ⟨i0, hi, hz0, hz1, hz2⟩ := info_parts info5
      have hl := hreps.1
      have hone := Kd.reps_one hreps (by decide) (fun _ _ hx u hu => by
        have hx' : _ = [Value.int .u8 _] := hx
        rw [hx', List.mem_singleton] at hu; rw [hu]; rfl)
      have HR := Aside0.mk hreps
      have HC := Aside0.mk hcs
      have HI := Aside0.mk hi
      have HZ0 := Aside0.mk hz0
      have HZ1 := Aside0.mk hz1
      have HZ2 := Aside0.mk hz2
      have HL := Aside0.mk hl
      have H1 := Aside0.mk hone
      clear hreps hcs hi hz0 hz1 hz2 hl hone hr0
      go_enter Try.func33, Try.ntmps33
      go_wp2_with (at_builtin; refine wpList_append_grows _ rfl _ _ 24 rfl 5 i0 _ 1 1 Try.underlying24 HI.out HZ0.out HZ1.out HZ2.out rfl (by decide) (some ⟨w.heap.size, 0, none⟩) 0 0 [] rfl (fun h => by cases h) rfl (fun _ _ j u hu => by simp at hu) a l0.length c0 cs rfl HL.out ?ce H1.out (by omega) (by unfold maxLen; omega) (by omega) ?kk; (case ce => intro j u hu; exact later_cell (HC.out j u hu)); intro v' w1 hown hgrow; have HO := Aside0.mk hown; have HG := Aside0.mk hgrow; clear hown hgrow)
      go_ret
      have hb1 : Below w.heap.size w w1 := (((Below.refl _ _).alloc (Nat.le_refl _) _).grown HG.out (by simp) (fun k hk => by cases hk))
      have hown := HO.out
      rw [Nat.zero_add, List.nil_append] at hown
      exact ⟨_, rfl, ⟨fun _ _ => trivial, cs, own_weaken hown (by simp), HR.out.imp_ fun x c hx => hx⟩, hb1⟩

end Go.Proofs.Ytibcgallhldnnaa.P
