/- slices.Clone over files: a row of its own that reads alike. -/
import Derived.Test.YtcgeioingikeeaaT2
import Derived.WalkSpells
namespace Go.Proofs.Ytcgeioingikeeaa.P
open Go.RowKit Go.Proofs.YtcgeioingikeeaaW.PrintWords Go.Proofs.YtcgeioingikeeaaW.PrintLast Go.Proofs.YtcgeioingikeeaaW.PrintMore

theorem cell_later {w : World} {a : Addr} {v : Value} {o : Obj} (h : w.cell? a = some v) : (w.alloc o).cell? a = some v := pw_cell_below (below_alloc (Below.refl _ _) o) h
theorem own_empty (w : World) (e size : Nat) : (w.alloc (.cells #[] e (0, 0))).ownsRow w.heap.size e size (.slice (some ⟨w.heap.size, 0, none⟩) 0 0) 0 [] :=
  ⟨by simp, .inr ⟨w.heap.size, 0, #[], rfl, Nat.le_refl _, heap_alloc_new _ _, Nat.le_refl _, by unfold maxLen; omega, by simp, by simp⟩⟩
/-- An append of nothing. -/
theorem run_append_nothing {P : Program} (w : World) (t ty e : TypeId) {z : Option Value} {size bytes : Nat} (ht : P.underlying t = some (.slice e)) (hi : (P.info? e).map (fun i => (i.zero, i.size, i.bytes)) = some (z, size, bytes)) (A : Option Addr) (n c : Nat) (B : Addr) (d : Nat) (hn : n ≤ c) :
    (Builtin.append_ #[t, t] ty #[.slice A n c, .slice (some B) 0 d]).run P w = .ok (.slice A n c) w := by
  cases hq : P.info? e with
  | none => simp [hq] at hi
  | some i =>
    have hfc := run_firstCells_some (P := P) w i.size 0 B 0 d [] (by simp) (fun j u hu => by simp at hu)
    cases A <;> simp [Builtin.append_, run_underlying ht, sizeOf, typeInfo, hq, Builtin.lenOf, hn, hfc, storeCells]
theorem wpList_append_nothing {P : Program} {w : World} {ops : Array Oper} {rest : List Oper} {o : Oper} {a : Act} {Q : Exit → Act → World → Prop} (hgd : o.guard = none) (s x : Operand) (t : TypeId)
    (ho : o.op = .call { callee := .builtin .append, args := #[s, x], argTypes := #[t, t] }) {e : TypeId} {z : Option Value} {size bytes : Nat} (ht : P.underlying t = some (.slice e)) (hi : (P.info? e).map (fun i => (i.zero, i.size, i.bytes)) = some (z, size, bytes))
    (A : Option Addr) (n c : Nat) (B : Addr) (d : Nat) (hs : a.eval s = .slice A n c) (hx : a.eval x = .slice (some B) 0 d) (h : wpList P ops Q rest (a.put o.dst (.slice A n c)) w) (hn : n ≤ c := by omega) : wpList P ops Q (o :: rest) a w := by
  refine wpList_plain hgd fun K hK => ?_
  have hrun := run_append_nothing (P := P) w t o.type e ht hi A n c B d hn
  unfold Oper.wp
  simp [execOp, ho, resolve, invoke, builtin, hs, hx, hrun, Result.andThen]
  exact hK _ _ h

set_option maxHeartbeats 2000000 in
theorem cloneF (ok : Nat → Prop) (A0 : Option Addr) (c0 : Nat) (l0 : List S38) (w : World) (hf : Kd.F k38 w ok A0 l0.length l0) (hlen : l0.length ≤ 1000000) :
    Calls Try.prog 57 #[.slice A0 l0.length c0] w fun e w' => ∃ v, e = .returned v ∧ O k38 38 w' w.heap.size (fun k => ok k ∧ k < w.heap.size) v l0 ∧ Below w.heap.size w w' := by
  have hF := Kd.F_bound hf
  clear hf
  have hnil := Lib.run_eql_slice_nil (P := Try.prog)
  cases A0 with
  | none =>
    have h0 := C_none (Kd.F_now hF)
    subst h0
    go_enter Try.func57, Try.ntmps57
    go_wp2
    go_ret
    exact ⟨_, rfl, O_nil _ _ _ _ _, Below.refl _ _⟩
  | some a =>
    rcases Nat.eq_zero_or_pos l0.length with h0 | h0
    · obtain rfl := List.eq_nil_of_length_eq_zero h0
      clear h0 hlen
      go_enter Try.func57, Try.ntmps57
      go_wp2_with (at_builtin; refine wpList_append_nothing rfl _ _ 22 rfl Try.underlying22 info38 (some ⟨w.heap.size, 0, none⟩) 0 0 a c0 rfl rfl ?_)
      go_ret
      exact ⟨_, rfl, ⟨[], own_empty _ _ _, Reps.none _ _⟩, (Below.refl _ _).alloc (Nat.le_refl _) _⟩
    · obtain ⟨ad, cs, e1, hreps, hcs⟩ := row_cells (Kd.F_rows hF) h0
      cases e1
      obtain ⟨i0, hi, hz0, hz1, hz2⟩ := info_parts info38
      have hl := hreps.1
      have hone := Kd.reps_one hreps (by decide) (fun _ _ hx => (FK_one hx).2)
      have HR := Aside0.mk hreps
      have HC := Aside0.mk hcs
      have HI := Aside0.mk hi
      have HZ0 := Aside0.mk hz0
      have HZ1 := Aside0.mk hz1
      have HZ2 := Aside0.mk hz2
      have HL := Aside0.mk hl
      have H1 := Aside0.mk hone
      clear hreps hcs hi hz0 hz1 hz2 hl hone hF
      go_enter Try.func57, Try.ntmps57
      go_wp2_with (at_builtin; refine wpList_append_grows _ rfl _ _ 22 rfl 38 i0 _ 2 40 Try.underlying22 HI.out HZ0.out HZ1.out HZ2.out rfl (by decide) (some ⟨w.heap.size, 0, none⟩) 0 0 [] rfl (fun h => by cases h) rfl (fun _ _ j u hu => by simp at hu) a l0.length c0 cs rfl HL.out ?ce H1.out (by omega) (by unfold maxLen; omega) (by omega) ?kk; (case ce => intro j u hu; exact cell_later (HC.out j u hu)); intro v' w1 hown hgrow; have HO := Aside0.mk hown; have HG := Aside0.mk hgrow; clear hown hgrow)
      go_ret
      have hb1 : Below w.heap.size w w1 := (((Below.refl _ _).alloc (Nat.le_refl _) _).grown HG.out (by simp) (fun k hk => by cases hk))
      have hown := HO.out
      rw [Nat.zero_add, List.nil_append] at hown
      refine ⟨_, rfl, ⟨cs, own_weaken hown (by simp), HR.out.imp_ fun x c hx => ?_⟩, hb1⟩
      refine Kd.FK_mono (Kd.FK_step (Kd.FK_bound hx) (fun k hk hlt => hb1.block k hlt)) (fun k hk => ⟨hk.1, fun he => ?_⟩)
      have h1 := own_base hown k he.symm
      have h2 := hk.2
      rw [World.size_alloc] at h1
      omega


set_option maxHeartbeats 2000000 in
theorem cloneB (ok : Nat → Prop) (A0 : Option Addr) (c0 : Nat) (l0 : List Int) (w : World) (hf : Kd.F (Kd.int .u8) w ok A0 l0.length l0) (hlen : l0.length ≤ 1000000) :
    Calls Try.prog 61 #[.slice A0 l0.length c0] w fun e w' => ∃ v, e = .returned v ∧ O (Kd.int .u8) 5 w' w.heap.size (fun k => ok k ∧ k < w.heap.size) v l0 ∧ Below w.heap.size w w' := by
  have hF := Kd.F_bound hf
  clear hf
  have hnil := Lib.run_eql_slice_nil (P := Try.prog)
  cases A0 with
  | none =>
    have h0 := C_none (Kd.F_now hF)
    subst h0
    go_enter Try.func61, Try.ntmps61
    go_wp2
    go_ret
    exact ⟨_, rfl, O_nil _ _ _ _ _, Below.refl _ _⟩
  | some a =>
    rcases Nat.eq_zero_or_pos l0.length with h0 | h0
    · obtain rfl := List.eq_nil_of_length_eq_zero h0
      clear h0 hlen
      go_enter Try.func61, Try.ntmps61
      go_wp2_with (at_builtin; refine wpList_append_nothing rfl _ _ 23 rfl Try.underlying23 info5 (some ⟨w.heap.size, 0, none⟩) 0 0 a c0 rfl rfl ?_)
      go_ret
      exact ⟨_, rfl, ⟨[], own_empty _ _ _, Reps.none _ _⟩, (Below.refl _ _).alloc (Nat.le_refl _) _⟩
    · obtain ⟨ad, cs, e1, hreps, hcs⟩ := row_cells (Kd.F_rows hF) h0
      cases e1
      obtain ⟨i0, hi, hz0, hz1, hz2⟩ := info_parts info5
      have hl := hreps.1
      have hone := Kd.reps_one hreps (by decide) (fun _ _ hx => (FK_one hx).2)
      have HR := Aside0.mk hreps
      have HC := Aside0.mk hcs
      have HI := Aside0.mk hi
      have HZ0 := Aside0.mk hz0
      have HZ1 := Aside0.mk hz1
      have HZ2 := Aside0.mk hz2
      have HL := Aside0.mk hl
      have H1 := Aside0.mk hone
      clear hreps hcs hi hz0 hz1 hz2 hl hone hF
      go_enter Try.func61, Try.ntmps61
      go_wp2_with (at_builtin; refine wpList_append_grows _ rfl _ _ 23 rfl 5 i0 _ 1 1 Try.underlying23 HI.out HZ0.out HZ1.out HZ2.out rfl (by decide) (some ⟨w.heap.size, 0, none⟩) 0 0 [] rfl (fun h => by cases h) rfl (fun _ _ j u hu => by simp at hu) a l0.length c0 cs rfl HL.out ?ce H1.out (by omega) (by unfold maxLen; omega) (by omega) ?kk; (case ce => intro j u hu; exact cell_later (HC.out j u hu)); intro v' w1 hown hgrow; have HO := Aside0.mk hown; have HG := Aside0.mk hgrow; clear hown hgrow)
      go_ret
      have hb1 : Below w.heap.size w w1 := (((Below.refl _ _).alloc (Nat.le_refl _) _).grown HG.out (by simp) (fun k hk => by cases hk))
      have hown := HO.out
      rw [Nat.zero_add, List.nil_append] at hown
      refine ⟨_, rfl, ⟨cs, own_weaken hown (by simp), HR.out.imp_ fun x c hx => ?_⟩, hb1⟩
      refine Kd.FK_mono (Kd.FK_step (Kd.FK_bound hx) (fun k hk hlt => hb1.block k hlt)) (fun k hk => ⟨hk.1, fun he => ?_⟩)
      have h1 := own_base hown k he.symm
      have h2 := hk.2
      rw [World.size_alloc] at h1
      omega

end Go.Proofs.Ytcgeioingikeeaa.P
