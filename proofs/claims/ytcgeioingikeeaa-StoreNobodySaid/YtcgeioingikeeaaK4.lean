/- What is asked ahead of all else, plainly; store.Files; store.call with each of the closures that it is handed. By a program of this seat (wip/tools/mkK4.py). -/
import Derived.Test.YtcgeioingikeeaaK3
namespace Go.Proofs.Ytcgeioingikeeaa.P
open Go.RowKit Go.Proofs.YtcgeioingikeeaaW.PrintWords Go.Proofs.YtcgeioingikeeaaW.PrintLast Go.Proofs.YtcgeioingikeeaaW.PrintMore
open Go.Maps (Keyed string_keyed int_keyed keyOf_int_mk IsMap atKey_put_same atKey_put_other)
set_option linter.unusedVariables false
set_option linter.unusedSimpArgs false


/-- A store within bounds: what its calls ask. -/
structure Fit (s : SSt) : Prop where
  len : s.safe.length + s.pend.length ≤ 1000
  safe : okL s.safe
  pend : okW s.pend
  calls0 : 0 ≤ s.calls
  calls1 : s.calls ≤ 1000
def filesOf (s : SSt) : List S38 := doneL (fun _ => -1) 0 s.safe s.pend
theorem O_step {α : Type} {d : Kd α} {e : Nat} {w w1 : World} {base : Nat} {ok : Nat → Prop} {v : Value} {xs : List α} (h : O d e w base ok v xs) (hm : ∀ k, k < w.heap.size → (ok k ∨ v.ownBlock = some k) → w1.heap[k]? = w.heap[k]?) : O d e w1 base ok v xs := by
  obtain ⟨inner, h1, h2⟩ := h
  exact ⟨inner, own_move h1 (fun k hk => hm k (own_lt h1 k hk) (.inr hk)), h2.imp_ fun x c hx => Kd.FK_step hx fun k hk hlt => hm k hlt (.inl hk.1)⟩
theorem MapSays.move {w w1 : World} {B g : Nat} {mv : Value} {fails : List Int} (h : MapSays w B mv fails) (hg : ∃ cs t fr, w.heap[g]? = some (.cells cs t fr)) (hk : ∀ k, k < w.heap.size → k ≠ g → w1.heap[k]? = w.heap[k]?) : MapSays w1 B mv fails := by
  rcases h with h | ⟨b, n, D, h1, h2, h3, h4, h5⟩
  · exact .inl h
  · refine .inr ⟨b, n, D, h1, h2, h3, ?_, h5⟩
    obtain ⟨es, clock, h6, h7⟩ := h4
    refine ⟨es, clock, (hk b (blk_lt h6) (fun he => ?_)).trans h6, h7⟩
    subst he
    obtain ⟨cs, t, fr, hc⟩ := hg
    rw [h6] at hc
    cases hc
/-- The block is written, all else stands. -/
theorem RepAt.upd {B g : Nat} {s s' : SSt} {w w1 : World} {mv sv pv : Value} (h : RepAt B g s w mv sv pv) (hk : ∀ k, k < w.heap.size → k ≠ g → w1.heap[k]? = w.heap[k]?)
    (hb : w1.heap[g]? = some (.cells #[mv, .int .i64 s'.crash, .int .i64 s'.calls, sv, pv, .int .i64 s'.quota, .int .i64 s'.peak, .bool s'.down] 106 (0, 0))) (h1 : s'.safe = s.safe) (h2 : s'.pend = s.pend) (h3 : s'.fails = s.fails) : RepAt B g s' w1 mv sv pv := by
  have hpg : pv.ownBlock ≠ some g := fun he => by
    obtain ⟨_, hp, _⟩ := h.pend
    obtain ⟨cells, hc⟩ := own_typed hp g he
    rw [h.blk] at hc
    injection hc with hc
    injection hc with _ hc
    exact absurd hc (by decide)
  refine ⟨h.hg, hb, ?_, ?_, ?_⟩
  · rw [h3]; exact h.map.move ⟨_, _, _, h.blk⟩ hk
  · rw [h1]; exact Kd.V_step h.safe (fun k hk2 hlt => hk k hlt hk2.1)
  · rw [h2]; exact O_step h.pend (fun k hlt hk2 => hk k hlt (hk2.elim id (fun he hg => hpg (by rw [he, hg]))))
/-- What a store's call keeps: all but the store's block and what is new. -/
def KeptG (g : Nat) (w w1 : World) : Prop := w.heap.size ≤ w1.heap.size ∧ ∀ k, k < w.heap.size → k ≠ g → w1.heap[k]? = w.heap[k]?
theorem KeptG.refl (g : Nat) (w : World) : KeptG g w w := ⟨Nat.le_refl _, fun _ _ _ => rfl⟩
theorem KeptG.of_below {g : Nat} {w w1 : World} (h : Below w.heap.size w w1) : KeptG g w w1 := ⟨h.size, fun k hk _ => h.block k hk⟩
theorem KeptG.trans {g : Nat} {w w1 w2 : World} (h : KeptG g w w1) (k : KeptG g w1 w2) : KeptG g w w2 := ⟨Nat.le_trans h.1 k.1, fun i hi hg => (k.2 i (Nat.lt_of_lt_of_le hi h.1) hg).trans (h.2 i hi hg)⟩
theorem KeptG.setCell {g : Nat} {w w1 : World} (h : KeptG g w w1) (j : Nat) (u : Value) : KeptG g w (w1.setCell ⟨g, j, none⟩ u) :=
  h.trans ⟨by simp [World.setCell], fun k _ hg => Below.heap_setCell _ _ _ _ hg⟩
theorem belowB_set {B g : Nat} {w w1 : World} (h : Below B w w1) (hg : B ≤ g) (j : Nat) (u : Value) : Below B w (w1.setCell ⟨g, j, none⟩ u) :=
  ⟨h.os, h.tape, h.output, by simpa [World.setCell] using h.size, fun k hk => (Below.heap_setCell _ _ _ _ (by show k ≠ g; omega)).trans (h.block k hk)⟩
theorem belowB_of {B : Nat} {w w1 : World} (hB : B ≤ w.heap.size) (h : Below w.heap.size w w1) : Below B w w1 := ⟨h.os, h.tape, h.output, h.size, fun k hk => h.block k (by omega)⟩
theorem belowB_trans {B : Nat} {w w1 w2 : World} (h : Below B w w1) (k : Below B w1 w2) : Below B w w2 := ⟨k.os.trans h.os, k.tape.trans h.tape, k.output.trans h.output, Nat.le_trans h.size k.size, fun i hi => (k.block i hi).trans (h.block i hi)⟩
/-- What is asked ahead of all else: the store then, and what is told, or 0. -/
def asked (s : SSt) : SSt × Int :=
  if s.down then (s, 9) else
    if s.calls + 1 = s.crash then ({ s with calls := s.calls + 1, down := true }, 9) else
      if s.calls + 1 ∈ s.fails then ({ s with calls := s.calls + 1 }, 7) else ({ s with calls := s.calls + 1 }, 0)
theorem key3 : Keyed Try.prog 3 := int_keyed Try.underlying3
theorem zero4 (w : World) : (zeroValue 4).run Try.prog w = .ok (.bool false) w := by kernel_rfl
set_option maxRecDepth 100000 in
theorem plainElem_bool_inv {v : Value} {x : Bool} {ps : List MemPlace} (h : plainElem (H := Unit) Try.prog 4 v = some (.lit (.bool x), ps)) : v = .bool x := by
  have hu := Try.underlying4
  cases v <;> simp [plainElem, hu] at h
  rw [h.1]
set_option maxRecDepth 100000 in
/-- The look-up of a call's number. -/
theorem MapSays.look {w : World} {B : Nat} {mv : Value} {fails : List Int} (h : MapSays w B mv fails) (i : Int) (hi : (Lit.int .i64 i).wf = true) : (Instr.lookup 101 mv (.int .i64 i) false).run Try.prog w = .ok (.bool (decide (i ∈ fails))) w := by
  rcases h with ⟨rfl, rfl⟩ | ⟨b, n, D, rfl, _, _, hown, hat⟩
  · have := Maps.look_nil (P := Try.prog) (w := w) (t := 101) (k := 3) (e := 4) false key3 Try.underlying101 (zero4 w) (key := .int .i64 i) (keyOf_int_mk Try.underlying3 hi)
    rw [show decide (i ∈ ([] : List Int)) = false from by simp]
    exact this
  · obtain ⟨v, ps, hrun, hv⟩ := hown.lookup (t := 101) (e := 4) key3 Try.underlying101 (zero4 w) (zd := .lit (.bool false)) (zp := []) (plainElem_bool Try.underlying4 false) (key := .int .i64 i) (keyOf_int_mk Try.underlying3 hi)
    rw [hat i hi] at hv
    rw [hrun, plainElem_bool_inv hv]


section
variable {B g : Nat} {s : SSt} {w : World}
/-- While Files runs. -/
structure FlS (B g : Nat) (s : SSt) (mv sv pv : Value) (w w' : World) : Prop where
  rep : RepAt B g s w' mv sv pv
  below : Below w.heap.size w w'
theorem FlS.step {mv sv pv : Value} {u v : World} (h : FlS B g s mv sv pv w u) (hb : Below u.heap.size u v) : FlS B g s mv sv pv w v := ⟨h.rep.below hb, below_step h.below hb⟩
theorem FlS.all {mv sv pv : Value} {u : World} (h : FlS B g s mv sv pv w u) : u.cell? ⟨g, 4, none⟩ = some pv ∧ FlS B g s mv sv pv w u := ⟨h.rep.cells.2.2.2.2.1, h⟩
set_option maxHeartbeats 4000000 in
set_option maxRecDepth 100000 in
theorem files_calls (h : Rep B g s w) (hf : Fit s) :
    Calls Try.prog 42 #[.pointer (some ⟨g, 0, none⟩)] w fun e w' => ∃ v, e = .returned v ∧ Kd.V k38 38 w' w'.heap.size (fun k => w.heap.size ≤ k) v (filesOf s) ∧ Below w.heap.size w w' := by
  obtain ⟨mv, sv, pv, h⟩ := h
  obtain ⟨Ap, cp, rfl⟩ := O_slice h.pend
  have hk0 : FlS B g s mv sv (.slice Ap s.pend.length cp) w w := ⟨h, Below.refl _ _⟩
  have HF := Aside0.mk hf
  have hlen := hf.len
  clear h hf
  go_enter Try.func42, Try.ntmps42
  go_wp2_with fail
  go_region_held3 (fun w' => w'.cell? ⟨g, 4, none⟩ = some (.slice Ap s.pend.length cp) ∧ FlS B g s mv sv (.slice Ap s.pend.length cp) w w')
    (first
      | exact (hk0.step (below_drew1 (Below.refl _ _))).all
      | (go_split_ands
         first
          | exact FlS.all (FlS.step (by assumption) hb6)
          | exact FlS.all (FlS.step (by assumption) hb5))
      | go_keep)
    (first
      | (go_split_ands; go_at_call 45; refine (safe_calls ⟨mv, sv, _, FlS.rep (by assumption)⟩ (by omega) HF.out.safe).mono ?_; rintro e w5 ⟨v5, rfl, hO5, hb5⟩; obtain ⟨A5, c5, rfl⟩ := O_slice hO5)
      | (go_split_ands
         go_at_call 74
         ((with_reducible refine (done_all (fun k => w.heap.size ≤ k) A5 c5 s.safe Ap cp s.pend _ ?hs ?hr ?hc hlen HF.out.safe HF.out.pend).mono ?_); (case hs => exact V_base (Kd.V_mono (O_V hO5) (fun k hk => hk.elim (fun h => h) (fun h => h)))); (case hr => exact (Kd.V_reads' (O_V (RepAt.pend (FlS.rep (by assumption))))).2.2); (case hc => exact (Kd.V_reads' (O_V (RepAt.pend (hk0.rep)))).2.1))
         rintro e w6 ⟨v6, rfl, hV6, hb6⟩))
  have hfin : FlS B g s mv sv (.slice Ap s.pend.length cp) w w6 := by go_split_ands; assumption
  have h5 : FlS B g s mv sv (.slice Ap s.pend.length cp) w w5 := by go_split_ands; assumption
  have HFIN := Aside0.mk hfin
  have HV6 := Aside0.mk hV6
  have HSZ := Aside0.mk h5.below.size
  clear hfin h5 hV6 hk0
  go_wp2
  go_ret
  exact ⟨_, rfl, Kd.V_mono HV6.out (fun k hk => hk.elim id (fun h => Nat.le_trans HSZ.out h)), HFIN.out.below⟩


theorem RepAt.free {mv sv pv : Value} (h : RepAt B g s w mv sv pv) (j : Nat) : w.frozen? ⟨g, j, none⟩ = false := blk_frozen h.blk j
/-- One call more. -/
theorem RepAt.called {mv sv pv : Value} (h : RepAt B g s w mv sv pv) : RepAt B g { s with calls := s.calls + 1 } (w.setCell ⟨g, 2, none⟩ (.int .i64 (s.calls + 1))) mv sv pv :=
  h.upd (fun k _ hk => Below.heap_setCell _ _ _ _ hk) (blk_set h.blk 2 _) rfl rfl rfl
/-- It goes down. -/
theorem RepAt.downed {mv sv pv : Value} (h : RepAt B g s w mv sv pv) : RepAt B g { s with down := true } (w.setCell ⟨g, 7, none⟩ (.bool true)) mv sv pv :=
  h.upd (fun k _ hk => Below.heap_setCell _ _ _ _ hk) (blk_set h.blk 7 _) rfl rfl rfl


set_option maxHeartbeats 8000000 in
set_option maxRecDepth 100000 in
theorem call_err (clo : Value) (h : Rep B g s w) (hf : Fit s) (ha : (asked s).2 ≠ 0) :
    Calls Try.prog 90 #[.pointer (some ⟨g, 0, none⟩), clo] w fun e w' => e = .returned (.int .i64 (asked s).2) ∧ Rep B g (asked s).1 w' ∧ Below B w w' ∧ KeptG g w w' := by
  obtain ⟨mv, sv, pv, h⟩ := h
  obtain ⟨hc0, hc1, hc2, _, _, _, _, hc7⟩ := h.cells
  have hfr2 := h.free 2
  have hcl0 := hf.calls0
  have hcl1 := hf.calls1
  have H0 := Aside0.mk h
  have h1 := h.called
  obtain ⟨hd0, hd1, hd2, _, _, _, _, hd7⟩ := h1.cells
  have hgr7 := h1.free 7
  have H1 := Aside0.mk h1
  have hgB := Aside0.mk h.hg
  clear h h1 hf
  by_cases hdn : s.down = true
  · have hA : asked s = (s, 9) := by unfold asked; rw [if_pos hdn]
    rw [hA]
    rw [hdn] at hc7
    have HDN := Aside0.mk hdn
    clear hd0 hd1 hd2 hd7 ha hA hdn
    go_enter Try.func90, Try.ntmps90
    go_wp2
    go_ret
    exact ⟨rfl, ⟨mv, sv, pv, H0.out⟩, Below.refl _ _, KeptG.refl _ _⟩
  · have hdf : s.down = false := by simpa using hdn
    by_cases hcr : s.calls + 1 = s.crash
    · have hA : asked s = ({ s with calls := s.calls + 1, down := true }, 9) := by unfold asked; rw [if_neg hdn, if_pos hcr]
      rw [hA]
      rw [hdf] at hc7
      have HA := Aside0.mk hA
      have hce : (s.calls + 1 == s.crash) = true := by simpa using hcr
      have hk0 : RepAt B g { s with calls := s.calls + 1 } (w.setCell ⟨g, 2, none⟩ (.int .i64 (s.calls + 1))) mv sv pv := H1.out
      have HKP : Aside0 (KeptG g w (w.setCell ⟨g, 2, none⟩ (.int .i64 (s.calls + 1)))) := ⟨(KeptG.refl g w).setCell 2 _⟩
      have HBB : Aside0 (Below B w (w.setCell ⟨g, 2, none⟩ (.int .i64 (s.calls + 1)))) := ⟨belowB_set (Below.refl _ _) hgB.out 2 _⟩
      clear ha hdn hdf hA hcr hk0
      go_enter Try.func90, Try.ntmps90
      go_wp2_with fail
      generalize w.setCell ⟨g, 2, none⟩ (.int .i64 (s.calls + 1)) = w1 at hd0 hd1 hd2 hd7 hgr7 H1 HKP HBB ⊢
      go_region_held3 (fun w' => w'.cell? ⟨g, 1, none⟩ = some (.int .i64 s.crash) ∧ w'.cell? ⟨g, 2, none⟩ = some (.int .i64 (s.calls + 1))) (go_keep) (first | fail)
      go_wp2
      go_ret
      refine ⟨rfl, ⟨mv, sv, pv, H1.out.downed.below (below_drew1 (Below.refl _ _))⟩, ?_, ?_⟩
      · exact below_drew (belowB_set HBB.out hgB.out 7 _)
      · exact (HKP.out.setCell 7 _).trans (KeptG.of_below (below_drew1 (Below.refl _ _)))
    · have hfa : s.calls + 1 ∈ s.fails := by
        apply Classical.byContradiction
        intro hn
        apply ha
        unfold asked
        rw [if_neg hdn, if_neg hcr, if_neg hn]
      have hA : asked s = ({ s with calls := s.calls + 1 }, 7) := by unfold asked; rw [if_neg hdn, if_neg hcr, if_pos hfa]
      rw [hA]
      rw [hdf] at hc7
      have hce : (s.calls + 1 == s.crash) = false := by simpa using hcr
      have hfd : decide (s.calls + 1 ∈ s.fails) = true := decide_eq_true hfa
      have hwf : (Lit.int .i64 (s.calls + 1)).wf = true := by simp [Lit.wf, IntKind.min, IntKind.max, IntKind.signed, IntKind.bits]; omega
      have HLK : Aside0 (∀ n, (Instr.lookup 101 mv (.int .i64 (s.calls + 1)) false).run Try.prog ((w.setCell ⟨g, 2, none⟩ (.int .i64 (s.calls + 1))).drewN n) = .ok (.bool true) ((w.setCell ⟨g, 2, none⟩ (.int .i64 (s.calls + 1))).drewN n)) := ⟨fun n => by
        have := (H1.out.below (pw_below_drewN (Below.refl _ _) n)).map.look (s.calls + 1) hwf
        rw [hfd] at this
        exact this⟩
      have HKP : Aside0 (KeptG g w (w.setCell ⟨g, 2, none⟩ (.int .i64 (s.calls + 1)))) := ⟨(KeptG.refl g w).setCell 2 _⟩
      have HBB : Aside0 (Below B w (w.setCell ⟨g, 2, none⟩ (.int .i64 (s.calls + 1)))) := ⟨belowB_set (Below.refl _ _) hgB.out 2 _⟩
      clear ha hdn hdf hA hcr hfa hfd hwf
      go_enter Try.func90, Try.ntmps90
      go_wp2_with fail
      generalize w.setCell ⟨g, 2, none⟩ (.int .i64 (s.calls + 1)) = w1 at hd0 hd1 hd2 hd7 hgr7 H1 HKP HBB HLK ⊢
      go_region_held3 (fun w' => w'.cell? ⟨g, 1, none⟩ = some (.int .i64 s.crash) ∧ w'.cell? ⟨g, 2, none⟩ = some (.int .i64 (s.calls + 1))) (go_keep) (first | fail)
      go_wp2_with fail
      have hlk : (Instr.lookup 101 mv (.int .i64 (s.calls + 1)) false).run Try.prog w1.drew.drew = .ok (.bool true) w1.drew.drew := HLK.out 2
      go_region_held3 (fun w' => w'.cell? ⟨g, 0, none⟩ = some mv ∧ w'.cell? ⟨g, 2, none⟩ = some (.int .i64 (s.calls + 1))) (go_keep) (first | fail)
      go_wp2
      go_ret
      refine ⟨rfl, ⟨mv, sv, pv, H1.out.below (pw_below_drewN (Below.refl _ _) 2)⟩, ?_, ?_⟩
      · exact below_drew (below_drew HBB.out)
      · exact HKP.out.trans (KeptG.of_below (pw_below_drewN (Below.refl _ _) 2))


set_option maxHeartbeats 8000000 in
set_option maxRecDepth 100000 in
theorem call_ok91 (b0 b1 : Nat) (R : Int → World → Prop) {mv sv pv : Value} (h : RepAt B g s w mv sv pv) (hf : Fit s) (ha : (asked s).2 = 0)
    (hclo : ∀ w1, RepAt B g (asked s).1 w1 mv sv pv → Below B w w1 → KeptG g w w1 → Calls Try.prog 91 #[.pointer (some ⟨b0, 0, none⟩), .pointer (some ⟨b1, 0, none⟩)] w1 fun e w' => ∃ r, e = .returned (.int .i64 r) ∧ R r w') :
    Calls Try.prog 90 #[.pointer (some ⟨g, 0, none⟩), .func (.func 91) #[] #[.pointer (some ⟨b0, 0, none⟩), .pointer (some ⟨b1, 0, none⟩)]] w fun e w' => ∃ r, e = .returned (.int .i64 r) ∧ R r w' := by
  obtain ⟨hc0, hc1, hc2, _, _, _, _, hc7⟩ := h.cells
  have hfr2 := h.free 2
  have hcl0 := hf.calls0
  have hcl1 := hf.calls1
  have H0 := Aside0.mk h
  have h1 := h.called
  obtain ⟨hd0, hd1, hd2, _, _, _, _, hd7⟩ := h1.cells
  have hgr7 := h1.free 7
  have H1 := Aside0.mk h1
  have hgB := Aside0.mk h.hg
  clear h h1 hf
  have hdn : ¬ s.down = true := by
    intro hd
    unfold asked at ha
    rw [if_pos hd] at ha
    simp at ha
  have hdf : s.down = false := by simpa using hdn
  have hcr : ¬ s.calls + 1 = s.crash := by
    intro hc
    unfold asked at ha
    rw [if_neg hdn, if_pos hc] at ha
    simp at ha
  have hfa : ¬ s.calls + 1 ∈ s.fails := by
    intro hc
    unfold asked at ha
    rw [if_neg hdn, if_neg hcr, if_pos hc] at ha
    simp at ha
  have hA : asked s = ({ s with calls := s.calls + 1 }, 0) := by unfold asked; rw [if_neg hdn, if_neg hcr, if_neg hfa]
  rw [hA] at hclo
  rw [hdf] at hc7
  have HCLO := Aside0.mk hclo
  have hce : (s.calls + 1 == s.crash) = false := by simpa using hcr
  have hfd : decide (s.calls + 1 ∈ s.fails) = false := decide_eq_false hfa
  have hwf : (Lit.int .i64 (s.calls + 1)).wf = true := by simp [Lit.wf, IntKind.min, IntKind.max, IntKind.signed, IntKind.bits]; omega
  have HLK : Aside0 (∀ n, (Instr.lookup 101 mv (.int .i64 (s.calls + 1)) false).run Try.prog ((w.setCell ⟨g, 2, none⟩ (.int .i64 (s.calls + 1))).drewN n) = .ok (.bool false) ((w.setCell ⟨g, 2, none⟩ (.int .i64 (s.calls + 1))).drewN n)) := ⟨fun n => by
    have := (H1.out.below (pw_below_drewN (Below.refl _ _) n)).map.look (s.calls + 1) hwf
    rw [hfd] at this
    exact this⟩
  have HKP : Aside0 (KeptG g w (w.setCell ⟨g, 2, none⟩ (.int .i64 (s.calls + 1)))) := ⟨(KeptG.refl g w).setCell 2 _⟩
  have HBB : Aside0 (Below B w (w.setCell ⟨g, 2, none⟩ (.int .i64 (s.calls + 1)))) := ⟨belowB_set (Below.refl _ _) hgB.out 2 _⟩
  clear ha hdn hdf hA hcr hfa hfd hwf hclo
  go_enter Try.func90, Try.ntmps90
  go_wp2_with fail
  generalize w.setCell ⟨g, 2, none⟩ (.int .i64 (s.calls + 1)) = w1 at hd0 hd1 hd2 hd7 hgr7 H1 HKP HBB HLK ⊢
  go_region_held3 (fun w' => w'.cell? ⟨g, 1, none⟩ = some (.int .i64 s.crash) ∧ w'.cell? ⟨g, 2, none⟩ = some (.int .i64 (s.calls + 1))) (go_keep) (first | fail)
  go_wp2_with fail
  have hlk : (Instr.lookup 101 mv (.int .i64 (s.calls + 1)) false).run Try.prog w1.drew.drew = .ok (.bool false) w1.drew.drew := HLK.out 2
  go_region_held3 (fun w' => w'.cell? ⟨g, 0, none⟩ = some mv ∧ w'.cell? ⟨g, 2, none⟩ = some (.int .i64 (s.calls + 1))) (go_keep) (first | fail)
  go_wp2_with (go_at_call 91; refine (HCLO.out _ (H1.out.below (pw_below_drewN (Below.refl _ _) 2)) (below_drew (below_drew HBB.out)) (HKP.out.trans (KeptG.of_below (pw_below_drewN (Below.refl _ _) 2)))).mono ?_; rintro e w2 ⟨r, rfl, hR⟩; have HR := Aside0.mk hR; clear hR)
  go_ret
  exact ⟨r, rfl, HR.out⟩


set_option maxHeartbeats 8000000 in
set_option maxRecDepth 100000 in
theorem call_ok93 (b0 b1 b2 : Nat) (R : Int → World → Prop) {mv sv pv : Value} (h : RepAt B g s w mv sv pv) (hf : Fit s) (ha : (asked s).2 = 0)
    (hclo : ∀ w1, RepAt B g (asked s).1 w1 mv sv pv → Below B w w1 → KeptG g w w1 → Calls Try.prog 93 #[.pointer (some ⟨b0, 0, none⟩), .pointer (some ⟨b1, 0, none⟩), .pointer (some ⟨b2, 0, none⟩)] w1 fun e w' => ∃ r, e = .returned (.int .i64 r) ∧ R r w') :
    Calls Try.prog 90 #[.pointer (some ⟨g, 0, none⟩), .func (.func 93) #[] #[.pointer (some ⟨b0, 0, none⟩), .pointer (some ⟨b1, 0, none⟩), .pointer (some ⟨b2, 0, none⟩)]] w fun e w' => ∃ r, e = .returned (.int .i64 r) ∧ R r w' := by
  obtain ⟨hc0, hc1, hc2, _, _, _, _, hc7⟩ := h.cells
  have hfr2 := h.free 2
  have hcl0 := hf.calls0
  have hcl1 := hf.calls1
  have H0 := Aside0.mk h
  have h1 := h.called
  obtain ⟨hd0, hd1, hd2, _, _, _, _, hd7⟩ := h1.cells
  have hgr7 := h1.free 7
  have H1 := Aside0.mk h1
  have hgB := Aside0.mk h.hg
  clear h h1 hf
  have hdn : ¬ s.down = true := by
    intro hd
    unfold asked at ha
    rw [if_pos hd] at ha
    simp at ha
  have hdf : s.down = false := by simpa using hdn
  have hcr : ¬ s.calls + 1 = s.crash := by
    intro hc
    unfold asked at ha
    rw [if_neg hdn, if_pos hc] at ha
    simp at ha
  have hfa : ¬ s.calls + 1 ∈ s.fails := by
    intro hc
    unfold asked at ha
    rw [if_neg hdn, if_neg hcr, if_pos hc] at ha
    simp at ha
  have hA : asked s = ({ s with calls := s.calls + 1 }, 0) := by unfold asked; rw [if_neg hdn, if_neg hcr, if_neg hfa]
  rw [hA] at hclo
  rw [hdf] at hc7
  have HCLO := Aside0.mk hclo
  have hce : (s.calls + 1 == s.crash) = false := by simpa using hcr
  have hfd : decide (s.calls + 1 ∈ s.fails) = false := decide_eq_false hfa
  have hwf : (Lit.int .i64 (s.calls + 1)).wf = true := by simp [Lit.wf, IntKind.min, IntKind.max, IntKind.signed, IntKind.bits]; omega
  have HLK : Aside0 (∀ n, (Instr.lookup 101 mv (.int .i64 (s.calls + 1)) false).run Try.prog ((w.setCell ⟨g, 2, none⟩ (.int .i64 (s.calls + 1))).drewN n) = .ok (.bool false) ((w.setCell ⟨g, 2, none⟩ (.int .i64 (s.calls + 1))).drewN n)) := ⟨fun n => by
    have := (H1.out.below (pw_below_drewN (Below.refl _ _) n)).map.look (s.calls + 1) hwf
    rw [hfd] at this
    exact this⟩
  have HKP : Aside0 (KeptG g w (w.setCell ⟨g, 2, none⟩ (.int .i64 (s.calls + 1)))) := ⟨(KeptG.refl g w).setCell 2 _⟩
  have HBB : Aside0 (Below B w (w.setCell ⟨g, 2, none⟩ (.int .i64 (s.calls + 1)))) := ⟨belowB_set (Below.refl _ _) hgB.out 2 _⟩
  clear ha hdn hdf hA hcr hfa hfd hwf hclo
  go_enter Try.func90, Try.ntmps90
  go_wp2_with fail
  generalize w.setCell ⟨g, 2, none⟩ (.int .i64 (s.calls + 1)) = w1 at hd0 hd1 hd2 hd7 hgr7 H1 HKP HBB HLK ⊢
  go_region_held3 (fun w' => w'.cell? ⟨g, 1, none⟩ = some (.int .i64 s.crash) ∧ w'.cell? ⟨g, 2, none⟩ = some (.int .i64 (s.calls + 1))) (go_keep) (first | fail)
  go_wp2_with fail
  have hlk : (Instr.lookup 101 mv (.int .i64 (s.calls + 1)) false).run Try.prog w1.drew.drew = .ok (.bool false) w1.drew.drew := HLK.out 2
  go_region_held3 (fun w' => w'.cell? ⟨g, 0, none⟩ = some mv ∧ w'.cell? ⟨g, 2, none⟩ = some (.int .i64 (s.calls + 1))) (go_keep) (first | fail)
  go_wp2_with (go_at_call 93; refine (HCLO.out _ (H1.out.below (pw_below_drewN (Below.refl _ _) 2)) (below_drew (below_drew HBB.out)) (HKP.out.trans (KeptG.of_below (pw_below_drewN (Below.refl _ _) 2)))).mono ?_; rintro e w2 ⟨r, rfl, hR⟩; have HR := Aside0.mk hR; clear hR)
  go_ret
  exact ⟨r, rfl, HR.out⟩


set_option maxHeartbeats 8000000 in
set_option maxRecDepth 100000 in
theorem call_ok97 (b0 b1 : Nat) (R : Int → World → Prop) {mv sv pv : Value} (h : RepAt B g s w mv sv pv) (hf : Fit s) (ha : (asked s).2 = 0)
    (hclo : ∀ w1, RepAt B g (asked s).1 w1 mv sv pv → Below B w w1 → KeptG g w w1 → Calls Try.prog 97 #[.pointer (some ⟨b0, 0, none⟩), .pointer (some ⟨b1, 0, none⟩)] w1 fun e w' => ∃ r, e = .returned (.int .i64 r) ∧ R r w') :
    Calls Try.prog 90 #[.pointer (some ⟨g, 0, none⟩), .func (.func 97) #[] #[.pointer (some ⟨b0, 0, none⟩), .pointer (some ⟨b1, 0, none⟩)]] w fun e w' => ∃ r, e = .returned (.int .i64 r) ∧ R r w' := by
  obtain ⟨hc0, hc1, hc2, _, _, _, _, hc7⟩ := h.cells
  have hfr2 := h.free 2
  have hcl0 := hf.calls0
  have hcl1 := hf.calls1
  have H0 := Aside0.mk h
  have h1 := h.called
  obtain ⟨hd0, hd1, hd2, _, _, _, _, hd7⟩ := h1.cells
  have hgr7 := h1.free 7
  have H1 := Aside0.mk h1
  have hgB := Aside0.mk h.hg
  clear h h1 hf
  have hdn : ¬ s.down = true := by
    intro hd
    unfold asked at ha
    rw [if_pos hd] at ha
    simp at ha
  have hdf : s.down = false := by simpa using hdn
  have hcr : ¬ s.calls + 1 = s.crash := by
    intro hc
    unfold asked at ha
    rw [if_neg hdn, if_pos hc] at ha
    simp at ha
  have hfa : ¬ s.calls + 1 ∈ s.fails := by
    intro hc
    unfold asked at ha
    rw [if_neg hdn, if_neg hcr, if_pos hc] at ha
    simp at ha
  have hA : asked s = ({ s with calls := s.calls + 1 }, 0) := by unfold asked; rw [if_neg hdn, if_neg hcr, if_neg hfa]
  rw [hA] at hclo
  rw [hdf] at hc7
  have HCLO := Aside0.mk hclo
  have hce : (s.calls + 1 == s.crash) = false := by simpa using hcr
  have hfd : decide (s.calls + 1 ∈ s.fails) = false := decide_eq_false hfa
  have hwf : (Lit.int .i64 (s.calls + 1)).wf = true := by simp [Lit.wf, IntKind.min, IntKind.max, IntKind.signed, IntKind.bits]; omega
  have HLK : Aside0 (∀ n, (Instr.lookup 101 mv (.int .i64 (s.calls + 1)) false).run Try.prog ((w.setCell ⟨g, 2, none⟩ (.int .i64 (s.calls + 1))).drewN n) = .ok (.bool false) ((w.setCell ⟨g, 2, none⟩ (.int .i64 (s.calls + 1))).drewN n)) := ⟨fun n => by
    have := (H1.out.below (pw_below_drewN (Below.refl _ _) n)).map.look (s.calls + 1) hwf
    rw [hfd] at this
    exact this⟩
  have HKP : Aside0 (KeptG g w (w.setCell ⟨g, 2, none⟩ (.int .i64 (s.calls + 1)))) := ⟨(KeptG.refl g w).setCell 2 _⟩
  have HBB : Aside0 (Below B w (w.setCell ⟨g, 2, none⟩ (.int .i64 (s.calls + 1)))) := ⟨belowB_set (Below.refl _ _) hgB.out 2 _⟩
  clear ha hdn hdf hA hcr hfa hfd hwf hclo
  go_enter Try.func90, Try.ntmps90
  go_wp2_with fail
  generalize w.setCell ⟨g, 2, none⟩ (.int .i64 (s.calls + 1)) = w1 at hd0 hd1 hd2 hd7 hgr7 H1 HKP HBB HLK ⊢
  go_region_held3 (fun w' => w'.cell? ⟨g, 1, none⟩ = some (.int .i64 s.crash) ∧ w'.cell? ⟨g, 2, none⟩ = some (.int .i64 (s.calls + 1))) (go_keep) (first | fail)
  go_wp2_with fail
  have hlk : (Instr.lookup 101 mv (.int .i64 (s.calls + 1)) false).run Try.prog w1.drew.drew = .ok (.bool false) w1.drew.drew := HLK.out 2
  go_region_held3 (fun w' => w'.cell? ⟨g, 0, none⟩ = some mv ∧ w'.cell? ⟨g, 2, none⟩ = some (.int .i64 (s.calls + 1))) (go_keep) (first | fail)
  go_wp2_with (go_at_call 97; refine (HCLO.out _ (H1.out.below (pw_below_drewN (Below.refl _ _) 2)) (below_drew (below_drew HBB.out)) (HKP.out.trans (KeptG.of_below (pw_below_drewN (Below.refl _ _) 2)))).mono ?_; rintro e w2 ⟨r, rfl, hR⟩; have HR := Aside0.mk hR; clear hR)
  go_ret
  exact ⟨r, rfl, HR.out⟩

end
end Go.Proofs.Ytcgeioingikeeaa.P
