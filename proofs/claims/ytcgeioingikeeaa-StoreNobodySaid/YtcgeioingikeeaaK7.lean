/- store.of with each of the closures that it is handed; Sync, Move, Drop: what each does. By a program of this seat (wip/tools/mkK7.py). -/
import Derived.Test.YtcgeioingikeeaaK6
namespace Go.Proofs.Ytcgeioingikeeaa.P
open Go.RowKit Go.Proofs.YtcgeioingikeeaaW.PrintWords Go.Proofs.YtcgeioingikeeaaW.PrintLast Go.Proofs.YtcgeioingikeeaaW.PrintMore
set_option linter.unusedVariables false
set_option linter.unusedSimpArgs false


/-- A file's bytes, and whether it is there. -/
def getT (l : List S38) (n : ByteArray) : List Int × Bool := match l.find? (named n) with | some x => (x.f1, true) | none => ([], false)
theorem get_f (l : List S38) (n : ByteArray) (hl : l.length ≤ 1000000) (hd : okL l) : files_Get.f l n = some ((getT l n).1, (getT l n).2) := by
  unfold files_Get.f getT
  rw [if_pos ⟨hl, fun x hx => by have := hd x hx; omega⟩]
  cases l.find? (named n) <;> rfl
theorem asked_files (s : SSt) : filesOf (asked s).1 = filesOf s := by
  unfold asked
  split
  · rfl
  · split
    · rfl
    · split <;> rfl
theorem asked_ok {s : SSt} (h : (asked s).2 = 0) : (asked s).1 = { s with calls := s.calls + 1 } := by
  unfold asked at h ⊢
  split at h
  · simp at h
  · rename_i h1
    rw [if_neg h1]
    split at h
    · simp at h
    · rename_i h2
      rw [if_neg h2]
      split at h
      · simp at h
      · rename_i h3
        rw [if_neg h3]
theorem files_ok {s : SSt} (h : Fit s) : okL (filesOf s) ∧ (filesOf s).length ≤ 1000 := by
  obtain ⟨h1, h2⟩ := doneL_ok (fun _ => -1) s.pend 0 s.safe h.safe
  exact ⟨h1, Nat.le_trans h2 h.len⟩
/-- A store within bounds, but for the number of calls. -/
structure Fit0 (s : SSt) : Prop where
  len : s.safe.length + s.pend.length ≤ 1000
  safe : okL s.safe
  pend : okW s.pend
theorem Fit.fit0 {s : SSt} (h : Fit s) : Fit0 s := ⟨h.len, h.safe, h.pend⟩
/-- A captured variable that holds a function. -/
def VarC (w : World) (b : Nat) (c : Value) : Prop := w.heap[b]? = some (.cells #[c] 113 (0, 0))
theorem VarC.below {w w1 : World} {b : Nat} {c : Value} (h : VarC w b c) (hb : Below w.heap.size w w1) : VarC w1 b c := blk_stays hb h
theorem VarC.cell {w : World} {b : Nat} {c : Value} (h : VarC w b c) : w.cell? ⟨b, 0, none⟩ = some c := by
  rw [cell_of_row w b 0 _ 113 (0, 0) h]; rfl
section
variable {B g : Nat} {s : SSt} {w : World} {name : ByteArray} {mv sv pv : Value}
/-- While the closure of 'of' runs. -/
structure OfS (B g : Nat) (s : SSt) (mv sv pv : Value) (name : ByteArray) (b0 b1 b2 : Nat) (c : Value) (w w' : World) : Prop where
  rep : RepAt B g s w' mv sv pv
  p : VarP w' b0 g
  n : VarS w' b1 name
  c : VarC w' b2 c
  below : Below w.heap.size w w'
theorem OfS.step {b0 b1 b2 : Nat} {c : Value} {u v : World} (h : OfS B g s mv sv pv name b0 b1 b2 c w u) (hb : Below u.heap.size u v) : OfS B g s mv sv pv name b0 b1 b2 c w v := ⟨h.rep.below hb, h.p.below hb, h.n.below hb, h.c.below hb, below_step h.below hb⟩
theorem OfS.all {b0 b1 b2 : Nat} {c : Value} {u : World} (h : OfS B g s mv sv pv name b0 b1 b2 c w u) : u.cell? ⟨b0, 0, none⟩ = some (.pointer (some ⟨g, 0, none⟩)) ∧ u.cell? ⟨b1, 0, none⟩ = some (.string name) ∧ OfS B g s mv sv pv name b0 b1 b2 c w u := ⟨h.p.cell, h.n.cell, h⟩


set_option maxHeartbeats 8000000 in
set_option maxRecDepth 100000 in
theorem of1_none (b0 b1 b2 : Nat) (c : Value) (h : RepAt B g s w mv sv pv) (hf : Fit s) (hp : VarP w b0 g) (hn : VarS w b1 name) (hc : VarC w b2 c) (hno : (getT (filesOf s) name).2 = false) :
    Calls Try.prog 93 #[.pointer (some ⟨b0, 0, none⟩), .pointer (some ⟨b1, 0, none⟩), .pointer (some ⟨b2, 0, none⟩)] w fun e w' => e = .returned (.int .i64 4) ∧ RepAt B g s w' mv sv pv ∧ Below w.heap.size w w' := by
  have hk0 : OfS B g s mv sv pv name b0 b1 b2 c w w := ⟨h, hp, hn, hc, Below.refl _ _⟩
  have HF := Aside0.mk hf
  obtain ⟨hfo, hfl⟩ := files_ok hf
  have HFO := Aside0.mk hfo
  have hge := get_f (filesOf s) name (by omega) hfo
  rw [hno] at hge
  have HGE := Aside0.mk hge
  clear h hp hn hc hf hfo hge
  go_enter Try.func93, Try.ntmps93
  go_wp2_with fail
  go_region_held3 (fun w' => w'.cell? ⟨b0, 0, none⟩ = some (.pointer (some ⟨g, 0, none⟩)) ∧ w'.cell? ⟨b1, 0, none⟩ = some (.string name) ∧ OfS B g s mv sv pv name b0 b1 b2 c w w')
    (first
      | exact (hk0.step (below_drew1 (Below.refl _ _))).all
      | (go_split_ands
         first
          | exact OfS.all (OfS.step (by assumption) hb6)
          | exact OfS.all (OfS.step (by assumption) hb5))
      | go_keep)
    (first
      | (go_split_ands; go_at_call 42; refine (files_calls ⟨mv, sv, pv, OfS.rep (by assumption)⟩ HF.out).mono ?_; rintro e w5 ⟨v5, rfl, hV5, hb5⟩; obtain ⟨A5, c5, rfl⟩ := Kd.V_slice hV5)
      | (go_split_ands
         go_at_call 28
         ((with_reducible refine (files_Get.calls A5 c5 (filesOf s) name (getT (filesOf s) name).1 false _ ?hs ?hc HGE.out).mono ?_); (case hs => exact (Kd.V_reads' hV5).2.2); (case hc => exact (Kd.V_reads' hV5).2.1))
         rintro e w6 ⟨v6, rfl, hV6, hb6⟩))
  have hfin : OfS B g s mv sv pv name b0 b1 b2 c w w6 := by go_split_ands; assumption
  have HFIN := Aside0.mk hfin
  clear hk0 hfin hV6 hV5 hb5 hb6
  go_wp2
  go_ret
  exact ⟨rfl, HFIN.out.rep, HFIN.out.below⟩


set_option maxHeartbeats 8000000 in
set_option maxRecDepth 100000 in
theorem of1_ok70 (b0 b1 b2 c0 c1 : Nat) (R : Int → World → Prop) (h : RepAt B g s w mv sv pv) (hf : Fit s) (hp : VarP w b0 g) (hn : VarS w b1 name) (hc : VarC w b2 (.func (.func 70) #[] #[.pointer (some ⟨c0, 0, none⟩), .pointer (some ⟨c1, 0, none⟩)])) (hok : (getT (filesOf s) name).2 = true)
    (hdo : ∀ w1 v, RepAt B g s w1 mv sv pv → Below w.heap.size w w1 → Kd.R (Kd.int .u8) 5 w1 w.heap.size (fun _ => True) v (getT (filesOf s) name).1 → Calls Try.prog 70 #[v, .pointer (some ⟨c0, 0, none⟩), .pointer (some ⟨c1, 0, none⟩)] w1 fun e w' => ∃ r, e = .returned (.int .i64 r) ∧ R r w') :
    Calls Try.prog 93 #[.pointer (some ⟨b0, 0, none⟩), .pointer (some ⟨b1, 0, none⟩), .pointer (some ⟨b2, 0, none⟩)] w fun e w' => ∃ r, e = .returned (.int .i64 r) ∧ R r w' := by
  have HDO := Aside0.mk hdo
  clear hdo
  have hk0 : OfS B g s mv sv pv name b0 b1 b2 (.func (.func 70) #[] #[.pointer (some ⟨c0, 0, none⟩), .pointer (some ⟨c1, 0, none⟩)]) w w := ⟨h, hp, hn, hc, Below.refl _ _⟩
  have HF := Aside0.mk hf
  obtain ⟨hfo, hfl⟩ := files_ok hf
  have HFO := Aside0.mk hfo
  have hge := get_f (filesOf s) name (by omega) hfo
  rw [hok] at hge
  have HGE := Aside0.mk hge
  clear h hp hn hc hf hfo hge
  go_enter Try.func93, Try.ntmps93
  go_wp2_with fail
  go_region_held3 (fun w' => w'.cell? ⟨b0, 0, none⟩ = some (.pointer (some ⟨g, 0, none⟩)) ∧ w'.cell? ⟨b1, 0, none⟩ = some (.string name) ∧ OfS B g s mv sv pv name b0 b1 b2 (.func (.func 70) #[] #[.pointer (some ⟨c0, 0, none⟩), .pointer (some ⟨c1, 0, none⟩)]) w w')
    (first
      | exact (hk0.step (below_drew1 (Below.refl _ _))).all
      | (go_split_ands
         first
          | exact OfS.all (OfS.step (by assumption) hb6)
          | exact OfS.all (OfS.step (by assumption) hb5))
      | go_keep)
    (first
      | (go_split_ands; go_at_call 42; refine (files_calls ⟨mv, sv, pv, OfS.rep (by assumption)⟩ HF.out).mono ?_; rintro e w5 ⟨v5, rfl, hV5, hb5⟩; obtain ⟨A5, c5, rfl⟩ := Kd.V_slice hV5)
      | (go_split_ands
         go_at_call 28
         ((with_reducible refine (files_Get.calls A5 c5 (filesOf s) name (getT (filesOf s) name).1 true _ ?hs ?hc HGE.out).mono ?_); (case hs => exact (Kd.V_reads' hV5).2.2); (case hc => exact (Kd.V_reads' hV5).2.1))
         rintro e w6 ⟨v6, rfl, hV6, hb6⟩))
  have hfin : OfS B g s mv sv pv name b0 b1 b2 (.func (.func 70) #[] #[.pointer (some ⟨c0, 0, none⟩), .pointer (some ⟨c1, 0, none⟩)]) w w6 := by go_split_ands; assumption
  have h5 : OfS B g s mv sv pv name b0 b1 b2 (.func (.func 70) #[] #[.pointer (some ⟨c0, 0, none⟩), .pointer (some ⟨c1, 0, none⟩)]) w w5 := by go_split_ands; assumption
  have hc6 := hfin.c.cell
  have HFIN := Aside0.mk hfin
  have HV6 := Aside0.mk (Kd.R_lower hV6 h5.below.size)
  clear hk0 hfin hV6 hV5 hb5 hb6 h5
  go_wp2_with (go_at_call 70; refine (HDO.out _ _ HFIN.out.rep HFIN.out.below HV6.out).mono ?_; rintro e w7 ⟨r, rfl, hR⟩; have HR := Aside0.mk hR; clear hR)
  go_ret
  exact ⟨r, rfl, HR.out⟩

set_option maxHeartbeats 8000000 in
set_option maxRecDepth 100000 in
theorem of_ok70 (c0 c1 : Nat) (R : Int → World → Prop) (h : RepAt B g s w mv sv pv) (hf : Fit s) (hf1 : Fit (asked s).1) (hBw : B ≤ w.heap.size) (ha : (asked s).2 = 0) (hok : (getT (filesOf s) name).2 = true)
    (hdo : ∀ w1 v, RepAt B g (asked s).1 w1 mv sv pv → Below B w w1 → KeptG g w w1 → Kd.R (Kd.int .u8) 5 w1 w.heap.size (fun _ => True) v (getT (filesOf s) name).1 → Calls Try.prog 70 #[v, .pointer (some ⟨c0, 0, none⟩), .pointer (some ⟨c1, 0, none⟩)] w1 fun e w' => ∃ r, e = .returned (.int .i64 r) ∧ R r w') :
    Calls Try.prog 69 #[.pointer (some ⟨g, 0, none⟩), .string name, (.func (.func 70) #[] #[.pointer (some ⟨c0, 0, none⟩), .pointer (some ⟨c1, 0, none⟩)])] w fun e w' => ∃ r, e = .returned (.int .i64 r) ∧ R r w' := by
  have HDO := Aside0.mk hdo
  have H := Aside0.mk h
  have HF := Aside0.mk hf
  have HF1 := Aside0.mk hf1
  have HA := Aside0.mk ha
  have HOK := Aside0.mk hok
  clear h hf hf1 ha hok hdo
  obtain ⟨o0, ho0⟩ : ∃ o, o = Obj.cells #[.pointer (some ⟨g, 0, none⟩)] 58 := ⟨_, rfl⟩
  obtain ⟨o1, ho1⟩ : ∃ o, o = Obj.cells #[.string name] 9 := ⟨_, rfl⟩
  obtain ⟨o2, ho2⟩ : ∃ o, o = Obj.cells #[(.func (.func 70) #[] #[.pointer (some ⟨c0, 0, none⟩), .pointer (some ⟨c1, 0, none⟩)])] 113 := ⟨_, rfl⟩
  have hw3 : Below w.heap.size w (((w.alloc (Obj.cells #[.pointer (some ⟨g, 0, none⟩)] 58)).alloc (Obj.cells #[.string name] 9)).alloc (Obj.cells #[(.func (.func 70) #[] #[.pointer (some ⟨c0, 0, none⟩), .pointer (some ⟨c1, 0, none⟩)])] 113)) := below_alloc (below_alloc (below_alloc (Below.refl _ _) _) _) _
  have hp : VarP (((w.alloc (Obj.cells #[.pointer (some ⟨g, 0, none⟩)] 58)).alloc (Obj.cells #[.string name] 9)).alloc (Obj.cells #[(.func (.func 70) #[] #[.pointer (some ⟨c0, 0, none⟩), .pointer (some ⟨c1, 0, none⟩)])] 113)) w.heap.size g := blk_alloc (blk_alloc (heap_alloc_new _ _) _) _
  have hn : VarS (((w.alloc (Obj.cells #[.pointer (some ⟨g, 0, none⟩)] 58)).alloc (Obj.cells #[.string name] 9)).alloc (Obj.cells #[(.func (.func 70) #[] #[.pointer (some ⟨c0, 0, none⟩), .pointer (some ⟨c1, 0, none⟩)])] 113)) (w.heap.size + 1) name := by
    have := heap_alloc_new (w.alloc (Obj.cells #[.pointer (some ⟨g, 0, none⟩)] 58)) (Obj.cells #[.string name] 9)
    rw [World.size_alloc] at this
    exact blk_alloc this _
  have hc : VarC (((w.alloc (Obj.cells #[.pointer (some ⟨g, 0, none⟩)] 58)).alloc (Obj.cells #[.string name] 9)).alloc (Obj.cells #[(.func (.func 70) #[] #[.pointer (some ⟨c0, 0, none⟩), .pointer (some ⟨c1, 0, none⟩)])] 113)) (w.heap.size + 2) (.func (.func 70) #[] #[.pointer (some ⟨c0, 0, none⟩), .pointer (some ⟨c1, 0, none⟩)]) := by
    have := heap_alloc_new ((w.alloc (Obj.cells #[.pointer (some ⟨g, 0, none⟩)] 58)).alloc (Obj.cells #[.string name] 9)) (Obj.cells #[(.func (.func 70) #[] #[.pointer (some ⟨c0, 0, none⟩), .pointer (some ⟨c1, 0, none⟩)])] 113)
    rw [World.size_alloc, World.size_alloc] at this
    exact this
  have HW3 := Aside0.mk hw3
  have HP := Aside0.mk hp
  have HN := Aside0.mk hn
  have HC := Aside0.mk hc
  clear ho0 ho1 ho2 o0 o1 o2 hw3 hp hn hc
  have hg0 : g < w.heap.size := by exact blk_lt H.out.blk
  go_enter Try.func69, Try.ntmps69
  go_wp2_with (go_at_call 90; refine (call_ok93 w.heap.size (w.heap.size + 1) (w.heap.size + 2) R (H.out.below HW3.out) HF.out HA.out ?hclo).mono ?_; (case hclo =>
      intro w1 hr1 hb1 hk1
      have hne : ∀ b, w.heap.size ≤ b → b ≠ g := fun b hb => by omega
      refine of1_ok70 w.heap.size (w.heap.size + 1) (w.heap.size + 2) c0 c1 R hr1 HF1.out (blk_keptG HP.out hk1 (hne _ (by omega))) (blk_keptG HN.out hk1 (hne _ (by omega))) (blk_keptG HC.out hk1 (hne _ (by omega))) (by rw [asked_files]; exact HOK.out) ?_
      intro w2 v hr2 hb2 hv
      rw [asked_files] at hv
      refine HDO.out w2 v hr2 (belowB_trans (belowB_of hBw HW3.out) (belowB_trans hb1 (belowB_of (Nat.le_trans hBw (Nat.le_trans HW3.out.size hk1.1)) hb2))) ((KeptG.of_below HW3.out).trans (hk1.trans (KeptG.of_below hb2))) (Kd.R_lower hv (Nat.le_trans HW3.out.size hk1.1))); rintro e w7 ⟨r, rfl, hR⟩; have HR := Aside0.mk hR; clear hR)
  go_ret
  exact ⟨r, rfl, HR.out⟩

set_option maxHeartbeats 8000000 in
set_option maxRecDepth 100000 in
theorem of_none70 (c0 c1 : Nat) (h : RepAt B g s w mv sv pv) (hf : Fit s) (hf1 : Fit (asked s).1) (hBw : B ≤ w.heap.size) (ha : (asked s).2 = 0) (hok : (getT (filesOf s) name).2 = false) :
    Calls Try.prog 69 #[.pointer (some ⟨g, 0, none⟩), .string name, (.func (.func 70) #[] #[.pointer (some ⟨c0, 0, none⟩), .pointer (some ⟨c1, 0, none⟩)])] w fun e w' => ∃ r, e = .returned (.int .i64 r) ∧ r = 4 ∧ Rep B g (asked s).1 w' ∧ Below B w w' := by
  have H := Aside0.mk h
  have HF := Aside0.mk hf
  have HF1 := Aside0.mk hf1
  have HA := Aside0.mk ha
  have HOK := Aside0.mk hok
  clear h hf hf1 ha hok
  obtain ⟨o0, ho0⟩ : ∃ o, o = Obj.cells #[.pointer (some ⟨g, 0, none⟩)] 58 := ⟨_, rfl⟩
  obtain ⟨o1, ho1⟩ : ∃ o, o = Obj.cells #[.string name] 9 := ⟨_, rfl⟩
  obtain ⟨o2, ho2⟩ : ∃ o, o = Obj.cells #[(.func (.func 70) #[] #[.pointer (some ⟨c0, 0, none⟩), .pointer (some ⟨c1, 0, none⟩)])] 113 := ⟨_, rfl⟩
  have hw3 : Below w.heap.size w (((w.alloc (Obj.cells #[.pointer (some ⟨g, 0, none⟩)] 58)).alloc (Obj.cells #[.string name] 9)).alloc (Obj.cells #[(.func (.func 70) #[] #[.pointer (some ⟨c0, 0, none⟩), .pointer (some ⟨c1, 0, none⟩)])] 113)) := below_alloc (below_alloc (below_alloc (Below.refl _ _) _) _) _
  have hp : VarP (((w.alloc (Obj.cells #[.pointer (some ⟨g, 0, none⟩)] 58)).alloc (Obj.cells #[.string name] 9)).alloc (Obj.cells #[(.func (.func 70) #[] #[.pointer (some ⟨c0, 0, none⟩), .pointer (some ⟨c1, 0, none⟩)])] 113)) w.heap.size g := blk_alloc (blk_alloc (heap_alloc_new _ _) _) _
  have hn : VarS (((w.alloc (Obj.cells #[.pointer (some ⟨g, 0, none⟩)] 58)).alloc (Obj.cells #[.string name] 9)).alloc (Obj.cells #[(.func (.func 70) #[] #[.pointer (some ⟨c0, 0, none⟩), .pointer (some ⟨c1, 0, none⟩)])] 113)) (w.heap.size + 1) name := by
    have := heap_alloc_new (w.alloc (Obj.cells #[.pointer (some ⟨g, 0, none⟩)] 58)) (Obj.cells #[.string name] 9)
    rw [World.size_alloc] at this
    exact blk_alloc this _
  have hc : VarC (((w.alloc (Obj.cells #[.pointer (some ⟨g, 0, none⟩)] 58)).alloc (Obj.cells #[.string name] 9)).alloc (Obj.cells #[(.func (.func 70) #[] #[.pointer (some ⟨c0, 0, none⟩), .pointer (some ⟨c1, 0, none⟩)])] 113)) (w.heap.size + 2) (.func (.func 70) #[] #[.pointer (some ⟨c0, 0, none⟩), .pointer (some ⟨c1, 0, none⟩)]) := by
    have := heap_alloc_new ((w.alloc (Obj.cells #[.pointer (some ⟨g, 0, none⟩)] 58)).alloc (Obj.cells #[.string name] 9)) (Obj.cells #[(.func (.func 70) #[] #[.pointer (some ⟨c0, 0, none⟩), .pointer (some ⟨c1, 0, none⟩)])] 113)
    rw [World.size_alloc, World.size_alloc] at this
    exact this
  have HW3 := Aside0.mk hw3
  have HP := Aside0.mk hp
  have HN := Aside0.mk hn
  have HC := Aside0.mk hc
  clear ho0 ho1 ho2 o0 o1 o2 hw3 hp hn hc
  have hg0 : g < w.heap.size := by exact blk_lt H.out.blk
  go_enter Try.func69, Try.ntmps69
  go_wp2_with (go_at_call 90; refine (call_ok93 w.heap.size (w.heap.size + 1) (w.heap.size + 2) (fun r w' => r = 4 ∧ Rep B g (asked s).1 w' ∧ Below B w w') (H.out.below HW3.out) HF.out HA.out ?hclo).mono ?_; (case hclo =>
      intro w1 hr1 hb1 hk1
      have hne : ∀ b, w.heap.size ≤ b → b ≠ g := fun b hb => by omega
      refine (of1_none w.heap.size (w.heap.size + 1) (w.heap.size + 2) (.func (.func 70) #[] #[.pointer (some ⟨c0, 0, none⟩), .pointer (some ⟨c1, 0, none⟩)]) hr1 HF1.out (blk_keptG HP.out hk1 (hne _ (by omega))) (blk_keptG HN.out hk1 (hne _ (by omega))) (blk_keptG HC.out hk1 (hne _ (by omega))) (by rw [asked_files]; exact HOK.out)).mono ?_
      rintro e w2 ⟨rfl, hr2, hb2⟩
      exact ⟨4, rfl, rfl, ⟨mv, sv, pv, hr2⟩, belowB_trans (belowB_of hBw HW3.out) (belowB_trans hb1 (belowB_of (Nat.le_trans hBw (Nat.le_trans HW3.out.size hk1.1)) hb2))⟩); rintro e w7 ⟨r, rfl, rfl, hr7, hb7⟩; have HR7 := Aside0.mk hr7; have HB7 := Aside0.mk hb7; clear hr7 hb7)
  go_ret
  exact ⟨4, rfl, rfl, HR7.out, HB7.out⟩

set_option maxHeartbeats 8000000 in
set_option maxRecDepth 100000 in
theorem of_err70 (c0 c1 : Nat) (h : Rep B g s w) (hf : Fit s) (hBw : B ≤ w.heap.size) (ha : (asked s).2 ≠ 0) :
    Calls Try.prog 69 #[.pointer (some ⟨g, 0, none⟩), .string name, (.func (.func 70) #[] #[.pointer (some ⟨c0, 0, none⟩), .pointer (some ⟨c1, 0, none⟩)])] w fun e w' => ∃ r, e = .returned (.int .i64 r) ∧ r = (asked s).2 ∧ Rep B g (asked s).1 w' ∧ Below B w w' := by
  have H := Aside0.mk h
  have HF := Aside0.mk hf
  have HA := Aside0.mk ha
  have hw3 : Below w.heap.size w (((w.alloc (Obj.cells #[.pointer (some ⟨g, 0, none⟩)] 58)).alloc (Obj.cells #[.string name] 9)).alloc (Obj.cells #[(.func (.func 70) #[] #[.pointer (some ⟨c0, 0, none⟩), .pointer (some ⟨c1, 0, none⟩)])] 113)) := below_alloc (below_alloc (below_alloc (Below.refl _ _) _) _) _
  have HW3 := Aside0.mk hw3
  clear h hf ha hw3
  go_enter Try.func69, Try.ntmps69
  go_wp2_with (go_at_call 90; refine (call_err _ (H.out.below HW3.out) HF.out HA.out).mono ?_; rintro e w7 ⟨rfl, hr7, hb7, hk7⟩; have HR7 := Aside0.mk hr7; have HB7 := Aside0.mk (belowB_trans (belowB_of hBw HW3.out) hb7); clear hr7 hb7 hk7)
  go_ret
  exact ⟨_, rfl, rfl, HR7.out, HB7.out⟩


set_option maxHeartbeats 8000000 in
set_option maxRecDepth 100000 in
theorem of1_ok96 (b0 b1 b2 c0 c1 : Nat) (R : Int → World → Prop) (h : RepAt B g s w mv sv pv) (hf : Fit s) (hp : VarP w b0 g) (hn : VarS w b1 name) (hc : VarC w b2 (.func (.func 96) #[] #[.pointer (some ⟨c0, 0, none⟩), .pointer (some ⟨c1, 0, none⟩)])) (hok : (getT (filesOf s) name).2 = true)
    (hdo : ∀ w1 v, RepAt B g s w1 mv sv pv → Below w.heap.size w w1 → Kd.R (Kd.int .u8) 5 w1 w.heap.size (fun _ => True) v (getT (filesOf s) name).1 → Calls Try.prog 96 #[v, .pointer (some ⟨c0, 0, none⟩), .pointer (some ⟨c1, 0, none⟩)] w1 fun e w' => ∃ r, e = .returned (.int .i64 r) ∧ R r w') :
    Calls Try.prog 93 #[.pointer (some ⟨b0, 0, none⟩), .pointer (some ⟨b1, 0, none⟩), .pointer (some ⟨b2, 0, none⟩)] w fun e w' => ∃ r, e = .returned (.int .i64 r) ∧ R r w' := by
  have HDO := Aside0.mk hdo
  clear hdo
  have hk0 : OfS B g s mv sv pv name b0 b1 b2 (.func (.func 96) #[] #[.pointer (some ⟨c0, 0, none⟩), .pointer (some ⟨c1, 0, none⟩)]) w w := ⟨h, hp, hn, hc, Below.refl _ _⟩
  have HF := Aside0.mk hf
  obtain ⟨hfo, hfl⟩ := files_ok hf
  have HFO := Aside0.mk hfo
  have hge := get_f (filesOf s) name (by omega) hfo
  rw [hok] at hge
  have HGE := Aside0.mk hge
  clear h hp hn hc hf hfo hge
  go_enter Try.func93, Try.ntmps93
  go_wp2_with fail
  go_region_held3 (fun w' => w'.cell? ⟨b0, 0, none⟩ = some (.pointer (some ⟨g, 0, none⟩)) ∧ w'.cell? ⟨b1, 0, none⟩ = some (.string name) ∧ OfS B g s mv sv pv name b0 b1 b2 (.func (.func 96) #[] #[.pointer (some ⟨c0, 0, none⟩), .pointer (some ⟨c1, 0, none⟩)]) w w')
    (first
      | exact (hk0.step (below_drew1 (Below.refl _ _))).all
      | (go_split_ands
         first
          | exact OfS.all (OfS.step (by assumption) hb6)
          | exact OfS.all (OfS.step (by assumption) hb5))
      | go_keep)
    (first
      | (go_split_ands; go_at_call 42; refine (files_calls ⟨mv, sv, pv, OfS.rep (by assumption)⟩ HF.out).mono ?_; rintro e w5 ⟨v5, rfl, hV5, hb5⟩; obtain ⟨A5, c5, rfl⟩ := Kd.V_slice hV5)
      | (go_split_ands
         go_at_call 28
         ((with_reducible refine (files_Get.calls A5 c5 (filesOf s) name (getT (filesOf s) name).1 true _ ?hs ?hc HGE.out).mono ?_); (case hs => exact (Kd.V_reads' hV5).2.2); (case hc => exact (Kd.V_reads' hV5).2.1))
         rintro e w6 ⟨v6, rfl, hV6, hb6⟩))
  have hfin : OfS B g s mv sv pv name b0 b1 b2 (.func (.func 96) #[] #[.pointer (some ⟨c0, 0, none⟩), .pointer (some ⟨c1, 0, none⟩)]) w w6 := by go_split_ands; assumption
  have h5 : OfS B g s mv sv pv name b0 b1 b2 (.func (.func 96) #[] #[.pointer (some ⟨c0, 0, none⟩), .pointer (some ⟨c1, 0, none⟩)]) w w5 := by go_split_ands; assumption
  have hc6 := hfin.c.cell
  have HFIN := Aside0.mk hfin
  have HV6 := Aside0.mk (Kd.R_lower hV6 h5.below.size)
  clear hk0 hfin hV6 hV5 hb5 hb6 h5
  go_wp2_with (go_at_call 96; refine (HDO.out _ _ HFIN.out.rep HFIN.out.below HV6.out).mono ?_; rintro e w7 ⟨r, rfl, hR⟩; have HR := Aside0.mk hR; clear hR)
  go_ret
  exact ⟨r, rfl, HR.out⟩

set_option maxHeartbeats 8000000 in
set_option maxRecDepth 100000 in
theorem of_ok96 (c0 c1 : Nat) (R : Int → World → Prop) (h : RepAt B g s w mv sv pv) (hf : Fit s) (hf1 : Fit (asked s).1) (hBw : B ≤ w.heap.size) (ha : (asked s).2 = 0) (hok : (getT (filesOf s) name).2 = true)
    (hdo : ∀ w1 v, RepAt B g (asked s).1 w1 mv sv pv → Below B w w1 → KeptG g w w1 → Kd.R (Kd.int .u8) 5 w1 w.heap.size (fun _ => True) v (getT (filesOf s) name).1 → Calls Try.prog 96 #[v, .pointer (some ⟨c0, 0, none⟩), .pointer (some ⟨c1, 0, none⟩)] w1 fun e w' => ∃ r, e = .returned (.int .i64 r) ∧ R r w') :
    Calls Try.prog 69 #[.pointer (some ⟨g, 0, none⟩), .string name, (.func (.func 96) #[] #[.pointer (some ⟨c0, 0, none⟩), .pointer (some ⟨c1, 0, none⟩)])] w fun e w' => ∃ r, e = .returned (.int .i64 r) ∧ R r w' := by
  have HDO := Aside0.mk hdo
  have H := Aside0.mk h
  have HF := Aside0.mk hf
  have HF1 := Aside0.mk hf1
  have HA := Aside0.mk ha
  have HOK := Aside0.mk hok
  clear h hf hf1 ha hok hdo
  obtain ⟨o0, ho0⟩ : ∃ o, o = Obj.cells #[.pointer (some ⟨g, 0, none⟩)] 58 := ⟨_, rfl⟩
  obtain ⟨o1, ho1⟩ : ∃ o, o = Obj.cells #[.string name] 9 := ⟨_, rfl⟩
  obtain ⟨o2, ho2⟩ : ∃ o, o = Obj.cells #[(.func (.func 96) #[] #[.pointer (some ⟨c0, 0, none⟩), .pointer (some ⟨c1, 0, none⟩)])] 113 := ⟨_, rfl⟩
  have hw3 : Below w.heap.size w (((w.alloc (Obj.cells #[.pointer (some ⟨g, 0, none⟩)] 58)).alloc (Obj.cells #[.string name] 9)).alloc (Obj.cells #[(.func (.func 96) #[] #[.pointer (some ⟨c0, 0, none⟩), .pointer (some ⟨c1, 0, none⟩)])] 113)) := below_alloc (below_alloc (below_alloc (Below.refl _ _) _) _) _
  have hp : VarP (((w.alloc (Obj.cells #[.pointer (some ⟨g, 0, none⟩)] 58)).alloc (Obj.cells #[.string name] 9)).alloc (Obj.cells #[(.func (.func 96) #[] #[.pointer (some ⟨c0, 0, none⟩), .pointer (some ⟨c1, 0, none⟩)])] 113)) w.heap.size g := blk_alloc (blk_alloc (heap_alloc_new _ _) _) _
  have hn : VarS (((w.alloc (Obj.cells #[.pointer (some ⟨g, 0, none⟩)] 58)).alloc (Obj.cells #[.string name] 9)).alloc (Obj.cells #[(.func (.func 96) #[] #[.pointer (some ⟨c0, 0, none⟩), .pointer (some ⟨c1, 0, none⟩)])] 113)) (w.heap.size + 1) name := by
    have := heap_alloc_new (w.alloc (Obj.cells #[.pointer (some ⟨g, 0, none⟩)] 58)) (Obj.cells #[.string name] 9)
    rw [World.size_alloc] at this
    exact blk_alloc this _
  have hc : VarC (((w.alloc (Obj.cells #[.pointer (some ⟨g, 0, none⟩)] 58)).alloc (Obj.cells #[.string name] 9)).alloc (Obj.cells #[(.func (.func 96) #[] #[.pointer (some ⟨c0, 0, none⟩), .pointer (some ⟨c1, 0, none⟩)])] 113)) (w.heap.size + 2) (.func (.func 96) #[] #[.pointer (some ⟨c0, 0, none⟩), .pointer (some ⟨c1, 0, none⟩)]) := by
    have := heap_alloc_new ((w.alloc (Obj.cells #[.pointer (some ⟨g, 0, none⟩)] 58)).alloc (Obj.cells #[.string name] 9)) (Obj.cells #[(.func (.func 96) #[] #[.pointer (some ⟨c0, 0, none⟩), .pointer (some ⟨c1, 0, none⟩)])] 113)
    rw [World.size_alloc, World.size_alloc] at this
    exact this
  have HW3 := Aside0.mk hw3
  have HP := Aside0.mk hp
  have HN := Aside0.mk hn
  have HC := Aside0.mk hc
  clear ho0 ho1 ho2 o0 o1 o2 hw3 hp hn hc
  have hg0 : g < w.heap.size := by exact blk_lt H.out.blk
  go_enter Try.func69, Try.ntmps69
  go_wp2_with (go_at_call 90; refine (call_ok93 w.heap.size (w.heap.size + 1) (w.heap.size + 2) R (H.out.below HW3.out) HF.out HA.out ?hclo).mono ?_; (case hclo =>
      intro w1 hr1 hb1 hk1
      have hne : ∀ b, w.heap.size ≤ b → b ≠ g := fun b hb => by omega
      refine of1_ok96 w.heap.size (w.heap.size + 1) (w.heap.size + 2) c0 c1 R hr1 HF1.out (blk_keptG HP.out hk1 (hne _ (by omega))) (blk_keptG HN.out hk1 (hne _ (by omega))) (blk_keptG HC.out hk1 (hne _ (by omega))) (by rw [asked_files]; exact HOK.out) ?_
      intro w2 v hr2 hb2 hv
      rw [asked_files] at hv
      refine HDO.out w2 v hr2 (belowB_trans (belowB_of hBw HW3.out) (belowB_trans hb1 (belowB_of (Nat.le_trans hBw (Nat.le_trans HW3.out.size hk1.1)) hb2))) ((KeptG.of_below HW3.out).trans (hk1.trans (KeptG.of_below hb2))) (Kd.R_lower hv (Nat.le_trans HW3.out.size hk1.1))); rintro e w7 ⟨r, rfl, hR⟩; have HR := Aside0.mk hR; clear hR)
  go_ret
  exact ⟨r, rfl, HR.out⟩

set_option maxHeartbeats 8000000 in
set_option maxRecDepth 100000 in
theorem of_none96 (c0 c1 : Nat) (h : RepAt B g s w mv sv pv) (hf : Fit s) (hf1 : Fit (asked s).1) (hBw : B ≤ w.heap.size) (ha : (asked s).2 = 0) (hok : (getT (filesOf s) name).2 = false) :
    Calls Try.prog 69 #[.pointer (some ⟨g, 0, none⟩), .string name, (.func (.func 96) #[] #[.pointer (some ⟨c0, 0, none⟩), .pointer (some ⟨c1, 0, none⟩)])] w fun e w' => ∃ r, e = .returned (.int .i64 r) ∧ r = 4 ∧ Rep B g (asked s).1 w' ∧ Below B w w' := by
  have H := Aside0.mk h
  have HF := Aside0.mk hf
  have HF1 := Aside0.mk hf1
  have HA := Aside0.mk ha
  have HOK := Aside0.mk hok
  clear h hf hf1 ha hok
  obtain ⟨o0, ho0⟩ : ∃ o, o = Obj.cells #[.pointer (some ⟨g, 0, none⟩)] 58 := ⟨_, rfl⟩
  obtain ⟨o1, ho1⟩ : ∃ o, o = Obj.cells #[.string name] 9 := ⟨_, rfl⟩
  obtain ⟨o2, ho2⟩ : ∃ o, o = Obj.cells #[(.func (.func 96) #[] #[.pointer (some ⟨c0, 0, none⟩), .pointer (some ⟨c1, 0, none⟩)])] 113 := ⟨_, rfl⟩
  have hw3 : Below w.heap.size w (((w.alloc (Obj.cells #[.pointer (some ⟨g, 0, none⟩)] 58)).alloc (Obj.cells #[.string name] 9)).alloc (Obj.cells #[(.func (.func 96) #[] #[.pointer (some ⟨c0, 0, none⟩), .pointer (some ⟨c1, 0, none⟩)])] 113)) := below_alloc (below_alloc (below_alloc (Below.refl _ _) _) _) _
  have hp : VarP (((w.alloc (Obj.cells #[.pointer (some ⟨g, 0, none⟩)] 58)).alloc (Obj.cells #[.string name] 9)).alloc (Obj.cells #[(.func (.func 96) #[] #[.pointer (some ⟨c0, 0, none⟩), .pointer (some ⟨c1, 0, none⟩)])] 113)) w.heap.size g := blk_alloc (blk_alloc (heap_alloc_new _ _) _) _
  have hn : VarS (((w.alloc (Obj.cells #[.pointer (some ⟨g, 0, none⟩)] 58)).alloc (Obj.cells #[.string name] 9)).alloc (Obj.cells #[(.func (.func 96) #[] #[.pointer (some ⟨c0, 0, none⟩), .pointer (some ⟨c1, 0, none⟩)])] 113)) (w.heap.size + 1) name := by
    have := heap_alloc_new (w.alloc (Obj.cells #[.pointer (some ⟨g, 0, none⟩)] 58)) (Obj.cells #[.string name] 9)
    rw [World.size_alloc] at this
    exact blk_alloc this _
  have hc : VarC (((w.alloc (Obj.cells #[.pointer (some ⟨g, 0, none⟩)] 58)).alloc (Obj.cells #[.string name] 9)).alloc (Obj.cells #[(.func (.func 96) #[] #[.pointer (some ⟨c0, 0, none⟩), .pointer (some ⟨c1, 0, none⟩)])] 113)) (w.heap.size + 2) (.func (.func 96) #[] #[.pointer (some ⟨c0, 0, none⟩), .pointer (some ⟨c1, 0, none⟩)]) := by
    have := heap_alloc_new ((w.alloc (Obj.cells #[.pointer (some ⟨g, 0, none⟩)] 58)).alloc (Obj.cells #[.string name] 9)) (Obj.cells #[(.func (.func 96) #[] #[.pointer (some ⟨c0, 0, none⟩), .pointer (some ⟨c1, 0, none⟩)])] 113)
    rw [World.size_alloc, World.size_alloc] at this
    exact this
  have HW3 := Aside0.mk hw3
  have HP := Aside0.mk hp
  have HN := Aside0.mk hn
  have HC := Aside0.mk hc
  clear ho0 ho1 ho2 o0 o1 o2 hw3 hp hn hc
  have hg0 : g < w.heap.size := by exact blk_lt H.out.blk
  go_enter Try.func69, Try.ntmps69
  go_wp2_with (go_at_call 90; refine (call_ok93 w.heap.size (w.heap.size + 1) (w.heap.size + 2) (fun r w' => r = 4 ∧ Rep B g (asked s).1 w' ∧ Below B w w') (H.out.below HW3.out) HF.out HA.out ?hclo).mono ?_; (case hclo =>
      intro w1 hr1 hb1 hk1
      have hne : ∀ b, w.heap.size ≤ b → b ≠ g := fun b hb => by omega
      refine (of1_none w.heap.size (w.heap.size + 1) (w.heap.size + 2) (.func (.func 96) #[] #[.pointer (some ⟨c0, 0, none⟩), .pointer (some ⟨c1, 0, none⟩)]) hr1 HF1.out (blk_keptG HP.out hk1 (hne _ (by omega))) (blk_keptG HN.out hk1 (hne _ (by omega))) (blk_keptG HC.out hk1 (hne _ (by omega))) (by rw [asked_files]; exact HOK.out)).mono ?_
      rintro e w2 ⟨rfl, hr2, hb2⟩
      exact ⟨4, rfl, rfl, ⟨mv, sv, pv, hr2⟩, belowB_trans (belowB_of hBw HW3.out) (belowB_trans hb1 (belowB_of (Nat.le_trans hBw (Nat.le_trans HW3.out.size hk1.1)) hb2))⟩); rintro e w7 ⟨r, rfl, rfl, hr7, hb7⟩; have HR7 := Aside0.mk hr7; have HB7 := Aside0.mk hb7; clear hr7 hb7)
  go_ret
  exact ⟨4, rfl, rfl, HR7.out, HB7.out⟩

set_option maxHeartbeats 8000000 in
set_option maxRecDepth 100000 in
theorem of_err96 (c0 c1 : Nat) (h : Rep B g s w) (hf : Fit s) (hBw : B ≤ w.heap.size) (ha : (asked s).2 ≠ 0) :
    Calls Try.prog 69 #[.pointer (some ⟨g, 0, none⟩), .string name, (.func (.func 96) #[] #[.pointer (some ⟨c0, 0, none⟩), .pointer (some ⟨c1, 0, none⟩)])] w fun e w' => ∃ r, e = .returned (.int .i64 r) ∧ r = (asked s).2 ∧ Rep B g (asked s).1 w' ∧ Below B w w' := by
  have H := Aside0.mk h
  have HF := Aside0.mk hf
  have HA := Aside0.mk ha
  have hw3 : Below w.heap.size w (((w.alloc (Obj.cells #[.pointer (some ⟨g, 0, none⟩)] 58)).alloc (Obj.cells #[.string name] 9)).alloc (Obj.cells #[(.func (.func 96) #[] #[.pointer (some ⟨c0, 0, none⟩), .pointer (some ⟨c1, 0, none⟩)])] 113)) := below_alloc (below_alloc (below_alloc (Below.refl _ _) _) _) _
  have HW3 := Aside0.mk hw3
  clear h hf ha hw3
  go_enter Try.func69, Try.ntmps69
  go_wp2_with (go_at_call 90; refine (call_err _ (H.out.below HW3.out) HF.out HA.out).mono ?_; rintro e w7 ⟨rfl, hr7, hb7, hk7⟩; have HR7 := Aside0.mk hr7; have HB7 := Aside0.mk (belowB_trans (belowB_of hBw HW3.out) hb7); clear hr7 hb7 hk7)
  go_ret
  exact ⟨_, rfl, rfl, HR7.out, HB7.out⟩


set_option maxHeartbeats 8000000 in
set_option maxRecDepth 100000 in
theorem of1_ok77 (b0 b1 b2 c0 c1 c2 : Nat) (R : Int → World → Prop) (h : RepAt B g s w mv sv pv) (hf : Fit s) (hp : VarP w b0 g) (hn : VarS w b1 name) (hc : VarC w b2 (.func (.func 77) #[] #[.pointer (some ⟨c0, 0, none⟩), .pointer (some ⟨c1, 0, none⟩), .pointer (some ⟨c2, 0, none⟩)])) (hok : (getT (filesOf s) name).2 = true)
    (hdo : ∀ w1 v, RepAt B g s w1 mv sv pv → Below w.heap.size w w1 → Kd.R (Kd.int .u8) 5 w1 w.heap.size (fun _ => True) v (getT (filesOf s) name).1 → Calls Try.prog 77 #[v, .pointer (some ⟨c0, 0, none⟩), .pointer (some ⟨c1, 0, none⟩), .pointer (some ⟨c2, 0, none⟩)] w1 fun e w' => ∃ r, e = .returned (.int .i64 r) ∧ R r w') :
    Calls Try.prog 93 #[.pointer (some ⟨b0, 0, none⟩), .pointer (some ⟨b1, 0, none⟩), .pointer (some ⟨b2, 0, none⟩)] w fun e w' => ∃ r, e = .returned (.int .i64 r) ∧ R r w' := by
  have HDO := Aside0.mk hdo
  clear hdo
  have hk0 : OfS B g s mv sv pv name b0 b1 b2 (.func (.func 77) #[] #[.pointer (some ⟨c0, 0, none⟩), .pointer (some ⟨c1, 0, none⟩), .pointer (some ⟨c2, 0, none⟩)]) w w := ⟨h, hp, hn, hc, Below.refl _ _⟩
  have HF := Aside0.mk hf
  obtain ⟨hfo, hfl⟩ := files_ok hf
  have HFO := Aside0.mk hfo
  have hge := get_f (filesOf s) name (by omega) hfo
  rw [hok] at hge
  have HGE := Aside0.mk hge
  clear h hp hn hc hf hfo hge
  go_enter Try.func93, Try.ntmps93
  go_wp2_with fail
  go_region_held3 (fun w' => w'.cell? ⟨b0, 0, none⟩ = some (.pointer (some ⟨g, 0, none⟩)) ∧ w'.cell? ⟨b1, 0, none⟩ = some (.string name) ∧ OfS B g s mv sv pv name b0 b1 b2 (.func (.func 77) #[] #[.pointer (some ⟨c0, 0, none⟩), .pointer (some ⟨c1, 0, none⟩), .pointer (some ⟨c2, 0, none⟩)]) w w')
    (first
      | exact (hk0.step (below_drew1 (Below.refl _ _))).all
      | (go_split_ands
         first
          | exact OfS.all (OfS.step (by assumption) hb6)
          | exact OfS.all (OfS.step (by assumption) hb5))
      | go_keep)
    (first
      | (go_split_ands; go_at_call 42; refine (files_calls ⟨mv, sv, pv, OfS.rep (by assumption)⟩ HF.out).mono ?_; rintro e w5 ⟨v5, rfl, hV5, hb5⟩; obtain ⟨A5, c5, rfl⟩ := Kd.V_slice hV5)
      | (go_split_ands
         go_at_call 28
         ((with_reducible refine (files_Get.calls A5 c5 (filesOf s) name (getT (filesOf s) name).1 true _ ?hs ?hc HGE.out).mono ?_); (case hs => exact (Kd.V_reads' hV5).2.2); (case hc => exact (Kd.V_reads' hV5).2.1))
         rintro e w6 ⟨v6, rfl, hV6, hb6⟩))
  have hfin : OfS B g s mv sv pv name b0 b1 b2 (.func (.func 77) #[] #[.pointer (some ⟨c0, 0, none⟩), .pointer (some ⟨c1, 0, none⟩), .pointer (some ⟨c2, 0, none⟩)]) w w6 := by go_split_ands; assumption
  have h5 : OfS B g s mv sv pv name b0 b1 b2 (.func (.func 77) #[] #[.pointer (some ⟨c0, 0, none⟩), .pointer (some ⟨c1, 0, none⟩), .pointer (some ⟨c2, 0, none⟩)]) w w5 := by go_split_ands; assumption
  have hc6 := hfin.c.cell
  have HFIN := Aside0.mk hfin
  have HV6 := Aside0.mk (Kd.R_lower hV6 h5.below.size)
  clear hk0 hfin hV6 hV5 hb5 hb6 h5
  go_wp2_with (go_at_call 77; refine (HDO.out _ _ HFIN.out.rep HFIN.out.below HV6.out).mono ?_; rintro e w7 ⟨r, rfl, hR⟩; have HR := Aside0.mk hR; clear hR)
  go_ret
  exact ⟨r, rfl, HR.out⟩

set_option maxHeartbeats 8000000 in
set_option maxRecDepth 100000 in
theorem of_ok77 (c0 c1 c2 : Nat) (R : Int → World → Prop) (h : RepAt B g s w mv sv pv) (hf : Fit s) (hf1 : Fit (asked s).1) (hBw : B ≤ w.heap.size) (ha : (asked s).2 = 0) (hok : (getT (filesOf s) name).2 = true)
    (hdo : ∀ w1 v, RepAt B g (asked s).1 w1 mv sv pv → Below B w w1 → KeptG g w w1 → Kd.R (Kd.int .u8) 5 w1 w.heap.size (fun _ => True) v (getT (filesOf s) name).1 → Calls Try.prog 77 #[v, .pointer (some ⟨c0, 0, none⟩), .pointer (some ⟨c1, 0, none⟩), .pointer (some ⟨c2, 0, none⟩)] w1 fun e w' => ∃ r, e = .returned (.int .i64 r) ∧ R r w') :
    Calls Try.prog 69 #[.pointer (some ⟨g, 0, none⟩), .string name, (.func (.func 77) #[] #[.pointer (some ⟨c0, 0, none⟩), .pointer (some ⟨c1, 0, none⟩), .pointer (some ⟨c2, 0, none⟩)])] w fun e w' => ∃ r, e = .returned (.int .i64 r) ∧ R r w' := by
  have HDO := Aside0.mk hdo
  have H := Aside0.mk h
  have HF := Aside0.mk hf
  have HF1 := Aside0.mk hf1
  have HA := Aside0.mk ha
  have HOK := Aside0.mk hok
  clear h hf hf1 ha hok hdo
  obtain ⟨o0, ho0⟩ : ∃ o, o = Obj.cells #[.pointer (some ⟨g, 0, none⟩)] 58 := ⟨_, rfl⟩
  obtain ⟨o1, ho1⟩ : ∃ o, o = Obj.cells #[.string name] 9 := ⟨_, rfl⟩
  obtain ⟨o2, ho2⟩ : ∃ o, o = Obj.cells #[(.func (.func 77) #[] #[.pointer (some ⟨c0, 0, none⟩), .pointer (some ⟨c1, 0, none⟩), .pointer (some ⟨c2, 0, none⟩)])] 113 := ⟨_, rfl⟩
  have hw3 : Below w.heap.size w (((w.alloc (Obj.cells #[.pointer (some ⟨g, 0, none⟩)] 58)).alloc (Obj.cells #[.string name] 9)).alloc (Obj.cells #[(.func (.func 77) #[] #[.pointer (some ⟨c0, 0, none⟩), .pointer (some ⟨c1, 0, none⟩), .pointer (some ⟨c2, 0, none⟩)])] 113)) := below_alloc (below_alloc (below_alloc (Below.refl _ _) _) _) _
  have hp : VarP (((w.alloc (Obj.cells #[.pointer (some ⟨g, 0, none⟩)] 58)).alloc (Obj.cells #[.string name] 9)).alloc (Obj.cells #[(.func (.func 77) #[] #[.pointer (some ⟨c0, 0, none⟩), .pointer (some ⟨c1, 0, none⟩), .pointer (some ⟨c2, 0, none⟩)])] 113)) w.heap.size g := blk_alloc (blk_alloc (heap_alloc_new _ _) _) _
  have hn : VarS (((w.alloc (Obj.cells #[.pointer (some ⟨g, 0, none⟩)] 58)).alloc (Obj.cells #[.string name] 9)).alloc (Obj.cells #[(.func (.func 77) #[] #[.pointer (some ⟨c0, 0, none⟩), .pointer (some ⟨c1, 0, none⟩), .pointer (some ⟨c2, 0, none⟩)])] 113)) (w.heap.size + 1) name := by
    have := heap_alloc_new (w.alloc (Obj.cells #[.pointer (some ⟨g, 0, none⟩)] 58)) (Obj.cells #[.string name] 9)
    rw [World.size_alloc] at this
    exact blk_alloc this _
  have hc : VarC (((w.alloc (Obj.cells #[.pointer (some ⟨g, 0, none⟩)] 58)).alloc (Obj.cells #[.string name] 9)).alloc (Obj.cells #[(.func (.func 77) #[] #[.pointer (some ⟨c0, 0, none⟩), .pointer (some ⟨c1, 0, none⟩), .pointer (some ⟨c2, 0, none⟩)])] 113)) (w.heap.size + 2) (.func (.func 77) #[] #[.pointer (some ⟨c0, 0, none⟩), .pointer (some ⟨c1, 0, none⟩), .pointer (some ⟨c2, 0, none⟩)]) := by
    have := heap_alloc_new ((w.alloc (Obj.cells #[.pointer (some ⟨g, 0, none⟩)] 58)).alloc (Obj.cells #[.string name] 9)) (Obj.cells #[(.func (.func 77) #[] #[.pointer (some ⟨c0, 0, none⟩), .pointer (some ⟨c1, 0, none⟩), .pointer (some ⟨c2, 0, none⟩)])] 113)
    rw [World.size_alloc, World.size_alloc] at this
    exact this
  have HW3 := Aside0.mk hw3
  have HP := Aside0.mk hp
  have HN := Aside0.mk hn
  have HC := Aside0.mk hc
  clear ho0 ho1 ho2 o0 o1 o2 hw3 hp hn hc
  have hg0 : g < w.heap.size := by exact blk_lt H.out.blk
  go_enter Try.func69, Try.ntmps69
  go_wp2_with (go_at_call 90; refine (call_ok93 w.heap.size (w.heap.size + 1) (w.heap.size + 2) R (H.out.below HW3.out) HF.out HA.out ?hclo).mono ?_; (case hclo =>
      intro w1 hr1 hb1 hk1
      have hne : ∀ b, w.heap.size ≤ b → b ≠ g := fun b hb => by omega
      refine of1_ok77 w.heap.size (w.heap.size + 1) (w.heap.size + 2) c0 c1 c2 R hr1 HF1.out (blk_keptG HP.out hk1 (hne _ (by omega))) (blk_keptG HN.out hk1 (hne _ (by omega))) (blk_keptG HC.out hk1 (hne _ (by omega))) (by rw [asked_files]; exact HOK.out) ?_
      intro w2 v hr2 hb2 hv
      rw [asked_files] at hv
      refine HDO.out w2 v hr2 (belowB_trans (belowB_of hBw HW3.out) (belowB_trans hb1 (belowB_of (Nat.le_trans hBw (Nat.le_trans HW3.out.size hk1.1)) hb2))) ((KeptG.of_below HW3.out).trans (hk1.trans (KeptG.of_below hb2))) (Kd.R_lower hv (Nat.le_trans HW3.out.size hk1.1))); rintro e w7 ⟨r, rfl, hR⟩; have HR := Aside0.mk hR; clear hR)
  go_ret
  exact ⟨r, rfl, HR.out⟩

set_option maxHeartbeats 8000000 in
set_option maxRecDepth 100000 in
theorem of_none77 (c0 c1 c2 : Nat) (h : RepAt B g s w mv sv pv) (hf : Fit s) (hf1 : Fit (asked s).1) (hBw : B ≤ w.heap.size) (ha : (asked s).2 = 0) (hok : (getT (filesOf s) name).2 = false) :
    Calls Try.prog 69 #[.pointer (some ⟨g, 0, none⟩), .string name, (.func (.func 77) #[] #[.pointer (some ⟨c0, 0, none⟩), .pointer (some ⟨c1, 0, none⟩), .pointer (some ⟨c2, 0, none⟩)])] w fun e w' => ∃ r, e = .returned (.int .i64 r) ∧ r = 4 ∧ Rep B g (asked s).1 w' ∧ Below B w w' := by
  have H := Aside0.mk h
  have HF := Aside0.mk hf
  have HF1 := Aside0.mk hf1
  have HA := Aside0.mk ha
  have HOK := Aside0.mk hok
  clear h hf hf1 ha hok
  obtain ⟨o0, ho0⟩ : ∃ o, o = Obj.cells #[.pointer (some ⟨g, 0, none⟩)] 58 := ⟨_, rfl⟩
  obtain ⟨o1, ho1⟩ : ∃ o, o = Obj.cells #[.string name] 9 := ⟨_, rfl⟩
  obtain ⟨o2, ho2⟩ : ∃ o, o = Obj.cells #[(.func (.func 77) #[] #[.pointer (some ⟨c0, 0, none⟩), .pointer (some ⟨c1, 0, none⟩), .pointer (some ⟨c2, 0, none⟩)])] 113 := ⟨_, rfl⟩
  have hw3 : Below w.heap.size w (((w.alloc (Obj.cells #[.pointer (some ⟨g, 0, none⟩)] 58)).alloc (Obj.cells #[.string name] 9)).alloc (Obj.cells #[(.func (.func 77) #[] #[.pointer (some ⟨c0, 0, none⟩), .pointer (some ⟨c1, 0, none⟩), .pointer (some ⟨c2, 0, none⟩)])] 113)) := below_alloc (below_alloc (below_alloc (Below.refl _ _) _) _) _
  have hp : VarP (((w.alloc (Obj.cells #[.pointer (some ⟨g, 0, none⟩)] 58)).alloc (Obj.cells #[.string name] 9)).alloc (Obj.cells #[(.func (.func 77) #[] #[.pointer (some ⟨c0, 0, none⟩), .pointer (some ⟨c1, 0, none⟩), .pointer (some ⟨c2, 0, none⟩)])] 113)) w.heap.size g := blk_alloc (blk_alloc (heap_alloc_new _ _) _) _
  have hn : VarS (((w.alloc (Obj.cells #[.pointer (some ⟨g, 0, none⟩)] 58)).alloc (Obj.cells #[.string name] 9)).alloc (Obj.cells #[(.func (.func 77) #[] #[.pointer (some ⟨c0, 0, none⟩), .pointer (some ⟨c1, 0, none⟩), .pointer (some ⟨c2, 0, none⟩)])] 113)) (w.heap.size + 1) name := by
    have := heap_alloc_new (w.alloc (Obj.cells #[.pointer (some ⟨g, 0, none⟩)] 58)) (Obj.cells #[.string name] 9)
    rw [World.size_alloc] at this
    exact blk_alloc this _
  have hc : VarC (((w.alloc (Obj.cells #[.pointer (some ⟨g, 0, none⟩)] 58)).alloc (Obj.cells #[.string name] 9)).alloc (Obj.cells #[(.func (.func 77) #[] #[.pointer (some ⟨c0, 0, none⟩), .pointer (some ⟨c1, 0, none⟩), .pointer (some ⟨c2, 0, none⟩)])] 113)) (w.heap.size + 2) (.func (.func 77) #[] #[.pointer (some ⟨c0, 0, none⟩), .pointer (some ⟨c1, 0, none⟩), .pointer (some ⟨c2, 0, none⟩)]) := by
    have := heap_alloc_new ((w.alloc (Obj.cells #[.pointer (some ⟨g, 0, none⟩)] 58)).alloc (Obj.cells #[.string name] 9)) (Obj.cells #[(.func (.func 77) #[] #[.pointer (some ⟨c0, 0, none⟩), .pointer (some ⟨c1, 0, none⟩), .pointer (some ⟨c2, 0, none⟩)])] 113)
    rw [World.size_alloc, World.size_alloc] at this
    exact this
  have HW3 := Aside0.mk hw3
  have HP := Aside0.mk hp
  have HN := Aside0.mk hn
  have HC := Aside0.mk hc
  clear ho0 ho1 ho2 o0 o1 o2 hw3 hp hn hc
  have hg0 : g < w.heap.size := by exact blk_lt H.out.blk
  go_enter Try.func69, Try.ntmps69
  go_wp2_with (go_at_call 90; refine (call_ok93 w.heap.size (w.heap.size + 1) (w.heap.size + 2) (fun r w' => r = 4 ∧ Rep B g (asked s).1 w' ∧ Below B w w') (H.out.below HW3.out) HF.out HA.out ?hclo).mono ?_; (case hclo =>
      intro w1 hr1 hb1 hk1
      have hne : ∀ b, w.heap.size ≤ b → b ≠ g := fun b hb => by omega
      refine (of1_none w.heap.size (w.heap.size + 1) (w.heap.size + 2) (.func (.func 77) #[] #[.pointer (some ⟨c0, 0, none⟩), .pointer (some ⟨c1, 0, none⟩), .pointer (some ⟨c2, 0, none⟩)]) hr1 HF1.out (blk_keptG HP.out hk1 (hne _ (by omega))) (blk_keptG HN.out hk1 (hne _ (by omega))) (blk_keptG HC.out hk1 (hne _ (by omega))) (by rw [asked_files]; exact HOK.out)).mono ?_
      rintro e w2 ⟨rfl, hr2, hb2⟩
      exact ⟨4, rfl, rfl, ⟨mv, sv, pv, hr2⟩, belowB_trans (belowB_of hBw HW3.out) (belowB_trans hb1 (belowB_of (Nat.le_trans hBw (Nat.le_trans HW3.out.size hk1.1)) hb2))⟩); rintro e w7 ⟨r, rfl, rfl, hr7, hb7⟩; have HR7 := Aside0.mk hr7; have HB7 := Aside0.mk hb7; clear hr7 hb7)
  go_ret
  exact ⟨4, rfl, rfl, HR7.out, HB7.out⟩

set_option maxHeartbeats 8000000 in
set_option maxRecDepth 100000 in
theorem of_err77 (c0 c1 c2 : Nat) (h : Rep B g s w) (hf : Fit s) (hBw : B ≤ w.heap.size) (ha : (asked s).2 ≠ 0) :
    Calls Try.prog 69 #[.pointer (some ⟨g, 0, none⟩), .string name, (.func (.func 77) #[] #[.pointer (some ⟨c0, 0, none⟩), .pointer (some ⟨c1, 0, none⟩), .pointer (some ⟨c2, 0, none⟩)])] w fun e w' => ∃ r, e = .returned (.int .i64 r) ∧ r = (asked s).2 ∧ Rep B g (asked s).1 w' ∧ Below B w w' := by
  have H := Aside0.mk h
  have HF := Aside0.mk hf
  have HA := Aside0.mk ha
  have hw3 : Below w.heap.size w (((w.alloc (Obj.cells #[.pointer (some ⟨g, 0, none⟩)] 58)).alloc (Obj.cells #[.string name] 9)).alloc (Obj.cells #[(.func (.func 77) #[] #[.pointer (some ⟨c0, 0, none⟩), .pointer (some ⟨c1, 0, none⟩), .pointer (some ⟨c2, 0, none⟩)])] 113)) := below_alloc (below_alloc (below_alloc (Below.refl _ _) _) _) _
  have HW3 := Aside0.mk hw3
  clear h hf ha hw3
  go_enter Try.func69, Try.ntmps69
  go_wp2_with (go_at_call 90; refine (call_err _ (H.out.below HW3.out) HF.out HA.out).mono ?_; rintro e w7 ⟨rfl, hr7, hb7, hk7⟩; have HR7 := Aside0.mk hr7; have HB7 := Aside0.mk (belowB_trans (belowB_of hBw HW3.out) hb7); clear hr7 hb7 hk7)
  go_ret
  exact ⟨_, rfl, rfl, HR7.out, HB7.out⟩


set_option maxHeartbeats 8000000 in
set_option maxRecDepth 100000 in
theorem of1_ok92 (b0 b1 b2 c0 : Nat) (R : Int → World → Prop) (h : RepAt B g s w mv sv pv) (hf : Fit s) (hp : VarP w b0 g) (hn : VarS w b1 name) (hc : VarC w b2 (.func (.func 92) #[] #[.pointer (some ⟨c0, 0, none⟩)])) (hok : (getT (filesOf s) name).2 = true)
    (hdo : ∀ w1 v, RepAt B g s w1 mv sv pv → Below w.heap.size w w1 → Kd.R (Kd.int .u8) 5 w1 w.heap.size (fun _ => True) v (getT (filesOf s) name).1 → Calls Try.prog 92 #[v, .pointer (some ⟨c0, 0, none⟩)] w1 fun e w' => ∃ r, e = .returned (.int .i64 r) ∧ R r w') :
    Calls Try.prog 93 #[.pointer (some ⟨b0, 0, none⟩), .pointer (some ⟨b1, 0, none⟩), .pointer (some ⟨b2, 0, none⟩)] w fun e w' => ∃ r, e = .returned (.int .i64 r) ∧ R r w' := by
  have HDO := Aside0.mk hdo
  clear hdo
  have hk0 : OfS B g s mv sv pv name b0 b1 b2 (.func (.func 92) #[] #[.pointer (some ⟨c0, 0, none⟩)]) w w := ⟨h, hp, hn, hc, Below.refl _ _⟩
  have HF := Aside0.mk hf
  obtain ⟨hfo, hfl⟩ := files_ok hf
  have HFO := Aside0.mk hfo
  have hge := get_f (filesOf s) name (by omega) hfo
  rw [hok] at hge
  have HGE := Aside0.mk hge
  clear h hp hn hc hf hfo hge
  go_enter Try.func93, Try.ntmps93
  go_wp2_with fail
  go_region_held3 (fun w' => w'.cell? ⟨b0, 0, none⟩ = some (.pointer (some ⟨g, 0, none⟩)) ∧ w'.cell? ⟨b1, 0, none⟩ = some (.string name) ∧ OfS B g s mv sv pv name b0 b1 b2 (.func (.func 92) #[] #[.pointer (some ⟨c0, 0, none⟩)]) w w')
    (first
      | exact (hk0.step (below_drew1 (Below.refl _ _))).all
      | (go_split_ands
         first
          | exact OfS.all (OfS.step (by assumption) hb6)
          | exact OfS.all (OfS.step (by assumption) hb5))
      | go_keep)
    (first
      | (go_split_ands; go_at_call 42; refine (files_calls ⟨mv, sv, pv, OfS.rep (by assumption)⟩ HF.out).mono ?_; rintro e w5 ⟨v5, rfl, hV5, hb5⟩; obtain ⟨A5, c5, rfl⟩ := Kd.V_slice hV5)
      | (go_split_ands
         go_at_call 28
         ((with_reducible refine (files_Get.calls A5 c5 (filesOf s) name (getT (filesOf s) name).1 true _ ?hs ?hc HGE.out).mono ?_); (case hs => exact (Kd.V_reads' hV5).2.2); (case hc => exact (Kd.V_reads' hV5).2.1))
         rintro e w6 ⟨v6, rfl, hV6, hb6⟩))
  have hfin : OfS B g s mv sv pv name b0 b1 b2 (.func (.func 92) #[] #[.pointer (some ⟨c0, 0, none⟩)]) w w6 := by go_split_ands; assumption
  have h5 : OfS B g s mv sv pv name b0 b1 b2 (.func (.func 92) #[] #[.pointer (some ⟨c0, 0, none⟩)]) w w5 := by go_split_ands; assumption
  have hc6 := hfin.c.cell
  have HFIN := Aside0.mk hfin
  have HV6 := Aside0.mk (Kd.R_lower hV6 h5.below.size)
  clear hk0 hfin hV6 hV5 hb5 hb6 h5
  go_wp2_with (go_at_call 92; refine (HDO.out _ _ HFIN.out.rep HFIN.out.below HV6.out).mono ?_; rintro e w7 ⟨r, rfl, hR⟩; have HR := Aside0.mk hR; clear hR)
  go_ret
  exact ⟨r, rfl, HR.out⟩

set_option maxHeartbeats 8000000 in
set_option maxRecDepth 100000 in
theorem of_ok92 (c0 : Nat) (R : Int → World → Prop) (h : RepAt B g s w mv sv pv) (hf : Fit s) (hf1 : Fit (asked s).1) (hBw : B ≤ w.heap.size) (ha : (asked s).2 = 0) (hok : (getT (filesOf s) name).2 = true)
    (hdo : ∀ w1 v, RepAt B g (asked s).1 w1 mv sv pv → Below B w w1 → KeptG g w w1 → Kd.R (Kd.int .u8) 5 w1 w.heap.size (fun _ => True) v (getT (filesOf s) name).1 → Calls Try.prog 92 #[v, .pointer (some ⟨c0, 0, none⟩)] w1 fun e w' => ∃ r, e = .returned (.int .i64 r) ∧ R r w') :
    Calls Try.prog 69 #[.pointer (some ⟨g, 0, none⟩), .string name, (.func (.func 92) #[] #[.pointer (some ⟨c0, 0, none⟩)])] w fun e w' => ∃ r, e = .returned (.int .i64 r) ∧ R r w' := by
  have HDO := Aside0.mk hdo
  have H := Aside0.mk h
  have HF := Aside0.mk hf
  have HF1 := Aside0.mk hf1
  have HA := Aside0.mk ha
  have HOK := Aside0.mk hok
  clear h hf hf1 ha hok hdo
  obtain ⟨o0, ho0⟩ : ∃ o, o = Obj.cells #[.pointer (some ⟨g, 0, none⟩)] 58 := ⟨_, rfl⟩
  obtain ⟨o1, ho1⟩ : ∃ o, o = Obj.cells #[.string name] 9 := ⟨_, rfl⟩
  obtain ⟨o2, ho2⟩ : ∃ o, o = Obj.cells #[(.func (.func 92) #[] #[.pointer (some ⟨c0, 0, none⟩)])] 113 := ⟨_, rfl⟩
  have hw3 : Below w.heap.size w (((w.alloc (Obj.cells #[.pointer (some ⟨g, 0, none⟩)] 58)).alloc (Obj.cells #[.string name] 9)).alloc (Obj.cells #[(.func (.func 92) #[] #[.pointer (some ⟨c0, 0, none⟩)])] 113)) := below_alloc (below_alloc (below_alloc (Below.refl _ _) _) _) _
  have hp : VarP (((w.alloc (Obj.cells #[.pointer (some ⟨g, 0, none⟩)] 58)).alloc (Obj.cells #[.string name] 9)).alloc (Obj.cells #[(.func (.func 92) #[] #[.pointer (some ⟨c0, 0, none⟩)])] 113)) w.heap.size g := blk_alloc (blk_alloc (heap_alloc_new _ _) _) _
  have hn : VarS (((w.alloc (Obj.cells #[.pointer (some ⟨g, 0, none⟩)] 58)).alloc (Obj.cells #[.string name] 9)).alloc (Obj.cells #[(.func (.func 92) #[] #[.pointer (some ⟨c0, 0, none⟩)])] 113)) (w.heap.size + 1) name := by
    have := heap_alloc_new (w.alloc (Obj.cells #[.pointer (some ⟨g, 0, none⟩)] 58)) (Obj.cells #[.string name] 9)
    rw [World.size_alloc] at this
    exact blk_alloc this _
  have hc : VarC (((w.alloc (Obj.cells #[.pointer (some ⟨g, 0, none⟩)] 58)).alloc (Obj.cells #[.string name] 9)).alloc (Obj.cells #[(.func (.func 92) #[] #[.pointer (some ⟨c0, 0, none⟩)])] 113)) (w.heap.size + 2) (.func (.func 92) #[] #[.pointer (some ⟨c0, 0, none⟩)]) := by
    have := heap_alloc_new ((w.alloc (Obj.cells #[.pointer (some ⟨g, 0, none⟩)] 58)).alloc (Obj.cells #[.string name] 9)) (Obj.cells #[(.func (.func 92) #[] #[.pointer (some ⟨c0, 0, none⟩)])] 113)
    rw [World.size_alloc, World.size_alloc] at this
    exact this
  have HW3 := Aside0.mk hw3
  have HP := Aside0.mk hp
  have HN := Aside0.mk hn
  have HC := Aside0.mk hc
  clear ho0 ho1 ho2 o0 o1 o2 hw3 hp hn hc
  have hg0 : g < w.heap.size := by exact blk_lt H.out.blk
  go_enter Try.func69, Try.ntmps69
  go_wp2_with (go_at_call 90; refine (call_ok93 w.heap.size (w.heap.size + 1) (w.heap.size + 2) R (H.out.below HW3.out) HF.out HA.out ?hclo).mono ?_; (case hclo =>
      intro w1 hr1 hb1 hk1
      have hne : ∀ b, w.heap.size ≤ b → b ≠ g := fun b hb => by omega
      refine of1_ok92 w.heap.size (w.heap.size + 1) (w.heap.size + 2) c0 R hr1 HF1.out (blk_keptG HP.out hk1 (hne _ (by omega))) (blk_keptG HN.out hk1 (hne _ (by omega))) (blk_keptG HC.out hk1 (hne _ (by omega))) (by rw [asked_files]; exact HOK.out) ?_
      intro w2 v hr2 hb2 hv
      rw [asked_files] at hv
      refine HDO.out w2 v hr2 (belowB_trans (belowB_of hBw HW3.out) (belowB_trans hb1 (belowB_of (Nat.le_trans hBw (Nat.le_trans HW3.out.size hk1.1)) hb2))) ((KeptG.of_below HW3.out).trans (hk1.trans (KeptG.of_below hb2))) (Kd.R_lower hv (Nat.le_trans HW3.out.size hk1.1))); rintro e w7 ⟨r, rfl, hR⟩; have HR := Aside0.mk hR; clear hR)
  go_ret
  exact ⟨r, rfl, HR.out⟩

set_option maxHeartbeats 8000000 in
set_option maxRecDepth 100000 in
theorem of_none92 (c0 : Nat) (h : RepAt B g s w mv sv pv) (hf : Fit s) (hf1 : Fit (asked s).1) (hBw : B ≤ w.heap.size) (ha : (asked s).2 = 0) (hok : (getT (filesOf s) name).2 = false) :
    Calls Try.prog 69 #[.pointer (some ⟨g, 0, none⟩), .string name, (.func (.func 92) #[] #[.pointer (some ⟨c0, 0, none⟩)])] w fun e w' => ∃ r, e = .returned (.int .i64 r) ∧ r = 4 ∧ Rep B g (asked s).1 w' ∧ Below B w w' ∧ KeptG g w w' := by
  have H := Aside0.mk h
  have HF := Aside0.mk hf
  have HF1 := Aside0.mk hf1
  have HA := Aside0.mk ha
  have HOK := Aside0.mk hok
  clear h hf hf1 ha hok
  obtain ⟨o0, ho0⟩ : ∃ o, o = Obj.cells #[.pointer (some ⟨g, 0, none⟩)] 58 := ⟨_, rfl⟩
  obtain ⟨o1, ho1⟩ : ∃ o, o = Obj.cells #[.string name] 9 := ⟨_, rfl⟩
  obtain ⟨o2, ho2⟩ : ∃ o, o = Obj.cells #[(.func (.func 92) #[] #[.pointer (some ⟨c0, 0, none⟩)])] 113 := ⟨_, rfl⟩
  have hw3 : Below w.heap.size w (((w.alloc (Obj.cells #[.pointer (some ⟨g, 0, none⟩)] 58)).alloc (Obj.cells #[.string name] 9)).alloc (Obj.cells #[(.func (.func 92) #[] #[.pointer (some ⟨c0, 0, none⟩)])] 113)) := below_alloc (below_alloc (below_alloc (Below.refl _ _) _) _) _
  have hp : VarP (((w.alloc (Obj.cells #[.pointer (some ⟨g, 0, none⟩)] 58)).alloc (Obj.cells #[.string name] 9)).alloc (Obj.cells #[(.func (.func 92) #[] #[.pointer (some ⟨c0, 0, none⟩)])] 113)) w.heap.size g := blk_alloc (blk_alloc (heap_alloc_new _ _) _) _
  have hn : VarS (((w.alloc (Obj.cells #[.pointer (some ⟨g, 0, none⟩)] 58)).alloc (Obj.cells #[.string name] 9)).alloc (Obj.cells #[(.func (.func 92) #[] #[.pointer (some ⟨c0, 0, none⟩)])] 113)) (w.heap.size + 1) name := by
    have := heap_alloc_new (w.alloc (Obj.cells #[.pointer (some ⟨g, 0, none⟩)] 58)) (Obj.cells #[.string name] 9)
    rw [World.size_alloc] at this
    exact blk_alloc this _
  have hc : VarC (((w.alloc (Obj.cells #[.pointer (some ⟨g, 0, none⟩)] 58)).alloc (Obj.cells #[.string name] 9)).alloc (Obj.cells #[(.func (.func 92) #[] #[.pointer (some ⟨c0, 0, none⟩)])] 113)) (w.heap.size + 2) (.func (.func 92) #[] #[.pointer (some ⟨c0, 0, none⟩)]) := by
    have := heap_alloc_new ((w.alloc (Obj.cells #[.pointer (some ⟨g, 0, none⟩)] 58)).alloc (Obj.cells #[.string name] 9)) (Obj.cells #[(.func (.func 92) #[] #[.pointer (some ⟨c0, 0, none⟩)])] 113)
    rw [World.size_alloc, World.size_alloc] at this
    exact this
  have HW3 := Aside0.mk hw3
  have HP := Aside0.mk hp
  have HN := Aside0.mk hn
  have HC := Aside0.mk hc
  clear ho0 ho1 ho2 o0 o1 o2 hw3 hp hn hc
  have hg0 : g < w.heap.size := by exact blk_lt H.out.blk
  go_enter Try.func69, Try.ntmps69
  go_wp2_with (go_at_call 90; refine (call_ok93 w.heap.size (w.heap.size + 1) (w.heap.size + 2) (fun r w' => r = 4 ∧ Rep B g (asked s).1 w' ∧ Below B w w' ∧ KeptG g w w') (H.out.below HW3.out) HF.out HA.out ?hclo).mono ?_; (case hclo =>
      intro w1 hr1 hb1 hk1
      have hne : ∀ b, w.heap.size ≤ b → b ≠ g := fun b hb => by omega
      refine (of1_none w.heap.size (w.heap.size + 1) (w.heap.size + 2) (.func (.func 92) #[] #[.pointer (some ⟨c0, 0, none⟩)]) hr1 HF1.out (blk_keptG HP.out hk1 (hne _ (by omega))) (blk_keptG HN.out hk1 (hne _ (by omega))) (blk_keptG HC.out hk1 (hne _ (by omega))) (by rw [asked_files]; exact HOK.out)).mono ?_
      rintro e w2 ⟨rfl, hr2, hb2⟩
      exact ⟨4, rfl, rfl, ⟨mv, sv, pv, hr2⟩, belowB_trans (belowB_of hBw HW3.out) (belowB_trans hb1 (belowB_of (Nat.le_trans hBw (Nat.le_trans HW3.out.size hk1.1)) hb2)), (KeptG.of_below HW3.out).trans (hk1.trans (KeptG.of_below hb2))⟩); rintro e w7 ⟨r, rfl, rfl, hr7, hb7, hk7⟩; have HK7 := Aside0.mk hk7; have HR7 := Aside0.mk hr7; have HB7 := Aside0.mk hb7; clear hr7 hb7 hk7)
  go_ret
  exact ⟨4, rfl, rfl, HR7.out, HB7.out, HK7.out⟩

set_option maxHeartbeats 8000000 in
set_option maxRecDepth 100000 in
theorem of_err92 (c0 : Nat) (h : Rep B g s w) (hf : Fit s) (hBw : B ≤ w.heap.size) (ha : (asked s).2 ≠ 0) :
    Calls Try.prog 69 #[.pointer (some ⟨g, 0, none⟩), .string name, (.func (.func 92) #[] #[.pointer (some ⟨c0, 0, none⟩)])] w fun e w' => ∃ r, e = .returned (.int .i64 r) ∧ r = (asked s).2 ∧ Rep B g (asked s).1 w' ∧ Below B w w' ∧ KeptG g w w' := by
  have H := Aside0.mk h
  have HF := Aside0.mk hf
  have HA := Aside0.mk ha
  have hw3 : Below w.heap.size w (((w.alloc (Obj.cells #[.pointer (some ⟨g, 0, none⟩)] 58)).alloc (Obj.cells #[.string name] 9)).alloc (Obj.cells #[(.func (.func 92) #[] #[.pointer (some ⟨c0, 0, none⟩)])] 113)) := below_alloc (below_alloc (below_alloc (Below.refl _ _) _) _) _
  have HW3 := Aside0.mk hw3
  clear h hf ha hw3
  go_enter Try.func69, Try.ntmps69
  go_wp2_with (go_at_call 90; refine (call_err _ (H.out.below HW3.out) HF.out HA.out).mono ?_; rintro e w7 ⟨rfl, hr7, hb7, hk7⟩; have HR7 := Aside0.mk hr7; have HB7 := Aside0.mk (belowB_trans (belowB_of hBw HW3.out) hb7); have HK7 := Aside0.mk ((KeptG.of_below HW3.out).trans hk7); clear hr7 hb7 hk7)
  go_ret
  exact ⟨_, rfl, rfl, HR7.out, HB7.out, HK7.out⟩


/-- A call for a file that is there. -/
def ofR (s : SSt) (name : ByteArray) (k : SSt → SSt × Int) : SSt × Int := if (asked s).2 ≠ 0 then asked s else if (getT (filesOf s) name).2 = true then k (asked s).1 else ((asked s).1, 4)
def syncR (s : SSt) (name : ByteArray) : SSt × Int := ofR s name fun s => (syncD s name, 0)
def dropR (s : SSt) (name : ByteArray) : SSt × Int := ofR s name fun s => (dropD s name, 0)
def moveR (s : SSt) (a b : ByteArray) : SSt × Int := ofR s a fun s => if b.size < 1 ∨ 40 < b.size then (s, 1) else if (a.toList == b.toList) = true then (s, 0) else (moveD s a b, 0)
theorem ofR_err {name : ByteArray} {k : SSt → SSt × Int} (ha : ¬ (asked s).2 = 0) : ofR s name k = asked s := by unfold ofR; rw [if_pos ha]
theorem ofR_none {name : ByteArray} {k : SSt → SSt × Int} (ha : (asked s).2 = 0) (h : (getT (filesOf s) name).2 = false) : ofR s name k = ((asked s).1, 4) := by unfold ofR; rw [if_neg (by simp [ha]), if_neg (by simp [h])]
theorem ofR_ok {name : ByteArray} {k : SSt → SSt × Int} (ha : (asked s).2 = 0) (h : (getT (filesOf s) name).2 = true) : ofR s name k = k (asked s).1 := by unfold ofR; rw [if_neg (by simp [ha]), if_pos h]


set_option maxHeartbeats 8000000 in
set_option maxRecDepth 100000 in
theorem sync_calls (name : ByteArray) (h : Rep B g s w) (hf : Fit s) (hf1 : Fit (asked s).1) (hBw : B ≤ w.heap.size) :
    Calls Try.prog 41 #[.pointer (some ⟨g, 0, none⟩), .string name] w fun e w' => e = .returned (.int .i64 (syncR s name).2) ∧ Rep B g (syncR s name).1 w' ∧ Below B w w' := by
  obtain ⟨mv, sv, pv, h⟩ := h
  have H := Aside0.mk h
  have HF := Aside0.mk hf
  have HF1 := Aside0.mk hf1
  have hg0 : g < w.heap.size := by exact blk_lt H.out.blk
  clear h hf hf1
  have hw3 : Below w.heap.size w ((w.alloc (Obj.cells #[.pointer (some ⟨g, 0, none⟩)] 58)).alloc (Obj.cells #[.string name] 9)) := below_alloc (below_alloc (Below.refl _ _) _) _
  have hp : VarP ((w.alloc (Obj.cells #[.pointer (some ⟨g, 0, none⟩)] 58)).alloc (Obj.cells #[.string name] 9)) w.heap.size g := blk_alloc (heap_alloc_new _ _) _
  have hn0 : VarS ((w.alloc (Obj.cells #[.pointer (some ⟨g, 0, none⟩)] 58)).alloc (Obj.cells #[.string name] 9)) (w.heap.size + 1) name := by
    have := heap_alloc_new (w.alloc (Obj.cells #[.pointer (some ⟨g, 0, none⟩)] 58)) (Obj.cells #[.string name] 9)
    rw [World.size_alloc] at this
    exact this
  have HW3 := Aside0.mk hw3
  have HP := Aside0.mk hp
  have HN0 := Aside0.mk hn0
  clear hw3 hp hn0
  by_cases ha : (asked s).2 = 0
  · cases hok : (getT (filesOf s) name).2
    · have hR : syncR s name = ((asked s).1, 4) := ofR_none ha hok
      rw [hR]
      have HA := Aside0.mk ha
      have HOK := Aside0.mk hok
      clear hR ha hok
      go_enter Try.func41, Try.ntmps41
      go_wp2_with (go_at_call 69; refine (of_none70 w.heap.size (w.heap.size + 1) (H.out.below HW3.out) HF.out HF1.out (Nat.le_trans hBw HW3.out.size) HA.out HOK.out).mono ?_; rintro e w7 ⟨r, rfl, rfl, hr7, hb7⟩; have HR7 := Aside0.mk hr7; have HB7 := Aside0.mk (belowB_trans (belowB_of hBw HW3.out) hb7); clear hr7 hb7)
      go_ret
      exact ⟨rfl, HR7.out, HB7.out⟩
    · have hR : syncR s name = (syncD (asked s).1 name, 0) := ofR_ok ha hok
      rw [hR]
      have HA := Aside0.mk ha
      have HOK := Aside0.mk hok
      clear hR ha hok
      go_enter Try.func41, Try.ntmps41
      go_wp2_with (go_at_call 69; refine (of_ok70 w.heap.size (w.heap.size + 1) (fun r w' => r = 0 ∧ Rep B g (syncD (asked s).1 name) w' ∧ Below B ((w.alloc (Obj.cells #[.pointer (some ⟨g, 0, none⟩)] 58)).alloc (Obj.cells #[.string name] 9)) w') (H.out.below HW3.out) HF.out HF1.out (Nat.le_trans hBw HW3.out.size) HA.out HOK.out ?hdo).mono ?_; (case hdo =>
          intro w1 v hr1 hb1 hk1 hv
          have hne : ∀ b, w.heap.size ≤ b → b ≠ g := fun b hb => by omega
          refine (sync1_calls name v w.heap.size (w.heap.size + 1) ⟨mv, sv, pv, hr1⟩ HF1.out (Nat.le_trans hBw (Nat.le_trans HW3.out.size hk1.1)) (blk_keptG HP.out hk1 (hne _ (by omega))) (blk_keptG HN0.out hk1 (hne _ (by omega)))).mono ?_
          rintro e w2 ⟨r, rfl, rfl, hr2, hb2⟩
          exact ⟨0, rfl, rfl, hr2, belowB_trans hb1 hb2⟩); rintro e w7 ⟨r, rfl, rfl, hr7, hb7⟩; have HR7 := Aside0.mk hr7; have HB7 := Aside0.mk (belowB_trans (belowB_of hBw HW3.out) hb7); clear hr7 hb7)
      go_ret
      exact ⟨rfl, HR7.out, HB7.out⟩
  · have hR : syncR s name = asked s := ofR_err ha
    rw [hR]
    have HA := Aside0.mk ha
    clear hR ha
    go_enter Try.func41, Try.ntmps41
    go_wp2_with (go_at_call 69; refine (of_err70 w.heap.size (w.heap.size + 1) ⟨mv, sv, pv, H.out.below HW3.out⟩ HF.out (Nat.le_trans hBw HW3.out.size) HA.out).mono ?_; rintro e w7 ⟨r, rfl, rfl, hr7, hb7⟩; have HR7 := Aside0.mk hr7; have HB7 := Aside0.mk (belowB_trans (belowB_of hBw HW3.out) hb7); clear hr7 hb7)
    go_ret
    exact ⟨rfl, HR7.out, HB7.out⟩


set_option maxHeartbeats 8000000 in
set_option maxRecDepth 100000 in
theorem drop_calls (name : ByteArray) (h : Rep B g s w) (hf : Fit s) (hf1 : Fit (asked s).1) (hBw : B ≤ w.heap.size) :
    Calls Try.prog 80 #[.pointer (some ⟨g, 0, none⟩), .string name] w fun e w' => e = .returned (.int .i64 (dropR s name).2) ∧ Rep B g (dropR s name).1 w' ∧ Below B w w' := by
  obtain ⟨mv, sv, pv, h⟩ := h
  have H := Aside0.mk h
  have HF := Aside0.mk hf
  have HF1 := Aside0.mk hf1
  have hg0 : g < w.heap.size := by exact blk_lt H.out.blk
  clear h hf hf1
  have hw3 : Below w.heap.size w ((w.alloc (Obj.cells #[.pointer (some ⟨g, 0, none⟩)] 58)).alloc (Obj.cells #[.string name] 9)) := below_alloc (below_alloc (Below.refl _ _) _) _
  have hp : VarP ((w.alloc (Obj.cells #[.pointer (some ⟨g, 0, none⟩)] 58)).alloc (Obj.cells #[.string name] 9)) w.heap.size g := blk_alloc (heap_alloc_new _ _) _
  have hn0 : VarS ((w.alloc (Obj.cells #[.pointer (some ⟨g, 0, none⟩)] 58)).alloc (Obj.cells #[.string name] 9)) (w.heap.size + 1) name := by
    have := heap_alloc_new (w.alloc (Obj.cells #[.pointer (some ⟨g, 0, none⟩)] 58)) (Obj.cells #[.string name] 9)
    rw [World.size_alloc] at this
    exact this
  have HW3 := Aside0.mk hw3
  have HP := Aside0.mk hp
  have HN0 := Aside0.mk hn0
  clear hw3 hp hn0
  by_cases ha : (asked s).2 = 0
  · cases hok : (getT (filesOf s) name).2
    · have hR : dropR s name = ((asked s).1, 4) := ofR_none ha hok
      rw [hR]
      have HA := Aside0.mk ha
      have HOK := Aside0.mk hok
      clear hR ha hok
      go_enter Try.func80, Try.ntmps80
      go_wp2_with (go_at_call 69; refine (of_none96 w.heap.size (w.heap.size + 1) (H.out.below HW3.out) HF.out HF1.out (Nat.le_trans hBw HW3.out.size) HA.out HOK.out).mono ?_; rintro e w7 ⟨r, rfl, rfl, hr7, hb7⟩; have HR7 := Aside0.mk hr7; have HB7 := Aside0.mk (belowB_trans (belowB_of hBw HW3.out) hb7); clear hr7 hb7)
      go_ret
      exact ⟨rfl, HR7.out, HB7.out⟩
    · have hR : dropR s name = (dropD (asked s).1 name, 0) := ofR_ok ha hok
      rw [hR]
      have HA := Aside0.mk ha
      have HOK := Aside0.mk hok
      clear hR ha hok
      go_enter Try.func80, Try.ntmps80
      go_wp2_with (go_at_call 69; refine (of_ok96 w.heap.size (w.heap.size + 1) (fun r w' => r = 0 ∧ Rep B g (dropD (asked s).1 name) w' ∧ Below B ((w.alloc (Obj.cells #[.pointer (some ⟨g, 0, none⟩)] 58)).alloc (Obj.cells #[.string name] 9)) w') (H.out.below HW3.out) HF.out HF1.out (Nat.le_trans hBw HW3.out.size) HA.out HOK.out ?hdo).mono ?_; (case hdo =>
          intro w1 v hr1 hb1 hk1 hv
          have hne : ∀ b, w.heap.size ≤ b → b ≠ g := fun b hb => by omega
          refine (drop1_calls name v w.heap.size (w.heap.size + 1) ⟨mv, sv, pv, hr1⟩ HF1.out (Nat.le_trans hBw (Nat.le_trans HW3.out.size hk1.1)) (blk_keptG HP.out hk1 (hne _ (by omega))) (blk_keptG HN0.out hk1 (hne _ (by omega)))).mono ?_
          rintro e w2 ⟨r, rfl, rfl, hr2, hb2⟩
          exact ⟨0, rfl, rfl, hr2, belowB_trans hb1 hb2⟩); rintro e w7 ⟨r, rfl, rfl, hr7, hb7⟩; have HR7 := Aside0.mk hr7; have HB7 := Aside0.mk (belowB_trans (belowB_of hBw HW3.out) hb7); clear hr7 hb7)
      go_ret
      exact ⟨rfl, HR7.out, HB7.out⟩
  · have hR : dropR s name = asked s := ofR_err ha
    rw [hR]
    have HA := Aside0.mk ha
    clear hR ha
    go_enter Try.func80, Try.ntmps80
    go_wp2_with (go_at_call 69; refine (of_err96 w.heap.size (w.heap.size + 1) ⟨mv, sv, pv, H.out.below HW3.out⟩ HF.out (Nat.le_trans hBw HW3.out.size) HA.out).mono ?_; rintro e w7 ⟨r, rfl, rfl, hr7, hb7⟩; have HR7 := Aside0.mk hr7; have HB7 := Aside0.mk (belowB_trans (belowB_of hBw HW3.out) hb7); clear hr7 hb7)
    go_ret
    exact ⟨rfl, HR7.out, HB7.out⟩


set_option maxHeartbeats 8000000 in
set_option maxRecDepth 100000 in
theorem move_calls (from_ to_ : ByteArray) (h : Rep B g s w) (hf : Fit s) (hf1 : Fit (asked s).1) (hBw : B ≤ w.heap.size) :
    Calls Try.prog 43 #[.pointer (some ⟨g, 0, none⟩), .string from_, .string to_] w fun e w' => e = .returned (.int .i64 (moveR s from_ to_).2) ∧ Rep B g (moveR s from_ to_).1 w' ∧ Below B w w' := by
  obtain ⟨mv, sv, pv, h⟩ := h
  have H := Aside0.mk h
  have HF := Aside0.mk hf
  have HF1 := Aside0.mk hf1
  have hg0 : g < w.heap.size := by exact blk_lt H.out.blk
  clear h hf hf1
  have hw3 : Below w.heap.size w (((w.alloc (Obj.cells #[.pointer (some ⟨g, 0, none⟩)] 58)).alloc (Obj.cells #[.string from_] 9)).alloc (Obj.cells #[.string to_] 9)) := below_alloc (below_alloc (below_alloc (Below.refl _ _) _) _) _
  have hp : VarP (((w.alloc (Obj.cells #[.pointer (some ⟨g, 0, none⟩)] 58)).alloc (Obj.cells #[.string from_] 9)).alloc (Obj.cells #[.string to_] 9)) w.heap.size g := blk_alloc (blk_alloc (heap_alloc_new _ _) _) _
  have hn0 : VarS (((w.alloc (Obj.cells #[.pointer (some ⟨g, 0, none⟩)] 58)).alloc (Obj.cells #[.string from_] 9)).alloc (Obj.cells #[.string to_] 9)) (w.heap.size + 1) from_ := by
    have := heap_alloc_new (w.alloc (Obj.cells #[.pointer (some ⟨g, 0, none⟩)] 58)) (Obj.cells #[.string from_] 9)
    rw [World.size_alloc] at this
    exact blk_alloc (this) _
  have hn1 : VarS (((w.alloc (Obj.cells #[.pointer (some ⟨g, 0, none⟩)] 58)).alloc (Obj.cells #[.string from_] 9)).alloc (Obj.cells #[.string to_] 9)) (w.heap.size + 2) to_ := by
    have := heap_alloc_new ((w.alloc (Obj.cells #[.pointer (some ⟨g, 0, none⟩)] 58)).alloc (Obj.cells #[.string from_] 9)) (Obj.cells #[.string to_] 9)
    rw [World.size_alloc, World.size_alloc] at this
    exact this
  have HW3 := Aside0.mk hw3
  have HP := Aside0.mk hp
  have HN0 := Aside0.mk hn0
  have HN1 := Aside0.mk hn1
  clear hw3 hp hn0 hn1
  by_cases ha : (asked s).2 = 0
  · cases hok : (getT (filesOf s) from_).2
    · have hR : moveR s from_ to_ = ((asked s).1, 4) := ofR_none ha hok
      rw [hR]
      have HA := Aside0.mk ha
      have HOK := Aside0.mk hok
      clear hR ha hok
      go_enter Try.func43, Try.ntmps43
      go_wp2_with (go_at_call 69; refine (of_none77 (w.heap.size + 2) (w.heap.size + 1) w.heap.size (H.out.below HW3.out) HF.out HF1.out (Nat.le_trans hBw HW3.out.size) HA.out HOK.out).mono ?_; rintro e w7 ⟨r, rfl, rfl, hr7, hb7⟩; have HR7 := Aside0.mk hr7; have HB7 := Aside0.mk (belowB_trans (belowB_of hBw HW3.out) hb7); clear hr7 hb7)
      go_ret
      exact ⟨rfl, HR7.out, HB7.out⟩
    · by_cases hbad : to_.size < 1 ∨ 40 < to_.size
      · have HBAD := Aside0.mk hbad
        have hR : moveR s from_ to_ = ((asked s).1, 1) := by
          refine (ofR_ok ha hok).trans ?_
          show (if _ then _ else _) = _
          rw [if_pos hbad]
        rw [hR]
        have HA := Aside0.mk ha
        have HOK := Aside0.mk hok
        clear hR ha hok
        go_enter Try.func43, Try.ntmps43
        go_wp2_with (go_at_call 69; refine (of_ok77 (w.heap.size + 2) (w.heap.size + 1) w.heap.size (fun r w' => r = 1 ∧ Rep B g ((asked s).1) w' ∧ Below B (((w.alloc (Obj.cells #[.pointer (some ⟨g, 0, none⟩)] 58)).alloc (Obj.cells #[.string from_] 9)).alloc (Obj.cells #[.string to_] 9)) w') (H.out.below HW3.out) HF.out HF1.out (Nat.le_trans hBw HW3.out.size) HA.out HOK.out ?hdo).mono ?_; (case hdo =>
            intro w1 v hr1 hb1 hk1 hv
            have hne : ∀ b, w.heap.size ≤ b → b ≠ g := fun b hb => by omega
            refine (move1_bad from_ to_ v (w.heap.size + 2) (w.heap.size + 1) w.heap.size (blk_keptG HN1.out hk1 (hne _ (by omega))) HBAD.out).mono ?_
            rintro e w2 ⟨rfl, hb2⟩
            exact ⟨1, rfl, rfl, ⟨mv, sv, pv, hr1.below hb2⟩, belowB_trans hb1 (belowB_of (Nat.le_trans hBw (Nat.le_trans HW3.out.size hk1.1)) hb2)⟩); rintro e w7 ⟨r, rfl, rfl, hr7, hb7⟩; have HR7 := Aside0.mk hr7; have HB7 := Aside0.mk (belowB_trans (belowB_of hBw HW3.out) hb7); clear hr7 hb7)
        go_ret
        exact ⟨rfl, HR7.out, HB7.out⟩
      · have HOKN : Aside0 (1 ≤ to_.size ∧ to_.size ≤ 40) := ⟨by omega⟩
        by_cases hsame : (from_.toList == to_.toList) = true
        · have HSAME := Aside0.mk hsame
          have hR : moveR s from_ to_ = ((asked s).1, 0) := by
            refine (ofR_ok ha hok).trans ?_
            show (if _ then _ else _) = _
            rw [if_neg hbad, if_pos hsame]
          rw [hR]
          have HA := Aside0.mk ha
          have HOK := Aside0.mk hok
          clear hR ha hok
          go_enter Try.func43, Try.ntmps43
          go_wp2_with (go_at_call 69; refine (of_ok77 (w.heap.size + 2) (w.heap.size + 1) w.heap.size (fun r w' => r = 0 ∧ Rep B g ((asked s).1) w' ∧ Below B (((w.alloc (Obj.cells #[.pointer (some ⟨g, 0, none⟩)] 58)).alloc (Obj.cells #[.string from_] 9)).alloc (Obj.cells #[.string to_] 9)) w') (H.out.below HW3.out) HF.out HF1.out (Nat.le_trans hBw HW3.out.size) HA.out HOK.out ?hdo).mono ?_; (case hdo =>
              intro w1 v hr1 hb1 hk1 hv
              have hne : ∀ b, w.heap.size ≤ b → b ≠ g := fun b hb => by omega
              refine (move1_same from_ to_ v (w.heap.size + 2) (w.heap.size + 1) w.heap.size (blk_keptG HN1.out hk1 (hne _ (by omega))) (blk_keptG HN0.out hk1 (hne _ (by omega))) HOKN.out HSAME.out).mono ?_
              rintro e w2 ⟨rfl, hb2⟩
              exact ⟨0, rfl, rfl, ⟨mv, sv, pv, hr1.below hb2⟩, belowB_trans hb1 (belowB_of (Nat.le_trans hBw (Nat.le_trans HW3.out.size hk1.1)) hb2)⟩); rintro e w7 ⟨r, rfl, rfl, hr7, hb7⟩; have HR7 := Aside0.mk hr7; have HB7 := Aside0.mk (belowB_trans (belowB_of hBw HW3.out) hb7); clear hr7 hb7)
          go_ret
          exact ⟨rfl, HR7.out, HB7.out⟩
        · have HSAME : Aside0 ((from_.toList == to_.toList) = false) := ⟨by simpa using hsame⟩
          have hR : moveR s from_ to_ = (moveD (asked s).1 from_ to_, 0) := by
            refine (ofR_ok ha hok).trans ?_
            show (if _ then _ else _) = _
            rw [if_neg hbad, if_neg hsame]
          rw [hR]
          have HA := Aside0.mk ha
          have HOK := Aside0.mk hok
          clear hR ha hok
          go_enter Try.func43, Try.ntmps43
          go_wp2_with (go_at_call 69; refine (of_ok77 (w.heap.size + 2) (w.heap.size + 1) w.heap.size (fun r w' => r = 0 ∧ Rep B g (moveD (asked s).1 from_ to_) w' ∧ Below B (((w.alloc (Obj.cells #[.pointer (some ⟨g, 0, none⟩)] 58)).alloc (Obj.cells #[.string from_] 9)).alloc (Obj.cells #[.string to_] 9)) w') (H.out.below HW3.out) HF.out HF1.out (Nat.le_trans hBw HW3.out.size) HA.out HOK.out ?hdo).mono ?_; (case hdo =>
              intro w1 v hr1 hb1 hk1 hv
              have hne : ∀ b, w.heap.size ≤ b → b ≠ g := fun b hb => by omega
              refine (move1_calls from_ to_ v (w.heap.size + 2) (w.heap.size + 1) w.heap.size ⟨mv, sv, pv, hr1⟩ HF1.out (Nat.le_trans hBw (Nat.le_trans HW3.out.size hk1.1)) (blk_keptG HN1.out hk1 (hne _ (by omega))) (blk_keptG HN0.out hk1 (hne _ (by omega))) (blk_keptG HP.out hk1 (hne _ (by omega))) HOKN.out HSAME.out).mono ?_
              rintro e w2 ⟨r, rfl, rfl, hr2, hb2⟩
              exact ⟨0, rfl, rfl, hr2, belowB_trans hb1 hb2⟩); rintro e w7 ⟨r, rfl, rfl, hr7, hb7⟩; have HR7 := Aside0.mk hr7; have HB7 := Aside0.mk (belowB_trans (belowB_of hBw HW3.out) hb7); clear hr7 hb7)
          go_ret
          exact ⟨rfl, HR7.out, HB7.out⟩
  · have hR : moveR s from_ to_ = asked s := ofR_err ha
    rw [hR]
    have HA := Aside0.mk ha
    clear hR ha
    go_enter Try.func43, Try.ntmps43
    go_wp2_with (go_at_call 69; refine (of_err77 (w.heap.size + 2) (w.heap.size + 1) w.heap.size ⟨mv, sv, pv, H.out.below HW3.out⟩ HF.out (Nat.le_trans hBw HW3.out.size) HA.out).mono ?_; rintro e w7 ⟨r, rfl, rfl, hr7, hb7⟩; have HR7 := Aside0.mk hr7; have HB7 := Aside0.mk (belowB_trans (belowB_of hBw HW3.out) hb7); clear hr7 hb7)
    go_ret
    exact ⟨rfl, HR7.out, HB7.out⟩

end
end Go.Proofs.Ytcgeioingikeeaa.P
