/- Cut out of this seat's own texts and of the words that the kit's print laid for it, by a program of this seat (wip/tools/shake.py): what the claim needs of them. -/
import Derived.Test.YtcgeioingikeeaaVq3
import Derived.Laws.StructEq
namespace Go.Proofs.Ytcgeioingikeeaa.P
open Go.RowKit Go.Proofs.YtcgeioingikeeaaW.PrintWords Go.Proofs.YtcgeioingikeeaaW.PrintLast Go.Proofs.YtcgeioingikeeaaW.PrintMore
set_option linter.unusedVariables false
set_option linter.unusedSimpArgs false
/-- A file's bytes, and whether it is there. -/
def getT (l : List S38) (n : ByteArray) : List Int × Bool := match l.find? (named n) with | some x => (x.f1, true) | none => ([], false)
theorem get_f (l : List S38) (n : ByteArray) (hl : l.length ≤ 1000000) (hd : okL l) : files_Get.f l n = some ((getT l n).1, (getT l n).2) := by
  unfold files_Get.f getT
  rw [if_pos ⟨hl, fun x hx => by have := hd x hx; omega⟩]
  cases l.find? (named n) <;> rfl
theorem asked_files (s : SSt) : filesOf (asked s).1 = filesOf s := by
  unfold asked
  split
  · rfl
  · split
    · rfl
    · split <;> rfl
theorem asked_ok {s : SSt} (h : (asked s).2 = 0) : (asked s).1 = { s with calls := s.calls + 1 } := by
  unfold asked at h ⊢
  split at h
  · simp at h
  · rename_i h1
    rw [if_neg h1]
    split at h
    · simp at h
    · rename_i h2
      rw [if_neg h2]
      split at h
      · simp at h
      · rename_i h3
        rw [if_neg h3]
theorem files_ok {s : SSt} (h : Fit s) : okL (filesOf s) ∧ (filesOf s).length ≤ 1000 := by
  obtain ⟨h1, h2⟩ := doneL_ok (fun _ => -1) s.pend 0 s.safe h.safe
  exact ⟨h1, Nat.le_trans h2 h.len⟩
/-- A store within bounds, but for the number of calls. -/
structure Fit0 (s : SSt) : Prop where
  len : s.safe.length + s.pend.length ≤ 1000
  safe : okL s.safe
  pend : okW s.pend
/-- A captured variable that holds a function. -/
def VarC (w : World) (b : Nat) (c : Value) : Prop := w.heap[b]? = some (.cells #[c] 113 (0, 0))
theorem VarC.below {w w1 : World} {b : Nat} {c : Value} (h : VarC w b c) (hb : Below w.heap.size w w1) : VarC w1 b c := blk_stays hb h
theorem VarC.cell {w : World} {b : Nat} {c : Value} (h : VarC w b c) : w.cell? ⟨b, 0, none⟩ = some c := by
  rw [cell_of_row w b 0 _ 113 (0, 0) h]; rfl
section
variable {B : Nat → Prop} {g : Nat} {s : SSt} {w : World} {name : ByteArray} {mv sv pv : Value}
/-- While the closure of 'of' runs. -/
structure OfS (B : Nat → Prop) (g : Nat) (s : SSt) (mv sv pv : Value) (name : ByteArray) (b0 b1 b2 : Nat) (c : Value) (w w' : World) : Prop where
  rep : RepAt B g s w' mv sv pv
  p : VarP w' b0 g
  n : VarS w' b1 name
  c : VarC w' b2 c
  below : Below w.heap.size w w'
theorem OfS.step {b0 b1 b2 : Nat} {c : Value} {u v : World} (h : OfS B g s mv sv pv name b0 b1 b2 c w u) (hb : Below u.heap.size u v) : OfS B g s mv sv pv name b0 b1 b2 c w v := ⟨h.rep.below hb, h.p.below hb, h.n.below hb, h.c.below hb, below_step h.below hb⟩
theorem OfS.all {b0 b1 b2 : Nat} {c : Value} {u : World} (h : OfS B g s mv sv pv name b0 b1 b2 c w u) : u.cell? ⟨b0, 0, none⟩ = some (.pointer (some ⟨g, 0, none⟩)) ∧ u.cell? ⟨b1, 0, none⟩ = some (.string name) ∧ OfS B g s mv sv pv name b0 b1 b2 c w u := ⟨h.p.cell, h.n.cell, h⟩
set_option maxHeartbeats 8000000 in
set_option maxRecDepth 100000 in
theorem of1_none (b0 b1 b2 : Nat) (c : Value) (h : RepAt B g s w mv sv pv) (hf : Fit s) (hp : VarP w b0 g) (hn : VarS w b1 name) (hc : VarC w b2 c) (hno : (getT (filesOf s) name).2 = false) :
    Calls Try.prog 93 #[.pointer (some ⟨b0, 0, none⟩), .pointer (some ⟨b1, 0, none⟩), .pointer (some ⟨b2, 0, none⟩)] w fun e w' => e = .returned (.int .i64 4) ∧ RepAt B g s w' mv sv pv ∧ Below w.heap.size w w' := by
  have hk0 : OfS B g s mv sv pv name b0 b1 b2 c w w := ⟨h, hp, hn, hc, Below.refl _ _⟩
  have HF := Aside0.mk hf
  obtain ⟨hfo, hfl⟩ := files_ok hf
  have HFO := Aside0.mk hfo
  have hge := get_f (filesOf s) name (by omega) hfo
  rw [hno] at hge
  have HGE := Aside0.mk hge
  clear h hp hn hc hf hfo hge
  go_enter Try.func93, Try.ntmps93
  go_wp2_with fail
  go_region_held3 (fun w' => w'.cell? ⟨b0, 0, none⟩ = some (.pointer (some ⟨g, 0, none⟩)) ∧ w'.cell? ⟨b1, 0, none⟩ = some (.string name) ∧ OfS B g s mv sv pv name b0 b1 b2 c w w')
    (first
      | exact (hk0.step (below_drew1 (Below.refl _ _))).all
      | (go_split_ands
         first
          | exact OfS.all (OfS.step (by assumption) hb6)
          | exact OfS.all (OfS.step (by assumption) hb5))
      | go_keep)
    (first
      | (go_split_ands; go_at_call 42; refine (files_calls ⟨mv, sv, pv, OfS.rep (by assumption)⟩ HF.out).mono ?_; rintro e w5 ⟨v5, rfl, hV5, hb5⟩; obtain ⟨A5, c5, rfl⟩ := Kd.V_slice hV5)
      | (go_split_ands
         go_at_call 28
         ((with_reducible refine (files_Get.calls A5 c5 (filesOf s) name (getT (filesOf s) name).1 false _ ?hs ?hc HGE.out).mono ?_); (case hs => exact (Kd.V_reads' hV5).2.2); (case hc => exact (Kd.V_reads' hV5).2.1))
         rintro e w6 ⟨v6, rfl, hV6, hb6⟩))
  have hfin : OfS B g s mv sv pv name b0 b1 b2 c w w6 := by go_split_ands; assumption
  have HFIN := Aside0.mk hfin
  clear hk0 hfin hV6 hV5 hb5 hb6
  go_wp2
  go_ret
  exact ⟨rfl, HFIN.out.rep, HFIN.out.below⟩
set_option maxHeartbeats 8000000 in
set_option maxRecDepth 100000 in
theorem of1_ok70 (b0 b1 b2 c0 c1 : Nat) (R : Int → World → Prop) (h : RepAt B g s w mv sv pv) (hf : Fit s) (hp : VarP w b0 g) (hn : VarS w b1 name) (hc : VarC w b2 (.func (.func 70) #[] #[.pointer (some ⟨c0, 0, none⟩), .pointer (some ⟨c1, 0, none⟩)])) (hok : (getT (filesOf s) name).2 = true)
    (hdo : ∀ w1 v, RepAt B g s w1 mv sv pv → Below w.heap.size w w1 → Kd.R (Kd.int .u8) 5 w1 w.heap.size (fun _ => True) v (getT (filesOf s) name).1 → Calls Try.prog 70 #[v, .pointer (some ⟨c0, 0, none⟩), .pointer (some ⟨c1, 0, none⟩)] w1 fun e w' => ∃ r, e = .returned (.int .i64 r) ∧ R r w') :
    Calls Try.prog 93 #[.pointer (some ⟨b0, 0, none⟩), .pointer (some ⟨b1, 0, none⟩), .pointer (some ⟨b2, 0, none⟩)] w fun e w' => ∃ r, e = .returned (.int .i64 r) ∧ R r w' := by
  have HDO := Aside0.mk hdo
  clear hdo
  have hk0 : OfS B g s mv sv pv name b0 b1 b2 (.func (.func 70) #[] #[.pointer (some ⟨c0, 0, none⟩), .pointer (some ⟨c1, 0, none⟩)]) w w := ⟨h, hp, hn, hc, Below.refl _ _⟩
  have HF := Aside0.mk hf
  obtain ⟨hfo, hfl⟩ := files_ok hf
  have HFO := Aside0.mk hfo
  have hge := get_f (filesOf s) name (by omega) hfo
  rw [hok] at hge
  have HGE := Aside0.mk hge
  clear h hp hn hc hf hfo hge
  go_enter Try.func93, Try.ntmps93
  go_wp2_with fail
  go_region_held3 (fun w' => w'.cell? ⟨b0, 0, none⟩ = some (.pointer (some ⟨g, 0, none⟩)) ∧ w'.cell? ⟨b1, 0, none⟩ = some (.string name) ∧ OfS B g s mv sv pv name b0 b1 b2 (.func (.func 70) #[] #[.pointer (some ⟨c0, 0, none⟩), .pointer (some ⟨c1, 0, none⟩)]) w w')
    (first
      | exact (hk0.step (below_drew1 (Below.refl _ _))).all
      | (go_split_ands
         first
          | exact OfS.all (OfS.step (by assumption) hb6)
          | exact OfS.all (OfS.step (by assumption) hb5))
      | go_keep)
    (first
      | (go_split_ands; go_at_call 42; refine (files_calls ⟨mv, sv, pv, OfS.rep (by assumption)⟩ HF.out).mono ?_; rintro e w5 ⟨v5, rfl, hV5, hb5⟩; obtain ⟨A5, c5, rfl⟩ := Kd.V_slice hV5)
      | (go_split_ands
         go_at_call 28
         ((with_reducible refine (files_Get.calls A5 c5 (filesOf s) name (getT (filesOf s) name).1 true _ ?hs ?hc HGE.out).mono ?_); (case hs => exact (Kd.V_reads' hV5).2.2); (case hc => exact (Kd.V_reads' hV5).2.1))
         rintro e w6 ⟨v6, rfl, hV6, hb6⟩))
  have hfin : OfS B g s mv sv pv name b0 b1 b2 (.func (.func 70) #[] #[.pointer (some ⟨c0, 0, none⟩), .pointer (some ⟨c1, 0, none⟩)]) w w6 := by go_split_ands; assumption
  have h5 : OfS B g s mv sv pv name b0 b1 b2 (.func (.func 70) #[] #[.pointer (some ⟨c0, 0, none⟩), .pointer (some ⟨c1, 0, none⟩)]) w w5 := by go_split_ands; assumption
  have hc6 := hfin.c.cell
  have HFIN := Aside0.mk hfin
  have HV6 := Aside0.mk (Kd.R_lower hV6 h5.below.size)
  clear hk0 hfin hV6 hV5 hb5 hb6 h5
  go_wp2_with (go_at_call 70; refine (HDO.out _ _ HFIN.out.rep HFIN.out.below HV6.out).mono ?_; rintro e w7 ⟨r, rfl, hR⟩; have HR := Aside0.mk hR; clear hR)
  go_ret
  exact ⟨r, rfl, HR.out⟩
set_option maxHeartbeats 8000000 in
set_option maxRecDepth 100000 in
theorem of_ok70 (c0 c1 : Nat) (R : Int → World → Prop) (h : RepAt B g s w mv sv pv) (hf : Fit s) (hf1 : Fit (asked s).1) (hBw : Up B w.heap.size) (ha : (asked s).2 = 0) (hok : (getT (filesOf s) name).2 = true)
    (hdo : ∀ w1 v, RepAt B g (asked s).1 w1 mv sv pv → BelS B w w1 → KeptG g w w1 → Kd.R (Kd.int .u8) 5 w1 w.heap.size (fun _ => True) v (getT (filesOf s) name).1 → Calls Try.prog 70 #[v, .pointer (some ⟨c0, 0, none⟩), .pointer (some ⟨c1, 0, none⟩)] w1 fun e w' => ∃ r, e = .returned (.int .i64 r) ∧ R r w') :
    Calls Try.prog 69 #[.pointer (some ⟨g, 0, none⟩), .string name, (.func (.func 70) #[] #[.pointer (some ⟨c0, 0, none⟩), .pointer (some ⟨c1, 0, none⟩)])] w fun e w' => ∃ r, e = .returned (.int .i64 r) ∧ R r w' := by
  have HDO := Aside0.mk hdo
  have H := Aside0.mk h
  have HF := Aside0.mk hf
  have HF1 := Aside0.mk hf1
  have HA := Aside0.mk ha
  have HOK := Aside0.mk hok
  clear h hf hf1 ha hok hdo
  obtain ⟨o0, ho0⟩ : ∃ o, o = Obj.cells #[.pointer (some ⟨g, 0, none⟩)] 58 := ⟨_, rfl⟩
  obtain ⟨o1, ho1⟩ : ∃ o, o = Obj.cells #[.string name] 9 := ⟨_, rfl⟩
  obtain ⟨o2, ho2⟩ : ∃ o, o = Obj.cells #[(.func (.func 70) #[] #[.pointer (some ⟨c0, 0, none⟩), .pointer (some ⟨c1, 0, none⟩)])] 113 := ⟨_, rfl⟩
  have hw3 : Below w.heap.size w (((w.alloc (Obj.cells #[.pointer (some ⟨g, 0, none⟩)] 58)).alloc (Obj.cells #[.string name] 9)).alloc (Obj.cells #[(.func (.func 70) #[] #[.pointer (some ⟨c0, 0, none⟩), .pointer (some ⟨c1, 0, none⟩)])] 113)) := below_alloc (below_alloc (below_alloc (Below.refl _ _) _) _) _
  have hp : VarP (((w.alloc (Obj.cells #[.pointer (some ⟨g, 0, none⟩)] 58)).alloc (Obj.cells #[.string name] 9)).alloc (Obj.cells #[(.func (.func 70) #[] #[.pointer (some ⟨c0, 0, none⟩), .pointer (some ⟨c1, 0, none⟩)])] 113)) w.heap.size g := blk_alloc (blk_alloc (heap_alloc_new _ _) _) _
  have hn : VarS (((w.alloc (Obj.cells #[.pointer (some ⟨g, 0, none⟩)] 58)).alloc (Obj.cells #[.string name] 9)).alloc (Obj.cells #[(.func (.func 70) #[] #[.pointer (some ⟨c0, 0, none⟩), .pointer (some ⟨c1, 0, none⟩)])] 113)) (w.heap.size + 1) name := by
    have := heap_alloc_new (w.alloc (Obj.cells #[.pointer (some ⟨g, 0, none⟩)] 58)) (Obj.cells #[.string name] 9)
    rw [World.size_alloc] at this
    exact blk_alloc this _
  have hc : VarC (((w.alloc (Obj.cells #[.pointer (some ⟨g, 0, none⟩)] 58)).alloc (Obj.cells #[.string name] 9)).alloc (Obj.cells #[(.func (.func 70) #[] #[.pointer (some ⟨c0, 0, none⟩), .pointer (some ⟨c1, 0, none⟩)])] 113)) (w.heap.size + 2) (.func (.func 70) #[] #[.pointer (some ⟨c0, 0, none⟩), .pointer (some ⟨c1, 0, none⟩)]) := by
    have := heap_alloc_new ((w.alloc (Obj.cells #[.pointer (some ⟨g, 0, none⟩)] 58)).alloc (Obj.cells #[.string name] 9)) (Obj.cells #[(.func (.func 70) #[] #[.pointer (some ⟨c0, 0, none⟩), .pointer (some ⟨c1, 0, none⟩)])] 113)
    rw [World.size_alloc, World.size_alloc] at this
    exact this
  have HW3 := Aside0.mk hw3
  have HP := Aside0.mk hp
  have HN := Aside0.mk hn
  have HC := Aside0.mk hc
  clear ho0 ho1 ho2 o0 o1 o2 hw3 hp hn hc
  have hg0 : g < w.heap.size := by exact blk_lt H.out.blk
  go_enter Try.func69, Try.ntmps69
  go_wp2_with (go_at_call 90; refine (call_ok93 w.heap.size (w.heap.size + 1) (w.heap.size + 2) R (H.out.below HW3.out) HF.out HA.out ?hclo).mono ?_; (case hclo =>
      intro w1 hr1 hb1 hk1
      have hne : ∀ b, w.heap.size ≤ b → b ≠ g := fun b hb => by omega
      refine of1_ok70 w.heap.size (w.heap.size + 1) (w.heap.size + 2) c0 c1 R hr1 HF1.out (blk_keptG HP.out hk1 (hne _ (by omega))) (blk_keptG HN.out hk1 (hne _ (by omega))) (blk_keptG HC.out hk1 (hne _ (by omega))) (by rw [asked_files]; exact HOK.out) ?_
      intro w2 v hr2 hb2 hv
      rw [asked_files] at hv
      refine HDO.out w2 v hr2 (belowB_trans (belowB_of hBw HW3.out) (belowB_trans hb1 (belowB_of (Up.le hBw (Nat.le_trans HW3.out.size hk1.1)) hb2))) ((KeptG.of_below HW3.out).trans (hk1.trans (KeptG.of_below hb2))) (Kd.R_lower hv (Nat.le_trans HW3.out.size hk1.1))); rintro e w7 ⟨r, rfl, hR⟩; have HR := Aside0.mk hR; clear hR)
  go_ret
  exact ⟨r, rfl, HR.out⟩
set_option maxHeartbeats 8000000 in
set_option maxRecDepth 100000 in
theorem of_none70 (c0 c1 : Nat) (h : RepAt B g s w mv sv pv) (hf : Fit s) (hf1 : Fit (asked s).1) (hBw : Up B w.heap.size) (ha : (asked s).2 = 0) (hok : (getT (filesOf s) name).2 = false) :
    Calls Try.prog 69 #[.pointer (some ⟨g, 0, none⟩), .string name, (.func (.func 70) #[] #[.pointer (some ⟨c0, 0, none⟩), .pointer (some ⟨c1, 0, none⟩)])] w fun e w' => ∃ r, e = .returned (.int .i64 r) ∧ r = 4 ∧ Rep B g (asked s).1 w' ∧ BelS B w w' := by
  have H := Aside0.mk h
  have HF := Aside0.mk hf
  have HF1 := Aside0.mk hf1
  have HA := Aside0.mk ha
  have HOK := Aside0.mk hok
  clear h hf hf1 ha hok
  obtain ⟨o0, ho0⟩ : ∃ o, o = Obj.cells #[.pointer (some ⟨g, 0, none⟩)] 58 := ⟨_, rfl⟩
  obtain ⟨o1, ho1⟩ : ∃ o, o = Obj.cells #[.string name] 9 := ⟨_, rfl⟩
  obtain ⟨o2, ho2⟩ : ∃ o, o = Obj.cells #[(.func (.func 70) #[] #[.pointer (some ⟨c0, 0, none⟩), .pointer (some ⟨c1, 0, none⟩)])] 113 := ⟨_, rfl⟩
  have hw3 : Below w.heap.size w (((w.alloc (Obj.cells #[.pointer (some ⟨g, 0, none⟩)] 58)).alloc (Obj.cells #[.string name] 9)).alloc (Obj.cells #[(.func (.func 70) #[] #[.pointer (some ⟨c0, 0, none⟩), .pointer (some ⟨c1, 0, none⟩)])] 113)) := below_alloc (below_alloc (below_alloc (Below.refl _ _) _) _) _
  have hp : VarP (((w.alloc (Obj.cells #[.pointer (some ⟨g, 0, none⟩)] 58)).alloc (Obj.cells #[.string name] 9)).alloc (Obj.cells #[(.func (.func 70) #[] #[.pointer (some ⟨c0, 0, none⟩), .pointer (some ⟨c1, 0, none⟩)])] 113)) w.heap.size g := blk_alloc (blk_alloc (heap_alloc_new _ _) _) _
  have hn : VarS (((w.alloc (Obj.cells #[.pointer (some ⟨g, 0, none⟩)] 58)).alloc (Obj.cells #[.string name] 9)).alloc (Obj.cells #[(.func (.func 70) #[] #[.pointer (some ⟨c0, 0, none⟩), .pointer (some ⟨c1, 0, none⟩)])] 113)) (w.heap.size + 1) name := by
    have := heap_alloc_new (w.alloc (Obj.cells #[.pointer (some ⟨g, 0, none⟩)] 58)) (Obj.cells #[.string name] 9)
    rw [World.size_alloc] at this
    exact blk_alloc this _
  have hc : VarC (((w.alloc (Obj.cells #[.pointer (some ⟨g, 0, none⟩)] 58)).alloc (Obj.cells #[.string name] 9)).alloc (Obj.cells #[(.func (.func 70) #[] #[.pointer (some ⟨c0, 0, none⟩), .pointer (some ⟨c1, 0, none⟩)])] 113)) (w.heap.size + 2) (.func (.func 70) #[] #[.pointer (some ⟨c0, 0, none⟩), .pointer (some ⟨c1, 0, none⟩)]) := by
    have := heap_alloc_new ((w.alloc (Obj.cells #[.pointer (some ⟨g, 0, none⟩)] 58)).alloc (Obj.cells #[.string name] 9)) (Obj.cells #[(.func (.func 70) #[] #[.pointer (some ⟨c0, 0, none⟩), .pointer (some ⟨c1, 0, none⟩)])] 113)
    rw [World.size_alloc, World.size_alloc] at this
    exact this
  have HW3 := Aside0.mk hw3
  have HP := Aside0.mk hp
  have HN := Aside0.mk hn
  have HC := Aside0.mk hc
  clear ho0 ho1 ho2 o0 o1 o2 hw3 hp hn hc
  have hg0 : g < w.heap.size := by exact blk_lt H.out.blk
  go_enter Try.func69, Try.ntmps69
  go_wp2_with (go_at_call 90; refine (call_ok93 w.heap.size (w.heap.size + 1) (w.heap.size + 2) (fun r w' => r = 4 ∧ Rep B g (asked s).1 w' ∧ BelS B w w') (H.out.below HW3.out) HF.out HA.out ?hclo).mono ?_; (case hclo =>
      intro w1 hr1 hb1 hk1
      have hne : ∀ b, w.heap.size ≤ b → b ≠ g := fun b hb => by omega
      refine (of1_none w.heap.size (w.heap.size + 1) (w.heap.size + 2) (.func (.func 70) #[] #[.pointer (some ⟨c0, 0, none⟩), .pointer (some ⟨c1, 0, none⟩)]) hr1 HF1.out (blk_keptG HP.out hk1 (hne _ (by omega))) (blk_keptG HN.out hk1 (hne _ (by omega))) (blk_keptG HC.out hk1 (hne _ (by omega))) (by rw [asked_files]; exact HOK.out)).mono ?_
      rintro e w2 ⟨rfl, hr2, hb2⟩
      exact ⟨4, rfl, rfl, ⟨mv, sv, pv, hr2⟩, belowB_trans (belowB_of hBw HW3.out) (belowB_trans hb1 (belowB_of (Up.le hBw (Nat.le_trans HW3.out.size hk1.1)) hb2))⟩); rintro e w7 ⟨r, rfl, rfl, hr7, hb7⟩; have HR7 := Aside0.mk hr7; have HB7 := Aside0.mk hb7; clear hr7 hb7)
  go_ret
  exact ⟨4, rfl, rfl, HR7.out, HB7.out⟩
set_option maxHeartbeats 8000000 in
set_option maxRecDepth 100000 in
theorem of_err70 (c0 c1 : Nat) (h : Rep B g s w) (hf : Fit s) (hBw : Up B w.heap.size) (ha : (asked s).2 ≠ 0) :
    Calls Try.prog 69 #[.pointer (some ⟨g, 0, none⟩), .string name, (.func (.func 70) #[] #[.pointer (some ⟨c0, 0, none⟩), .pointer (some ⟨c1, 0, none⟩)])] w fun e w' => ∃ r, e = .returned (.int .i64 r) ∧ r = (asked s).2 ∧ Rep B g (asked s).1 w' ∧ BelS B w w' := by
  have H := Aside0.mk h
  have HF := Aside0.mk hf
  have HA := Aside0.mk ha
  have hw3 : Below w.heap.size w (((w.alloc (Obj.cells #[.pointer (some ⟨g, 0, none⟩)] 58)).alloc (Obj.cells #[.string name] 9)).alloc (Obj.cells #[(.func (.func 70) #[] #[.pointer (some ⟨c0, 0, none⟩), .pointer (some ⟨c1, 0, none⟩)])] 113)) := below_alloc (below_alloc (below_alloc (Below.refl _ _) _) _) _
  have HW3 := Aside0.mk hw3
  clear h hf ha hw3
  go_enter Try.func69, Try.ntmps69
  go_wp2_with (go_at_call 90; refine (call_err _ (H.out.below HW3.out) HF.out HA.out).mono ?_; rintro e w7 ⟨rfl, hr7, hb7, hk7⟩; have HR7 := Aside0.mk hr7; have HB7 := Aside0.mk (belowB_trans (belowB_of hBw HW3.out) hb7); clear hr7 hb7 hk7)
  go_ret
  exact ⟨_, rfl, rfl, HR7.out, HB7.out⟩
set_option maxHeartbeats 8000000 in
set_option maxRecDepth 100000 in
theorem of1_ok96 (b0 b1 b2 c0 c1 : Nat) (R : Int → World → Prop) (h : RepAt B g s w mv sv pv) (hf : Fit s) (hp : VarP w b0 g) (hn : VarS w b1 name) (hc : VarC w b2 (.func (.func 96) #[] #[.pointer (some ⟨c0, 0, none⟩), .pointer (some ⟨c1, 0, none⟩)])) (hok : (getT (filesOf s) name).2 = true)
    (hdo : ∀ w1 v, RepAt B g s w1 mv sv pv → Below w.heap.size w w1 → Kd.R (Kd.int .u8) 5 w1 w.heap.size (fun _ => True) v (getT (filesOf s) name).1 → Calls Try.prog 96 #[v, .pointer (some ⟨c0, 0, none⟩), .pointer (some ⟨c1, 0, none⟩)] w1 fun e w' => ∃ r, e = .returned (.int .i64 r) ∧ R r w') :
    Calls Try.prog 93 #[.pointer (some ⟨b0, 0, none⟩), .pointer (some ⟨b1, 0, none⟩), .pointer (some ⟨b2, 0, none⟩)] w fun e w' => ∃ r, e = .returned (.int .i64 r) ∧ R r w' := by
  have HDO := Aside0.mk hdo
  clear hdo
  have hk0 : OfS B g s mv sv pv name b0 b1 b2 (.func (.func 96) #[] #[.pointer (some ⟨c0, 0, none⟩), .pointer (some ⟨c1, 0, none⟩)]) w w := ⟨h, hp, hn, hc, Below.refl _ _⟩
  have HF := Aside0.mk hf
  obtain ⟨hfo, hfl⟩ := files_ok hf
  have HFO := Aside0.mk hfo
  have hge := get_f (filesOf s) name (by omega) hfo
  rw [hok] at hge
  have HGE := Aside0.mk hge
  clear h hp hn hc hf hfo hge
  go_enter Try.func93, Try.ntmps93
  go_wp2_with fail
  go_region_held3 (fun w' => w'.cell? ⟨b0, 0, none⟩ = some (.pointer (some ⟨g, 0, none⟩)) ∧ w'.cell? ⟨b1, 0, none⟩ = some (.string name) ∧ OfS B g s mv sv pv name b0 b1 b2 (.func (.func 96) #[] #[.pointer (some ⟨c0, 0, none⟩), .pointer (some ⟨c1, 0, none⟩)]) w w')
    (first
      | exact (hk0.step (below_drew1 (Below.refl _ _))).all
      | (go_split_ands
         first
          | exact OfS.all (OfS.step (by assumption) hb6)
          | exact OfS.all (OfS.step (by assumption) hb5))
      | go_keep)
    (first
      | (go_split_ands; go_at_call 42; refine (files_calls ⟨mv, sv, pv, OfS.rep (by assumption)⟩ HF.out).mono ?_; rintro e w5 ⟨v5, rfl, hV5, hb5⟩; obtain ⟨A5, c5, rfl⟩ := Kd.V_slice hV5)
      | (go_split_ands
         go_at_call 28
         ((with_reducible refine (files_Get.calls A5 c5 (filesOf s) name (getT (filesOf s) name).1 true _ ?hs ?hc HGE.out).mono ?_); (case hs => exact (Kd.V_reads' hV5).2.2); (case hc => exact (Kd.V_reads' hV5).2.1))
         rintro e w6 ⟨v6, rfl, hV6, hb6⟩))
  have hfin : OfS B g s mv sv pv name b0 b1 b2 (.func (.func 96) #[] #[.pointer (some ⟨c0, 0, none⟩), .pointer (some ⟨c1, 0, none⟩)]) w w6 := by go_split_ands; assumption
  have h5 : OfS B g s mv sv pv name b0 b1 b2 (.func (.func 96) #[] #[.pointer (some ⟨c0, 0, none⟩), .pointer (some ⟨c1, 0, none⟩)]) w w5 := by go_split_ands; assumption
  have hc6 := hfin.c.cell
  have HFIN := Aside0.mk hfin
  have HV6 := Aside0.mk (Kd.R_lower hV6 h5.below.size)
  clear hk0 hfin hV6 hV5 hb5 hb6 h5
  go_wp2_with (go_at_call 96; refine (HDO.out _ _ HFIN.out.rep HFIN.out.below HV6.out).mono ?_; rintro e w7 ⟨r, rfl, hR⟩; have HR := Aside0.mk hR; clear hR)
  go_ret
  exact ⟨r, rfl, HR.out⟩
set_option maxHeartbeats 8000000 in
set_option maxRecDepth 100000 in
theorem of_ok96 (c0 c1 : Nat) (R : Int → World → Prop) (h : RepAt B g s w mv sv pv) (hf : Fit s) (hf1 : Fit (asked s).1) (hBw : Up B w.heap.size) (ha : (asked s).2 = 0) (hok : (getT (filesOf s) name).2 = true)
    (hdo : ∀ w1 v, RepAt B g (asked s).1 w1 mv sv pv → BelS B w w1 → KeptG g w w1 → Kd.R (Kd.int .u8) 5 w1 w.heap.size (fun _ => True) v (getT (filesOf s) name).1 → Calls Try.prog 96 #[v, .pointer (some ⟨c0, 0, none⟩), .pointer (some ⟨c1, 0, none⟩)] w1 fun e w' => ∃ r, e = .returned (.int .i64 r) ∧ R r w') :
    Calls Try.prog 69 #[.pointer (some ⟨g, 0, none⟩), .string name, (.func (.func 96) #[] #[.pointer (some ⟨c0, 0, none⟩), .pointer (some ⟨c1, 0, none⟩)])] w fun e w' => ∃ r, e = .returned (.int .i64 r) ∧ R r w' := by
  have HDO := Aside0.mk hdo
  have H := Aside0.mk h
  have HF := Aside0.mk hf
  have HF1 := Aside0.mk hf1
  have HA := Aside0.mk ha
  have HOK := Aside0.mk hok
  clear h hf hf1 ha hok hdo
  obtain ⟨o0, ho0⟩ : ∃ o, o = Obj.cells #[.pointer (some ⟨g, 0, none⟩)] 58 := ⟨_, rfl⟩
  obtain ⟨o1, ho1⟩ : ∃ o, o = Obj.cells #[.string name] 9 := ⟨_, rfl⟩
  obtain ⟨o2, ho2⟩ : ∃ o, o = Obj.cells #[(.func (.func 96) #[] #[.pointer (some ⟨c0, 0, none⟩), .pointer (some ⟨c1, 0, none⟩)])] 113 := ⟨_, rfl⟩
  have hw3 : Below w.heap.size w (((w.alloc (Obj.cells #[.pointer (some ⟨g, 0, none⟩)] 58)).alloc (Obj.cells #[.string name] 9)).alloc (Obj.cells #[(.func (.func 96) #[] #[.pointer (some ⟨c0, 0, none⟩), .pointer (some ⟨c1, 0, none⟩)])] 113)) := below_alloc (below_alloc (below_alloc (Below.refl _ _) _) _) _
  have hp : VarP (((w.alloc (Obj.cells #[.pointer (some ⟨g, 0, none⟩)] 58)).alloc (Obj.cells #[.string name] 9)).alloc (Obj.cells #[(.func (.func 96) #[] #[.pointer (some ⟨c0, 0, none⟩), .pointer (some ⟨c1, 0, none⟩)])] 113)) w.heap.size g := blk_alloc (blk_alloc (heap_alloc_new _ _) _) _
  have hn : VarS (((w.alloc (Obj.cells #[.pointer (some ⟨g, 0, none⟩)] 58)).alloc (Obj.cells #[.string name] 9)).alloc (Obj.cells #[(.func (.func 96) #[] #[.pointer (some ⟨c0, 0, none⟩), .pointer (some ⟨c1, 0, none⟩)])] 113)) (w.heap.size + 1) name := by
    have := heap_alloc_new (w.alloc (Obj.cells #[.pointer (some ⟨g, 0, none⟩)] 58)) (Obj.cells #[.string name] 9)
    rw [World.size_alloc] at this
    exact blk_alloc this _
  have hc : VarC (((w.alloc (Obj.cells #[.pointer (some ⟨g, 0, none⟩)] 58)).alloc (Obj.cells #[.string name] 9)).alloc (Obj.cells #[(.func (.func 96) #[] #[.pointer (some ⟨c0, 0, none⟩), .pointer (some ⟨c1, 0, none⟩)])] 113)) (w.heap.size + 2) (.func (.func 96) #[] #[.pointer (some ⟨c0, 0, none⟩), .pointer (some ⟨c1, 0, none⟩)]) := by
    have := heap_alloc_new ((w.alloc (Obj.cells #[.pointer (some ⟨g, 0, none⟩)] 58)).alloc (Obj.cells #[.string name] 9)) (Obj.cells #[(.func (.func 96) #[] #[.pointer (some ⟨c0, 0, none⟩), .pointer (some ⟨c1, 0, none⟩)])] 113)
    rw [World.size_alloc, World.size_alloc] at this
    exact this
  have HW3 := Aside0.mk hw3
  have HP := Aside0.mk hp
  have HN := Aside0.mk hn
  have HC := Aside0.mk hc
  clear ho0 ho1 ho2 o0 o1 o2 hw3 hp hn hc
  have hg0 : g < w.heap.size := by exact blk_lt H.out.blk
  go_enter Try.func69, Try.ntmps69
  go_wp2_with (go_at_call 90; refine (call_ok93 w.heap.size (w.heap.size + 1) (w.heap.size + 2) R (H.out.below HW3.out) HF.out HA.out ?hclo).mono ?_; (case hclo =>
      intro w1 hr1 hb1 hk1
      have hne : ∀ b, w.heap.size ≤ b → b ≠ g := fun b hb => by omega
      refine of1_ok96 w.heap.size (w.heap.size + 1) (w.heap.size + 2) c0 c1 R hr1 HF1.out (blk_keptG HP.out hk1 (hne _ (by omega))) (blk_keptG HN.out hk1 (hne _ (by omega))) (blk_keptG HC.out hk1 (hne _ (by omega))) (by rw [asked_files]; exact HOK.out) ?_
      intro w2 v hr2 hb2 hv
      rw [asked_files] at hv
      refine HDO.out w2 v hr2 (belowB_trans (belowB_of hBw HW3.out) (belowB_trans hb1 (belowB_of (Up.le hBw (Nat.le_trans HW3.out.size hk1.1)) hb2))) ((KeptG.of_below HW3.out).trans (hk1.trans (KeptG.of_below hb2))) (Kd.R_lower hv (Nat.le_trans HW3.out.size hk1.1))); rintro e w7 ⟨r, rfl, hR⟩; have HR := Aside0.mk hR; clear hR)
  go_ret
  exact ⟨r, rfl, HR.out⟩
set_option maxHeartbeats 8000000 in
set_option maxRecDepth 100000 in
theorem of_none96 (c0 c1 : Nat) (h : RepAt B g s w mv sv pv) (hf : Fit s) (hf1 : Fit (asked s).1) (hBw : Up B w.heap.size) (ha : (asked s).2 = 0) (hok : (getT (filesOf s) name).2 = false) :
    Calls Try.prog 69 #[.pointer (some ⟨g, 0, none⟩), .string name, (.func (.func 96) #[] #[.pointer (some ⟨c0, 0, none⟩), .pointer (some ⟨c1, 0, none⟩)])] w fun e w' => ∃ r, e = .returned (.int .i64 r) ∧ r = 4 ∧ Rep B g (asked s).1 w' ∧ BelS B w w' := by
  have H := Aside0.mk h
  have HF := Aside0.mk hf
  have HF1 := Aside0.mk hf1
  have HA := Aside0.mk ha
  have HOK := Aside0.mk hok
  clear h hf hf1 ha hok
  obtain ⟨o0, ho0⟩ : ∃ o, o = Obj.cells #[.pointer (some ⟨g, 0, none⟩)] 58 := ⟨_, rfl⟩
  obtain ⟨o1, ho1⟩ : ∃ o, o = Obj.cells #[.string name] 9 := ⟨_, rfl⟩
  obtain ⟨o2, ho2⟩ : ∃ o, o = Obj.cells #[(.func (.func 96) #[] #[.pointer (some ⟨c0, 0, none⟩), .pointer (some ⟨c1, 0, none⟩)])] 113 := ⟨_, rfl⟩
  have hw3 : Below w.heap.size w (((w.alloc (Obj.cells #[.pointer (some ⟨g, 0, none⟩)] 58)).alloc (Obj.cells #[.string name] 9)).alloc (Obj.cells #[(.func (.func 96) #[] #[.pointer (some ⟨c0, 0, none⟩), .pointer (some ⟨c1, 0, none⟩)])] 113)) := below_alloc (below_alloc (below_alloc (Below.refl _ _) _) _) _
  have hp : VarP (((w.alloc (Obj.cells #[.pointer (some ⟨g, 0, none⟩)] 58)).alloc (Obj.cells #[.string name] 9)).alloc (Obj.cells #[(.func (.func 96) #[] #[.pointer (some ⟨c0, 0, none⟩), .pointer (some ⟨c1, 0, none⟩)])] 113)) w.heap.size g := blk_alloc (blk_alloc (heap_alloc_new _ _) _) _
  have hn : VarS (((w.alloc (Obj.cells #[.pointer (some ⟨g, 0, none⟩)] 58)).alloc (Obj.cells #[.string name] 9)).alloc (Obj.cells #[(.func (.func 96) #[] #[.pointer (some ⟨c0, 0, none⟩), .pointer (some ⟨c1, 0, none⟩)])] 113)) (w.heap.size + 1) name := by
    have := heap_alloc_new (w.alloc (Obj.cells #[.pointer (some ⟨g, 0, none⟩)] 58)) (Obj.cells #[.string name] 9)
    rw [World.size_alloc] at this
    exact blk_alloc this _
  have hc : VarC (((w.alloc (Obj.cells #[.pointer (some ⟨g, 0, none⟩)] 58)).alloc (Obj.cells #[.string name] 9)).alloc (Obj.cells #[(.func (.func 96) #[] #[.pointer (some ⟨c0, 0, none⟩), .pointer (some ⟨c1, 0, none⟩)])] 113)) (w.heap.size + 2) (.func (.func 96) #[] #[.pointer (some ⟨c0, 0, none⟩), .pointer (some ⟨c1, 0, none⟩)]) := by
    have := heap_alloc_new ((w.alloc (Obj.cells #[.pointer (some ⟨g, 0, none⟩)] 58)).alloc (Obj.cells #[.string name] 9)) (Obj.cells #[(.func (.func 96) #[] #[.pointer (some ⟨c0, 0, none⟩), .pointer (some ⟨c1, 0, none⟩)])] 113)
    rw [World.size_alloc, World.size_alloc] at this
    exact this
  have HW3 := Aside0.mk hw3
  have HP := Aside0.mk hp
  have HN := Aside0.mk hn
  have HC := Aside0.mk hc
  clear ho0 ho1 ho2 o0 o1 o2 hw3 hp hn hc
  have hg0 : g < w.heap.size := by exact blk_lt H.out.blk
  go_enter Try.func69, Try.ntmps69
  go_wp2_with (go_at_call 90; refine (call_ok93 w.heap.size (w.heap.size + 1) (w.heap.size + 2) (fun r w' => r = 4 ∧ Rep B g (asked s).1 w' ∧ BelS B w w') (H.out.below HW3.out) HF.out HA.out ?hclo).mono ?_; (case hclo =>
      intro w1 hr1 hb1 hk1
      have hne : ∀ b, w.heap.size ≤ b → b ≠ g := fun b hb => by omega
      refine (of1_none w.heap.size (w.heap.size + 1) (w.heap.size + 2) (.func (.func 96) #[] #[.pointer (some ⟨c0, 0, none⟩), .pointer (some ⟨c1, 0, none⟩)]) hr1 HF1.out (blk_keptG HP.out hk1 (hne _ (by omega))) (blk_keptG HN.out hk1 (hne _ (by omega))) (blk_keptG HC.out hk1 (hne _ (by omega))) (by rw [asked_files]; exact HOK.out)).mono ?_
      rintro e w2 ⟨rfl, hr2, hb2⟩
      exact ⟨4, rfl, rfl, ⟨mv, sv, pv, hr2⟩, belowB_trans (belowB_of hBw HW3.out) (belowB_trans hb1 (belowB_of (Up.le hBw (Nat.le_trans HW3.out.size hk1.1)) hb2))⟩); rintro e w7 ⟨r, rfl, rfl, hr7, hb7⟩; have HR7 := Aside0.mk hr7; have HB7 := Aside0.mk hb7; clear hr7 hb7)
  go_ret
  exact ⟨4, rfl, rfl, HR7.out, HB7.out⟩
set_option maxHeartbeats 8000000 in
set_option maxRecDepth 100000 in
theorem of_err96 (c0 c1 : Nat) (h : Rep B g s w) (hf : Fit s) (hBw : Up B w.heap.size) (ha : (asked s).2 ≠ 0) :
    Calls Try.prog 69 #[.pointer (some ⟨g, 0, none⟩), .string name, (.func (.func 96) #[] #[.pointer (some ⟨c0, 0, none⟩), .pointer (some ⟨c1, 0, none⟩)])] w fun e w' => ∃ r, e = .returned (.int .i64 r) ∧ r = (asked s).2 ∧ Rep B g (asked s).1 w' ∧ BelS B w w' := by
  have H := Aside0.mk h
  have HF := Aside0.mk hf
  have HA := Aside0.mk ha
  have hw3 : Below w.heap.size w (((w.alloc (Obj.cells #[.pointer (some ⟨g, 0, none⟩)] 58)).alloc (Obj.cells #[.string name] 9)).alloc (Obj.cells #[(.func (.func 96) #[] #[.pointer (some ⟨c0, 0, none⟩), .pointer (some ⟨c1, 0, none⟩)])] 113)) := below_alloc (below_alloc (below_alloc (Below.refl _ _) _) _) _
  have HW3 := Aside0.mk hw3
  clear h hf ha hw3
  go_enter Try.func69, Try.ntmps69
  go_wp2_with (go_at_call 90; refine (call_err _ (H.out.below HW3.out) HF.out HA.out).mono ?_; rintro e w7 ⟨rfl, hr7, hb7, hk7⟩; have HR7 := Aside0.mk hr7; have HB7 := Aside0.mk (belowB_trans (belowB_of hBw HW3.out) hb7); clear hr7 hb7 hk7)
  go_ret
  exact ⟨_, rfl, rfl, HR7.out, HB7.out⟩
set_option maxHeartbeats 8000000 in
set_option maxRecDepth 100000 in
theorem of1_ok77 (b0 b1 b2 c0 c1 c2 : Nat) (R : Int → World → Prop) (h : RepAt B g s w mv sv pv) (hf : Fit s) (hp : VarP w b0 g) (hn : VarS w b1 name) (hc : VarC w b2 (.func (.func 77) #[] #[.pointer (some ⟨c0, 0, none⟩), .pointer (some ⟨c1, 0, none⟩), .pointer (some ⟨c2, 0, none⟩)])) (hok : (getT (filesOf s) name).2 = true)
    (hdo : ∀ w1 v, RepAt B g s w1 mv sv pv → Below w.heap.size w w1 → Kd.R (Kd.int .u8) 5 w1 w.heap.size (fun _ => True) v (getT (filesOf s) name).1 → Calls Try.prog 77 #[v, .pointer (some ⟨c0, 0, none⟩), .pointer (some ⟨c1, 0, none⟩), .pointer (some ⟨c2, 0, none⟩)] w1 fun e w' => ∃ r, e = .returned (.int .i64 r) ∧ R r w') :
    Calls Try.prog 93 #[.pointer (some ⟨b0, 0, none⟩), .pointer (some ⟨b1, 0, none⟩), .pointer (some ⟨b2, 0, none⟩)] w fun e w' => ∃ r, e = .returned (.int .i64 r) ∧ R r w' := by
  have HDO := Aside0.mk hdo
  clear hdo
  have hk0 : OfS B g s mv sv pv name b0 b1 b2 (.func (.func 77) #[] #[.pointer (some ⟨c0, 0, none⟩), .pointer (some ⟨c1, 0, none⟩), .pointer (some ⟨c2, 0, none⟩)]) w w := ⟨h, hp, hn, hc, Below.refl _ _⟩
  have HF := Aside0.mk hf
  obtain ⟨hfo, hfl⟩ := files_ok hf
  have HFO := Aside0.mk hfo
  have hge := get_f (filesOf s) name (by omega) hfo
  rw [hok] at hge
  have HGE := Aside0.mk hge
  clear h hp hn hc hf hfo hge
  go_enter Try.func93, Try.ntmps93
  go_wp2_with fail
  go_region_held3 (fun w' => w'.cell? ⟨b0, 0, none⟩ = some (.pointer (some ⟨g, 0, none⟩)) ∧ w'.cell? ⟨b1, 0, none⟩ = some (.string name) ∧ OfS B g s mv sv pv name b0 b1 b2 (.func (.func 77) #[] #[.pointer (some ⟨c0, 0, none⟩), .pointer (some ⟨c1, 0, none⟩), .pointer (some ⟨c2, 0, none⟩)]) w w')
    (first
      | exact (hk0.step (below_drew1 (Below.refl _ _))).all
      | (go_split_ands
         first
          | exact OfS.all (OfS.step (by assumption) hb6)
          | exact OfS.all (OfS.step (by assumption) hb5))
      | go_keep)
    (first
      | (go_split_ands; go_at_call 42; refine (files_calls ⟨mv, sv, pv, OfS.rep (by assumption)⟩ HF.out).mono ?_; rintro e w5 ⟨v5, rfl, hV5, hb5⟩; obtain ⟨A5, c5, rfl⟩ := Kd.V_slice hV5)
      | (go_split_ands
         go_at_call 28
         ((with_reducible refine (files_Get.calls A5 c5 (filesOf s) name (getT (filesOf s) name).1 true _ ?hs ?hc HGE.out).mono ?_); (case hs => exact (Kd.V_reads' hV5).2.2); (case hc => exact (Kd.V_reads' hV5).2.1))
         rintro e w6 ⟨v6, rfl, hV6, hb6⟩))
  have hfin : OfS B g s mv sv pv name b0 b1 b2 (.func (.func 77) #[] #[.pointer (some ⟨c0, 0, none⟩), .pointer (some ⟨c1, 0, none⟩), .pointer (some ⟨c2, 0, none⟩)]) w w6 := by go_split_ands; assumption
  have h5 : OfS B g s mv sv pv name b0 b1 b2 (.func (.func 77) #[] #[.pointer (some ⟨c0, 0, none⟩), .pointer (some ⟨c1, 0, none⟩), .pointer (some ⟨c2, 0, none⟩)]) w w5 := by go_split_ands; assumption
  have hc6 := hfin.c.cell
  have HFIN := Aside0.mk hfin
  have HV6 := Aside0.mk (Kd.R_lower hV6 h5.below.size)
  clear hk0 hfin hV6 hV5 hb5 hb6 h5
  go_wp2_with (go_at_call 77; refine (HDO.out _ _ HFIN.out.rep HFIN.out.below HV6.out).mono ?_; rintro e w7 ⟨r, rfl, hR⟩; have HR := Aside0.mk hR; clear hR)
  go_ret
  exact ⟨r, rfl, HR.out⟩
set_option maxHeartbeats 8000000 in
set_option maxRecDepth 100000 in
theorem of_ok77 (c0 c1 c2 : Nat) (R : Int → World → Prop) (h : RepAt B g s w mv sv pv) (hf : Fit s) (hf1 : Fit (asked s).1) (hBw : Up B w.heap.size) (ha : (asked s).2 = 0) (hok : (getT (filesOf s) name).2 = true)
    (hdo : ∀ w1 v, RepAt B g (asked s).1 w1 mv sv pv → BelS B w w1 → KeptG g w w1 → Kd.R (Kd.int .u8) 5 w1 w.heap.size (fun _ => True) v (getT (filesOf s) name).1 → Calls Try.prog 77 #[v, .pointer (some ⟨c0, 0, none⟩), .pointer (some ⟨c1, 0, none⟩), .pointer (some ⟨c2, 0, none⟩)] w1 fun e w' => ∃ r, e = .returned (.int .i64 r) ∧ R r w') :
    Calls Try.prog 69 #[.pointer (some ⟨g, 0, none⟩), .string name, (.func (.func 77) #[] #[.pointer (some ⟨c0, 0, none⟩), .pointer (some ⟨c1, 0, none⟩), .pointer (some ⟨c2, 0, none⟩)])] w fun e w' => ∃ r, e = .returned (.int .i64 r) ∧ R r w' := by
  have HDO := Aside0.mk hdo
  have H := Aside0.mk h
  have HF := Aside0.mk hf
  have HF1 := Aside0.mk hf1
  have HA := Aside0.mk ha
  have HOK := Aside0.mk hok
  clear h hf hf1 ha hok hdo
  obtain ⟨o0, ho0⟩ : ∃ o, o = Obj.cells #[.pointer (some ⟨g, 0, none⟩)] 58 := ⟨_, rfl⟩
  obtain ⟨o1, ho1⟩ : ∃ o, o = Obj.cells #[.string name] 9 := ⟨_, rfl⟩
  obtain ⟨o2, ho2⟩ : ∃ o, o = Obj.cells #[(.func (.func 77) #[] #[.pointer (some ⟨c0, 0, none⟩), .pointer (some ⟨c1, 0, none⟩), .pointer (some ⟨c2, 0, none⟩)])] 113 := ⟨_, rfl⟩
  have hw3 : Below w.heap.size w (((w.alloc (Obj.cells #[.pointer (some ⟨g, 0, none⟩)] 58)).alloc (Obj.cells #[.string name] 9)).alloc (Obj.cells #[(.func (.func 77) #[] #[.pointer (some ⟨c0, 0, none⟩), .pointer (some ⟨c1, 0, none⟩), .pointer (some ⟨c2, 0, none⟩)])] 113)) := below_alloc (below_alloc (below_alloc (Below.refl _ _) _) _) _
  have hp : VarP (((w.alloc (Obj.cells #[.pointer (some ⟨g, 0, none⟩)] 58)).alloc (Obj.cells #[.string name] 9)).alloc (Obj.cells #[(.func (.func 77) #[] #[.pointer (some ⟨c0, 0, none⟩), .pointer (some ⟨c1, 0, none⟩), .pointer (some ⟨c2, 0, none⟩)])] 113)) w.heap.size g := blk_alloc (blk_alloc (heap_alloc_new _ _) _) _
  have hn : VarS (((w.alloc (Obj.cells #[.pointer (some ⟨g, 0, none⟩)] 58)).alloc (Obj.cells #[.string name] 9)).alloc (Obj.cells #[(.func (.func 77) #[] #[.pointer (some ⟨c0, 0, none⟩), .pointer (some ⟨c1, 0, none⟩), .pointer (some ⟨c2, 0, none⟩)])] 113)) (w.heap.size + 1) name := by
    have := heap_alloc_new (w.alloc (Obj.cells #[.pointer (some ⟨g, 0, none⟩)] 58)) (Obj.cells #[.string name] 9)
    rw [World.size_alloc] at this
    exact blk_alloc this _
  have hc : VarC (((w.alloc (Obj.cells #[.pointer (some ⟨g, 0, none⟩)] 58)).alloc (Obj.cells #[.string name] 9)).alloc (Obj.cells #[(.func (.func 77) #[] #[.pointer (some ⟨c0, 0, none⟩), .pointer (some ⟨c1, 0, none⟩), .pointer (some ⟨c2, 0, none⟩)])] 113)) (w.heap.size + 2) (.func (.func 77) #[] #[.pointer (some ⟨c0, 0, none⟩), .pointer (some ⟨c1, 0, none⟩), .pointer (some ⟨c2, 0, none⟩)]) := by
    have := heap_alloc_new ((w.alloc (Obj.cells #[.pointer (some ⟨g, 0, none⟩)] 58)).alloc (Obj.cells #[.string name] 9)) (Obj.cells #[(.func (.func 77) #[] #[.pointer (some ⟨c0, 0, none⟩), .pointer (some ⟨c1, 0, none⟩), .pointer (some ⟨c2, 0, none⟩)])] 113)
    rw [World.size_alloc, World.size_alloc] at this
    exact this
  have HW3 := Aside0.mk hw3
  have HP := Aside0.mk hp
  have HN := Aside0.mk hn
  have HC := Aside0.mk hc
  clear ho0 ho1 ho2 o0 o1 o2 hw3 hp hn hc
  have hg0 : g < w.heap.size := by exact blk_lt H.out.blk
  go_enter Try.func69, Try.ntmps69
  go_wp2_with (go_at_call 90; refine (call_ok93 w.heap.size (w.heap.size + 1) (w.heap.size + 2) R (H.out.below HW3.out) HF.out HA.out ?hclo).mono ?_; (case hclo =>
      intro w1 hr1 hb1 hk1
      have hne : ∀ b, w.heap.size ≤ b → b ≠ g := fun b hb => by omega
      refine of1_ok77 w.heap.size (w.heap.size + 1) (w.heap.size + 2) c0 c1 c2 R hr1 HF1.out (blk_keptG HP.out hk1 (hne _ (by omega))) (blk_keptG HN.out hk1 (hne _ (by omega))) (blk_keptG HC.out hk1 (hne _ (by omega))) (by rw [asked_files]; exact HOK.out) ?_
      intro w2 v hr2 hb2 hv
      rw [asked_files] at hv
      refine HDO.out w2 v hr2 (belowB_trans (belowB_of hBw HW3.out) (belowB_trans hb1 (belowB_of (Up.le hBw (Nat.le_trans HW3.out.size hk1.1)) hb2))) ((KeptG.of_below HW3.out).trans (hk1.trans (KeptG.of_below hb2))) (Kd.R_lower hv (Nat.le_trans HW3.out.size hk1.1))); rintro e w7 ⟨r, rfl, hR⟩; have HR := Aside0.mk hR; clear hR)
  go_ret
  exact ⟨r, rfl, HR.out⟩
set_option maxHeartbeats 8000000 in
set_option maxRecDepth 100000 in
theorem of_none77 (c0 c1 c2 : Nat) (h : RepAt B g s w mv sv pv) (hf : Fit s) (hf1 : Fit (asked s).1) (hBw : Up B w.heap.size) (ha : (asked s).2 = 0) (hok : (getT (filesOf s) name).2 = false) :
    Calls Try.prog 69 #[.pointer (some ⟨g, 0, none⟩), .string name, (.func (.func 77) #[] #[.pointer (some ⟨c0, 0, none⟩), .pointer (some ⟨c1, 0, none⟩), .pointer (some ⟨c2, 0, none⟩)])] w fun e w' => ∃ r, e = .returned (.int .i64 r) ∧ r = 4 ∧ Rep B g (asked s).1 w' ∧ BelS B w w' := by
  have H := Aside0.mk h
  have HF := Aside0.mk hf
  have HF1 := Aside0.mk hf1
  have HA := Aside0.mk ha
  have HOK := Aside0.mk hok
  clear h hf hf1 ha hok
  obtain ⟨o0, ho0⟩ : ∃ o, o = Obj.cells #[.pointer (some ⟨g, 0, none⟩)] 58 := ⟨_, rfl⟩
  obtain ⟨o1, ho1⟩ : ∃ o, o = Obj.cells #[.string name] 9 := ⟨_, rfl⟩
  obtain ⟨o2, ho2⟩ : ∃ o, o = Obj.cells #[(.func (.func 77) #[] #[.pointer (some ⟨c0, 0, none⟩), .pointer (some ⟨c1, 0, none⟩), .pointer (some ⟨c2, 0, none⟩)])] 113 := ⟨_, rfl⟩
  have hw3 : Below w.heap.size w (((w.alloc (Obj.cells #[.pointer (some ⟨g, 0, none⟩)] 58)).alloc (Obj.cells #[.string name] 9)).alloc (Obj.cells #[(.func (.func 77) #[] #[.pointer (some ⟨c0, 0, none⟩), .pointer (some ⟨c1, 0, none⟩), .pointer (some ⟨c2, 0, none⟩)])] 113)) := below_alloc (below_alloc (below_alloc (Below.refl _ _) _) _) _
  have hp : VarP (((w.alloc (Obj.cells #[.pointer (some ⟨g, 0, none⟩)] 58)).alloc (Obj.cells #[.string name] 9)).alloc (Obj.cells #[(.func (.func 77) #[] #[.pointer (some ⟨c0, 0, none⟩), .pointer (some ⟨c1, 0, none⟩), .pointer (some ⟨c2, 0, none⟩)])] 113)) w.heap.size g := blk_alloc (blk_alloc (heap_alloc_new _ _) _) _
  have hn : VarS (((w.alloc (Obj.cells #[.pointer (some ⟨g, 0, none⟩)] 58)).alloc (Obj.cells #[.string name] 9)).alloc (Obj.cells #[(.func (.func 77) #[] #[.pointer (some ⟨c0, 0, none⟩), .pointer (some ⟨c1, 0, none⟩), .pointer (some ⟨c2, 0, none⟩)])] 113)) (w.heap.size + 1) name := by
    have := heap_alloc_new (w.alloc (Obj.cells #[.pointer (some ⟨g, 0, none⟩)] 58)) (Obj.cells #[.string name] 9)
    rw [World.size_alloc] at this
    exact blk_alloc this _
  have hc : VarC (((w.alloc (Obj.cells #[.pointer (some ⟨g, 0, none⟩)] 58)).alloc (Obj.cells #[.string name] 9)).alloc (Obj.cells #[(.func (.func 77) #[] #[.pointer (some ⟨c0, 0, none⟩), .pointer (some ⟨c1, 0, none⟩), .pointer (some ⟨c2, 0, none⟩)])] 113)) (w.heap.size + 2) (.func (.func 77) #[] #[.pointer (some ⟨c0, 0, none⟩), .pointer (some ⟨c1, 0, none⟩), .pointer (some ⟨c2, 0, none⟩)]) := by
    have := heap_alloc_new ((w.alloc (Obj.cells #[.pointer (some ⟨g, 0, none⟩)] 58)).alloc (Obj.cells #[.string name] 9)) (Obj.cells #[(.func (.func 77) #[] #[.pointer (some ⟨c0, 0, none⟩), .pointer (some ⟨c1, 0, none⟩), .pointer (some ⟨c2, 0, none⟩)])] 113)
    rw [World.size_alloc, World.size_alloc] at this
    exact this
  have HW3 := Aside0.mk hw3
  have HP := Aside0.mk hp
  have HN := Aside0.mk hn
  have HC := Aside0.mk hc
  clear ho0 ho1 ho2 o0 o1 o2 hw3 hp hn hc
  have hg0 : g < w.heap.size := by exact blk_lt H.out.blk
  go_enter Try.func69, Try.ntmps69
  go_wp2_with (go_at_call 90; refine (call_ok93 w.heap.size (w.heap.size + 1) (w.heap.size + 2) (fun r w' => r = 4 ∧ Rep B g (asked s).1 w' ∧ BelS B w w') (H.out.below HW3.out) HF.out HA.out ?hclo).mono ?_; (case hclo =>
      intro w1 hr1 hb1 hk1
      have hne : ∀ b, w.heap.size ≤ b → b ≠ g := fun b hb => by omega
      refine (of1_none w.heap.size (w.heap.size + 1) (w.heap.size + 2) (.func (.func 77) #[] #[.pointer (some ⟨c0, 0, none⟩), .pointer (some ⟨c1, 0, none⟩), .pointer (some ⟨c2, 0, none⟩)]) hr1 HF1.out (blk_keptG HP.out hk1 (hne _ (by omega))) (blk_keptG HN.out hk1 (hne _ (by omega))) (blk_keptG HC.out hk1 (hne _ (by omega))) (by rw [asked_files]; exact HOK.out)).mono ?_
      rintro e w2 ⟨rfl, hr2, hb2⟩
      exact ⟨4, rfl, rfl, ⟨mv, sv, pv, hr2⟩, belowB_trans (belowB_of hBw HW3.out) (belowB_trans hb1 (belowB_of (Up.le hBw (Nat.le_trans HW3.out.size hk1.1)) hb2))⟩); rintro e w7 ⟨r, rfl, rfl, hr7, hb7⟩; have HR7 := Aside0.mk hr7; have HB7 := Aside0.mk hb7; clear hr7 hb7)
  go_ret
  exact ⟨4, rfl, rfl, HR7.out, HB7.out⟩
set_option maxHeartbeats 8000000 in
set_option maxRecDepth 100000 in
theorem of_err77 (c0 c1 c2 : Nat) (h : Rep B g s w) (hf : Fit s) (hBw : Up B w.heap.size) (ha : (asked s).2 ≠ 0) :
    Calls Try.prog 69 #[.pointer (some ⟨g, 0, none⟩), .string name, (.func (.func 77) #[] #[.pointer (some ⟨c0, 0, none⟩), .pointer (some ⟨c1, 0, none⟩), .pointer (some ⟨c2, 0, none⟩)])] w fun e w' => ∃ r, e = .returned (.int .i64 r) ∧ r = (asked s).2 ∧ Rep B g (asked s).1 w' ∧ BelS B w w' := by
  have H := Aside0.mk h
  have HF := Aside0.mk hf
  have HA := Aside0.mk ha
  have hw3 : Below w.heap.size w (((w.alloc (Obj.cells #[.pointer (some ⟨g, 0, none⟩)] 58)).alloc (Obj.cells #[.string name] 9)).alloc (Obj.cells #[(.func (.func 77) #[] #[.pointer (some ⟨c0, 0, none⟩), .pointer (some ⟨c1, 0, none⟩), .pointer (some ⟨c2, 0, none⟩)])] 113)) := below_alloc (below_alloc (below_alloc (Below.refl _ _) _) _) _
  have HW3 := Aside0.mk hw3
  clear h hf ha hw3
  go_enter Try.func69, Try.ntmps69
  go_wp2_with (go_at_call 90; refine (call_err _ (H.out.below HW3.out) HF.out HA.out).mono ?_; rintro e w7 ⟨rfl, hr7, hb7, hk7⟩; have HR7 := Aside0.mk hr7; have HB7 := Aside0.mk (belowB_trans (belowB_of hBw HW3.out) hb7); clear hr7 hb7 hk7)
  go_ret
  exact ⟨_, rfl, rfl, HR7.out, HB7.out⟩
set_option maxHeartbeats 8000000 in
set_option maxRecDepth 100000 in
theorem of1_ok92 (b0 b1 b2 c0 : Nat) (R : Int → World → Prop) (h : RepAt B g s w mv sv pv) (hf : Fit s) (hp : VarP w b0 g) (hn : VarS w b1 name) (hc : VarC w b2 (.func (.func 92) #[] #[.pointer (some ⟨c0, 0, none⟩)])) (hok : (getT (filesOf s) name).2 = true)
    (hdo : ∀ w1 v, RepAt B g s w1 mv sv pv → Below w.heap.size w w1 → Kd.R (Kd.int .u8) 5 w1 w.heap.size (fun _ => True) v (getT (filesOf s) name).1 → Calls Try.prog 92 #[v, .pointer (some ⟨c0, 0, none⟩)] w1 fun e w' => ∃ r, e = .returned (.int .i64 r) ∧ R r w') :
    Calls Try.prog 93 #[.pointer (some ⟨b0, 0, none⟩), .pointer (some ⟨b1, 0, none⟩), .pointer (some ⟨b2, 0, none⟩)] w fun e w' => ∃ r, e = .returned (.int .i64 r) ∧ R r w' := by
  have HDO := Aside0.mk hdo
  clear hdo
  have hk0 : OfS B g s mv sv pv name b0 b1 b2 (.func (.func 92) #[] #[.pointer (some ⟨c0, 0, none⟩)]) w w := ⟨h, hp, hn, hc, Below.refl _ _⟩
  have HF := Aside0.mk hf
  obtain ⟨hfo, hfl⟩ := files_ok hf
  have HFO := Aside0.mk hfo
  have hge := get_f (filesOf s) name (by omega) hfo
  rw [hok] at hge
  have HGE := Aside0.mk hge
  clear h hp hn hc hf hfo hge
  go_enter Try.func93, Try.ntmps93
  go_wp2_with fail
  go_region_held3 (fun w' => w'.cell? ⟨b0, 0, none⟩ = some (.pointer (some ⟨g, 0, none⟩)) ∧ w'.cell? ⟨b1, 0, none⟩ = some (.string name) ∧ OfS B g s mv sv pv name b0 b1 b2 (.func (.func 92) #[] #[.pointer (some ⟨c0, 0, none⟩)]) w w')
    (first
      | exact (hk0.step (below_drew1 (Below.refl _ _))).all
      | (go_split_ands
         first
          | exact OfS.all (OfS.step (by assumption) hb6)
          | exact OfS.all (OfS.step (by assumption) hb5))
      | go_keep)
    (first
      | (go_split_ands; go_at_call 42; refine (files_calls ⟨mv, sv, pv, OfS.rep (by assumption)⟩ HF.out).mono ?_; rintro e w5 ⟨v5, rfl, hV5, hb5⟩; obtain ⟨A5, c5, rfl⟩ := Kd.V_slice hV5)
      | (go_split_ands
         go_at_call 28
         ((with_reducible refine (files_Get.calls A5 c5 (filesOf s) name (getT (filesOf s) name).1 true _ ?hs ?hc HGE.out).mono ?_); (case hs => exact (Kd.V_reads' hV5).2.2); (case hc => exact (Kd.V_reads' hV5).2.1))
         rintro e w6 ⟨v6, rfl, hV6, hb6⟩))
  have hfin : OfS B g s mv sv pv name b0 b1 b2 (.func (.func 92) #[] #[.pointer (some ⟨c0, 0, none⟩)]) w w6 := by go_split_ands; assumption
  have h5 : OfS B g s mv sv pv name b0 b1 b2 (.func (.func 92) #[] #[.pointer (some ⟨c0, 0, none⟩)]) w w5 := by go_split_ands; assumption
  have hc6 := hfin.c.cell
  have HFIN := Aside0.mk hfin
  have HV6 := Aside0.mk (Kd.R_lower hV6 h5.below.size)
  clear hk0 hfin hV6 hV5 hb5 hb6 h5
  go_wp2_with (go_at_call 92; refine (HDO.out _ _ HFIN.out.rep HFIN.out.below HV6.out).mono ?_; rintro e w7 ⟨r, rfl, hR⟩; have HR := Aside0.mk hR; clear hR)
  go_ret
  exact ⟨r, rfl, HR.out⟩
set_option maxHeartbeats 8000000 in
set_option maxRecDepth 100000 in
theorem of_ok92 (c0 : Nat) (R : Int → World → Prop) (h : RepAt B g s w mv sv pv) (hf : Fit s) (hf1 : Fit (asked s).1) (hBw : Up B w.heap.size) (ha : (asked s).2 = 0) (hok : (getT (filesOf s) name).2 = true)
    (hdo : ∀ w1 v, RepAt B g (asked s).1 w1 mv sv pv → BelS B w w1 → KeptG g w w1 → Kd.R (Kd.int .u8) 5 w1 w.heap.size (fun _ => True) v (getT (filesOf s) name).1 → Calls Try.prog 92 #[v, .pointer (some ⟨c0, 0, none⟩)] w1 fun e w' => ∃ r, e = .returned (.int .i64 r) ∧ R r w') :
    Calls Try.prog 69 #[.pointer (some ⟨g, 0, none⟩), .string name, (.func (.func 92) #[] #[.pointer (some ⟨c0, 0, none⟩)])] w fun e w' => ∃ r, e = .returned (.int .i64 r) ∧ R r w' := by
  have HDO := Aside0.mk hdo
  have H := Aside0.mk h
  have HF := Aside0.mk hf
  have HF1 := Aside0.mk hf1
  have HA := Aside0.mk ha
  have HOK := Aside0.mk hok
  clear h hf hf1 ha hok hdo
  obtain ⟨o0, ho0⟩ : ∃ o, o = Obj.cells #[.pointer (some ⟨g, 0, none⟩)] 58 := ⟨_, rfl⟩
  obtain ⟨o1, ho1⟩ : ∃ o, o = Obj.cells #[.string name] 9 := ⟨_, rfl⟩
  obtain ⟨o2, ho2⟩ : ∃ o, o = Obj.cells #[(.func (.func 92) #[] #[.pointer (some ⟨c0, 0, none⟩)])] 113 := ⟨_, rfl⟩
  have hw3 : Below w.heap.size w (((w.alloc (Obj.cells #[.pointer (some ⟨g, 0, none⟩)] 58)).alloc (Obj.cells #[.string name] 9)).alloc (Obj.cells #[(.func (.func 92) #[] #[.pointer (some ⟨c0, 0, none⟩)])] 113)) := below_alloc (below_alloc (below_alloc (Below.refl _ _) _) _) _
  have hp : VarP (((w.alloc (Obj.cells #[.pointer (some ⟨g, 0, none⟩)] 58)).alloc (Obj.cells #[.string name] 9)).alloc (Obj.cells #[(.func (.func 92) #[] #[.pointer (some ⟨c0, 0, none⟩)])] 113)) w.heap.size g := blk_alloc (blk_alloc (heap_alloc_new _ _) _) _
  have hn : VarS (((w.alloc (Obj.cells #[.pointer (some ⟨g, 0, none⟩)] 58)).alloc (Obj.cells #[.string name] 9)).alloc (Obj.cells #[(.func (.func 92) #[] #[.pointer (some ⟨c0, 0, none⟩)])] 113)) (w.heap.size + 1) name := by
    have := heap_alloc_new (w.alloc (Obj.cells #[.pointer (some ⟨g, 0, none⟩)] 58)) (Obj.cells #[.string name] 9)
    rw [World.size_alloc] at this
    exact blk_alloc this _
  have hc : VarC (((w.alloc (Obj.cells #[.pointer (some ⟨g, 0, none⟩)] 58)).alloc (Obj.cells #[.string name] 9)).alloc (Obj.cells #[(.func (.func 92) #[] #[.pointer (some ⟨c0, 0, none⟩)])] 113)) (w.heap.size + 2) (.func (.func 92) #[] #[.pointer (some ⟨c0, 0, none⟩)]) := by
    have := heap_alloc_new ((w.alloc (Obj.cells #[.pointer (some ⟨g, 0, none⟩)] 58)).alloc (Obj.cells #[.string name] 9)) (Obj.cells #[(.func (.func 92) #[] #[.pointer (some ⟨c0, 0, none⟩)])] 113)
    rw [World.size_alloc, World.size_alloc] at this
    exact this
  have HW3 := Aside0.mk hw3
  have HP := Aside0.mk hp
  have HN := Aside0.mk hn
  have HC := Aside0.mk hc
  clear ho0 ho1 ho2 o0 o1 o2 hw3 hp hn hc
  have hg0 : g < w.heap.size := by exact blk_lt H.out.blk
  go_enter Try.func69, Try.ntmps69
  go_wp2_with (go_at_call 90; refine (call_ok93 w.heap.size (w.heap.size + 1) (w.heap.size + 2) R (H.out.below HW3.out) HF.out HA.out ?hclo).mono ?_; (case hclo =>
      intro w1 hr1 hb1 hk1
      have hne : ∀ b, w.heap.size ≤ b → b ≠ g := fun b hb => by omega
      refine of1_ok92 w.heap.size (w.heap.size + 1) (w.heap.size + 2) c0 R hr1 HF1.out (blk_keptG HP.out hk1 (hne _ (by omega))) (blk_keptG HN.out hk1 (hne _ (by omega))) (blk_keptG HC.out hk1 (hne _ (by omega))) (by rw [asked_files]; exact HOK.out) ?_
      intro w2 v hr2 hb2 hv
      rw [asked_files] at hv
      refine HDO.out w2 v hr2 (belowB_trans (belowB_of hBw HW3.out) (belowB_trans hb1 (belowB_of (Up.le hBw (Nat.le_trans HW3.out.size hk1.1)) hb2))) ((KeptG.of_below HW3.out).trans (hk1.trans (KeptG.of_below hb2))) (Kd.R_lower hv (Nat.le_trans HW3.out.size hk1.1))); rintro e w7 ⟨r, rfl, hR⟩; have HR := Aside0.mk hR; clear hR)
  go_ret
  exact ⟨r, rfl, HR.out⟩
set_option maxHeartbeats 8000000 in
set_option maxRecDepth 100000 in
theorem of_none92 (c0 : Nat) (h : RepAt B g s w mv sv pv) (hf : Fit s) (hf1 : Fit (asked s).1) (hBw : Up B w.heap.size) (ha : (asked s).2 = 0) (hok : (getT (filesOf s) name).2 = false) :
    Calls Try.prog 69 #[.pointer (some ⟨g, 0, none⟩), .string name, (.func (.func 92) #[] #[.pointer (some ⟨c0, 0, none⟩)])] w fun e w' => ∃ r, e = .returned (.int .i64 r) ∧ r = 4 ∧ Rep B g (asked s).1 w' ∧ BelS B w w' ∧ KeptG g w w' := by
  have H := Aside0.mk h
  have HF := Aside0.mk hf
  have HF1 := Aside0.mk hf1
  have HA := Aside0.mk ha
  have HOK := Aside0.mk hok
  clear h hf hf1 ha hok
  obtain ⟨o0, ho0⟩ : ∃ o, o = Obj.cells #[.pointer (some ⟨g, 0, none⟩)] 58 := ⟨_, rfl⟩
  obtain ⟨o1, ho1⟩ : ∃ o, o = Obj.cells #[.string name] 9 := ⟨_, rfl⟩
  obtain ⟨o2, ho2⟩ : ∃ o, o = Obj.cells #[(.func (.func 92) #[] #[.pointer (some ⟨c0, 0, none⟩)])] 113 := ⟨_, rfl⟩
  have hw3 : Below w.heap.size w (((w.alloc (Obj.cells #[.pointer (some ⟨g, 0, none⟩)] 58)).alloc (Obj.cells #[.string name] 9)).alloc (Obj.cells #[(.func (.func 92) #[] #[.pointer (some ⟨c0, 0, none⟩)])] 113)) := below_alloc (below_alloc (below_alloc (Below.refl _ _) _) _) _
  have hp : VarP (((w.alloc (Obj.cells #[.pointer (some ⟨g, 0, none⟩)] 58)).alloc (Obj.cells #[.string name] 9)).alloc (Obj.cells #[(.func (.func 92) #[] #[.pointer (some ⟨c0, 0, none⟩)])] 113)) w.heap.size g := blk_alloc (blk_alloc (heap_alloc_new _ _) _) _
  have hn : VarS (((w.alloc (Obj.cells #[.pointer (some ⟨g, 0, none⟩)] 58)).alloc (Obj.cells #[.string name] 9)).alloc (Obj.cells #[(.func (.func 92) #[] #[.pointer (some ⟨c0, 0, none⟩)])] 113)) (w.heap.size + 1) name := by
    have := heap_alloc_new (w.alloc (Obj.cells #[.pointer (some ⟨g, 0, none⟩)] 58)) (Obj.cells #[.string name] 9)
    rw [World.size_alloc] at this
    exact blk_alloc this _
  have hc : VarC (((w.alloc (Obj.cells #[.pointer (some ⟨g, 0, none⟩)] 58)).alloc (Obj.cells #[.string name] 9)).alloc (Obj.cells #[(.func (.func 92) #[] #[.pointer (some ⟨c0, 0, none⟩)])] 113)) (w.heap.size + 2) (.func (.func 92) #[] #[.pointer (some ⟨c0, 0, none⟩)]) := by
    have := heap_alloc_new ((w.alloc (Obj.cells #[.pointer (some ⟨g, 0, none⟩)] 58)).alloc (Obj.cells #[.string name] 9)) (Obj.cells #[(.func (.func 92) #[] #[.pointer (some ⟨c0, 0, none⟩)])] 113)
    rw [World.size_alloc, World.size_alloc] at this
    exact this
  have HW3 := Aside0.mk hw3
  have HP := Aside0.mk hp
  have HN := Aside0.mk hn
  have HC := Aside0.mk hc
  clear ho0 ho1 ho2 o0 o1 o2 hw3 hp hn hc
  have hg0 : g < w.heap.size := by exact blk_lt H.out.blk
  go_enter Try.func69, Try.ntmps69
  go_wp2_with (go_at_call 90; refine (call_ok93 w.heap.size (w.heap.size + 1) (w.heap.size + 2) (fun r w' => r = 4 ∧ Rep B g (asked s).1 w' ∧ BelS B w w' ∧ KeptG g w w') (H.out.below HW3.out) HF.out HA.out ?hclo).mono ?_; (case hclo =>
      intro w1 hr1 hb1 hk1
      have hne : ∀ b, w.heap.size ≤ b → b ≠ g := fun b hb => by omega
      refine (of1_none w.heap.size (w.heap.size + 1) (w.heap.size + 2) (.func (.func 92) #[] #[.pointer (some ⟨c0, 0, none⟩)]) hr1 HF1.out (blk_keptG HP.out hk1 (hne _ (by omega))) (blk_keptG HN.out hk1 (hne _ (by omega))) (blk_keptG HC.out hk1 (hne _ (by omega))) (by rw [asked_files]; exact HOK.out)).mono ?_
      rintro e w2 ⟨rfl, hr2, hb2⟩
      exact ⟨4, rfl, rfl, ⟨mv, sv, pv, hr2⟩, belowB_trans (belowB_of hBw HW3.out) (belowB_trans hb1 (belowB_of (Up.le hBw (Nat.le_trans HW3.out.size hk1.1)) hb2)), (KeptG.of_below HW3.out).trans (hk1.trans (KeptG.of_below hb2))⟩); rintro e w7 ⟨r, rfl, rfl, hr7, hb7, hk7⟩; have HK7 := Aside0.mk hk7; have HR7 := Aside0.mk hr7; have HB7 := Aside0.mk hb7; clear hr7 hb7 hk7)
  go_ret
  exact ⟨4, rfl, rfl, HR7.out, HB7.out, HK7.out⟩
set_option maxHeartbeats 8000000 in
set_option maxRecDepth 100000 in
theorem of_err92 (c0 : Nat) (h : Rep B g s w) (hf : Fit s) (hBw : Up B w.heap.size) (ha : (asked s).2 ≠ 0) :
    Calls Try.prog 69 #[.pointer (some ⟨g, 0, none⟩), .string name, (.func (.func 92) #[] #[.pointer (some ⟨c0, 0, none⟩)])] w fun e w' => ∃ r, e = .returned (.int .i64 r) ∧ r = (asked s).2 ∧ Rep B g (asked s).1 w' ∧ BelS B w w' ∧ KeptG g w w' := by
  have H := Aside0.mk h
  have HF := Aside0.mk hf
  have HA := Aside0.mk ha
  have hw3 : Below w.heap.size w (((w.alloc (Obj.cells #[.pointer (some ⟨g, 0, none⟩)] 58)).alloc (Obj.cells #[.string name] 9)).alloc (Obj.cells #[(.func (.func 92) #[] #[.pointer (some ⟨c0, 0, none⟩)])] 113)) := below_alloc (below_alloc (below_alloc (Below.refl _ _) _) _) _
  have HW3 := Aside0.mk hw3
  clear h hf ha hw3
  go_enter Try.func69, Try.ntmps69
  go_wp2_with (go_at_call 90; refine (call_err _ (H.out.below HW3.out) HF.out HA.out).mono ?_; rintro e w7 ⟨rfl, hr7, hb7, hk7⟩; have HR7 := Aside0.mk hr7; have HB7 := Aside0.mk (belowB_trans (belowB_of hBw HW3.out) hb7); have HK7 := Aside0.mk ((KeptG.of_below HW3.out).trans hk7); clear hr7 hb7 hk7)
  go_ret
  exact ⟨_, rfl, rfl, HR7.out, HB7.out, HK7.out⟩
/-- A call for a file that is there. -/
def ofR (s : SSt) (name : ByteArray) (k : SSt → SSt × Int) : SSt × Int := if (asked s).2 ≠ 0 then asked s else if (getT (filesOf s) name).2 = true then k (asked s).1 else ((asked s).1, 4)
def syncR (s : SSt) (name : ByteArray) : SSt × Int := ofR s name fun s => (syncD s name, 0)
def dropR (s : SSt) (name : ByteArray) : SSt × Int := ofR s name fun s => (dropD s name, 0)
def moveR (s : SSt) (a b : ByteArray) : SSt × Int := ofR s a fun s => if b.size < 1 ∨ 40 < b.size then (s, 1) else if (a.toList == b.toList) = true then (s, 0) else (moveD s a b, 0)
theorem ofR_err {name : ByteArray} {k : SSt → SSt × Int} (ha : ¬ (asked s).2 = 0) : ofR s name k = asked s := by unfold ofR; rw [if_pos ha]
theorem ofR_none {name : ByteArray} {k : SSt → SSt × Int} (ha : (asked s).2 = 0) (h : (getT (filesOf s) name).2 = false) : ofR s name k = ((asked s).1, 4) := by unfold ofR; rw [if_neg (by simp [ha]), if_neg (by simp [h])]
theorem ofR_ok {name : ByteArray} {k : SSt → SSt × Int} (ha : (asked s).2 = 0) (h : (getT (filesOf s) name).2 = true) : ofR s name k = k (asked s).1 := by unfold ofR; rw [if_neg (by simp [ha]), if_pos h]
set_option maxHeartbeats 8000000 in
set_option maxRecDepth 100000 in
theorem sync_calls (name : ByteArray) (h : Rep B g s w) (hf : Fit s) (hf1 : Fit (asked s).1) (hBw : Up B w.heap.size) :
    Calls Try.prog 41 #[.pointer (some ⟨g, 0, none⟩), .string name] w fun e w' => e = .returned (.int .i64 (syncR s name).2) ∧ Rep B g (syncR s name).1 w' ∧ BelS B w w' := by
  obtain ⟨mv, sv, pv, h⟩ := h
  have H := Aside0.mk h
  have HF := Aside0.mk hf
  have HF1 := Aside0.mk hf1
  have hg0 : g < w.heap.size := by exact blk_lt H.out.blk
  clear h hf hf1
  have hw3 : Below w.heap.size w ((w.alloc (Obj.cells #[.pointer (some ⟨g, 0, none⟩)] 58)).alloc (Obj.cells #[.string name] 9)) := below_alloc (below_alloc (Below.refl _ _) _) _
  have hp : VarP ((w.alloc (Obj.cells #[.pointer (some ⟨g, 0, none⟩)] 58)).alloc (Obj.cells #[.string name] 9)) w.heap.size g := blk_alloc (heap_alloc_new _ _) _
  have hn0 : VarS ((w.alloc (Obj.cells #[.pointer (some ⟨g, 0, none⟩)] 58)).alloc (Obj.cells #[.string name] 9)) (w.heap.size + 1) name := by
    have := heap_alloc_new (w.alloc (Obj.cells #[.pointer (some ⟨g, 0, none⟩)] 58)) (Obj.cells #[.string name] 9)
    rw [World.size_alloc] at this
    exact this
  have HW3 := Aside0.mk hw3
  have HP := Aside0.mk hp
  have HN0 := Aside0.mk hn0
  clear hw3 hp hn0
  by_cases ha : (asked s).2 = 0
  · cases hok : (getT (filesOf s) name).2
    · have hR : syncR s name = ((asked s).1, 4) := ofR_none ha hok
      rw [hR]
      have HA := Aside0.mk ha
      have HOK := Aside0.mk hok
      clear hR ha hok
      go_enter Try.func41, Try.ntmps41
      go_wp2_with (go_at_call 69; refine (of_none70 w.heap.size (w.heap.size + 1) (H.out.below HW3.out) HF.out HF1.out (Up.le hBw HW3.out.size) HA.out HOK.out).mono ?_; rintro e w7 ⟨r, rfl, rfl, hr7, hb7⟩; have HR7 := Aside0.mk hr7; have HB7 := Aside0.mk (belowB_trans (belowB_of hBw HW3.out) hb7); clear hr7 hb7)
      go_ret
      exact ⟨rfl, HR7.out, HB7.out⟩
    · have hR : syncR s name = (syncD (asked s).1 name, 0) := ofR_ok ha hok
      rw [hR]
      have HA := Aside0.mk ha
      have HOK := Aside0.mk hok
      clear hR ha hok
      go_enter Try.func41, Try.ntmps41
      go_wp2_with (go_at_call 69; refine (of_ok70 w.heap.size (w.heap.size + 1) (fun r w' => r = 0 ∧ Rep B g (syncD (asked s).1 name) w' ∧ BelS B ((w.alloc (Obj.cells #[.pointer (some ⟨g, 0, none⟩)] 58)).alloc (Obj.cells #[.string name] 9)) w') (H.out.below HW3.out) HF.out HF1.out (Up.le hBw HW3.out.size) HA.out HOK.out ?hdo).mono ?_; (case hdo =>
          intro w1 v hr1 hb1 hk1 hv
          have hne : ∀ b, w.heap.size ≤ b → b ≠ g := fun b hb => by omega
          refine (sync1_calls name v w.heap.size (w.heap.size + 1) ⟨mv, sv, pv, hr1⟩ HF1.out (Up.le hBw (Nat.le_trans HW3.out.size hk1.1)) (blk_keptG HP.out hk1 (hne _ (by omega))) (blk_keptG HN0.out hk1 (hne _ (by omega)))).mono ?_
          rintro e w2 ⟨r, rfl, rfl, hr2, hb2⟩
          exact ⟨0, rfl, rfl, hr2, belowB_trans hb1 hb2⟩); rintro e w7 ⟨r, rfl, rfl, hr7, hb7⟩; have HR7 := Aside0.mk hr7; have HB7 := Aside0.mk (belowB_trans (belowB_of hBw HW3.out) hb7); clear hr7 hb7)
      go_ret
      exact ⟨rfl, HR7.out, HB7.out⟩
  · have hR : syncR s name = asked s := ofR_err ha
    rw [hR]
    have HA := Aside0.mk ha
    clear hR ha
    go_enter Try.func41, Try.ntmps41
    go_wp2_with (go_at_call 69; refine (of_err70 w.heap.size (w.heap.size + 1) ⟨mv, sv, pv, H.out.below HW3.out⟩ HF.out (Up.le hBw HW3.out.size) HA.out).mono ?_; rintro e w7 ⟨r, rfl, rfl, hr7, hb7⟩; have HR7 := Aside0.mk hr7; have HB7 := Aside0.mk (belowB_trans (belowB_of hBw HW3.out) hb7); clear hr7 hb7)
    go_ret
    exact ⟨rfl, HR7.out, HB7.out⟩
set_option maxHeartbeats 8000000 in
set_option maxRecDepth 100000 in
theorem drop_calls (name : ByteArray) (h : Rep B g s w) (hf : Fit s) (hf1 : Fit (asked s).1) (hBw : Up B w.heap.size) :
    Calls Try.prog 80 #[.pointer (some ⟨g, 0, none⟩), .string name] w fun e w' => e = .returned (.int .i64 (dropR s name).2) ∧ Rep B g (dropR s name).1 w' ∧ BelS B w w' := by
  obtain ⟨mv, sv, pv, h⟩ := h
  have H := Aside0.mk h
  have HF := Aside0.mk hf
  have HF1 := Aside0.mk hf1
  have hg0 : g < w.heap.size := by exact blk_lt H.out.blk
  clear h hf hf1
  have hw3 : Below w.heap.size w ((w.alloc (Obj.cells #[.pointer (some ⟨g, 0, none⟩)] 58)).alloc (Obj.cells #[.string name] 9)) := below_alloc (below_alloc (Below.refl _ _) _) _
  have hp : VarP ((w.alloc (Obj.cells #[.pointer (some ⟨g, 0, none⟩)] 58)).alloc (Obj.cells #[.string name] 9)) w.heap.size g := blk_alloc (heap_alloc_new _ _) _
  have hn0 : VarS ((w.alloc (Obj.cells #[.pointer (some ⟨g, 0, none⟩)] 58)).alloc (Obj.cells #[.string name] 9)) (w.heap.size + 1) name := by
    have := heap_alloc_new (w.alloc (Obj.cells #[.pointer (some ⟨g, 0, none⟩)] 58)) (Obj.cells #[.string name] 9)
    rw [World.size_alloc] at this
    exact this
  have HW3 := Aside0.mk hw3
  have HP := Aside0.mk hp
  have HN0 := Aside0.mk hn0
  clear hw3 hp hn0
  by_cases ha : (asked s).2 = 0
  · cases hok : (getT (filesOf s) name).2
    · have hR : dropR s name = ((asked s).1, 4) := ofR_none ha hok
      rw [hR]
      have HA := Aside0.mk ha
      have HOK := Aside0.mk hok
      clear hR ha hok
      go_enter Try.func80, Try.ntmps80
      go_wp2_with (go_at_call 69; refine (of_none96 w.heap.size (w.heap.size + 1) (H.out.below HW3.out) HF.out HF1.out (Up.le hBw HW3.out.size) HA.out HOK.out).mono ?_; rintro e w7 ⟨r, rfl, rfl, hr7, hb7⟩; have HR7 := Aside0.mk hr7; have HB7 := Aside0.mk (belowB_trans (belowB_of hBw HW3.out) hb7); clear hr7 hb7)
      go_ret
      exact ⟨rfl, HR7.out, HB7.out⟩
    · have hR : dropR s name = (dropD (asked s).1 name, 0) := ofR_ok ha hok
      rw [hR]
      have HA := Aside0.mk ha
      have HOK := Aside0.mk hok
      clear hR ha hok
      go_enter Try.func80, Try.ntmps80
      go_wp2_with (go_at_call 69; refine (of_ok96 w.heap.size (w.heap.size + 1) (fun r w' => r = 0 ∧ Rep B g (dropD (asked s).1 name) w' ∧ BelS B ((w.alloc (Obj.cells #[.pointer (some ⟨g, 0, none⟩)] 58)).alloc (Obj.cells #[.string name] 9)) w') (H.out.below HW3.out) HF.out HF1.out (Up.le hBw HW3.out.size) HA.out HOK.out ?hdo).mono ?_; (case hdo =>
          intro w1 v hr1 hb1 hk1 hv
          have hne : ∀ b, w.heap.size ≤ b → b ≠ g := fun b hb => by omega
          refine (drop1_calls name v w.heap.size (w.heap.size + 1) ⟨mv, sv, pv, hr1⟩ HF1.out (Up.le hBw (Nat.le_trans HW3.out.size hk1.1)) (blk_keptG HP.out hk1 (hne _ (by omega))) (blk_keptG HN0.out hk1 (hne _ (by omega)))).mono ?_
          rintro e w2 ⟨r, rfl, rfl, hr2, hb2⟩
          exact ⟨0, rfl, rfl, hr2, belowB_trans hb1 hb2⟩); rintro e w7 ⟨r, rfl, rfl, hr7, hb7⟩; have HR7 := Aside0.mk hr7; have HB7 := Aside0.mk (belowB_trans (belowB_of hBw HW3.out) hb7); clear hr7 hb7)
      go_ret
      exact ⟨rfl, HR7.out, HB7.out⟩
  · have hR : dropR s name = asked s := ofR_err ha
    rw [hR]
    have HA := Aside0.mk ha
    clear hR ha
    go_enter Try.func80, Try.ntmps80
    go_wp2_with (go_at_call 69; refine (of_err96 w.heap.size (w.heap.size + 1) ⟨mv, sv, pv, H.out.below HW3.out⟩ HF.out (Up.le hBw HW3.out.size) HA.out).mono ?_; rintro e w7 ⟨r, rfl, rfl, hr7, hb7⟩; have HR7 := Aside0.mk hr7; have HB7 := Aside0.mk (belowB_trans (belowB_of hBw HW3.out) hb7); clear hr7 hb7)
    go_ret
    exact ⟨rfl, HR7.out, HB7.out⟩
set_option maxHeartbeats 8000000 in
set_option maxRecDepth 100000 in
theorem move_calls (from_ to_ : ByteArray) (h : Rep B g s w) (hf : Fit s) (hf1 : Fit (asked s).1) (hBw : Up B w.heap.size) :
    Calls Try.prog 43 #[.pointer (some ⟨g, 0, none⟩), .string from_, .string to_] w fun e w' => e = .returned (.int .i64 (moveR s from_ to_).2) ∧ Rep B g (moveR s from_ to_).1 w' ∧ BelS B w w' := by
  obtain ⟨mv, sv, pv, h⟩ := h
  have H := Aside0.mk h
  have HF := Aside0.mk hf
  have HF1 := Aside0.mk hf1
  have hg0 : g < w.heap.size := by exact blk_lt H.out.blk
  clear h hf hf1
  have hw3 : Below w.heap.size w (((w.alloc (Obj.cells #[.pointer (some ⟨g, 0, none⟩)] 58)).alloc (Obj.cells #[.string from_] 9)).alloc (Obj.cells #[.string to_] 9)) := below_alloc (below_alloc (below_alloc (Below.refl _ _) _) _) _
  have hp : VarP (((w.alloc (Obj.cells #[.pointer (some ⟨g, 0, none⟩)] 58)).alloc (Obj.cells #[.string from_] 9)).alloc (Obj.cells #[.string to_] 9)) w.heap.size g := blk_alloc (blk_alloc (heap_alloc_new _ _) _) _
  have hn0 : VarS (((w.alloc (Obj.cells #[.pointer (some ⟨g, 0, none⟩)] 58)).alloc (Obj.cells #[.string from_] 9)).alloc (Obj.cells #[.string to_] 9)) (w.heap.size + 1) from_ := by
    have := heap_alloc_new (w.alloc (Obj.cells #[.pointer (some ⟨g, 0, none⟩)] 58)) (Obj.cells #[.string from_] 9)
    rw [World.size_alloc] at this
    exact blk_alloc (this) _
  have hn1 : VarS (((w.alloc (Obj.cells #[.pointer (some ⟨g, 0, none⟩)] 58)).alloc (Obj.cells #[.string from_] 9)).alloc (Obj.cells #[.string to_] 9)) (w.heap.size + 2) to_ := by
    have := heap_alloc_new ((w.alloc (Obj.cells #[.pointer (some ⟨g, 0, none⟩)] 58)).alloc (Obj.cells #[.string from_] 9)) (Obj.cells #[.string to_] 9)
    rw [World.size_alloc, World.size_alloc] at this
    exact this
  have HW3 := Aside0.mk hw3
  have HP := Aside0.mk hp
  have HN0 := Aside0.mk hn0
  have HN1 := Aside0.mk hn1
  clear hw3 hp hn0 hn1
  by_cases ha : (asked s).2 = 0
  · cases hok : (getT (filesOf s) from_).2
    · have hR : moveR s from_ to_ = ((asked s).1, 4) := ofR_none ha hok
      rw [hR]
      have HA := Aside0.mk ha
      have HOK := Aside0.mk hok
      clear hR ha hok
      go_enter Try.func43, Try.ntmps43
      go_wp2_with (go_at_call 69; refine (of_none77 (w.heap.size + 2) (w.heap.size + 1) w.heap.size (H.out.below HW3.out) HF.out HF1.out (Up.le hBw HW3.out.size) HA.out HOK.out).mono ?_; rintro e w7 ⟨r, rfl, rfl, hr7, hb7⟩; have HR7 := Aside0.mk hr7; have HB7 := Aside0.mk (belowB_trans (belowB_of hBw HW3.out) hb7); clear hr7 hb7)
      go_ret
      exact ⟨rfl, HR7.out, HB7.out⟩
    · by_cases hbad : to_.size < 1 ∨ 40 < to_.size
      · have HBAD := Aside0.mk hbad
        have hR : moveR s from_ to_ = ((asked s).1, 1) := by
          refine (ofR_ok ha hok).trans ?_
          show (if _ then _ else _) = _
          rw [if_pos hbad]
        rw [hR]
        have HA := Aside0.mk ha
        have HOK := Aside0.mk hok
        clear hR ha hok
        go_enter Try.func43, Try.ntmps43
        go_wp2_with (go_at_call 69; refine (of_ok77 (w.heap.size + 2) (w.heap.size + 1) w.heap.size (fun r w' => r = 1 ∧ Rep B g ((asked s).1) w' ∧ BelS B (((w.alloc (Obj.cells #[.pointer (some ⟨g, 0, none⟩)] 58)).alloc (Obj.cells #[.string from_] 9)).alloc (Obj.cells #[.string to_] 9)) w') (H.out.below HW3.out) HF.out HF1.out (Up.le hBw HW3.out.size) HA.out HOK.out ?hdo).mono ?_; (case hdo =>
            intro w1 v hr1 hb1 hk1 hv
            have hne : ∀ b, w.heap.size ≤ b → b ≠ g := fun b hb => by omega
            refine (move1_bad from_ to_ v (w.heap.size + 2) (w.heap.size + 1) w.heap.size (blk_keptG HN1.out hk1 (hne _ (by omega))) HBAD.out).mono ?_
            rintro e w2 ⟨rfl, hb2⟩
            exact ⟨1, rfl, rfl, ⟨mv, sv, pv, hr1.below hb2⟩, belowB_trans hb1 (belowB_of (Up.le hBw (Nat.le_trans HW3.out.size hk1.1)) hb2)⟩); rintro e w7 ⟨r, rfl, rfl, hr7, hb7⟩; have HR7 := Aside0.mk hr7; have HB7 := Aside0.mk (belowB_trans (belowB_of hBw HW3.out) hb7); clear hr7 hb7)
        go_ret
        exact ⟨rfl, HR7.out, HB7.out⟩
      · have HOKN : Aside0 (1 ≤ to_.size ∧ to_.size ≤ 40) := ⟨by omega⟩
        by_cases hsame : (from_.toList == to_.toList) = true
        · have HSAME := Aside0.mk hsame
          have hR : moveR s from_ to_ = ((asked s).1, 0) := by
            refine (ofR_ok ha hok).trans ?_
            show (if _ then _ else _) = _
            rw [if_neg hbad, if_pos hsame]
          rw [hR]
          have HA := Aside0.mk ha
          have HOK := Aside0.mk hok
          clear hR ha hok
          go_enter Try.func43, Try.ntmps43
          go_wp2_with (go_at_call 69; refine (of_ok77 (w.heap.size + 2) (w.heap.size + 1) w.heap.size (fun r w' => r = 0 ∧ Rep B g ((asked s).1) w' ∧ BelS B (((w.alloc (Obj.cells #[.pointer (some ⟨g, 0, none⟩)] 58)).alloc (Obj.cells #[.string from_] 9)).alloc (Obj.cells #[.string to_] 9)) w') (H.out.below HW3.out) HF.out HF1.out (Up.le hBw HW3.out.size) HA.out HOK.out ?hdo).mono ?_; (case hdo =>
              intro w1 v hr1 hb1 hk1 hv
              have hne : ∀ b, w.heap.size ≤ b → b ≠ g := fun b hb => by omega
              refine (move1_same from_ to_ v (w.heap.size + 2) (w.heap.size + 1) w.heap.size (blk_keptG HN1.out hk1 (hne _ (by omega))) (blk_keptG HN0.out hk1 (hne _ (by omega))) HOKN.out HSAME.out).mono ?_
              rintro e w2 ⟨rfl, hb2⟩
              exact ⟨0, rfl, rfl, ⟨mv, sv, pv, hr1.below hb2⟩, belowB_trans hb1 (belowB_of (Up.le hBw (Nat.le_trans HW3.out.size hk1.1)) hb2)⟩); rintro e w7 ⟨r, rfl, rfl, hr7, hb7⟩; have HR7 := Aside0.mk hr7; have HB7 := Aside0.mk (belowB_trans (belowB_of hBw HW3.out) hb7); clear hr7 hb7)
          go_ret
          exact ⟨rfl, HR7.out, HB7.out⟩
        · have HSAME : Aside0 ((from_.toList == to_.toList) = false) := ⟨by simpa using hsame⟩
          have hR : moveR s from_ to_ = (moveD (asked s).1 from_ to_, 0) := by
            refine (ofR_ok ha hok).trans ?_
            show (if _ then _ else _) = _
            rw [if_neg hbad, if_neg hsame]
          rw [hR]
          have HA := Aside0.mk ha
          have HOK := Aside0.mk hok
          clear hR ha hok
          go_enter Try.func43, Try.ntmps43
          go_wp2_with (go_at_call 69; refine (of_ok77 (w.heap.size + 2) (w.heap.size + 1) w.heap.size (fun r w' => r = 0 ∧ Rep B g (moveD (asked s).1 from_ to_) w' ∧ BelS B (((w.alloc (Obj.cells #[.pointer (some ⟨g, 0, none⟩)] 58)).alloc (Obj.cells #[.string from_] 9)).alloc (Obj.cells #[.string to_] 9)) w') (H.out.below HW3.out) HF.out HF1.out (Up.le hBw HW3.out.size) HA.out HOK.out ?hdo).mono ?_; (case hdo =>
              intro w1 v hr1 hb1 hk1 hv
              have hne : ∀ b, w.heap.size ≤ b → b ≠ g := fun b hb => by omega
              refine (move1_calls from_ to_ v (w.heap.size + 2) (w.heap.size + 1) w.heap.size ⟨mv, sv, pv, hr1⟩ HF1.out (Up.le hBw (Nat.le_trans HW3.out.size hk1.1)) (blk_keptG HN1.out hk1 (hne _ (by omega))) (blk_keptG HN0.out hk1 (hne _ (by omega))) (blk_keptG HP.out hk1 (hne _ (by omega))) HOKN.out HSAME.out).mono ?_
              rintro e w2 ⟨r, rfl, rfl, hr2, hb2⟩
              exact ⟨0, rfl, rfl, hr2, belowB_trans hb1 hb2⟩); rintro e w7 ⟨r, rfl, rfl, hr7, hb7⟩; have HR7 := Aside0.mk hr7; have HB7 := Aside0.mk (belowB_trans (belowB_of hBw HW3.out) hb7); clear hr7 hb7)
          go_ret
          exact ⟨rfl, HR7.out, HB7.out⟩
  · have hR : moveR s from_ to_ = asked s := ofR_err ha
    rw [hR]
    have HA := Aside0.mk ha
    clear hR ha
    go_enter Try.func43, Try.ntmps43
    go_wp2_with (go_at_call 69; refine (of_err77 (w.heap.size + 2) (w.heap.size + 1) w.heap.size ⟨mv, sv, pv, H.out.below HW3.out⟩ HF.out (Up.le hBw HW3.out.size) HA.out).mono ?_; rintro e w7 ⟨r, rfl, rfl, hr7, hb7⟩; have HR7 := Aside0.mk hr7; have HB7 := Aside0.mk (belowB_trans (belowB_of hBw HW3.out) hb7); clear hr7 hb7)
    go_ret
    exact ⟨rfl, HR7.out, HB7.out⟩
end
end Go.Proofs.Ytcgeioingikeeaa.P
namespace Go.Proofs.Ytcgeioingikeeaa.P
open Go.RowKit Go.Proofs.YtcgeioingikeeaaW.PrintWords Go.Proofs.YtcgeioingikeeaaW.PrintLast Go.Proofs.YtcgeioingikeeaaW.PrintMore
attribute [local go_sem] max2_int min2_int max_two min_two max_three min_three max_four min_four   -- for this text's walks alone
set_option linter.unusedVariables false
set_option linter.unusedSimpArgs false
def files_Names.l0 : Nat → List ByteArray → List (S38) → Int → Int → Option (List ByteArray)
  | 0, _, _, _, _ => none
  | k + 1, x3, x6, x7, x8 => if x8 < x7 then (if 0 ≤ x8 then (if x8 < (x6.length : Int) then (if x3.length < 8796093022208 then (files_Names.l0 k (x3 ++ [(rd_T38 x6 x8).f0]) x6 x7 (wrap64 (x8 + 1))) else (none)) else (none)) else (none)) else (some x3)
def files_Names.f (k : Nat) (l0 : List (S38)) : Option (List ByteArray) := files_Names.l0 k ([] : List ByteArray) l0 (l0.length : Int) 0
set_option maxHeartbeats 8000000 in
set_option maxRecDepth 100000 in
theorem files_Names.calls (k : Nat) (A0 : Option Addr) (c0 : Nat) (l0 : List (S38)) (r : List ByteArray) (w : World) (hr0 : Kd.C k38 w A0 l0.length l0) (hc0 : l0.length ≤ c0) (h : files_Names.f k l0 = some r) :
    Calls Try.prog 33 #[.slice A0 l0.length c0] w fun e w' => ∃ v0_ : Value, e = .returned (v0_) ∧ Kd.R Kd.string 9 w' w.heap.size (fun _ => True) v0_ r ∧ Below w.heap.size w w' := by
  have hu38 := Try.underlying38
  have HR0 := Aside0.mk hr0
  have HC0 := Aside0.mk hc0
  clear hr0 hc0
  have HB := Aside0.mk (Below.refl w.heap.size w)
  have H : (files_Names.l0 k ([] : List ByteArray) l0 (l0.length : Int) 0) = some r := h
  clear h
  have H' := Aside0.mk H
  clear H
  go_enter Try.func33, Try.ntmps33
  go_wp2
  go_loopg [3, 8] k (fun kq v3 v8 w' => ∃ (x3_1 : List ByteArray) (x8_1 : Int), v8 = .int .i64 x8_1 ∧ Aside0 (files_Names.l0 kq x3_1 l0 (l0.length : Int) x8_1 = some r) ∧ Aside0 (kq ≤ k) ∧ Aside0 (Kd.R Kd.string 9 w' w.heap.size (fun _ => True) v3 x3_1) ∧ Aside0 (Below w.heap.size w w'))
  case atStart => exact ⟨(([] : List ByteArray)), (0), (by first | rfl | (simp; done) | (simp [*]; done)), H', ⟨Nat.le_refl _⟩, ⟨by first | exact Kd.R_nil _ _ _ _ _ | exact Kd.N_nil _ _ _ _ _ | exact Kd.V_nil _ _ _ _ _ | exact Kd.Q_nil _ _ _ _ _ | exact Kd.S_nil _ _ _ _ _⟩, ⟨by repeat (first | (with_reducible first | exact HB.out | apply below_alloc | apply pw_below_drewN | apply below_drew1) | exact HB.out)⟩⟩
  case round =>
    clear H'
    obtain ⟨x3_1, x8_1, rfl, HA, HK1, HO_3, HB⟩ := hrel
    cases gk with
    | zero => exact absurd HA.out (by simp [files_Names.l0])
    | succ k1 =>
      have H := HA.out
      clear HA
      simp only [files_Names.l0] at H
      by_cases c2 : x8_1 < (l0.length : Int)
      · rw [if_pos c2] at H
        have c2b0 : decide (x8_1 < (l0.length : Int)) = true := decide_eq_true c2
        clear c2
        by_cases c3 : 0 ≤ x8_1
        · rw [if_pos c3] at H
          have c3b0 : decide (0 ≤ x8_1) = true := decide_eq_true c3
          clear c3
          by_cases c4 : x8_1 < (l0.length : Int)
          · rw [if_pos c4] at H
            have c4b0 : decide (x8_1 < (l0.length : Int)) = true := decide_eq_true c4
            clear c4
            by_cases c5 : x3_1.length < 8796093022208
            · rw [if_pos c5] at H
              have LMc5 := Aside0.mk c5
              clear c5
              obtain ⟨y284, hy284⟩ : ∃ y_ : List ByteArray, y_ = (x3_1 ++ [(rd_T38 l0 x8_1).f0]) := ⟨_, rfl⟩
              replace H : (files_Names.l0 k1 y284 l0 (l0.length : Int) (wrap64 (x8_1 + 1))) = some r := by first | (rw [hy284]; with_reducible exact H) | (have H2_ := (Option.bind_some _ _).symm.trans H; rw [hy284]; with_reducible exact H2_) | (have H2_ := (Option.bind_some _ _).symm.trans H; with_reducible exact H2_) | with_reducible exact H | (rw [hy284]; exact H) | exact H
              have Ny284 := Aside0.mk hy284
              clear hy284
              have H' := Aside0.mk H
              clear H
              have p282 : 0 ≤ (x8_1 : Int) := of_decide_eq_true (by first | (with_reducible assumption) | assumption)
              have q282 : x8_1 < (l0.length : Int) := of_decide_eq_true (by first | (with_reducible assumption) | assumption)
              obtain ⟨ad282, A282_1, c282_1, e282, hx282_0, hx282_1, hl282_1, hi282_1⟩ := at_T38 HR0.out x8_1 p282 q282
              cases e282
              replace hx282_0 := (HB.out.cell (World.block_lt_of_cell? w _ hx282_0)).trans hx282_0
              replace hx282_1 := (HB.out.cell (World.block_lt_of_cell? w _ hx282_1)).trans hx282_1
              have HR282_1 := Aside0.mk hi282_1
              have HC282_1 := Aside0.mk hl282_1
              clear hi282_1 hl282_1
              replace p282 := eq_true p282
              replace q282 := eq_true q282
              go_wp2_with (first | ((with_reducible refine gate_dst (N := 5) rfl ?_); refine box_event ?hg (N := 5) ?hd (cs := #[.string (⟨#[]⟩ : ByteArray), .slice none 0 0]) (t := 38) ?hr ?_; (case hd => rfl); (case hg => rfl); (case hr => first | (go_simp; done) | (go_simp; rfl)); intro gb283 hg w6 hbox hb; have n0_ := Aside0.mk (Kd.R_below (by (with_reducible repeat (first | apply Kd.R_alloc | apply Kd.R_drewN | apply Kd.R_drew)); exact HO_3.out) hb); have n1_ := Aside0.mk (below_step (by repeat (first | (with_reducible first | exact HB.out | apply below_alloc | apply pw_below_drewN | apply below_drew1) | exact HB.out)) hb); have n2_ := Aside0.mk (hbox); have n3_ := Aside0.mk ((by rw [hg]; exact (below_size (by repeat (first | (with_reducible first | exact HB.out | apply below_alloc | apply pw_below_drewN | apply below_drew1) | exact HB.out))) : w.heap.size ≤ gb283)); have n4_ := Aside0.mk ((by rw [hg]; exact (below_size (by repeat (first | (with_reducible first | exact HB.out | apply below_alloc | apply pw_below_drewN | apply below_drew1) | exact HB.out))) : w.heap.size ≤ gb283)); clear HO_3; clear HB; have HO_3 := n0_; have HB := n1_; have BK283 := n2_; have GW283 := n3_; have GE283 := n4_; clear n0_ n1_ n2_ n3_ n4_; clear hb hbox hg; have hcz7_0 : w6.cell? ⟨gb283, 0, none⟩ = some (.string (⟨#[]⟩ : ByteArray)) := (blk_cell BK283.out 0).trans rfl; have hcz7_1 : w6.cell? ⟨gb283, 1, none⟩ = some (.slice none 0 0) := (blk_cell BK283.out 1).trans rfl; have hfz7_0 := blk_frozen BK283.out 0; have hfz7_1 := blk_frozen BK283.out 1) | ((with_reducible refine gate_builtin (b := .append) (xs := #[.tmp 12, .tmp 15]) rfl ?_); at_builtin; refine Kd.R_append Kd.string (w0 := w) w.heap.size rfl (.tmp 12) (.tmp 15) 48 9 (.string ⟨#[]⟩) 16 rfl Try.underlying48 info9 rfl (by decide) (by omega) u3 x3_1 ((rd_T38 l0 x8_1).f0) [.string ((rd_T38 l0 x8_1).f0)] (fun _ => True) (fun _ => False) rfl (by first | (go_simp; done) | (go_simp; rfl)) ?aP (fun _ hk => hk.elim) ?aF ?aO ?aB ?aS ?aL ?_; (case aP => exact rfl); (case aB => exact (by repeat (first | (with_reducible first | exact HB.out | apply below_alloc | apply pw_below_drewN | apply below_drew1 | refine below_set ?_ GE283.out) | exact HB.out))); (case aF => exact (fun _ _ => trivial)); (case aO => exact (by (with_reducible repeat (first | apply Kd.R_alloc | apply Kd.R_drewN | apply Kd.R_drew)); exact Kd.R_mono (Kd.R_far (p := ⟨gb283, 1, none⟩) (Kd.R_far (p := ⟨gb283, 0, none⟩) (Kd.R_types HO_3.out BK283.out (by decide)) (fun _ hk => hk.2) (.string ((rd_T38 l0 x8_1).f0))) (fun _ hk => hk.2) (.slice A282_1 ((rd_T38 l0 x8_1).f1).length c282_1)) (fun _ hk => trivial))); (case aS => exact (below_size (by repeat (first | (with_reducible first | exact HB.out | apply below_alloc | apply pw_below_drewN | apply below_drew1 | refine below_set ?_ GE283.out) | exact HB.out)))); (case aL => have := LMc5.out; omega); intro v285 w8 ho hb hg hat; rw [← Ny284.out] at ho; have n0_ := Aside0.mk (blk_grown (g := gb283) (o := .cells #[.string ((rd_T38 l0 x8_1).f0), .slice A282_1 ((rd_T38 l0 x8_1).f1).length c282_1] 38 (0, 0)) (by (with_reducible repeat (first | refine blk_drewN ?_ _ | refine blk_drew ?_ | refine blk_alloc ?_ _)); refine blk_put (cs := #[.string ((rd_T38 l0 x8_1).f0), .slice none 0 0]) ?_ 1 _ rfl; (with_reducible repeat (first | refine blk_drewN ?_ _ | refine blk_drew ?_ | refine blk_alloc ?_ _)); refine blk_put (cs := #[.string (⟨#[]⟩ : ByteArray), .slice none 0 0]) ?_ 0 _ rfl; (with_reducible repeat (first | refine blk_drewN ?_ _ | refine blk_drew ?_ | refine blk_alloc ?_ _)); exact BK283.out) hg (Kd.R_ne HO_3.out BK283.out (by decide))); have n1_ := Aside0.mk (hb); have n2_ := Aside0.mk (ho); clear BK283; clear HB; clear HO_3; have BK283 := n0_; have HB := n1_; have HO286 := n2_; clear n0_ n1_ n2_; clear ho hb hg hat))
              go_roundg k1
              case measure => have := HK1.out; omega
              case rel => exact ⟨(y284), (wrap64 (x8_1 + 1)), (by first | rfl | (simp; done) | (simp [*]; done)), H', ⟨by have := HK1.out; omega⟩, ⟨by (with_reducible repeat (first | apply Kd.R_alloc | apply Kd.R_drewN | apply Kd.R_drew)); exact HO286.out⟩, ⟨by repeat (first | (with_reducible first | exact HB.out | apply below_alloc | apply pw_below_drewN | apply below_drew1 | refine below_set ?_ GE283.out) | exact HB.out)⟩⟩
            · rw [if_neg c5] at H
              exact absurd H (by simp)
          · rw [if_neg c4] at H
            exact absurd H (by simp)
        · rw [if_neg c3] at H
          exact absurd H (by simp)
      · rw [if_neg c2] at H
        have c2b0 : decide (x8_1 < (l0.length : Int)) = false := decide_eq_false c2
        clear c2
        obtain rfl := Option.some.inj H
        go_wp2
        go_ret
        exact ⟨_, by first | rfl | (simp [errW_none, errW_some] <;> rfl) | (simp [*, errW_none, errW_some] <;> rfl), by (with_reducible repeat (first | apply Kd.R_alloc | apply Kd.R_drewN | apply Kd.R_drew)); exact HO_3.out, by repeat (first | (with_reducible first | exact HB.out | apply below_alloc | apply pw_below_drewN | apply below_drew1) | exact HB.out)⟩
end Go.Proofs.Ytcgeioingikeeaa.P
namespace Go.Proofs.Ytcgeioingikeeaa.P
open Go.RowKit Go.Proofs.YtcgeioingikeeaaW.PrintWords Go.Proofs.YtcgeioingikeeaaW.PrintLast Go.Proofs.YtcgeioingikeeaaW.PrintMore
set_option linter.unusedVariables false
set_option linter.unusedSimpArgs false
section
variable {B : Nat → Prop} {g : Nat} {s : SSt} {w : World} {name : ByteArray} {mv sv pv : Value}
def readR (s : SSt) (name : ByteArray) : SSt × Int × List Int :=
  if (asked s).2 ≠ 0 then ((asked s).1, (asked s).2, []) else if (getT (filesOf s) name).2 = true then ((asked s).1, 0, (getT (filesOf s) name).1) else ((asked s).1, 4, [])
/-- Another block than the store's is written, one that is new: the store is as it was. -/
theorem RepAt.beside {s' : SSt} {w1 w2 : World} {b : Nat} (h : RepAt B g s w mv sv pv) (h1 : RepAt B g s' w1 mv sv pv) (hk : KeptG g w w1) (hb : w.heap.size ≤ b) (h2 : ∀ k, k ≠ b → w2.heap[k]? = w1.heap[k]?) (e1 : s'.safe = s.safe) (e2 : s'.pend = s.pend) (e3 : s'.fails = s.fails) : RepAt B g s' w2 mv sv pv := by
  have hg := blk_lt h.blk
  refine h.upd (fun k hlt hkg => (h2 k (by omega)).trans (hk.2 k hlt hkg)) ?_ e1 e2 e3
  rw [h2 g (by omega)]
  exact h1.blk
set_option maxHeartbeats 1000000 in
theorem read1_calls (A : Option Addr) (n c : Nat) (b0 : Nat) (x : Value) (hb : w.heap[b0]? = some (.cells #[x] 23 (0, 0))) :
    Calls Try.prog 92 #[.slice A n c, .pointer (some ⟨b0, 0, none⟩)] w fun e w' => e = .returned (.int .i64 0) ∧ w' = w.setCell ⟨b0, 0, none⟩ (.slice A n c) := by
  have hc : w.cell? ⟨b0, 0, none⟩ = some x := by rw [cell_of_row w b0 _ _ 23 (0, 0) hb]; rfl
  have hf := blk_frozen hb 0
  clear hb
  go_enter Try.func92, Try.ntmps92
  go_wp2
  go_ret
  exact ⟨rfl, rfl⟩
set_option maxHeartbeats 8000000 in
set_option maxRecDepth 100000 in
theorem read_calls (h : Rep B g s w) (hf : Fit s) (hf1 : Fit (asked s).1) (hBw : Up B w.heap.size) :
    Calls Try.prog 68 #[.pointer (some ⟨g, 0, none⟩), .string name] w fun e w' => ∃ v, e = .returned (.tuple #[v, .int .i64 (readR s name).2.1]) ∧ Kd.R (Kd.int .u8) 5 w' w.heap.size (fun _ => True) v (readR s name).2.2 ∧ Rep B g (readR s name).1 w' ∧ BelS B w w' := by
  obtain ⟨mv, sv, pv, h⟩ := h
  have H := Aside0.mk h
  have HF := Aside0.mk hf
  have HF1 := Aside0.mk hf1
  have hg0 : g < w.heap.size := blk_lt h.blk
  clear h hf hf1
  have hw1 : Below w.heap.size w (w.alloc (Obj.cells #[.slice none 0 0] 23)) := below_alloc (Below.refl _ _) _
  have hb1 : (w.alloc (Obj.cells #[.slice none 0 0] 23)).heap[w.heap.size]? = some (.cells #[.slice none 0 0] 23 (0, 0)) := heap_alloc_new _ _
  have HW1 := Aside0.mk hw1
  have HB1 := Aside0.mk hb1
  clear hw1 hb1
  by_cases ha : (asked s).2 = 0
  · cases hok : (getT (filesOf s) name).2
    · have hR : readR s name = ((asked s).1, 4, []) := by unfold readR; rw [if_neg (by simp [ha]), if_neg (by simp [hok])]
      rw [hR]
      have HA := Aside0.mk ha
      have HOK := Aside0.mk hok
      clear hR ha hok
      go_enter Try.func68, Try.ntmps68
      go_wp2_with (go_at_call 69; refine (of_none92 w.heap.size (H.out.below HW1.out) HF.out HF1.out (Up.le hBw HW1.out.size) HA.out HOK.out).mono ?_; rintro e w7 ⟨r, rfl, rfl, hr7, hb7, hk7⟩; have hcb : w7.cell? ⟨w.heap.size, 0, none⟩ = some (.slice none 0 0) := (by rw [cell_of_row w7 _ _ _ 23 (0, 0) (blk_keptG HB1.out hk7 (by omega))]; rfl); have HR7 := Aside0.mk hr7; have HB7 := Aside0.mk (belowB_trans (belowB_of hBw HW1.out) hb7); clear hr7 hb7 hk7)
      go_ret2
      exact ⟨_, rfl, Kd.R_nil _ _ _ _ _, HR7.out, HB7.out⟩
    · have hR : readR s name = ((asked s).1, 0, (getT (filesOf s) name).1) := by unfold readR; rw [if_neg (by simp [ha]), if_pos hok]
      rw [hR]
      have HA := Aside0.mk ha
      have HOK := Aside0.mk hok
      have HAS := Aside0.mk (asked_ok ha)
      clear hR ha hok
      have hcall : Calls Try.prog 69 #[.pointer (some ⟨g, 0, none⟩), .string name, (.func (.func 92) #[] #[.pointer (some ⟨w.heap.size, 0, none⟩)])] (w.alloc (Obj.cells #[.slice none 0 0] 23)) fun e w' => ∃ r, e = .returned (.int .i64 r) ∧ (r = 0 ∧ Rep B g (asked s).1 w' ∧ BelS B (w.alloc (Obj.cells #[.slice none 0 0] 23)) w' ∧ ∃ A n c, w'.cell? ⟨w.heap.size, 0, none⟩ = some (.slice A n c) ∧ Kd.R (Kd.int .u8) 5 w' w.heap.size (fun _ => True) (.slice A n c) (getT (filesOf s) name).1) := by
        refine of_ok92 w.heap.size (fun r w' => r = 0 ∧ Rep B g (asked s).1 w' ∧ BelS B (w.alloc (Obj.cells #[.slice none 0 0] 23)) w' ∧ ∃ A n c, w'.cell? ⟨w.heap.size, 0, none⟩ = some (.slice A n c) ∧ Kd.R (Kd.int .u8) 5 w' w.heap.size (fun _ => True) (.slice A n c) (getT (filesOf s) name).1) (H.out.below HW1.out) HF.out HF1.out (Up.le hBw HW1.out.size) HA.out HOK.out ?_
        intro w1 v hr1 hb1 hk1 hv
        have hbk := blk_keptG HB1.out hk1 (by omega)
        obtain ⟨A, c, rfl⟩ := Kd.R_slice hv
        refine (read1_calls A _ c w.heap.size _ hbk).mono ?_
        rintro e w2 ⟨rfl, rfl⟩
        have hset := blk_set hbk 0 (.slice A (getT (filesOf s) name).1.length c)
        refine ⟨0, rfl, rfl, ⟨mv, sv, pv, ?_⟩, belowB_set hb1 (hBw _ (Nat.le_refl _)) 0 _, A, (getT (filesOf s) name).1.length, c, ?_, ?_⟩
        · exact H.out.beside hr1 ((KeptG.of_below HW1.out).trans hk1) (Nat.le_refl _) (fun k hk => Below.heap_setCell _ _ _ _ hk) (by rw [HAS.out]) (by rw [HAS.out]) (by rw [HAS.out])
        · rw [cell_of_row _ _ _ _ 23 (0, 0) hset]; rfl
        · exact Kd.R_set (Kd.R_lower hv HW1.out.size) hbk (by decide) 0 _
      have HC := Aside0.mk hcall
      clear hcall
      go_enter Try.func68, Try.ntmps68
      go_wp2_with (go_at_call 69; refine (Aside0.out HC).mono ?_; rintro e w7 ⟨r, rfl, rfl, hr7, hb7, A7, n7, c7, hc7, hv7⟩; have HR7 := Aside0.mk hr7; have HB7 := Aside0.mk (belowB_trans (belowB_of hBw HW1.out) hb7); have HV7 := Aside0.mk hv7; clear hr7 hb7 hv7)
      go_ret2
      exact ⟨_, rfl, HV7.out, HR7.out, HB7.out⟩
  · have hR : readR s name = ((asked s).1, (asked s).2, []) := by unfold readR; rw [if_pos ha]
    rw [hR]
    have HA := Aside0.mk ha
    clear hR ha
    go_enter Try.func68, Try.ntmps68
    go_wp2_with (go_at_call 69; refine (of_err92 w.heap.size ⟨mv, sv, pv, H.out.below HW1.out⟩ HF.out (Up.le hBw HW1.out.size) HA.out).mono ?_; rintro e w7 ⟨r, rfl, rfl, hr7, hb7, hk7⟩; have hcb : w7.cell? ⟨w.heap.size, 0, none⟩ = some (.slice none 0 0) := (by rw [cell_of_row w7 _ _ _ 23 (0, 0) (blk_keptG HB1.out hk7 (by omega))]; rfl); have HR7 := Aside0.mk hr7; have HB7 := Aside0.mk (belowB_trans (belowB_of hBw HW1.out) hb7); clear hr7 hb7 hk7)
    go_ret2
    exact ⟨_, rfl, Kd.R_nil _ _ _ _ _, HR7.out, HB7.out⟩
end
end Go.Proofs.Ytcgeioingikeeaa.P
namespace Go.Proofs.Ytcgeioingikeeaa.P
open Go.RowKit Go.Proofs.YtcgeioingikeeaaW.PrintWords Go.Proofs.YtcgeioingikeeaaW.PrintLast Go.Proofs.YtcgeioingikeeaaW.PrintMore
set_option linter.unusedVariables false
set_option linter.unusedSimpArgs false
theorem wrap_nat (i : Nat) (h : i < 4611686018427387904) : wrap64 ((i : Int) + 1) = ((i + 1 : Nat) : Int) := by unfold wrap64; omega
theorem wrap_pred (i : Nat) (h : i < 4611686018427387904) : wrap64 (((i + 1 : Nat) : Int) - 1) = (i : Int) := by unfold wrap64; omega
theorem rd_at (l : List S38) (j : Nat) (h : j < l.length) : rd_T38 l (j : Int) = l[j] := by simp [rd_T38, h, List.getD]
def lessN (x y : S38) : Prop := Op.bytesLess x.f0.toList y.f0.toList = true
theorem less_trans : ∀ a b c : List UInt8, Op.bytesLess a b = true → Op.bytesLess b c = true → Op.bytesLess a c = true
  | [], [], c, h, _ => by simp [Op.bytesLess] at h
  | [], b :: bs, [], _, h => by simp [Op.bytesLess] at h
  | [], b :: bs, c :: cs, _, _ => by simp [Op.bytesLess]
  | a :: x, [], c, h, _ => by simp [Op.bytesLess] at h
  | a :: x, b :: bs, [], _, h => by simp [Op.bytesLess] at h
  | a :: x, b :: bs, c :: cs, h, k => by
    have ih := less_trans x bs cs
    simp only [Op.bytesLess, Bool.or_eq_true, decide_eq_true_eq, Bool.and_eq_true, beq_iff_eq, UInt8.lt_iff_toNat_lt, ← UInt8.toNat_inj] at h k ⊢
    rcases h with h | ⟨h, h'⟩ <;> rcases k with k | ⟨k, k'⟩
    · left; omega
    · left; omega
    · left; omega
    · right; exact ⟨by omega, ih h' k'⟩
theorem less_irrefl : ∀ a : List UInt8, Op.bytesLess a a = false
  | [] => by simp [Op.bytesLess]
  | a :: x => by simp [Op.bytesLess, less_irrefl x]
theorem less_asymm {a b : List UInt8} (h : Op.bytesLess a b = true) : Op.bytesLess b a = false := by
  cases e : Op.bytesLess b a with
  | false => rfl
  | true => have := less_trans a b a h e; rw [less_irrefl] at this; exact this.symm
def asc (l : List S38) : Prop := l.Pairwise lessN
theorem insertAt_mem (x : S38) : ∀ (l : List S38) (y : S38), y ∈ insertAt x l ↔ y = x ∨ y ∈ l
  | [], y => by simp [insertAt]
  | z :: l, y => by
    unfold insertAt
    split
    · simp
    · simp [insertAt_mem x l y]; grind
theorem find_insertAt (x : S38) (p : S38 → Bool) (hx : p x = true) : ∀ l : List S38, (∀ y ∈ l, p y = false) → (insertAt x l).find? p = some x
  | [], _ => by simp [insertAt, hx]
  | z :: l, h => by
    unfold insertAt
    split
    · simp [hx]
    · rw [List.find?_cons, h z (by simp)]
      exact find_insertAt x p hx l fun y hy => h y (by simp [hy])
theorem find_insertAt_no (x : S38) (p : S38 → Bool) (hx : p x = false) : ∀ l : List S38, (insertAt x l).find? p = l.find? p
  | [] => by simp [insertAt, hx]
  | z :: l => by
    unfold insertAt
    split
    · rw [List.find?_cons, hx]
    · rw [List.find?_cons, List.find?_cons, find_insertAt_no x p hx l]
end Go.Proofs.Ytcgeioingikeeaa.P
namespace Go.Proofs.Ytcgeioingikeeaa.P
open Go.RowKit Go.Proofs.YtcgeioingikeeaaW.PrintWords Go.Proofs.YtcgeioingikeeaaW.PrintLast Go.Proofs.YtcgeioingikeeaaW.PrintMore
set_option linter.unusedVariables false
set_option linter.unusedSimpArgs false
theorem bytes_inj {a b : ByteArray} (h : a.toList = b.toList) : a = b := by
  rcases a with ⟨a⟩; rcases b with ⟨b⟩
  rw [Lib.toList_data, Lib.toList_data] at h
  congr 1
  exact Array.toList_inj.1 h
theorem named_self (n : ByteArray) (d : List Int) : named n ⟨n, d⟩ = true := by simp [named]
theorem named_other {n m : ByteArray} (d : List Int) (h : m.toList ≠ n.toList) : named n ⟨m, d⟩ = false := by simpa [named] using h
theorem find_put (l : List S38) (n : ByteArray) (d : List Int) : (putL l n d).find? (named n) = some ⟨n, d⟩ := by
  unfold putL
  refine find_insertAt _ _ (named_self n d) _ fun y hy => ?_
  have := (List.mem_filter.1 hy).2
  simpa using this
theorem find_put_other (l : List S38) {n m : ByteArray} (d : List Int) (h : m.toList ≠ n.toList) : (putL l m d).find? (named n) = (l.filter fun x => !named m x).find? (named n) := by
  unfold putL
  exact find_insertAt_no _ _ (named_other d h) _
theorem find_filter_self (l : List S38) (n : ByteArray) : (l.filter fun x => !named n x).find? (named n) = none := by
  rw [List.find?_eq_none]
  intro x hx
  have := (List.mem_filter.1 hx).2
  simpa using this
end Go.Proofs.Ytcgeioingikeeaa.P
namespace Go.Proofs.Ytcgeioingikeeaa.P
open Go.RowKit Go.Proofs.YtcgeioingikeeaaW.PrintWords Go.Proofs.YtcgeioingikeeaaW.PrintLast Go.Proofs.YtcgeioingikeeaaW.PrintMore
set_option linter.unusedVariables false
set_option linter.unusedSimpArgs false
theorem drop_at (l : List S38) (i : Nat) (h : i < l.length) : l.drop i = rd_T38 l (i : Int) :: l.drop (i + 1) := by rw [rd_at l i h, List.drop_eq_getElem_cons h]
def okAt (l : List S38) (j : Nat) : Bool := decide (1 ≤ (rd_T38 l j).f0.size) && decide ((rd_T38 l j).f0.size ≤ 40) && decide ((rd_T38 l j).f1.length ≤ 65536) && (decide (j = 0) || Op.bytesLess (rd_T38 l ((j - 1 : Nat) : Int)).f0.toList (rd_T38 l j).f0.toList)
theorem mayA (l : List S38) (hl : l.length ≤ 1000000) : ∀ m i : Nat, i + m = l.length → ∃ k, files_May.l0 k l l (l.length : Int) i = some ((List.range' i m).all (okAt l))
  | 0, i, hi => ⟨1, by rw [files_May.l0, if_neg (by omega)]; rfl⟩
  | m + 1, i, hi => by
    rw [List.range'_succ, List.all_cons]
    by_cases h1 : 1 ≤ (rd_T38 l i).f0.size ∧ (rd_T38 l i).f0.size ≤ 40
    · have hf : files_fine.f (rd_T38 l (i : Int)).f0 = some true := by unfold files_fine.f; rw [if_pos (by omega)]; congr 1; exact decide_eq_true (by omega)
      by_cases h2 : (rd_T38 l i).f1.length ≤ 65536
      · obtain ⟨k, hk⟩ := mayA l hl m (i + 1) (by omega)
        cases i with
        | zero =>
          refine ⟨k + 1, ?_⟩
          rw [files_May.l0, if_pos (by omega), if_pos (by omega), if_pos (by omega), hf, Option.bind_some, if_pos rfl, if_neg (by omega), if_neg (by simp), wrap_nat 0 (by omega), hk]
          have : okAt l 0 = true := by simp only [okAt, decide_eq_true h1.1, decide_eq_true h1.2, decide_eq_true h2]; rfl
          rw [this, Bool.true_and]
        | succ i =>
          by_cases h3 : Op.bytesLess ((rd_T38 l (i : Int)).f0.toList) ((rd_T38 l ((i + 1 : Nat) : Int)).f0.toList) = true
          · refine ⟨k + 1, ?_⟩
            rw [files_May.l0, if_pos (by omega), if_pos (by omega), if_pos (by omega), hf, Option.bind_some, if_pos rfl, if_neg (by omega), if_pos (by omega), wrap_pred i (by omega), if_pos (by omega), if_pos (by omega), if_pos h3, wrap_nat (i + 1) (by omega), hk]
            have : okAt l (i + 1) = true := by simp only [okAt, decide_eq_true h1.1, decide_eq_true h1.2, decide_eq_true h2, Nat.add_sub_cancel, h3, Bool.or_true, Bool.and_true]
            rw [this, Bool.true_and]
          · refine ⟨1, ?_⟩
            rw [files_May.l0, if_pos (by omega), if_pos (by omega), if_pos (by omega), hf, Option.bind_some, if_pos rfl, if_neg (by omega), if_pos (by omega), wrap_pred i (by omega), if_pos (by omega), if_pos (by omega), if_neg h3]
            have : okAt l (i + 1) = false := by simp only [okAt, Nat.add_sub_cancel, h3]; simp
            rw [this, Bool.false_and]
      · refine ⟨1, ?_⟩
        rw [files_May.l0, if_pos (by omega), if_pos (by omega), if_pos (by omega), hf, Option.bind_some, if_pos rfl, if_pos (by omega)]
        have : okAt l i = false := by simp only [okAt, decide_eq_false h2]; simp
        rw [this, Bool.false_and]
    · have hf : files_fine.f (rd_T38 l (i : Int)).f0 = some false := by
        unfold files_fine.f
        split
        · congr 1; exact decide_eq_false (by omega)
        · rfl
      refine ⟨1, ?_⟩
      rw [files_May.l0, if_pos (by omega), if_pos (by omega), if_pos (by omega), hf, Option.bind_some, if_neg (by decide)]
      have : okAt l i = false := by
        unfold okAt
        by_cases a : 1 ≤ (rd_T38 l i).f0.size
        · rw [decide_eq_true a, decide_eq_false (show ¬ (rd_T38 l i).f0.size ≤ 40 by omega)]; simp
        · rw [decide_eq_false a]; simp
      rw [this, Bool.false_and]
theorem namesA (l : List S38) (hl : l.length ≤ 1000000) : ∀ m i : Nat, ∀ acc : List ByteArray, i + m = l.length → acc.length ≤ i → ∃ k, files_Names.l0 k acc l (l.length : Int) i = some (acc ++ (l.drop i).map (·.f0))
  | 0, i, acc, hi, ha => ⟨1, by rw [files_Names.l0, if_neg (by omega), List.drop_eq_nil_of_le (by omega)]; simp⟩
  | m + 1, i, acc, hi, ha => by
    obtain ⟨k, hk⟩ := namesA l hl m (i + 1) (acc ++ [(rd_T38 l i).f0]) (by omega) (by simp; omega)
    refine ⟨k + 1, ?_⟩
    rw [files_Names.l0, if_pos (by omega), if_pos (by omega), if_pos (by omega), if_pos (by omega), wrap_nat i (by omega), hk, drop_at l i (by omega)]
    simp
def sumW (acc : Int) : List S38 → Int
  | [] => acc
  | x :: l => sumW (wrap64 (acc + (x.f1.length : Int))) l
theorem sizeA (l : List S38) (hl : l.length ≤ 1000000) : ∀ m i : Nat, ∀ acc : Int, i + m = l.length → ∃ k, files_Size.l0 k acc l (l.length : Int) i = some (sumW acc (l.drop i))
  | 0, i, acc, hi => ⟨1, by rw [files_Size.l0, if_neg (by omega), List.drop_eq_nil_of_le (by omega)]; rfl⟩
  | m + 1, i, acc, hi => by
    obtain ⟨k, hk⟩ := sizeA l hl m (i + 1) (wrap64 (acc + ((rd_T38 l i).f1.length : Int))) (by omega)
    refine ⟨k + 1, ?_⟩
    rw [files_Size.l0, if_pos (by omega), if_pos (by omega), if_pos (by omega), wrap_nat i (by omega), hk, drop_at l i (by omega)]
    rfl
end Go.Proofs.Ytcgeioingikeeaa.P
namespace Go.Proofs.Ytcgeioingikeeaa.P
open Go.RowKit Go.Proofs.YtcgeioingikeeaaW.PrintWords Go.Proofs.YtcgeioingikeeaaW.PrintLast Go.Proofs.YtcgeioingikeeaaW.PrintMore
set_option linter.unusedVariables false
set_option linter.unusedSimpArgs false
section
variable {B : Nat → Prop} {g : Nat} {s : SSt} {w : World} {name : ByteArray}
def newD (q : Int) : SSt := ⟨[], [], q, 0, [], 0, false, 0⟩
/-- How many bytes files have. -/
def sizeF (l : List S38) : Int := sumW 0 l
theorem size_f (l : List S38) (hl : l.length ≤ 1000000) : ∃ k, files_Size.f k l = some (sizeF l) := by
  obtain ⟨k, hk⟩ := sizeA l hl l.length 0 0 (by omega)
  rw [List.drop_zero] at hk
  exact ⟨k, hk⟩
def crashD (s : SSt) (ks : List Int) : SSt := ⟨doneL (keepN ks) 0 s.safe s.pend, [], s.quota, 0, [], 0, false, mx s.peak (sizeF (doneL (keepN ks) 0 s.safe s.pend))⟩
theorem new_calls (q : Int) (hq : 0 ≤ q) : Calls Try.prog 47 #[.int .i64 q] w fun e w' => e = .returned (.pointer (some ⟨w.heap.size, 0, none⟩)) ∧ (∀ B : Nat → Prop, B w.heap.size → Rep B w.heap.size (newD q) w') ∧ Below w.heap.size w w' := by
  have hR : ∀ w1 : World, w1.heap[w.heap.size]? = some (.cells #[.map none, .int .i64 0, .int .i64 0, .slice none 0 0, .slice none 0 0, .int .i64 q, .int .i64 0, .bool false] 106 (0, 0)) → (∀ B : Nat → Prop, B w.heap.size → Rep B w.heap.size (newD q) w1) := fun w1 hb B hB =>
    ⟨.map none, .slice none 0 0, .slice none 0 0, hB, hb, .inl ⟨rfl, rfl⟩, Kd.V_nil _ _ _ _ _, O_nil _ _ _ _ _, fun k hk => nomatch hk⟩
  have HR := Aside0.mk hR
  clear hR
  go_enter Try.func47, Try.ntmps47
  go_wp2
  go_ret
  exact ⟨rfl, HR.out _ (heap_alloc_new _ _), below_alloc (Below.refl _ _) _⟩
set_option maxHeartbeats 8000000 in
set_option maxRecDepth 100000 in
theorem crash_calls (A : Option Addr) (c : Nat) (ks : List Int) (h : Rep B g s w) (hf : Fit s) (hBw : Up B w.heap.size) (hk : (Kd.int .i64).C w A ks.length ks) :
    Calls Try.prog 44 #[.pointer (some ⟨g, 0, none⟩), .slice A ks.length c] w fun e w' => e = .returned (.tuple #[]) ∧ Rep B g (crashD s ks) w' ∧ BelS B w w' := by
  obtain ⟨mv, sv, pv, h⟩ := h
  obtain ⟨As, cs, rfl⟩ := Kd.V_slice h.safe
  obtain ⟨Ap, cp, rfl⟩ := O_slice h.pend
  have hlen := hf.len
  have hw1 : Below w.heap.size w (w.alloc (Obj.cells #[.slice A ks.length c] 56)) := below_alloc (Below.refl _ _) _
  have hb1 : VarK (w.alloc (Obj.cells #[.slice A ks.length c] 56)) w.heap.size A c ks := ⟨heap_alloc_new _ _, Kd.C_below hk hw1⟩
  have hg0 : g < w.heap.size := blk_lt h.blk
  have H := Aside0.mk h
  have HF := Aside0.mk hf
  have HW1 := Aside0.mk hw1
  have HB1 := Aside0.mk hb1
  clear h hf hw1 hb1 hk
  go_enter Try.func44, Try.ntmps44
  go_wp2_with fail
  have hR1 := H.out.below HW1.out
  have hb1 := HB1.out
  have hBw1 : Up B (w.alloc (Obj.cells #[.slice A ks.length c] 56)).heap.size := Up.le hBw HW1.out.size
  have hB1 := belowB_of hBw HW1.out
  generalize w.alloc (Obj.cells #[.slice A ks.length c] 56) = w1 at hR1 hb1 hBw1 hB1 ⊢
  generalize w.heap.size = b at hb1 ⊢
  refine start_ (n := 14) (S := (fun w' => w'.cell? ⟨g, 3, none⟩ = some (.slice As s.safe.length cs) ∧ w'.cell? ⟨g, 4, none⟩ = some (.slice Ap s.pend.length cp))) (ds := [13]) #[false, false, false, false, false, false, false, false, false, false, false, false, false, false] (by kernel_rfl) rfl rfl ⟨(hR1.below (below_drew1 (Below.refl _ _))).cells.2.2.2.1, (hR1.below (below_drew1 (Below.refl _ _))).cells.2.2.2.2.1⟩ (fun hHeld => ?_)
  refine pure_ (i := 0) (N := some 6) (v := ?_) (a' := ?_) #[true, false, false, false, false, false, false, false, false, false, false, false, false, false] rfl rfl (by kernel_rfl) (fun _ _ _ h => h) (Or.inl ⟨by rfl, ?_⟩) ?_ ?_
  rotate_left
  · intro w'
    go_simp
    with_reducible rfl
  rotate_left
  · simp only [Act.put, List.setIfInBounds_toArray, List.set_cons_zero, List.set_cons_succ, i64_w, i32_w]
    rfl
  refine pure_ (i := 1) (N := some 7) (v := ?_) (a' := ?_) #[true, true, false, false, false, false, false, false, false, false, false, false, false, false] rfl rfl (by kernel_rfl) (fun _ _ _ h => h) (Or.inl ⟨by rfl, ?_⟩) ?_ ?_
  rotate_left
  · intro w'
    go_simp
    with_reducible rfl
  rotate_left
  · simp only [Act.put, List.setIfInBounds_toArray, List.set_cons_zero, List.set_cons_succ, i64_w, i32_w]
    rfl
  refine pure_ (i := 2) (N := some 8) (v := ?_) (a' := ?_) #[true, true, true, false, false, false, false, false, false, false, false, false, false, false] rfl rfl (by kernel_rfl) (fun _ _ _ h => h) (Or.inl ⟨by rfl, ?_⟩) ?_ ?_
  rotate_left
  · intro w'
    go_simp
    with_reducible rfl
  rotate_left
  · simp only [Act.put, List.setIfInBounds_toArray, List.set_cons_zero, List.set_cons_succ, i64_w, i32_w]
    rfl
  refine pure_ (i := 3) (N := some 9) (v := ?_) (a' := ?_) #[true, true, true, true, false, false, false, false, false, false, false, false, false, false] rfl rfl (by kernel_rfl) (fun _ _ _ h => h) (Or.inl ⟨by rfl, ?_⟩) ?_ ?_
  rotate_left
  · intro w'
    go_simp
    with_reducible rfl
  rotate_left
  · simp only [Act.put, List.setIfInBounds_toArray, List.set_cons_zero, List.set_cons_succ, i64_w, i32_w]
    rfl
  refine pure_ (i := 5) (N := some 11) (v := ?_) (a' := ?_) #[true, true, true, true, false, true, false, false, false, false, false, false, false, false] rfl rfl (by kernel_rfl) (fun _ _ _ h => h) (Or.inl ⟨by rfl, ?_⟩) ?_ ?_
  rotate_left
  · intro w'
    go_simp
    with_reducible rfl
  rotate_left
  · simp only [Act.put, List.setIfInBounds_toArray, List.set_cons_zero, List.set_cons_succ, i64_w, i32_w]
    rfl
  refine pure_ (i := 6) (N := some 12) (v := ?_) (a' := ?_) #[true, true, true, true, false, true, true, false, false, false, false, false, false, false] rfl rfl (by kernel_rfl) (fun _ _ _ h => h) (Or.inl ⟨by rfl, ?_⟩) ?_ ?_
  rotate_left
  · intro w'
    go_simp
    with_reducible rfl
  rotate_left
  · simp only [Act.put, List.setIfInBounds_toArray, List.set_cons_zero, List.set_cons_succ, i64_w, i32_w]
    rfl
  refine pure_ (i := 7) (N := some 13) (v := ?_) (a' := ?_) #[true, true, true, true, false, true, true, true, false, false, false, false, false, false] rfl rfl (by kernel_rfl) (fun _ _ _ h => h) (Or.inl ⟨by rfl, ?_⟩) ?_ ?_
  rotate_left
  · intro w'
    go_simp
    with_reducible rfl
  rotate_left
  · simp only [Act.put, List.setIfInBounds_toArray, List.set_cons_zero, List.set_cons_succ, i64_w, i32_w]
    rfl
  refine pure_ (i := 9) (N := some 15) (v := ?_) (a' := ?_) #[true, true, true, true, false, true, true, true, false, true, false, false, false, false] rfl rfl (by kernel_rfl) (fun _ _ _ h => h) (Or.inl ⟨by rfl, ?_⟩) ?_ ?_
  rotate_left
  · intro w'
    go_simp
    with_reducible rfl
  rotate_left
  · simp only [Act.put, List.setIfInBounds_toArray, List.set_cons_zero, List.set_cons_succ, i64_w, i32_w]
    rfl
  refine take_ (i := 4) (N := some 10) (v := ?_) (a' := ?_) #[true, true, true, true, true, true, true, true, false, true, false, false, false, false] rfl rfl (by kernel_rfl) (fun _ _ _ h => h) (Or.inl ⟨by rfl, ?_⟩) hHeld ?_ ?_
  rotate_left
  · rintro w' ⟨s0, s1⟩
    go_simp
    with_reducible rfl
  rotate_left
  · simp only [Act.put, List.setIfInBounds_toArray, List.set_cons_zero, List.set_cons_succ, i64_w, i32_w]
    rfl
  refine take_ (i := 8) (N := some 14) (v := ?_) (a' := ?_) #[true, true, true, true, true, true, true, true, true, true, false, false, false, false] rfl rfl (by kernel_rfl) (fun _ _ _ h => h) (Or.inl ⟨by rfl, ?_⟩) hHeld ?_ ?_
  rotate_left
  · rintro w' ⟨s0, s1⟩
    go_simp
    with_reducible rfl
  rotate_left
  · simp only [Act.put, List.setIfInBounds_toArray, List.set_cons_zero, List.set_cons_succ, i64_w, i32_w]
    rfl
  refine one_ (i := 10) (N := some 16) #[true, true, true, true, true, true, true, true, true, true, true, false, false, false] rfl rfl (by kernel_rfl) (by decide) (fun K hK => ?_)
  refine goes_ Try.func74 (by kernel_rfl) rfl #[.slice As s.safe.length cs, .slice Ap s.pend.length cp, .func (.func 78) #[] #[.pointer (some ⟨b, 0, none⟩)]] (by rfl) rfl rfl (by (try simp only [List.map_toArray, List.map_cons, List.map_nil]); first | done | rfl) ?_
  refine (done_crash (fun k => k ≠ g ∧ some k ≠ (Value.slice Ap s.pend.length cp).ownBlock) As cs s.safe Ap cp s.pend ks b c A _ (V_base (Kd.V_drew hR1.safe)) (Kd.V_reads' (O_V (O_below hR1.pend (below_drew1 (Below.refl _ _))))).2.2 (Kd.V_reads' (O_V hR1.pend)).2.1 (hb1.below (below_drew1 (Below.refl _ _))) (by omega) HF.out.safe HF.out.pend).mono ?_
  rintro e w5 ⟨v5, rfl, hV5, hb5⟩
  refine ⟨_, rfl, ?_⟩
  have hb15 : Below w1.heap.size w1 w5 := below_step (below_drew1 (Below.refl _ _)) hb5
  refine hK.out _ _ ⟨(hR1.below hb15).cells.2.2.2.1, (hR1.below hb15).cells.2.2.2.2.1⟩ (fun hHeld => ?_)
  have hR5 := hR1.below hb15
  clear hK K
  refine norm_ (a' := ?_) ?_ ?_
  rotate_left
  · show Act.put _ (some 16) _ = _
    simp only [Act.put, List.setIfInBounds_toArray, List.set_cons_zero, List.set_cons_succ, i64_w, i32_w]
    rfl
  refine pure_ (i := 11) (N := some 17) (v := ?_) (a' := ?_) #[true, true, true, true, true, true, true, true, true, true, true, true, false, false] rfl rfl (by kernel_rfl) (fun _ _ _ h => h) (Or.inl ⟨by rfl, ?_⟩) ?_ ?_
  rotate_left
  · intro w'
    go_simp
    with_reducible rfl
  rotate_left
  · simp only [Act.put, List.setIfInBounds_toArray, List.set_cons_zero, List.set_cons_succ, i64_w, i32_w]
    rfl
  refine pure_ (i := 12) (N := some 18) (v := ?_) (a' := ?_) #[true, true, true, true, true, true, true, true, true, true, true, true, true, false] rfl rfl (by kernel_rfl) (fun _ _ _ h => h) (Or.inl ⟨by rfl, ?_⟩) ?_ ?_
  rotate_left
  · intro w'
    go_simp
    with_reducible rfl
  rotate_left
  · simp only [Act.put, List.setIfInBounds_toArray, List.set_cons_zero, List.set_cons_succ, i64_w, i32_w]
    rfl
  refine last_ (i := 13) (N := none) #[true, true, true, true, true, true, true, true, true, true, true, true, true, true] rfl rfl (by kernel_rfl) (by decide) (fun K hK => ?_)
  have hfr := blk_frozen hR5.blk 3
  have hcl := hR5.cells.2.2.2.1
  obtain ⟨A5, c5, rfl⟩ := Kd.V_slice hV5
  refine skip_ (w1 := ?_) (by rfl) rfl ?_ ?_
  rotate_left
  · go_simp
    rfl
  refine hK.out _ _ ?_
  clear hK K
  refine done_ (by kernel_rfl) ?_
  obtain ⟨l5, hl5⟩ : ∃ l5, l5 = doneL (keepN ks) 0 s.safe s.pend := ⟨_, rfl⟩
  have hdl : okL l5 ∧ l5.length ≤ 1000 := by
    rw [hl5]
    have := doneL_ok (keepN ks) s.pend 0 s.safe HF.out.safe
    exact ⟨this.1, by omega⟩
  rw [← hl5] at hV5
  have HL5 := Aside0.mk hl5
  have hv5 : Kd.V k38 38 w5 0 (fun k => k ≠ g ∧ some k ≠ (Value.slice Ap s.pend.length cp).ownBlock) (.slice A5 l5.length c5) l5 := V_base (Kd.V_mono hV5 (fun k hk => hk.elim id (fun hk => hR1.fresh hk)))
  have hR := hR5.setSafe hv5
  have hBB : BelS B w (w5.setCell ⟨g, 3, none⟩ (.slice A5 l5.length c5)) := belowB_set (belowB_trans hB1 (belowB_of hBw1 hb15)) H.out.hg 3 _
  obtain ⟨kz, hkz⟩ := size_f l5 (by omega)
  have HKZ := Aside0.mk hkz
  rw [← hl5]
  clear hfr hcl hHeld hV5 hv5 hkz
  generalize w5.setCell ⟨g, 3, none⟩ (.slice A5 l5.length c5) = w6 at hR hBB ⊢
  have hb6 := hR.blk
  have hb7 := blk_set hb6 4 (.slice none 0 0)
  have hb8 := blk_set hb7 0 (.map none)
  have hb9 := blk_set hb8 1 (.int .i64 0)
  have hb10 := blk_set hb9 2 (.int .i64 0)
  have hb11 := blk_set hb10 7 (.bool false)
  have hR11 : RepAt B g { safe := l5, pend := [], quota := s.quota, calls := 0, fails := [], crash := 0, down := false, peak := s.peak } (((((w6.setCell ⟨g, 4, none⟩ (.slice none 0 0)).setCell ⟨g, 0, none⟩ (.map none)).setCell ⟨g, 1, none⟩ (.int .i64 0)).setCell ⟨g, 2, none⟩ (.int .i64 0)).setCell ⟨g, 7, none⟩ (.bool false)) (.map none) (.slice A5 l5.length c5) (.slice none 0 0) := by
    refine ⟨hR.hg, hb11, .inl ⟨rfl, rfl⟩, ?_, O_nil _ _ _ _ _, fun k hk => nomatch hk⟩
    refine Kd.V_step (Kd.V_mono hR.safe (fun k hk => ⟨hk.1, fun h => nomatch h⟩)) (fun k h1 hlt => ?_)
    rw [Below.heap_setCell _ _ _ _ h1.1, Below.heap_setCell _ _ _ _ h1.1, Below.heap_setCell _ _ _ _ h1.1, Below.heap_setCell _ _ _ _ h1.1, Below.heap_setCell _ _ _ _ h1.1]
  have hB11 : BelS B w (((((w6.setCell ⟨g, 4, none⟩ (.slice none 0 0)).setCell ⟨g, 0, none⟩ (.map none)).setCell ⟨g, 1, none⟩ (.int .i64 0)).setCell ⟨g, 2, none⟩ (.int .i64 0)).setCell ⟨g, 7, none⟩ (.bool false)) :=
    belowB_set (belowB_set (belowB_set (belowB_set (belowB_set hBB H.out.hg 4 _) H.out.hg 0 _) H.out.hg 1 _) H.out.hg 2 _) H.out.hg 7 _
  have hf4 := blk_frozen hb6 4
  have hf0 := blk_frozen hb7 0
  have hf1 := blk_frozen hb8 1
  have hf2 := blk_frozen hb9 2
  have hf7 := blk_frozen hb10 7
  have hc4 : w6.cell? ⟨g, 4, none⟩ = some _ := hR.cells.2.2.2.2.1
  have hc0 : (w6.setCell ⟨g, 4, none⟩ (.slice none 0 0)).cell? ⟨g, 0, none⟩ = some mv := by rw [cell_of_row _ g _ _ 106 (0, 0) hb7]; rfl
  have hc1 : ((w6.setCell ⟨g, 4, none⟩ (.slice none 0 0)).setCell ⟨g, 0, none⟩ (.map none)).cell? ⟨g, 1, none⟩ = some (.int .i64 s.crash) := by rw [cell_of_row _ g _ _ 106 (0, 0) hb8]; rfl
  have hc2 : (((w6.setCell ⟨g, 4, none⟩ (.slice none 0 0)).setCell ⟨g, 0, none⟩ (.map none)).setCell ⟨g, 1, none⟩ (.int .i64 0)).cell? ⟨g, 2, none⟩ = some (.int .i64 s.calls) := by rw [cell_of_row _ g _ _ 106 (0, 0) hb9]; rfl
  have hc7 : ((((w6.setCell ⟨g, 4, none⟩ (.slice none 0 0)).setCell ⟨g, 0, none⟩ (.map none)).setCell ⟨g, 1, none⟩ (.int .i64 0)).setCell ⟨g, 2, none⟩ (.int .i64 0)).cell? ⟨g, 7, none⟩ = some (.bool s.down) := by rw [cell_of_row _ g _ _ 106 (0, 0) hb10]; rfl
  have HR11 := Aside0.mk hR11
  have HB11 := Aside0.mk hB11
  have HHR := Aside0.mk hR
  clear hR11 hB11 hb6 hb7 hb8 hb9 hb10 hb11 hR hR5 hR1 hl5 hBB hb5 hb15 hB1
  go_wp2_with fail
  clear hf4 hf0 hf1 hf2 hf7 hc4 hc0 hc1 hc2 hc7 HHR
  generalize ((((w6.setCell ⟨g, 4, none⟩ (.slice none 0 0)).setCell ⟨g, 0, none⟩ (.map none)).setCell ⟨g, 1, none⟩ (.int .i64 0)).setCell ⟨g, 2, none⟩ (.int .i64 0)).setCell ⟨g, 7, none⟩ (.bool false) = w7 at HR11 HB11 ⊢
  have hR7 := HR11.out
  have hBw7 : Up B w7.heap.size := Up.le hBw HB11.out.size
  refine start_ (n := 14) (S := (fun w' => w'.cell? ⟨g, 3, none⟩ = some (.slice A5 l5.length c5) ∧ w'.cell? ⟨g, 6, none⟩ = some (.int .i64 s.peak))) (ds := [13]) #[false, false, false, false, false, false, false, false, false, false, false, false, false, false] (by kernel_rfl) rfl rfl ⟨(hR7.below (below_drew1 (Below.refl _ _))).cells.2.2.2.1, (hR7.below (below_drew1 (Below.refl _ _))).cells.2.2.2.2.2.2.1⟩ (fun hHeld => ?_)
  refine pure_ (i := 0) (N := some 29) (v := ?_) (a' := ?_) #[true, false, false, false, false, false, false, false, false, false, false, false, false, false] rfl rfl (by kernel_rfl) (fun _ _ _ h => h) (Or.inl ⟨by rfl, ?_⟩) ?_ ?_
  rotate_left
  · intro w'
    go_simp
    with_reducible rfl
  rotate_left
  · simp only [Act.put, List.setIfInBounds_toArray, List.set_cons_zero, List.set_cons_succ, i64_w, i32_w]
    rfl
  refine pure_ (i := 1) (N := some 30) (v := ?_) (a' := ?_) #[true, true, false, false, false, false, false, false, false, false, false, false, false, false] rfl rfl (by kernel_rfl) (fun _ _ _ h => h) (Or.inl ⟨by rfl, ?_⟩) ?_ ?_
  rotate_left
  · intro w'
    go_simp
    with_reducible rfl
  rotate_left
  · simp only [Act.put, List.setIfInBounds_toArray, List.set_cons_zero, List.set_cons_succ, i64_w, i32_w]
    rfl
  refine pure_ (i := 2) (N := some 31) (v := ?_) (a' := ?_) #[true, true, true, false, false, false, false, false, false, false, false, false, false, false] rfl rfl (by kernel_rfl) (fun _ _ _ h => h) (Or.inl ⟨by rfl, ?_⟩) ?_ ?_
  rotate_left
  · intro w'
    go_simp
    with_reducible rfl
  rotate_left
  · simp only [Act.put, List.setIfInBounds_toArray, List.set_cons_zero, List.set_cons_succ, i64_w, i32_w]
    rfl
  refine pure_ (i := 3) (N := some 32) (v := ?_) (a' := ?_) #[true, true, true, true, false, false, false, false, false, false, false, false, false, false] rfl rfl (by kernel_rfl) (fun _ _ _ h => h) (Or.inl ⟨by rfl, ?_⟩) ?_ ?_
  rotate_left
  · intro w'
    go_simp
    with_reducible rfl
  rotate_left
  · simp only [Act.put, List.setIfInBounds_toArray, List.set_cons_zero, List.set_cons_succ, i64_w, i32_w]
    rfl
  refine pure_ (i := 5) (N := some 34) (v := ?_) (a' := ?_) #[true, true, true, true, false, true, false, false, false, false, false, false, false, false] rfl rfl (by kernel_rfl) (fun _ _ _ h => h) (Or.inl ⟨by rfl, ?_⟩) ?_ ?_
  rotate_left
  · intro w'
    go_simp
    with_reducible rfl
  rotate_left
  · simp only [Act.put, List.setIfInBounds_toArray, List.set_cons_zero, List.set_cons_succ, i64_w, i32_w]
    rfl
  refine pure_ (i := 6) (N := some 35) (v := ?_) (a' := ?_) #[true, true, true, true, false, true, true, false, false, false, false, false, false, false] rfl rfl (by kernel_rfl) (fun _ _ _ h => h) (Or.inl ⟨by rfl, ?_⟩) ?_ ?_
  rotate_left
  · intro w'
    go_simp
    with_reducible rfl
  rotate_left
  · simp only [Act.put, List.setIfInBounds_toArray, List.set_cons_zero, List.set_cons_succ, i64_w, i32_w]
    rfl
  refine pure_ (i := 7) (N := some 36) (v := ?_) (a' := ?_) #[true, true, true, true, false, true, true, true, false, false, false, false, false, false] rfl rfl (by kernel_rfl) (fun _ _ _ h => h) (Or.inl ⟨by rfl, ?_⟩) ?_ ?_
  rotate_left
  · intro w'
    go_simp
    with_reducible rfl
  rotate_left
  · simp only [Act.put, List.setIfInBounds_toArray, List.set_cons_zero, List.set_cons_succ, i64_w, i32_w]
    rfl
  refine take_ (i := 4) (N := some 33) (v := ?_) (a' := ?_) #[true, true, true, true, true, true, true, true, false, false, false, false, false, false] rfl rfl (by kernel_rfl) (fun _ _ _ h => h) (Or.inl ⟨by rfl, ?_⟩) hHeld ?_ ?_
  rotate_left
  · rintro w' ⟨s0, s1⟩
    go_simp
    with_reducible rfl
  rotate_left
  · simp only [Act.put, List.setIfInBounds_toArray, List.set_cons_zero, List.set_cons_succ, i64_w, i32_w]
    rfl
  refine take_ (i := 8) (N := some 37) (v := ?_) (a' := ?_) #[true, true, true, true, true, true, true, true, true, false, false, false, false, false] rfl rfl (by kernel_rfl) (fun _ _ _ h => h) (Or.inl ⟨by rfl, ?_⟩) hHeld ?_ ?_
  rotate_left
  · rintro w' ⟨s0, s1⟩
    go_simp
    with_reducible rfl
  rotate_left
  · simp only [Act.put, List.setIfInBounds_toArray, List.set_cons_zero, List.set_cons_succ, i64_w, i32_w]
    rfl
  refine one_ (i := 9) (N := some 38) #[true, true, true, true, true, true, true, true, true, true, false, false, false, false] rfl rfl (by kernel_rfl) (by decide) (fun K hK => ?_)
  refine goes_ Try.func35 (by kernel_rfl) rfl #[.slice A5 l5.length c5] (by rfl) rfl rfl (by (try simp only [List.map_toArray, List.map_cons, List.map_nil]); first | done | rfl) ?_
  refine (files_Size.calls kz A5 c5 l5 (sizeF l5) _ (Kd.V_reads' (Kd.V_drew hR7.safe)).2.2 (Kd.V_reads' hR7.safe).2.1 HKZ.out).mono ?_
  rintro e w8 ⟨rfl, hb8⟩
  refine ⟨_, rfl, ?_⟩
  have hb78 : Below w7.heap.size w7 w8 := below_step (below_drew1 (Below.refl _ _)) hb8
  refine hK.out _ _ ⟨(hR7.below hb78).cells.2.2.2.1, (hR7.below hb78).cells.2.2.2.2.2.2.1⟩ (fun hHeld => ?_)
  have hR8 := hR7.below hb78
  clear hK K
  refine norm_ (a' := ?_) ?_ ?_
  rotate_left
  · show Act.put _ (some 38) _ = _
    simp only [Act.put, List.setIfInBounds_toArray, List.set_cons_zero, List.set_cons_succ, i64_w, i32_w]
    rfl
  refine pure_ (i := 10) (N := some 39) (v := ?_) (a' := ?_) #[true, true, true, true, true, true, true, true, true, true, true, false, false, false] rfl rfl (by kernel_rfl) (fun _ _ _ h => h) (Or.inl ⟨by rfl, ?_⟩) ?_ ?_
  rotate_left
  · intro w'
    go_simp
    with_reducible rfl
  rotate_left
  · simp only [Act.put, List.setIfInBounds_toArray, List.set_cons_zero, List.set_cons_succ, i64_w, i32_w]
    rfl
  refine pure_ (i := 11) (N := some 40) (v := ?_) (a' := ?_) #[true, true, true, true, true, true, true, true, true, true, true, true, false, false] rfl rfl (by kernel_rfl) (fun _ _ _ h => h) (Or.inl ⟨by rfl, ?_⟩) ?_ ?_
  rotate_left
  · intro w'
    go_simp
    with_reducible rfl
  rotate_left
  · simp only [Act.put, List.setIfInBounds_toArray, List.set_cons_zero, List.set_cons_succ, i64_w, i32_w]
    rfl
  refine pure_ (i := 12) (N := some 41) (v := ?_) (a' := ?_) #[true, true, true, true, true, true, true, true, true, true, true, true, true, false] rfl rfl (by kernel_rfl) (fun _ _ _ h => h) (Or.inl ⟨by rfl, ?_⟩) ?_ ?_
  rotate_left
  · intro w'
    go_simp
    with_reducible rfl
  rotate_left
  · simp only [Act.put, List.setIfInBounds_toArray, List.set_cons_zero, List.set_cons_succ, i64_w, i32_w]
    rfl
  refine last_ (i := 13) (N := none) #[true, true, true, true, true, true, true, true, true, true, true, true, true, true] rfl rfl (by kernel_rfl) (by decide) (fun K hK => ?_)
  have hfr := blk_frozen hR8.blk 6
  have hcl := hR8.cells.2.2.2.2.2.2.1
  refine skip_ (w1 := ?_) (by rfl) rfl ?_ ?_
  rotate_left
  · go_simp
    rfl
  refine hK.out _ _ ?_
  clear hK K
  refine done_ (by kernel_rfl) ?_
  have hend : RepAt B g (crashD s ks) (w8.setCell ⟨g, 6, none⟩ (.int .i64 (mx s.peak (sizeF l5)))) (.map none) (.slice A5 l5.length c5) (.slice none 0 0) := by
    have hcd : crashD s ks = { safe := l5, pend := [], quota := s.quota, calls := 0, fails := [], crash := 0, down := false, peak := mx s.peak (sizeF l5) } := by rw [HL5.out]; rfl
    rw [hcd]
    exact hR8.upd (fun k _ hk => Below.heap_setCell _ _ _ _ hk) (blk_set hR8.blk 6 _) rfl rfl rfl
  have hBe : BelS B w (w8.setCell ⟨g, 6, none⟩ (.int .i64 (mx s.peak (sizeF l5)))) := belowB_set (belowB_trans HB11.out (belowB_of hBw7 hb78)) H.out.hg 6 _
  go_wp2_with fail
  all_goals go_end0
  · have hm : mx s.peak (sizeF l5) = sizeF l5 := by unfold mx; split <;> omega
    rw [hm] at hend hBe
    exact ⟨rfl, ⟨_, _, _, hend⟩, hBe⟩
  · have hm : mx s.peak (sizeF l5) = s.peak := by unfold mx; split <;> omega
    rw [hm] at hend hBe
    exact ⟨rfl, ⟨_, _, _, hend⟩, hBe⟩
end
end Go.Proofs.Ytcgeioingikeeaa.P
namespace Go.Proofs.Ytcgeioingikeeaa.P
open Go.RowKit Go.Proofs.YtcgeioingikeeaaW.PrintWords Go.Proofs.YtcgeioingikeeaaW.PrintLast Go.Proofs.YtcgeioingikeeaaW.PrintMore
set_option linter.unusedVariables false
set_option linter.unusedSimpArgs false
/-- No cell is a text or a byte. -/
def Odd (cs : Array Value) : Prop := ∀ (j : Nat) (u : Value), cs[j]? = some u → (∀ s : ByteArray, u ≠ Value.string s) ∧ ∀ i : Int, u ≠ Value.int IntKind.u8 i
/-- The worlds differ at the block alone; in the first one it is odd. -/
structure But (b : Nat) (W W2 : World) : Prop where
  odd : ∃ cs t fr, W.heap[b]? = some (.cells cs t fr) ∧ Odd cs
  same : ∀ k, k ≠ b → W2.heap[k]? = W.heap[k]?
theorem But.cell {b : Nat} {W W2 : World} (h : But b W W2) {a : Addr} {u : Value} (hu : W.cell? a = some u) (ho : (∃ s : ByteArray, u = Value.string s) ∨ ∃ i : Int, u = Value.int IntKind.u8 i) : a.block ≠ b := by
  intro he
  obtain ⟨cs, t, fr, hb, hodd⟩ := h.odd
  unfold World.cell? at hu
  rw [he, hb] at hu
  simp only at hu
  split at hu
  · cases hu
  · obtain ⟨h1, h2⟩ := hodd _ _ hu
    rcases ho with ⟨s, rfl⟩ | ⟨i, rfl⟩
    · exact h1 s rfl
    · exact h2 i rfl
theorem But.cell2 {b : Nat} {W W2 : World} (h : But b W W2) {a : Addr} (ha : a.block ≠ b) : W2.cell? a = W.cell? a := by
  unfold World.cell?
  rw [h.same _ ha]
theorem add_blk (a : Addr) (n : Nat) : (a.add n).block = a.block := by
  unfold Addr.add
  split <;> rfl
/-- A row whose elements begin with a text or a byte is read just so. -/
theorem But.reads {α : Type} {d : Kd α} {b : Nat} {W W2 : World} (h : But b W W2) (hz : 0 < d.sz) (hK : ∀ x c, d.K W x c → d.K W2 x c ∧ ∃ u, c[0]? = some u ∧ ((∃ s : ByteArray, u = Value.string s) ∨ ∃ i : Int, u = Value.int IntKind.u8 i)) {A : Option Addr} {n : Nat} {xs : List α} (hC : d.C W A n xs) : d.C W2 A n xs := by
  obtain ⟨h1, h2, h3⟩ := hC
  refine ⟨h1, h2, fun hn => ?_⟩
  obtain ⟨ad, e, hc⟩ := h3 hn
  refine ⟨ad, e, fun j p hj => ?_⟩
  obtain ⟨c, hl, hk, hcell⟩ := hc j p hj
  obtain ⟨hk2, u, hu, ho⟩ := hK p c hk
  refine ⟨c, hl, hk2, fun i v hv => ?_⟩
  have hb := h.cell (hcell 0 u hu) ho
  rw [add_blk] at hb
  rw [h.cell2 (by rw [add_blk]; exact hb)]
  exact hcell i v hv
theorem But.bytes {b : Nat} {W W2 : World} (h : But b W W2) {A : Option Addr} {n : Nat} {xs : List Int} (hC : (Kd.int .u8).C W A n xs) : (Kd.int .u8).C W2 A n xs :=
  h.reads (d := Kd.int .u8) (by decide) (fun x c hk => by
    have hk' : c = [.int .u8 x] := hk
    subst hk'
    exact ⟨rfl, _, rfl, .inr ⟨x, rfl⟩⟩) hC
theorem But.K38 {b : Nat} {W W2 : World} (h : But b W W2) {x : S38} {c : List Value} (hk : k38.K W x c) : k38.K W2 x c ∧ ∃ u, c[0]? = some u ∧ ((∃ s : ByteArray, u = Value.string s) ∨ ∃ i : Int, u = Value.int IntKind.u8 i) := by
  obtain ⟨A, n, rfl, hl, hC⟩ := k38_open hk
  exact ⟨k38_mk W2 x hl (h.bytes hC), _, rfl, .inl ⟨_, rfl⟩⟩
theorem But.K31 {b : Nat} {W W2 : World} (h : But b W W2) {x : S31} {c : List Value} (hk : k31.K W x c) : k31.K W2 x c ∧ ∃ u, c[0]? = some u ∧ ((∃ s : ByteArray, u = Value.string s) ∨ ∃ i : Int, u = Value.int IntKind.u8 i) := by
  obtain ⟨A, n, rfl, hl, hC⟩ := k31_open hk
  exact ⟨k31_mk W2 x hl (h.bytes hC), _, rfl, .inl ⟨_, rfl⟩⟩
theorem But.C38 {b : Nat} {W W2 : World} (h : But b W W2) {A : Option Addr} {n : Nat} {xs : List S38} (hC : k38.C W A n xs) : k38.C W2 A n xs := h.reads (by decide) (fun _ _ hk => h.K38 hk) hC
theorem But.foot {P : World → Prop} {w w1 : World} {ok : Nat → Prop} {b : Nat} (h : But b w w1) (hsz : w1.heap.size = w.heap.size) (hf : Foot P w ok) (hP : ∀ W W2 : World, But b W W2 → P W → P W2) : Foot P w1 ok := by
  intro W' hW
  obtain ⟨cs, t, fr, hb, hodd⟩ := h.odd
  have hblt : b < w.heap.size := blk_lt hb
  by_cases hok : ok b
  · have hWb := hW b hok (by omega)
    have hlt : b < W'.heap.size := by
      have hx := Array.getElem?_eq_getElem (xs := w1.heap) (i := b) (by omega)
      rw [hx] at hWb
      exact (Array.getElem?_eq_some_iff.1 hWb).1
    have hpb : ({ W' with heap := W'.heap.set b (.cells cs t fr) hlt } : World).heap[b]? = some (.cells cs t fr) := by simp
    have hpo : ∀ k, k ≠ b → ({ W' with heap := W'.heap.set b (.cells cs t fr) hlt } : World).heap[k]? = W'.heap[k]? := fun k hk => by
      show (W'.heap.set b (.cells cs t fr) hlt)[k]? = _
      rw [Array.getElem?_set_ne hlt (Ne.symm hk)]
    refine hP _ W' ⟨⟨cs, t, fr, hpb, hodd⟩, fun k hk => (hpo k hk).symm⟩ (hf _ fun k hk hklt => ?_)
    by_cases hkb : k = b
    · subst hkb; rw [hpb, hb]
    · rw [hpo k hkb, hW k hk (by omega), h.same k hkb]
  · refine hf W' fun k hk hklt => ?_
    have hkb : k ≠ b := fun he => hok (he ▸ hk)
    rw [hW k hk (by omega), h.same k hkb]
theorem own_ne {w : World} {base e b : Nat} {size n : Nat} {v : Value} {xs : List Value} (h : w.ownsRow base e size v n xs) {cs : Array Value} {t : Nat} {fr : Nat × Nat} (hb : w.heap[b]? = some (.cells cs t fr)) (ht : t ≠ e) : v.ownBlock ≠ some b := fun he => by
  obtain ⟨cells, hc⟩ := own_typed h b he
  rw [hb] at hc
  injection hc with hc
  injection hc with _ hc
  exact ht hc
/-- The block is written: the store is as it was. -/
theorem RepAt.pokeB {B : Nat → Prop} {g b : Nat} {s : SSt} {w w1 : World} {mv sv pv : Value} (h : RepAt B g s w mv sv pv) (hB : But b w w1) (hsz : w1.heap.size = w.heap.size) {cs : Array Value} {t : Nat} {fr : Nat × Nat} (hb : w.heap[b]? = some (.cells cs t fr)) (h1 : t ≠ 106) (h2 : t ≠ 31) : RepAt B g s w1 mv sv pv := by
  have hgb : g ≠ b := fun he => by
    have := h.blk
    rw [he, hb] at this
    injection this with this
    injection this with _ this
    exact h1 this
  refine ⟨h.hg, (hB.same g hgb).trans h.blk, h.map.move ⟨_, _, _, hb⟩ (fun k _ hk => hB.same k hk), ?_, ?_, h.own⟩
  · exact Kd.V_map h.safe (fun A hf => hB.foot hsz hf (fun W W2 hb2 hc => hb2.C38 hc))
  · obtain ⟨inner, ho, hr⟩ := h.pend
    exact ⟨inner, own_move ho (fun k hk => hB.same k (fun he => own_ne ho hb h2 (by rw [hk, he]))), hr.imp_ fun x c hx => hB.foot hsz hx (fun W W2 hb2 hk => (hb2.K31 hk).1)⟩
/-- A row of the call's own, of another type, is as it was. -/
theorem But.R_bytes {b : Nat} {w w1 : World} (hB : But b w w1) {base : Nat} {ok : Nat → Prop} {v : Value} {xs : List Int} (h : (Kd.int .u8).R 5 w base ok v xs) {cs : Array Value} {t : Nat} {fr : Nat × Nat} (hb : w.heap[b]? = some (.cells cs t fr)) (ht : t ≠ 5) : (Kd.int .u8).R 5 w1 base ok v xs := by
  refine Kd.R_mono (Kd.R_move (Kd.R_bound h) fun k hk => hB.same k fun he => ?_) (fun _ hk => hk.1)
  obtain ⟨_, _, _, q, hq, cells, hc⟩ := hk
  have hq5 : q = 5 := by simpa [Kd.int, Kd.scalar] using hq
  rw [he, hb] at hc
  injection hc with hc
  injection hc with _ hc
  exact ht (hc.trans hq5)
theorem But.R_names {b : Nat} {w w1 : World} (hB : But b w w1) {base : Nat} {ok : Nat → Prop} {v : Value} {xs : List ByteArray} (h : Kd.string.R 9 w base ok v xs) {cs : Array Value} {t : Nat} {fr : Nat × Nat} (hb : w.heap[b]? = some (.cells cs t fr)) (ht : t ≠ 9) : Kd.string.R 9 w1 base ok v xs := by
  refine Kd.R_mono (Kd.R_move (Kd.R_bound h) fun k hk => hB.same k fun he => ?_) (fun _ hk => hk.1)
  obtain ⟨_, _, _, q, hq, cells, hc⟩ := hk
  have hq5 : q = 9 := by simpa [Kd.string, Kd.scalar] using hq
  rw [he, hb] at hc
  injection hc with hc
  injection hc with _ hc
  exact ht (hc.trans hq5)
end Go.Proofs.Ytcgeioingikeeaa.P
namespace Go.Proofs.Ytcgeioingikeeaa.P
open Go.RowKit Go.Proofs.YtcgeioingikeeaaW.PrintWords Go.Proofs.YtcgeioingikeeaaW.PrintLast Go.Proofs.YtcgeioingikeeaaW.PrintMore
set_option linter.unusedVariables false
set_option linter.unusedSimpArgs false
section
variable {B : Nat → Prop} {g : Nat} {s : SSt} {w : World} {mv sv pv : Value}
/-- A captured variable that holds a write. -/
def VarW (w : World) (b : Nat) (x : S31) (A : Option Addr) (c : Nat) : Prop := w.heap[b]? = some (.cells #[.string x.f0, .int .i64 x.f1, .int .i64 x.f2, .slice A x.f3.length c] 31 (0, 0))
theorem VarW.below {w w1 : World} {b c : Nat} {x : S31} {A : Option Addr} (h : VarW w b x A c) (hb : Below w.heap.size w w1) : VarW w1 b x A c := blk_stays hb h
theorem VarW.cell {w : World} {b c : Nat} {x : S31} {A : Option Addr} (h : VarW w b x A c) : w.cell? ⟨b, 0, none⟩ = some (.string x.f0) ∧ w.cell? ⟨b, 1, none⟩ = some (.int .i64 x.f1) ∧ w.cell? ⟨b, 2, none⟩ = some (.int .i64 x.f2) ∧ w.cell? ⟨b, 3, none⟩ = some (.slice A x.f3.length c) := by
  refine ⟨?_, ?_, ?_, ?_⟩ <;> (rw [cell_of_row w b _ _ 31 (0, 0) h]; rfl)
/-- One more write, in a row of the store's own. -/
theorem O_snoc31 {W w1 : World} {ok : Nat → Prop} {v v1 : Value} {xs : List S31} {x : S31} {seg : List Value} {inner : List Value}
    (hr : Reps (fun x c => Kd.FK k31 W (fun k => ok k ∧ some k ≠ v.ownBlock) x c) 4 xs inner) (hx : Kd.FK k31 W (fun k => ok k ∧ some k ≠ v.ownBlock) x seg)
    (hown : w1.ownsRow 0 31 4 v1 (xs.length + 1) (inner ++ seg)) (hg : W.grownBy w1 v.ownBlock) (hat : v1.ownBlock = v.ownBlock ∨ v1.ownBlock = some W.heap.size) : O k31 31 w1 0 ok v1 (xs ++ [x]) := by
  refine ⟨inner ++ seg, by rw [List.length_append]; exact hown, ?_⟩
  exact O_put (hr.imp_ fun y c' hy => FK_after hy hg hat) (FK_after hx hg hat) (FK_one hx).1
theorem doT_len (l : List S38) (x : S31) (keep : Int) (_ : okL l) : (doT l x keep).1.length ≤ l.length + 1 := by
  unfold doT
  split
  · simp
  · unfold doRes
    split
    · simp
    · by_cases h0 : (keptOf x.f3 keep).length = 0 ∧ x.f3.length > 0
      · rw [if_pos h0]; simp
      · rw [if_neg h0]; exact putL_len _ _ _
/-- A write, done to a store that is up, plainly: what is told. -/
def doE (s : SSt) (x : S31) : Int :=
  if (getT (filesOf s) x.f0).2 = false ∧ (x.f1 = 2 ∨ x.f1 = 3) then 4 else
    if (doT (filesOf s) x (-1)).2 ≠ 0 then (doT (filesOf s) x (-1)).2 else
      if s.quota < sizeF (doT (filesOf s) x (-1)).1 ∧ sizeF (filesOf s) < sizeF (doT (filesOf s) x (-1)).1 then 8 else 0
def doB (s : SSt) (x : S31) : SSt × Int :=
  if doE s x = 0 then ({ s with pend := s.pend ++ [x], peak := mx s.peak (sizeF (doT (filesOf s) x (-1)).1) }, 0) else (s, doE s x)
end
end Go.Proofs.Ytcgeioingikeeaa.P
namespace Go.Proofs.Ytcgeioingikeeaa.P
open Go.RowKit Go.Proofs.YtcgeioingikeeaaW.PrintWords Go.Proofs.YtcgeioingikeeaaW.PrintLast Go.Proofs.YtcgeioingikeeaaW.PrintMore
set_option linter.unusedVariables false
set_option linter.unusedSimpArgs false
section
variable {B : Nat → Prop} {g : Nat} {s : SSt} {w : World} {mv sv pv : Value}
set_option maxHeartbeats 4000000 in
set_option maxRecDepth 100000 in
theorem do1_none2 (x : S31) (A3 : Option Addr) (c3 b0 b1 : Nat) {s0 : SSt} {w0 : World} (h0 : RepAt B g s0 w0 mv sv pv) (hk0 : KeptG g w0 w) (hb1 : w0.heap.size ≤ b1) (hB0 : Up B w0.heap.size) (e1 : s.safe = s0.safe) (e2 : s.pend = s0.pend) (e3 : s.fails = s0.fails)
    (h : RepAt B g s w mv sv pv) (hf : Fit s) (hx : x.f3.length ≤ 1000) (hp : VarP w b0 g) (hn : VarW w b1 x A3 c3) (hF : Kd.F (Kd.int .u8) w (fun k => k ≠ g) A3 x.f3.length x.f3) (hc3 : x.f3.length ≤ c3) (hok : (getT (filesOf s) x.f0).2 = false) (h2 : x.f1 = 2) :
    Calls Try.prog 91 #[.pointer (some ⟨b0, 0, none⟩), .pointer (some ⟨b1, 0, none⟩)] w fun e w' => ∃ r, e = .returned (.int .i64 r) ∧ r = (doB s x).2 ∧ Rep B g (doB s x).1 w' ∧ BelS B w w' := by
  obtain ⟨Ap, cp, rfl⟩ := O_slice h.pend
  have hBw : Up B w.heap.size := Up.le hB0 hk0.1
  have hg0 : g < w0.heap.size := blk_lt h0.blk
  have hlen := hf.len
  have hfl : okL (filesOf s) ∧ (filesOf s).length ≤ 1000 := files_ok hf
  have hget := get_f (filesOf s) x.f0 (by omega) hfl.1
  have hdo := doT_f (filesOf s) x (-1) (by omega) hfl.1 (by omega)
  have hdk := doT_ok (filesOf s) x (-1) hfl.1
  obtain ⟨kz, hkz⟩ := size_f (filesOf s) (by omega)
  have hE : doE s x = 4 := by unfold doE; rw [if_pos ⟨hok, by omega⟩]
  have hB : doB s x = (s, 4) := by unfold doB; rw [hE]; rfl
  rw [hB]
  rw [hok] at hget
  have hq2 : (x.f1 == 2) = true := by simpa using h2
  have HOK := Aside0.mk hok
  have HEB := Aside0.mk (And.intro hE hB)
  clear hok h2 hE hB
  have hp0 := hp.cell
  obtain ⟨hx0, hx1, hx2, hx3⟩ := hn.cell
  have H := Aside0.mk h
  have H0 := Aside0.mk h0
  have HK0 := Aside0.mk hk0
  have HE := Aside0.mk (And.intro e1 (And.intro e2 e3))
  have HF := Aside0.mk hf
  have HP := Aside0.mk hp
  have HN := Aside0.mk hn
  have HFx := Aside0.mk hF
  have HGET := Aside0.mk hget
  have HDO := Aside0.mk hdo
  have HDK := Aside0.mk hdk
  have HKZ := Aside0.mk hkz
  clear h h0 hk0 hf hp hn hF hget hdo hdk hkz e1 e2 e3
  go_enter Try.func91, Try.ntmps91
  go_wp2_with (first
    | (go_at_call 42; refine (files_calls ⟨mv, sv, _, H.out⟩ HF.out).mono ?_; rintro e w1 ⟨v1, rfl, hV1, hb1w⟩; obtain ⟨A1, c1, rfl⟩ := Kd.V_slice hV1; obtain ⟨hx0, hx1, hx2, hx3⟩ := (HN.out.below hb1w).cell; have HV1 := Aside0.mk hV1; have HB1 := Aside0.mk hb1w; clear hV1 hb1w)
    | (go_at_call 28; refine (files_Get.calls A1 c1 (filesOf s) x.f0 _ _ _ (Kd.V_reads' HV1.out).2.2 (Kd.V_reads' HV1.out).2.1 HGET.out).mono ?_; rintro e w2 ⟨v2, rfl, hR2, hb2⟩; obtain ⟨A2, c2, rfl⟩ := Kd.R_slice hR2; obtain ⟨hx0, hx1, hx2, hx3⟩ := (HN.out.below (below_step HB1.out hb2)).cell; have HB12 := Aside0.mk hb2; have HB2 := Aside0.mk (below_step HB1.out hb2); clear hR2 hb2))
  go_ret
  exact ⟨4, rfl, rfl, ⟨mv, sv, _, H.out.below HB2.out⟩, belowB_of hBw HB2.out⟩
end
end Go.Proofs.Ytcgeioingikeeaa.P
namespace Go.Proofs.Ytcgeioingikeeaa.P
open Go.RowKit Go.Proofs.YtcgeioingikeeaaW.PrintWords Go.Proofs.YtcgeioingikeeaaW.PrintLast Go.Proofs.YtcgeioingikeeaaW.PrintMore
set_option linter.unusedVariables false
set_option linter.unusedSimpArgs false
section
variable {B : Nat → Prop} {g : Nat} {s : SSt} {w : World} {mv sv pv : Value}
set_option maxHeartbeats 4000000 in
set_option maxRecDepth 100000 in
theorem do1_none3 (x : S31) (A3 : Option Addr) (c3 b0 b1 : Nat) {s0 : SSt} {w0 : World} (h0 : RepAt B g s0 w0 mv sv pv) (hk0 : KeptG g w0 w) (hb1 : w0.heap.size ≤ b1) (hB0 : Up B w0.heap.size) (e1 : s.safe = s0.safe) (e2 : s.pend = s0.pend) (e3 : s.fails = s0.fails)
    (h : RepAt B g s w mv sv pv) (hf : Fit s) (hx : x.f3.length ≤ 1000) (hp : VarP w b0 g) (hn : VarW w b1 x A3 c3) (hF : Kd.F (Kd.int .u8) w (fun k => k ≠ g) A3 x.f3.length x.f3) (hc3 : x.f3.length ≤ c3) (hok : (getT (filesOf s) x.f0).2 = false) (h2 : x.f1 = 3) :
    Calls Try.prog 91 #[.pointer (some ⟨b0, 0, none⟩), .pointer (some ⟨b1, 0, none⟩)] w fun e w' => ∃ r, e = .returned (.int .i64 r) ∧ r = (doB s x).2 ∧ Rep B g (doB s x).1 w' ∧ BelS B w w' := by
  obtain ⟨Ap, cp, rfl⟩ := O_slice h.pend
  have hBw : Up B w.heap.size := Up.le hB0 hk0.1
  have hg0 : g < w0.heap.size := blk_lt h0.blk
  have hlen := hf.len
  have hfl : okL (filesOf s) ∧ (filesOf s).length ≤ 1000 := files_ok hf
  have hget := get_f (filesOf s) x.f0 (by omega) hfl.1
  have hdo := doT_f (filesOf s) x (-1) (by omega) hfl.1 (by omega)
  have hdk := doT_ok (filesOf s) x (-1) hfl.1
  obtain ⟨kz, hkz⟩ := size_f (filesOf s) (by omega)
  have hE : doE s x = 4 := by unfold doE; rw [if_pos ⟨hok, by omega⟩]
  have hB : doB s x = (s, 4) := by unfold doB; rw [hE]; rfl
  rw [hB]
  rw [hok] at hget
  have hq2 : (x.f1 == 2) = false := by rw [h2]; rfl
  have hq3 : (x.f1 == 3) = true := by simpa using h2
  have HOK := Aside0.mk hok
  have HEB := Aside0.mk (And.intro hE hB)
  clear hok h2 hE hB
  have hp0 := hp.cell
  obtain ⟨hx0, hx1, hx2, hx3⟩ := hn.cell
  have H := Aside0.mk h
  have H0 := Aside0.mk h0
  have HK0 := Aside0.mk hk0
  have HE := Aside0.mk (And.intro e1 (And.intro e2 e3))
  have HF := Aside0.mk hf
  have HP := Aside0.mk hp
  have HN := Aside0.mk hn
  have HFx := Aside0.mk hF
  have HGET := Aside0.mk hget
  have HDO := Aside0.mk hdo
  have HDK := Aside0.mk hdk
  have HKZ := Aside0.mk hkz
  clear h h0 hk0 hf hp hn hF hget hdo hdk hkz e1 e2 e3
  go_enter Try.func91, Try.ntmps91
  go_wp2_with (first
    | (go_at_call 42; refine (files_calls ⟨mv, sv, _, H.out⟩ HF.out).mono ?_; rintro e w1 ⟨v1, rfl, hV1, hb1w⟩; obtain ⟨A1, c1, rfl⟩ := Kd.V_slice hV1; obtain ⟨hx0, hx1, hx2, hx3⟩ := (HN.out.below hb1w).cell; have HV1 := Aside0.mk hV1; have HB1 := Aside0.mk hb1w; clear hV1 hb1w)
    | (go_at_call 28; refine (files_Get.calls A1 c1 (filesOf s) x.f0 _ _ _ (Kd.V_reads' HV1.out).2.2 (Kd.V_reads' HV1.out).2.1 HGET.out).mono ?_; rintro e w2 ⟨v2, rfl, hR2, hb2⟩; obtain ⟨A2, c2, rfl⟩ := Kd.R_slice hR2; obtain ⟨hx0, hx1, hx2, hx3⟩ := (HN.out.below (below_step HB1.out hb2)).cell; have HB12 := Aside0.mk hb2; have HB2 := Aside0.mk (below_step HB1.out hb2); clear hR2 hb2))
  go_ret
  exact ⟨4, rfl, rfl, ⟨mv, sv, _, H.out.below HB2.out⟩, belowB_of hBw HB2.out⟩
end
end Go.Proofs.Ytcgeioingikeeaa.P
namespace Go.Proofs.Ytcgeioingikeeaa.P
open Go.RowKit Go.Proofs.YtcgeioingikeeaaW.PrintWords Go.Proofs.YtcgeioingikeeaaW.PrintLast Go.Proofs.YtcgeioingikeeaaW.PrintMore
set_option linter.unusedVariables false
set_option linter.unusedSimpArgs false
section
variable {B : Nat → Prop} {g : Nat} {s : SSt} {w : World} {mv sv pv : Value}
set_option maxHeartbeats 4000000 in
set_option maxRecDepth 100000 in
theorem do1_err_t (x : S31) (A3 : Option Addr) (c3 b0 b1 : Nat) {s0 : SSt} {w0 : World} (h0 : RepAt B g s0 w0 mv sv pv) (hk0 : KeptG g w0 w) (hb1 : w0.heap.size ≤ b1) (hB0 : Up B w0.heap.size) (e1 : s.safe = s0.safe) (e2 : s.pend = s0.pend) (e3 : s.fails = s0.fails)
    (h : RepAt B g s w mv sv pv) (hf : Fit s) (hx : x.f3.length ≤ 1000) (hp : VarP w b0 g) (hn : VarW w b1 x A3 c3) (hF : Kd.F (Kd.int .u8) w (fun k => k ≠ g) A3 x.f3.length x.f3) (hc3 : x.f3.length ≤ c3) (hok : (getT (filesOf s) x.f0).2 = true) (he : (doT (filesOf s) x (-1)).2 ≠ 0) :
    Calls Try.prog 91 #[.pointer (some ⟨b0, 0, none⟩), .pointer (some ⟨b1, 0, none⟩)] w fun e w' => ∃ r, e = .returned (.int .i64 r) ∧ r = (doB s x).2 ∧ Rep B g (doB s x).1 w' ∧ BelS B w w' := by
  obtain ⟨Ap, cp, rfl⟩ := O_slice h.pend
  have hBw : Up B w.heap.size := Up.le hB0 hk0.1
  have hg0 : g < w0.heap.size := blk_lt h0.blk
  have hlen := hf.len
  have hfl : okL (filesOf s) ∧ (filesOf s).length ≤ 1000 := files_ok hf
  have hget := get_f (filesOf s) x.f0 (by omega) hfl.1
  have hdo := doT_f (filesOf s) x (-1) (by omega) hfl.1 (by omega)
  have hdk := doT_ok (filesOf s) x (-1) hfl.1
  obtain ⟨kz, hkz⟩ := size_f (filesOf s) (by omega)
  have hno : ¬ ((getT (filesOf s) x.f0).2 = false ∧ (x.f1 = 2 ∨ x.f1 = 3)) := by simp [hok]
  rw [hok] at hget
  have hE : doE s x = (doT (filesOf s) x (-1)).2 := by unfold doE; rw [if_neg hno, if_pos he]
  have hB : doB s x = (s, (doT (filesOf s) x (-1)).2) := by unfold doB; rw [hE, if_neg he]
  rw [hB]
  obtain ⟨⟨n2, r2⟩, hdr⟩ : ∃ r, doT (filesOf s) x (-1) = r := ⟨_, rfl⟩
  rw [hdr] at hdo hdk he ⊢
  simp only at hdo hdk he ⊢
  have hn2 : n2.length ≤ 1001 := by
    have := doT_len (filesOf s) x (-1) hfl.1
    rw [hdr] at this
    simp only at this
    omega
  obtain ⟨kd, hkd⟩ := size_f n2 (by omega)
  have HKD := Aside0.mk hkd
  have hce : (r2 == 0) = false := by simpa using he
  have hcn : (r2 != 0) = true := by simpa using he
  have HEB := Aside0.mk (And.intro hE hB)
  have HDR := Aside0.mk hdr
  clear hok hno hE hB hdr he hkd
  have hp0 := hp.cell
  obtain ⟨hx0, hx1, hx2, hx3⟩ := hn.cell
  have H := Aside0.mk h
  have H0 := Aside0.mk h0
  have HK0 := Aside0.mk hk0
  have HE := Aside0.mk (And.intro e1 (And.intro e2 e3))
  have HF := Aside0.mk hf
  have HP := Aside0.mk hp
  have HN := Aside0.mk hn
  have HFx := Aside0.mk hF
  have HGET := Aside0.mk hget
  have HDO := Aside0.mk hdo
  have HDK := Aside0.mk hdk
  have HKZ := Aside0.mk hkz
  clear h h0 hk0 hf hp hn hF hget hdo hdk hkz e1 e2 e3
  go_enter Try.func91, Try.ntmps91
  go_wp2_with (first
    | (go_at_call 42; refine (files_calls ⟨mv, sv, _, H.out⟩ HF.out).mono ?_; rintro e w1 ⟨v1, rfl, hV1, hb1w⟩; obtain ⟨A1, c1, rfl⟩ := Kd.V_slice hV1; obtain ⟨hx0, hx1, hx2, hx3⟩ := (HN.out.below hb1w).cell; have HV1 := Aside0.mk hV1; have HB1 := Aside0.mk hb1w; clear hV1 hb1w)
    | (go_at_call 28; refine (files_Get.calls A1 c1 (filesOf s) x.f0 _ _ _ (Kd.V_reads' HV1.out).2.2 (Kd.V_reads' HV1.out).2.1 HGET.out).mono ?_; rintro e w2 ⟨v2, rfl, hR2, hb2⟩; obtain ⟨A2, c2, rfl⟩ := Kd.R_slice hR2; obtain ⟨hx0, hx1, hx2, hx3⟩ := (HN.out.below (below_step HB1.out hb2)).cell; have HB12 := Aside0.mk hb2; have HB2 := Aside0.mk (below_step HB1.out hb2); clear hR2 hb2)
    | (go_at_call 17; refine (files_Do.calls (fun k => w.heap.size ≤ k) A1 c1 (filesOf s) x.f0 x.f1 x.f2 A3 c3 x.f3 (-1) _ _ _ (V_base (Kd.V_below HV1.out HB12.out)) (Kd.F_now (Kd.F_below HFx.out HB2.out)) hc3 HDO.out).mono ?_; rintro e w3 ⟨v3, rfl, hV3, hb3⟩; obtain ⟨A4, c4, rfl⟩ := Kd.V_slice hV3; have hp0 := (HP.out.below (below_step HB2.out hb3)).cell; obtain ⟨hx0, hx1, hx2, hx3⟩ := (HN.out.below (below_step HB2.out hb3)).cell; have HV3 := Aside0.mk hV3; have HB13 := Aside0.mk (below_step HB12.out hb3); have HB3 := Aside0.mk (below_step HB2.out hb3); clear hV3 hb3)
    | (go_at_call 35; with_reducible refine (files_Size.calls kd A4 c4 _ (sizeF n2) _ (Kd.V_reads' HV3.out).2.2 (Kd.V_reads' HV3.out).2.1 HKD.out).mono ?_; rintro e w4 ⟨rfl, hb4⟩; have hp0 := (HP.out.below (below_step HB3.out hb4)).cell; obtain ⟨hx0, hx1, hx2, hx3⟩ := (HN.out.below (below_step HB3.out hb4)).cell; have hq := (H.out.below (below_step HB3.out hb4)).cells.2.2.2.2.2.1; have HB14 := Aside0.mk (below_step HB13.out hb4); have HB4 := Aside0.mk (below_step HB3.out hb4); clear hb4))
  go_ret
  exact ⟨_, rfl, rfl, ⟨mv, sv, _, H.out.below HB4.out⟩, belowB_of hBw HB4.out⟩
end
end Go.Proofs.Ytcgeioingikeeaa.P
namespace Go.Proofs.Ytcgeioingikeeaa.P
open Go.RowKit Go.Proofs.YtcgeioingikeeaaW.PrintWords Go.Proofs.YtcgeioingikeeaaW.PrintLast Go.Proofs.YtcgeioingikeeaaW.PrintMore
set_option linter.unusedVariables false
set_option linter.unusedSimpArgs false
section
variable {B : Nat → Prop} {g : Nat} {s : SSt} {w : World} {mv sv pv : Value}
set_option maxHeartbeats 4000000 in
set_option maxRecDepth 100000 in
theorem do1_full_t (x : S31) (A3 : Option Addr) (c3 b0 b1 : Nat) {s0 : SSt} {w0 : World} (h0 : RepAt B g s0 w0 mv sv pv) (hk0 : KeptG g w0 w) (hb1 : w0.heap.size ≤ b1) (hB0 : Up B w0.heap.size) (e1 : s.safe = s0.safe) (e2 : s.pend = s0.pend) (e3 : s.fails = s0.fails)
    (h : RepAt B g s w mv sv pv) (hf : Fit s) (hx : x.f3.length ≤ 1000) (hp : VarP w b0 g) (hn : VarW w b1 x A3 c3) (hF : Kd.F (Kd.int .u8) w (fun k => k ≠ g) A3 x.f3.length x.f3) (hc3 : x.f3.length ≤ c3) (hok : (getT (filesOf s) x.f0).2 = true) (he : (doT (filesOf s) x (-1)).2 = 0) (hq1 : s.quota < sizeF (doT (filesOf s) x (-1)).1) (hq4 : sizeF (filesOf s) < sizeF (doT (filesOf s) x (-1)).1) :
    Calls Try.prog 91 #[.pointer (some ⟨b0, 0, none⟩), .pointer (some ⟨b1, 0, none⟩)] w fun e w' => ∃ r, e = .returned (.int .i64 r) ∧ r = (doB s x).2 ∧ Rep B g (doB s x).1 w' ∧ BelS B w w' := by
  obtain ⟨Ap, cp, rfl⟩ := O_slice h.pend
  have hBw : Up B w.heap.size := Up.le hB0 hk0.1
  have hg0 : g < w0.heap.size := blk_lt h0.blk
  have hlen := hf.len
  have hfl : okL (filesOf s) ∧ (filesOf s).length ≤ 1000 := files_ok hf
  have hget := get_f (filesOf s) x.f0 (by omega) hfl.1
  have hdo := doT_f (filesOf s) x (-1) (by omega) hfl.1 (by omega)
  have hdk := doT_ok (filesOf s) x (-1) hfl.1
  obtain ⟨kz, hkz⟩ := size_f (filesOf s) (by omega)
  have hno : ¬ ((getT (filesOf s) x.f0).2 = false ∧ (x.f1 = 2 ∨ x.f1 = 3)) := by simp [hok]
  rw [hok] at hget
  have hE : doE s x = 8 := by unfold doE; rw [if_neg hno, if_neg (by simp [he]), if_pos ⟨hq1, hq4⟩]
  have hB : doB s x = (s, 8) := by unfold doB; rw [hE]; rfl
  rw [hB]
  obtain ⟨⟨n2, r2⟩, hdr⟩ : ∃ r, doT (filesOf s) x (-1) = r := ⟨_, rfl⟩
  rw [hdr] at hdo hdk he hq1 hq4 
  simp only at hdo hdk he hq1 hq4 
  obtain rfl := he
  have hn2 := (hdk rfl).2
  obtain ⟨kd, hkd⟩ := size_f n2 (by omega)
  have HKD := Aside0.mk hkd
  have HEB := Aside0.mk (And.intro hE hB)
  have HDR := Aside0.mk hdr
  clear hok hno hE hB hdr hkd
  have hp0 := hp.cell
  obtain ⟨hx0, hx1, hx2, hx3⟩ := hn.cell
  have H := Aside0.mk h
  have H0 := Aside0.mk h0
  have HK0 := Aside0.mk hk0
  have HE := Aside0.mk (And.intro e1 (And.intro e2 e3))
  have HF := Aside0.mk hf
  have HP := Aside0.mk hp
  have HN := Aside0.mk hn
  have HFx := Aside0.mk hF
  have HGET := Aside0.mk hget
  have HDO := Aside0.mk hdo
  have HDK := Aside0.mk hdk
  have HKZ := Aside0.mk hkz
  clear h h0 hk0 hf hp hn hF hget hdo hdk hkz e1 e2 e3
  go_enter Try.func91, Try.ntmps91
  go_wp2_with (first
    | (go_at_call 42; refine (files_calls ⟨mv, sv, _, H.out⟩ HF.out).mono ?_; rintro e w1 ⟨v1, rfl, hV1, hb1w⟩; obtain ⟨A1, c1, rfl⟩ := Kd.V_slice hV1; obtain ⟨hx0, hx1, hx2, hx3⟩ := (HN.out.below hb1w).cell; have HV1 := Aside0.mk hV1; have HB1 := Aside0.mk hb1w; clear hV1 hb1w)
    | (go_at_call 28; refine (files_Get.calls A1 c1 (filesOf s) x.f0 _ _ _ (Kd.V_reads' HV1.out).2.2 (Kd.V_reads' HV1.out).2.1 HGET.out).mono ?_; rintro e w2 ⟨v2, rfl, hR2, hb2⟩; obtain ⟨A2, c2, rfl⟩ := Kd.R_slice hR2; obtain ⟨hx0, hx1, hx2, hx3⟩ := (HN.out.below (below_step HB1.out hb2)).cell; have HB12 := Aside0.mk hb2; have HB2 := Aside0.mk (below_step HB1.out hb2); clear hR2 hb2)
    | (go_at_call 17; refine (files_Do.calls (fun k => w.heap.size ≤ k) A1 c1 (filesOf s) x.f0 x.f1 x.f2 A3 c3 x.f3 (-1) _ _ _ (V_base (Kd.V_below HV1.out HB12.out)) (Kd.F_now (Kd.F_below HFx.out HB2.out)) hc3 HDO.out).mono ?_; rintro e w3 ⟨v3, rfl, hV3, hb3⟩; obtain ⟨A4, c4, rfl⟩ := Kd.V_slice hV3; have hp0 := (HP.out.below (below_step HB2.out hb3)).cell; obtain ⟨hx0, hx1, hx2, hx3⟩ := (HN.out.below (below_step HB2.out hb3)).cell; have HV3 := Aside0.mk hV3; have HB13 := Aside0.mk (below_step HB12.out hb3); have HB3 := Aside0.mk (below_step HB2.out hb3); clear hV3 hb3)
    | (go_at_call 35; with_reducible refine (files_Size.calls kd A4 c4 _ (sizeF n2) _ (Kd.V_reads' HV3.out).2.2 (Kd.V_reads' HV3.out).2.1 HKD.out).mono ?_; rintro e w4 ⟨rfl, hb4⟩; have hp0 := (HP.out.below (below_step HB3.out hb4)).cell; obtain ⟨hx0, hx1, hx2, hx3⟩ := (HN.out.below (below_step HB3.out hb4)).cell; have hq := (H.out.below (below_step HB3.out hb4)).cells.2.2.2.2.2.1; have HB14 := Aside0.mk (below_step HB13.out hb4); have HB4 := Aside0.mk (below_step HB3.out hb4); clear hb4)
    | (go_at_call 35; with_reducible refine (files_Size.calls kz A1 c1 _ (sizeF (filesOf s)) _ (Kd.V_reads' (Kd.V_below HV1.out HB14.out)).2.2 (Kd.V_reads' HV1.out).2.1 HKZ.out).mono ?_; rintro e w5 ⟨rfl, hb5⟩; have HB5 := Aside0.mk (below_step HB4.out hb5); obtain ⟨hx0, hx1, hx2, hx3⟩ := (HN.out.below (below_step HB4.out hb5)).cell; clear hb5))
  go_ret
  exact ⟨_, rfl, rfl, ⟨mv, sv, _, H.out.below HB5.out⟩, belowB_of hBw HB5.out⟩
end
end Go.Proofs.Ytcgeioingikeeaa.P
namespace Go.Proofs.Ytcgeioingikeeaa.P
open Go.RowKit Go.Proofs.YtcgeioingikeeaaW.PrintWords Go.Proofs.YtcgeioingikeeaaW.PrintLast Go.Proofs.YtcgeioingikeeaaW.PrintMore
set_option linter.unusedVariables false
set_option linter.unusedSimpArgs false
section
variable {B : Nat → Prop} {g : Nat} {s : SSt} {w : World} {mv sv pv : Value}
set_option maxHeartbeats 4000000 in
set_option maxRecDepth 100000 in
theorem do1_in_t (x : S31) (A3 : Option Addr) (c3 b0 b1 : Nat) {s0 : SSt} {w0 : World} (h0 : RepAt B g s0 w0 mv sv pv) (hk0 : KeptG g w0 w) (hb1 : w0.heap.size ≤ b1) (hB0 : Up B w0.heap.size) (e1 : s.safe = s0.safe) (e2 : s.pend = s0.pend) (e3 : s.fails = s0.fails)
    (h : RepAt B g s w mv sv pv) (hf : Fit s) (hx : x.f3.length ≤ 1000) (hp : VarP w b0 g) (hn : VarW w b1 x A3 c3) (hF : Kd.F (Kd.int .u8) w (fun k => k ≠ g) A3 x.f3.length x.f3) (hc3 : x.f3.length ≤ c3) (hok : (getT (filesOf s) x.f0).2 = true) (he : (doT (filesOf s) x (-1)).2 = 0) (hq1 : ¬ s.quota < sizeF (doT (filesOf s) x (-1)).1) :
    Calls Try.prog 91 #[.pointer (some ⟨b0, 0, none⟩), .pointer (some ⟨b1, 0, none⟩)] w fun e w' => ∃ r, e = .returned (.int .i64 r) ∧ r = (doB s x).2 ∧ Rep B g (doB s x).1 w' ∧ BelS B w w' := by
  obtain ⟨Ap, cp, rfl⟩ := O_slice h.pend
  have hBw : Up B w.heap.size := Up.le hB0 hk0.1
  have hg0 : g < w0.heap.size := blk_lt h0.blk
  have hlen := hf.len
  have hfl : okL (filesOf s) ∧ (filesOf s).length ≤ 1000 := files_ok hf
  have hget := get_f (filesOf s) x.f0 (by omega) hfl.1
  have hdo := doT_f (filesOf s) x (-1) (by omega) hfl.1 (by omega)
  have hdk := doT_ok (filesOf s) x (-1) hfl.1
  obtain ⟨kz, hkz⟩ := size_f (filesOf s) (by omega)
  have hno : ¬ ((getT (filesOf s) x.f0).2 = false ∧ (x.f1 = 2 ∨ x.f1 = 3)) := by simp [hok]
  rw [hok] at hget
  have hE : doE s x = 0 := by unfold doE; rw [if_neg hno, if_neg (by simp [he]), if_neg (fun h => hq1 h.1)]
  have hB : doB s x = ({ s with pend := s.pend ++ [x], peak := mx s.peak (sizeF (doT (filesOf s) x (-1)).1) }, 0) := by unfold doB; rw [if_pos hE]
  rw [hB]
  obtain ⟨⟨n2, r2⟩, hdr⟩ : ∃ r, doT (filesOf s) x (-1) = r := ⟨_, rfl⟩
  rw [hdr] at hdo hdk he hq1 ⊢
  simp only at hdo hdk he hq1 ⊢
  obtain rfl := he
  have hn2 := (hdk rfl).2
  obtain ⟨kd, hkd⟩ := size_f n2 (by omega)
  have HKD := Aside0.mk hkd
  have HEB := Aside0.mk (And.intro hE hB)
  have HDR := Aside0.mk hdr
  clear hok hno hE hB hdr hkd
  have hp0 := hp.cell
  obtain ⟨hx0, hx1, hx2, hx3⟩ := hn.cell
  have H := Aside0.mk h
  have H0 := Aside0.mk h0
  have HK0 := Aside0.mk hk0
  have HE := Aside0.mk (And.intro e1 (And.intro e2 e3))
  have HF := Aside0.mk hf
  have HP := Aside0.mk hp
  have HN := Aside0.mk hn
  have HFx := Aside0.mk hF
  have HGET := Aside0.mk hget
  have HDO := Aside0.mk hdo
  have HDK := Aside0.mk hdk
  have HKZ := Aside0.mk hkz
  clear h h0 hk0 hf hp hn hF hget hdo hdk hkz e1 e2 e3
  go_enter Try.func91, Try.ntmps91
  go_wp2_with (first
    | (go_at_call 42; refine (files_calls ⟨mv, sv, _, H.out⟩ HF.out).mono ?_; rintro e w1 ⟨v1, rfl, hV1, hb1w⟩; obtain ⟨A1, c1, rfl⟩ := Kd.V_slice hV1; obtain ⟨hx0, hx1, hx2, hx3⟩ := (HN.out.below hb1w).cell; have HV1 := Aside0.mk hV1; have HB1 := Aside0.mk hb1w; clear hV1 hb1w)
    | (go_at_call 28; refine (files_Get.calls A1 c1 (filesOf s) x.f0 _ _ _ (Kd.V_reads' HV1.out).2.2 (Kd.V_reads' HV1.out).2.1 HGET.out).mono ?_; rintro e w2 ⟨v2, rfl, hR2, hb2⟩; obtain ⟨A2, c2, rfl⟩ := Kd.R_slice hR2; obtain ⟨hx0, hx1, hx2, hx3⟩ := (HN.out.below (below_step HB1.out hb2)).cell; have HB12 := Aside0.mk hb2; have HB2 := Aside0.mk (below_step HB1.out hb2); clear hR2 hb2)
    | (go_at_call 17; refine (files_Do.calls (fun k => w.heap.size ≤ k) A1 c1 (filesOf s) x.f0 x.f1 x.f2 A3 c3 x.f3 (-1) _ _ _ (V_base (Kd.V_below HV1.out HB12.out)) (Kd.F_now (Kd.F_below HFx.out HB2.out)) hc3 HDO.out).mono ?_; rintro e w3 ⟨v3, rfl, hV3, hb3⟩; obtain ⟨A4, c4, rfl⟩ := Kd.V_slice hV3; have hp0 := (HP.out.below (below_step HB2.out hb3)).cell; obtain ⟨hx0, hx1, hx2, hx3⟩ := (HN.out.below (below_step HB2.out hb3)).cell; have HV3 := Aside0.mk hV3; have HB13 := Aside0.mk (below_step HB12.out hb3); have HB3 := Aside0.mk (below_step HB2.out hb3); clear hV3 hb3)
    | (go_at_call 35; with_reducible refine (files_Size.calls kd A4 c4 _ (sizeF n2) _ (Kd.V_reads' HV3.out).2.2 (Kd.V_reads' HV3.out).2.1 HKD.out).mono ?_; rintro e w4 ⟨rfl, hb4⟩; have hp0 := (HP.out.below (below_step HB3.out hb4)).cell; obtain ⟨hx0, hx1, hx2, hx3⟩ := (HN.out.below (below_step HB3.out hb4)).cell; have hq := (H.out.below (below_step HB3.out hb4)).cells.2.2.2.2.2.1; have HB14 := Aside0.mk (below_step HB13.out hb4); have HB4 := Aside0.mk (below_step HB3.out hb4); clear hb4)
    | (go_at_call 61; refine (cloneB (fun k => k ≠ g) A3 c3 x.f3 _ (Kd.F_below HFx.out HB4.out) (by omega)).mono ?_; rintro e w6 ⟨v6, rfl, hO6, hb6⟩; obtain ⟨A6, c6, rfl⟩ := O_slice hO6; have hb26 : Below w.heap.size w w6 := below_step HB4.out hb6; obtain ⟨hx0, hx1, hx2, hx3⟩ := (HN.out.below hb26).cell; have hfb := blk_frozen (HN.out.below hb26) 3; have HO6 := Aside0.mk hO6; have HB6 := Aside0.mk hb26; clear hO6 hb6 hb26))
  have hn6' : w6.heap[b1]? = some (.cells #[.string x.f0, .int .i64 x.f1, .int .i64 x.f2, .slice A3 x.f3.length c3] 31 (0, 0)) := HN.out.below HB6.out
  have hp6' : w6.heap[b0]? = some (.cells #[.pointer (some ⟨g, 0, none⟩)] 58 (0, 0)) := HP.out.below HB6.out
  have hn6 := blk_set hn6' 3 (.slice A6 x.f3.length c6)
  have hF6 : Kd.F (Kd.int .u8) w6 (fun k => w.heap.size ≤ k) A6 x.f3.length x.f3 := Kd.F_mono (O_F_own HO6.out) fun k hk => Nat.le_trans HB4.out.size (O_base HO6.out k hk.symm)
  have hb1w : b1 < w.heap.size := blk_lt HN.out
  have hgb : g ≠ b1 := by omega
  have hsz6 : w.heap.size ≤ w6.heap.size := HB6.out.size
  have hF7 : Kd.F (Kd.int .u8) (w6.setCell ⟨b1, 3, none⟩ (.slice A6 x.f3.length c6)) (fun k => w.heap.size ≤ k) A6 x.f3.length x.f3 := Kd.F_step hF6 fun k hk _ => Below.heap_setCell _ _ _ _ (show k ≠ b1 by omega)
  have hR7 : RepAt B g s (w6.setCell ⟨b1, 3, none⟩ (.slice A6 x.f3.length c6)) mv sv (.slice Ap s.pend.length cp) := H0.out.beside (H.out.below HB6.out) (HK0.out.trans (KeptG.of_below HB6.out)) hb1 (fun k hk => Below.heap_setCell _ _ _ _ hk) HE.out.1 HE.out.2.1 HE.out.2.2
  have hP7 : VarP (w6.setCell ⟨b1, 3, none⟩ (.slice A6 x.f3.length c6)) b0 g := (Below.heap_setCell _ _ _ _ (show b0 ≠ b1 from blk_ne hp6' hn6' (by decide))).trans hp6'
  have hN7 : VarW (w6.setCell ⟨b1, 3, none⟩ (.slice A6 x.f3.length c6)) b1 x A6 c6 := hn6
  have hB7 : BelS B w (w6.setCell ⟨b1, 3, none⟩ (.slice A6 x.f3.length c6)) := belowB_set (belowB_of hBw HB6.out) (hB0 _ hb1) 3 _
  have hs7 : w.heap.size ≤ (w6.setCell ⟨b1, 3, none⟩ (.slice A6 x.f3.length c6)).heap.size := by rw [World.size_setCell]; exact hsz6
  clear hn6 hF6 hp0 hx0 hx1 hx2 hx3 hfb
  generalize w6.setCell ⟨b1, 3, none⟩ (.slice A6 x.f3.length c6) = w7 at hF7 hR7 hP7 hN7 hB7 hs7 ⊢
  obtain ⟨i0, hi, hz0, hz1, hz2⟩ := info_parts info31
  obtain ⟨inner, hown, hreps⟩ := hR7.pend
  have hd7 : Below w7.heap.size w7 w7.drew := below_drew1 (Below.refl _ _)
  refine start_ (n := 11) (S := (fun w' => w'.cell? ⟨b0, 0, none⟩ = some (.pointer (some ⟨g, 0, none⟩)) ∧ w'.cell? ⟨g, 4, none⟩ = some (.slice Ap s.pend.length cp) ∧ w'.cell? ⟨b1, 0, none⟩ = some (.string x.f0) ∧ w'.cell? ⟨b1, 1, none⟩ = some (.int .i64 x.f1) ∧ w'.cell? ⟨b1, 2, none⟩ = some (.int .i64 x.f2) ∧ w'.cell? ⟨b1, 3, none⟩ = some (.slice A6 x.f3.length c6))) (ds := [10]) #[false, false, false, false, false, false, false, false, false, false, false] (by kernel_rfl) rfl rfl ⟨(hP7.below hd7).cell, (hR7.below hd7).cells.2.2.2.2.1, (hN7.below hd7).cell.1, (hN7.below hd7).cell.2.1, (hN7.below hd7).cell.2.2.1, (hN7.below hd7).cell.2.2.2⟩ (fun hHeld => ?_)
  refine take_ (i := 0) (N := some 59) (v := ?_) (a' := ?_) #[true, false, false, false, false, false, false, false, false, false, false] rfl rfl (by kernel_rfl) (fun _ _ _ h => h) (Or.inl ⟨by rfl, ?_⟩) hHeld ?_ ?_
  rotate_left
  · rintro w' ⟨s0, s1, s2, s3, s4, s5⟩
    go_simp
    with_reducible rfl
  rotate_left
  · simp only [Act.put, List.setIfInBounds_toArray, List.set_cons_zero, List.set_cons_succ, i64_w, i32_w]
    rfl
  refine take_ (i := 1) (N := some 60) (v := ?_) (a' := ?_) #[true, true, false, false, false, false, false, false, false, false, false] rfl rfl (by kernel_rfl) (fun _ _ _ h => h) (Or.inl ⟨by rfl, ?_⟩) hHeld ?_ ?_
  rotate_left
  · rintro w' ⟨s0, s1, s2, s3, s4, s5⟩
    go_simp
    with_reducible rfl
  rotate_left
  · simp only [Act.put, List.setIfInBounds_toArray, List.set_cons_zero, List.set_cons_succ, i64_w, i32_w]
    rfl
  refine pure_ (i := 2) (N := some 61) (v := ?_) (a' := ?_) #[true, true, true, false, false, false, false, false, false, false, false] rfl rfl (by kernel_rfl) (fun _ _ _ h => h) (Or.inl ⟨by rfl, ?_⟩) ?_ ?_
  rotate_left
  · intro w'
    go_simp
    with_reducible rfl
  rotate_left
  · simp only [Act.put, List.setIfInBounds_toArray, List.set_cons_zero, List.set_cons_succ, i64_w, i32_w]
    rfl
  refine pure_ (i := 3) (N := some 62) (v := ?_) (a' := ?_) #[true, true, true, true, false, false, false, false, false, false, false] rfl rfl (by kernel_rfl) (fun _ _ _ h => h) (Or.inl ⟨by rfl, ?_⟩) ?_ ?_
  rotate_left
  · intro w'
    go_simp
    with_reducible rfl
  rotate_left
  · simp only [Act.put, List.setIfInBounds_toArray, List.set_cons_zero, List.set_cons_succ, i64_w, i32_w]
    rfl
  refine take_ (i := 4) (N := some 63) (v := ?_) (a' := ?_) #[true, true, true, true, true, false, false, false, false, false, false] rfl rfl (by kernel_rfl) (fun _ _ _ h => h) (Or.inl ⟨by rfl, ?_⟩) hHeld ?_ ?_
  rotate_left
  · rintro w' ⟨s0, s1, s2, s3, s4, s5⟩
    go_simp
    with_reducible rfl
  rotate_left
  · simp only [Act.put, List.setIfInBounds_toArray, List.set_cons_zero, List.set_cons_succ, i64_w, i32_w]
    rfl
  refine take_ (i := 5) (N := some 64) (v := ?_) (a' := ?_) #[true, true, true, true, true, true, false, false, false, false, false] rfl rfl (by kernel_rfl) (fun _ _ _ h => h) (Or.inl ⟨by rfl, ?_⟩) hHeld ?_ ?_
  rotate_left
  · rintro w' ⟨s0, s1, s2, s3, s4, s5⟩
    go_simp
    with_reducible rfl
  rotate_left
  · simp only [Act.put, List.setIfInBounds_toArray, List.set_cons_zero, List.set_cons_succ, i64_w, i32_w]
    rfl
  refine one_ (i := 6) (N := some 65) #[true, true, true, true, true, true, true, false, false, false, false] rfl rfl (by kernel_rfl) (by decide) (fun K hK => ?_)
  refine value_ (w1 := w7.drew.alloc (Obj.cells #[.string x.f0, .int .i64 x.f1, .int .i64 x.f2, .slice A6 x.f3.length c6] 31)) (v := .slice (some ⟨w7.drew.heap.size, 0, none⟩) 1 1) (by rfl) rfl ?_ ?_
  · go_simp
  have h78 : Below w7.heap.size w7 (w7.drew.alloc (Obj.cells #[.string x.f0, .int .i64 x.f1, .int .i64 x.f2, .slice A6 x.f3.length c6] 31)) := below_alloc hd7 _
  have hN8 := (hN7.below h78).cell
  refine hK.out _ _ ⟨(hP7.below h78).cell, (hR7.below h78).cells.2.2.2.2.1, hN8.1, hN8.2.1, hN8.2.2.1, hN8.2.2.2⟩ (fun hHeld => ?_)
  clear hK K
  refine norm_ (a' := ?_) ?_ ?_
  rotate_left
  · show Act.put _ (some 65) _ = _
    simp only [Act.put, List.setIfInBounds_toArray, List.set_cons_zero, List.set_cons_succ, i64_w, i32_w]
    rfl
  refine one_ (i := 7) (N := some 66) #[true, true, true, true, true, true, true, true, false, false, false] rfl rfl (by kernel_rfl) (by decide) (fun K hK => ?_)
  refine step_append_lies _ (by rfl) _ _ _ (by rfl) 0 31 i0 _ 4 56 Try.underlying104 hi hz0 hz1 hz2 rfl (by omega) (.slice Ap s.pend.length cp) s.pend.length inner (by rfl) (pw_own_below hown h78) ⟨w7.drew.heap.size, 0, none⟩ 1 1 [.string x.f0, .int .i64 x.f1, .int .i64 x.f2, .slice A6 x.f3.length c6] (by rfl) (by rfl) (World.news_of_block (cs := #[.string x.f0, .int .i64 x.f1, .int .i64 x.f2, .slice A6 x.f3.length c6]) (t := 31) (fr := (0, 0)) (heap_alloc_new _ _)) (by simp [Value.oneCell']) (by omega) (by unfold maxLen; omega) (by omega) (Nat.zero_le _) _ rfl ?_
  intro gg cap w8 hown8 hgrow hat hlt8
  have hR8 := hR7.below h78
  have hP8 : ∀ b t (cs : Array Value) (f : Nat × Nat), (w7.drew.alloc (Obj.cells #[.string x.f0, .int .i64 x.f1, .int .i64 x.f2, .slice A6 x.f3.length c6] 31)).heap[b]? = some (Obj.cells cs t f) → some b ≠ (Value.slice Ap s.pend.length cp).ownBlock → w8.heap[b]? = some (Obj.cells cs t f) := fun b t cs f hb ht => (hgrow.block b (blk_lt hb) ht).trans hb
  have hne1 : some b1 ≠ (Value.slice Ap s.pend.length cp).ownBlock := fun he => by
    obtain ⟨inner0, hown0, _⟩ := H0.out.pend
    have := own_lt hown0 b1 he.symm
    omega
  have hp8 := hP8 _ _ _ _ (hP7.below h78) (fun he => by exact O_ne hR8.pend (hP7.below h78) (by decide) he.symm)
  have hn8 : VarW w8 b1 x A6 c6 := hP8 _ _ _ _ (hN7.below h78) hne1
  have hg8 := hP8 _ _ _ _ hR8.blk (fun he => hR8.pend_ne he.symm)
  have hN8' := hn8.cell
  refine hK.out _ _ ⟨VarP.cell hp8, by rw [cell_of_row w8 g _ _ 106 (0, 0) hg8]; rfl, hN8'.1, hN8'.2.1, hN8'.2.2.1, hN8'.2.2.2⟩ (fun hHeld => ?_)
  have hO8 : O k31 31 w8 0 (fun k => k ≠ g) (.slice (some ⟨gg, 0, none⟩) (s.pend.length + 1) cap) (s.pend ++ [x]) := by
    refine O_snoc31 (W := w7.drew.alloc (Obj.cells #[.string x.f0, .int .i64 x.f1, .int .i64 x.f2, .slice A6 x.f3.length c6] 31)) (v := .slice Ap s.pend.length cp) (hreps.imp_ fun y c' hy => Kd.FK_below hy h78) ?_ hown8 hgrow ?_
    · refine k31_mkF _ _ x (Kd.V_reads' (O_V HO6.out)).2.1 (Kd.F_mono (Kd.F_below hF7 h78) fun k hk => ⟨?_, fun he => ?_⟩)
      · have := HK0.out.1
        omega
      · obtain ⟨inner0, hown0, _⟩ := H0.out.pend
        have := own_lt hown0 k he.symm
        have := HK0.out.1
        omega
    · rcases hat with hat | hat
      · exact .inl hat.symm
      · exact .inr (by rw [hat]; rfl)
  have hR9 := hR8.setPend hO8 hgrow (hat.elim (fun h => .inl h.symm) (fun h => .inr ⟨gg, rfl, by rw [h]; exact Nat.le_refl _, (Up.le (Up.le hBw hs7) h78.size) _ (by rw [h]; exact Nat.le_refl _)⟩))
  have hB9 : BelS B w w8 := belowB_trans (belowB_trans hB7 (belowB_of (Up.le hBw hs7) h78)) ⟨hgrow.os, hgrow.tape, hgrow.output, hgrow.size, fun k hk hn => hgrow.block k hk (fun he => hn (hR8.own k he.symm))⟩
  clear hK K
  refine norm_ (a' := ?_) ?_ ?_
  rotate_left
  · show Act.put _ (some 66) _ = _
    simp only [Act.put, List.setIfInBounds_toArray, List.set_cons_zero, List.set_cons_succ, i64_w, i32_w]
    rfl
  refine pure_ (i := 8) (N := some 67) (v := ?_) (a' := ?_) #[true, true, true, true, true, true, true, true, true, false, false] rfl rfl (by kernel_rfl) (fun _ _ _ h => h) (Or.inl ⟨by rfl, ?_⟩) ?_ ?_
  rotate_left
  · intro w'
    go_simp
    with_reducible rfl
  rotate_left
  · simp only [Act.put, List.setIfInBounds_toArray, List.set_cons_zero, List.set_cons_succ, i64_w, i32_w]
    rfl
  refine pure_ (i := 9) (N := some 68) (v := ?_) (a' := ?_) #[true, true, true, true, true, true, true, true, true, true, false] rfl rfl (by kernel_rfl) (fun _ _ _ h => h) (Or.inl ⟨by rfl, ?_⟩) ?_ ?_
  rotate_left
  · intro w'
    go_simp
    with_reducible rfl
  rotate_left
  · simp only [Act.put, List.setIfInBounds_toArray, List.set_cons_zero, List.set_cons_succ, i64_w, i32_w]
    rfl
  refine last_ (i := 10) (N := none) #[true, true, true, true, true, true, true, true, true, true, true] rfl rfl (by kernel_rfl) (by decide) (fun K hK => ?_)
  have hfr := blk_frozen hg8 4
  have hcl : w8.cell? ⟨g, 4, none⟩ = some (.slice Ap s.pend.length cp) := by rw [cell_of_row w8 g _ _ 106 (0, 0) hg8]; rfl
  refine skip_ (w1 := ?_) (by rfl) rfl ?_ ?_
  rotate_left
  · go_simp
    rfl
  refine hK.out _ _ ?_
  clear hK K
  refine done_ (by kernel_rfl) ?_
  have hp9 : VarP (w8.setCell ⟨g, 4, none⟩ (.slice (some ⟨gg, 0, none⟩) (s.pend.length + 1) cap)) b0 g := VarP.set hp8 hg8
  have hB10 := belowB_set hB9 H0.out.hg 4 (.slice (some ⟨gg, 0, none⟩) (s.pend.length + 1) cap)
  have HBS := Aside0.mk hB10
  clear hfr hcl hHeld hO8 hown8 hgrow hat hlt8 hreps hown hN8 hN8' hn8 hg8 hp8 hP8 hB9 hB10 hB7 hF7 hR8 hR7 hP7 hN7 h78 hd7 hi hz0 hz1 hz2
  go_wp2_with fail
  generalize w8.setCell ⟨g, 4, none⟩ (.slice (some ⟨gg, 0, none⟩) (s.pend.length + 1) cap) = w9 at hp9 hR9 HBS ⊢
  have hd9 : Below w9.heap.size w9 w9.drew := below_drew1 (Below.refl _ _)
  have hp9d := (hp9.below hd9).cell
  have hc6d := (hR9.below hd9).cells.2.2.2.2.2.2.1
  refine start_ (n := 10) (S := (fun w' => w'.cell? ⟨b0, 0, none⟩ = some (.pointer (some ⟨g, 0, none⟩)) ∧ w'.cell? ⟨g, 6, none⟩ = some (.int .i64 s.peak))) (ds := [9]) #[false, false, false, false, false, false, false, false, false, false] (by kernel_rfl) rfl rfl ⟨hp9d, hc6d⟩ (fun hHeld => ?_)
  refine pure_ (i := 5) (N := some 74) (v := ?_) (a' := ?_) #[false, false, false, false, false, true, false, false, false, false] rfl rfl (by kernel_rfl) (fun _ _ _ h => h) (Or.inl ⟨by rfl, ?_⟩) ?_ ?_
  rotate_left
  · intro w'
    go_simp
    with_reducible rfl
  rotate_left
  · simp only [Act.put, List.setIfInBounds_toArray, List.set_cons_zero, List.set_cons_succ, i64_w, i32_w]
    rfl
  refine take_ (i := 0) (N := some 69) (v := ?_) (a' := ?_) #[true, false, false, false, false, true, false, false, false, false] rfl rfl (by kernel_rfl) (fun _ _ _ h => h) (Or.inl ⟨by rfl, ?_⟩) hHeld ?_ ?_
  rotate_left
  · rintro w' ⟨s0, s1⟩
    go_simp
    with_reducible rfl
  rotate_left
  · simp only [Act.put, List.setIfInBounds_toArray, List.set_cons_zero, List.set_cons_succ, i64_w, i32_w]
    rfl
  refine take_ (i := 1) (N := some 70) (v := ?_) (a' := ?_) #[true, true, false, false, false, true, false, false, false, false] rfl rfl (by kernel_rfl) (fun _ _ _ h => h) (Or.inl ⟨by rfl, ?_⟩) hHeld ?_ ?_
  rotate_left
  · rintro w' ⟨s0, s1⟩
    go_simp
    with_reducible rfl
  rotate_left
  · simp only [Act.put, List.setIfInBounds_toArray, List.set_cons_zero, List.set_cons_succ, i64_w, i32_w]
    rfl
  refine pure_ (i := 2) (N := some 71) (v := ?_) (a' := ?_) #[true, true, true, false, false, true, false, false, false, false] rfl rfl (by kernel_rfl) (fun _ _ _ h => h) (Or.inl ⟨by rfl, ?_⟩) ?_ ?_
  rotate_left
  · intro w'
    go_simp
    with_reducible rfl
  rotate_left
  · simp only [Act.put, List.setIfInBounds_toArray, List.set_cons_zero, List.set_cons_succ, i64_w, i32_w]
    rfl
  refine pure_ (i := 3) (N := some 72) (v := ?_) (a' := ?_) #[true, true, true, true, false, true, false, false, false, false] rfl rfl (by kernel_rfl) (fun _ _ _ h => h) (Or.inl ⟨by rfl, ?_⟩) ?_ ?_
  rotate_left
  · intro w'
    go_simp
    with_reducible rfl
  rotate_left
  · simp only [Act.put, List.setIfInBounds_toArray, List.set_cons_zero, List.set_cons_succ, i64_w, i32_w]
    rfl
  refine take_ (i := 4) (N := some 73) (v := ?_) (a' := ?_) #[true, true, true, true, true, true, false, false, false, false] rfl rfl (by kernel_rfl) (fun _ _ _ h => h) (Or.inl ⟨by rfl, ?_⟩) hHeld ?_ ?_
  rotate_left
  · rintro w' ⟨s0, s1⟩
    go_simp
    with_reducible rfl
  rotate_left
  · simp only [Act.put, List.setIfInBounds_toArray, List.set_cons_zero, List.set_cons_succ, i64_w, i32_w]
    rfl
  refine pure_ (i := 6) (N := some 75) (v := ?_) (a' := ?_) #[true, true, true, true, true, true, true, false, false, false] rfl rfl (by kernel_rfl) (fun _ _ _ h => h) (Or.inl ⟨by rfl, ?_⟩) ?_ ?_
  rotate_left
  · intro w'
    go_simp
    with_reducible rfl
  rotate_left
  · simp only [Act.put, List.setIfInBounds_toArray, List.set_cons_zero, List.set_cons_succ, i64_w, i32_w]
    rfl
  refine pure_ (i := 7) (N := some 76) (v := ?_) (a' := ?_) #[true, true, true, true, true, true, true, true, false, false] rfl rfl (by kernel_rfl) (fun _ _ _ h => h) (Or.inl ⟨by rfl, ?_⟩) ?_ ?_
  rotate_left
  · intro w'
    go_simp
    with_reducible rfl
  rotate_left
  · simp only [Act.put, List.setIfInBounds_toArray, List.set_cons_zero, List.set_cons_succ, i64_w, i32_w]
    rfl
  refine pure_ (i := 8) (N := some 77) (v := ?_) (a' := ?_) #[true, true, true, true, true, true, true, true, true, false] rfl rfl (by kernel_rfl) (fun _ _ _ h => h) (Or.inl ⟨by rfl, ?_⟩) ?_ ?_
  rotate_left
  · intro w'
    go_simp
    with_reducible rfl
  rotate_left
  · simp only [Act.put, List.setIfInBounds_toArray, List.set_cons_zero, List.set_cons_succ, i64_w, i32_w]
    rfl
  refine last_ (i := 9) (N := none) #[true, true, true, true, true, true, true, true, true, true] rfl rfl (by kernel_rfl) (by decide) (fun K hK => ?_)
  have hfr := blk_frozen (hR9.below hd9).blk 6
  have hcl := hc6d
  refine skip_ (w1 := ?_) (by rfl) rfl ?_ ?_
  rotate_left
  · go_simp
    rfl
  refine hK.out _ _ ?_
  clear hK K
  refine done_ (by kernel_rfl) ?_
  have hend : RepAt B g { s with pend := s.pend ++ [x], peak := mx s.peak (sizeF n2) } (w9.drew.setCell ⟨g, 6, none⟩ (.int .i64 (mx s.peak (sizeF n2)))) mv sv (.slice (some ⟨gg, 0, none⟩) (s.pend.length + 1) cap) :=
    (hR9.below hd9).upd (fun k _ hk => Below.heap_setCell _ _ _ _ hk) (blk_set (hR9.below hd9).blk 6 _) rfl rfl rfl
  have hBe : BelS B w (w9.drew.setCell ⟨g, 6, none⟩ (.int .i64 (mx s.peak (sizeF n2)))) := belowB_set (belowB_trans HBS.out (belowB_of (Up.le hBw HBS.out.size) hd9)) H0.out.hg 6 _
  go_wp2_with fail
  all_goals go_ret
  · have hm : mx s.peak (sizeF n2) = sizeF n2 := by unfold mx; split <;> omega
    rw [hm] at hend hBe
    exact ⟨0, rfl, rfl, ⟨_, _, _, by rw [hm]; exact hend⟩, hBe⟩
  · have hm : mx s.peak (sizeF n2) = s.peak := by unfold mx; split <;> omega
    rw [hm] at hend hBe
    exact ⟨0, rfl, rfl, ⟨_, _, _, by rw [hm]; exact hend⟩, hBe⟩
end
end Go.Proofs.Ytcgeioingikeeaa.P
namespace Go.Proofs.Ytcgeioingikeeaa.P
open Go.RowKit Go.Proofs.YtcgeioingikeeaaW.PrintWords Go.Proofs.YtcgeioingikeeaaW.PrintLast Go.Proofs.YtcgeioingikeeaaW.PrintMore
set_option linter.unusedVariables false
set_option linter.unusedSimpArgs false
section
variable {B : Nat → Prop} {g : Nat} {s : SSt} {w : World} {mv sv pv : Value}
set_option maxHeartbeats 4000000 in
set_option maxRecDepth 100000 in
theorem do1_less_t (x : S31) (A3 : Option Addr) (c3 b0 b1 : Nat) {s0 : SSt} {w0 : World} (h0 : RepAt B g s0 w0 mv sv pv) (hk0 : KeptG g w0 w) (hb1 : w0.heap.size ≤ b1) (hB0 : Up B w0.heap.size) (e1 : s.safe = s0.safe) (e2 : s.pend = s0.pend) (e3 : s.fails = s0.fails)
    (h : RepAt B g s w mv sv pv) (hf : Fit s) (hx : x.f3.length ≤ 1000) (hp : VarP w b0 g) (hn : VarW w b1 x A3 c3) (hF : Kd.F (Kd.int .u8) w (fun k => k ≠ g) A3 x.f3.length x.f3) (hc3 : x.f3.length ≤ c3) (hok : (getT (filesOf s) x.f0).2 = true) (he : (doT (filesOf s) x (-1)).2 = 0) (hq1 : s.quota < sizeF (doT (filesOf s) x (-1)).1) (hq4 : ¬ sizeF (filesOf s) < sizeF (doT (filesOf s) x (-1)).1) :
    Calls Try.prog 91 #[.pointer (some ⟨b0, 0, none⟩), .pointer (some ⟨b1, 0, none⟩)] w fun e w' => ∃ r, e = .returned (.int .i64 r) ∧ r = (doB s x).2 ∧ Rep B g (doB s x).1 w' ∧ BelS B w w' := by
  obtain ⟨Ap, cp, rfl⟩ := O_slice h.pend
  have hBw : Up B w.heap.size := Up.le hB0 hk0.1
  have hg0 : g < w0.heap.size := blk_lt h0.blk
  have hlen := hf.len
  have hfl : okL (filesOf s) ∧ (filesOf s).length ≤ 1000 := files_ok hf
  have hget := get_f (filesOf s) x.f0 (by omega) hfl.1
  have hdo := doT_f (filesOf s) x (-1) (by omega) hfl.1 (by omega)
  have hdk := doT_ok (filesOf s) x (-1) hfl.1
  obtain ⟨kz, hkz⟩ := size_f (filesOf s) (by omega)
  have hno : ¬ ((getT (filesOf s) x.f0).2 = false ∧ (x.f1 = 2 ∨ x.f1 = 3)) := by simp [hok]
  rw [hok] at hget
  have hE : doE s x = 0 := by unfold doE; rw [if_neg hno, if_neg (by simp [he]), if_neg (fun h => hq4 h.2)]
  have hB : doB s x = ({ s with pend := s.pend ++ [x], peak := mx s.peak (sizeF (doT (filesOf s) x (-1)).1) }, 0) := by unfold doB; rw [if_pos hE]
  rw [hB]
  obtain ⟨⟨n2, r2⟩, hdr⟩ : ∃ r, doT (filesOf s) x (-1) = r := ⟨_, rfl⟩
  rw [hdr] at hdo hdk he hq1 hq4 ⊢
  simp only at hdo hdk he hq1 hq4 ⊢
  obtain rfl := he
  have hn2 := (hdk rfl).2
  obtain ⟨kd, hkd⟩ := size_f n2 (by omega)
  have HKD := Aside0.mk hkd
  have HEB := Aside0.mk (And.intro hE hB)
  have HDR := Aside0.mk hdr
  clear hok hno hE hB hdr hkd
  have hp0 := hp.cell
  obtain ⟨hx0, hx1, hx2, hx3⟩ := hn.cell
  have H := Aside0.mk h
  have H0 := Aside0.mk h0
  have HK0 := Aside0.mk hk0
  have HE := Aside0.mk (And.intro e1 (And.intro e2 e3))
  have HF := Aside0.mk hf
  have HP := Aside0.mk hp
  have HN := Aside0.mk hn
  have HFx := Aside0.mk hF
  have HGET := Aside0.mk hget
  have HDO := Aside0.mk hdo
  have HDK := Aside0.mk hdk
  have HKZ := Aside0.mk hkz
  clear h h0 hk0 hf hp hn hF hget hdo hdk hkz e1 e2 e3
  go_enter Try.func91, Try.ntmps91
  go_wp2_with (first
    | (go_at_call 42; refine (files_calls ⟨mv, sv, _, H.out⟩ HF.out).mono ?_; rintro e w1 ⟨v1, rfl, hV1, hb1w⟩; obtain ⟨A1, c1, rfl⟩ := Kd.V_slice hV1; obtain ⟨hx0, hx1, hx2, hx3⟩ := (HN.out.below hb1w).cell; have HV1 := Aside0.mk hV1; have HB1 := Aside0.mk hb1w; clear hV1 hb1w)
    | (go_at_call 28; refine (files_Get.calls A1 c1 (filesOf s) x.f0 _ _ _ (Kd.V_reads' HV1.out).2.2 (Kd.V_reads' HV1.out).2.1 HGET.out).mono ?_; rintro e w2 ⟨v2, rfl, hR2, hb2⟩; obtain ⟨A2, c2, rfl⟩ := Kd.R_slice hR2; obtain ⟨hx0, hx1, hx2, hx3⟩ := (HN.out.below (below_step HB1.out hb2)).cell; have HB12 := Aside0.mk hb2; have HB2 := Aside0.mk (below_step HB1.out hb2); clear hR2 hb2)
    | (go_at_call 17; refine (files_Do.calls (fun k => w.heap.size ≤ k) A1 c1 (filesOf s) x.f0 x.f1 x.f2 A3 c3 x.f3 (-1) _ _ _ (V_base (Kd.V_below HV1.out HB12.out)) (Kd.F_now (Kd.F_below HFx.out HB2.out)) hc3 HDO.out).mono ?_; rintro e w3 ⟨v3, rfl, hV3, hb3⟩; obtain ⟨A4, c4, rfl⟩ := Kd.V_slice hV3; have hp0 := (HP.out.below (below_step HB2.out hb3)).cell; obtain ⟨hx0, hx1, hx2, hx3⟩ := (HN.out.below (below_step HB2.out hb3)).cell; have HV3 := Aside0.mk hV3; have HB13 := Aside0.mk (below_step HB12.out hb3); have HB3 := Aside0.mk (below_step HB2.out hb3); clear hV3 hb3)
    | (go_at_call 35; with_reducible refine (files_Size.calls kd A4 c4 _ (sizeF n2) _ (Kd.V_reads' HV3.out).2.2 (Kd.V_reads' HV3.out).2.1 HKD.out).mono ?_; rintro e w4 ⟨rfl, hb4⟩; have hp0 := (HP.out.below (below_step HB3.out hb4)).cell; obtain ⟨hx0, hx1, hx2, hx3⟩ := (HN.out.below (below_step HB3.out hb4)).cell; have hq := (H.out.below (below_step HB3.out hb4)).cells.2.2.2.2.2.1; have HB14 := Aside0.mk (below_step HB13.out hb4); have HB4 := Aside0.mk (below_step HB3.out hb4); clear hb4)
    | (go_at_call 35; with_reducible refine (files_Size.calls kz A1 c1 _ (sizeF (filesOf s)) _ (Kd.V_reads' (Kd.V_below HV1.out HB14.out)).2.2 (Kd.V_reads' HV1.out).2.1 HKZ.out).mono ?_; rintro e w5 ⟨rfl, hb5⟩; have HB5 := Aside0.mk (below_step HB4.out hb5); obtain ⟨hx0, hx1, hx2, hx3⟩ := (HN.out.below (below_step HB4.out hb5)).cell; clear hb5)
    | (go_at_call 61; refine (cloneB (fun k => k ≠ g) A3 c3 x.f3 _ (Kd.F_below HFx.out HB5.out) (by omega)).mono ?_; rintro e w6 ⟨v6, rfl, hO6, hb6⟩; obtain ⟨A6, c6, rfl⟩ := O_slice hO6; have hb26 : Below w.heap.size w w6 := below_step HB5.out hb6; obtain ⟨hx0, hx1, hx2, hx3⟩ := (HN.out.below hb26).cell; have hfb := blk_frozen (HN.out.below hb26) 3; have HO6 := Aside0.mk hO6; have HB6 := Aside0.mk hb26; clear hO6 hb6 hb26))
  have hn6' : w6.heap[b1]? = some (.cells #[.string x.f0, .int .i64 x.f1, .int .i64 x.f2, .slice A3 x.f3.length c3] 31 (0, 0)) := HN.out.below HB6.out
  have hp6' : w6.heap[b0]? = some (.cells #[.pointer (some ⟨g, 0, none⟩)] 58 (0, 0)) := HP.out.below HB6.out
  have hn6 := blk_set hn6' 3 (.slice A6 x.f3.length c6)
  have hF6 : Kd.F (Kd.int .u8) w6 (fun k => w.heap.size ≤ k) A6 x.f3.length x.f3 := Kd.F_mono (O_F_own HO6.out) fun k hk => Nat.le_trans HB5.out.size (O_base HO6.out k hk.symm)
  have hb1w : b1 < w.heap.size := blk_lt HN.out
  have hgb : g ≠ b1 := by omega
  have hsz6 : w.heap.size ≤ w6.heap.size := HB6.out.size
  have hF7 : Kd.F (Kd.int .u8) (w6.setCell ⟨b1, 3, none⟩ (.slice A6 x.f3.length c6)) (fun k => w.heap.size ≤ k) A6 x.f3.length x.f3 := Kd.F_step hF6 fun k hk _ => Below.heap_setCell _ _ _ _ (show k ≠ b1 by omega)
  have hR7 : RepAt B g s (w6.setCell ⟨b1, 3, none⟩ (.slice A6 x.f3.length c6)) mv sv (.slice Ap s.pend.length cp) := H0.out.beside (H.out.below HB6.out) (HK0.out.trans (KeptG.of_below HB6.out)) hb1 (fun k hk => Below.heap_setCell _ _ _ _ hk) HE.out.1 HE.out.2.1 HE.out.2.2
  have hP7 : VarP (w6.setCell ⟨b1, 3, none⟩ (.slice A6 x.f3.length c6)) b0 g := (Below.heap_setCell _ _ _ _ (show b0 ≠ b1 from blk_ne hp6' hn6' (by decide))).trans hp6'
  have hN7 : VarW (w6.setCell ⟨b1, 3, none⟩ (.slice A6 x.f3.length c6)) b1 x A6 c6 := hn6
  have hB7 : BelS B w (w6.setCell ⟨b1, 3, none⟩ (.slice A6 x.f3.length c6)) := belowB_set (belowB_of hBw HB6.out) (hB0 _ hb1) 3 _
  have hs7 : w.heap.size ≤ (w6.setCell ⟨b1, 3, none⟩ (.slice A6 x.f3.length c6)).heap.size := by rw [World.size_setCell]; exact hsz6
  clear hn6 hF6 hp0 hx0 hx1 hx2 hx3 hfb
  generalize w6.setCell ⟨b1, 3, none⟩ (.slice A6 x.f3.length c6) = w7 at hF7 hR7 hP7 hN7 hB7 hs7 ⊢
  obtain ⟨i0, hi, hz0, hz1, hz2⟩ := info_parts info31
  obtain ⟨inner, hown, hreps⟩ := hR7.pend
  have hd7 : Below w7.heap.size w7 w7.drew := below_drew1 (Below.refl _ _)
  refine start_ (n := 11) (S := (fun w' => w'.cell? ⟨b0, 0, none⟩ = some (.pointer (some ⟨g, 0, none⟩)) ∧ w'.cell? ⟨g, 4, none⟩ = some (.slice Ap s.pend.length cp) ∧ w'.cell? ⟨b1, 0, none⟩ = some (.string x.f0) ∧ w'.cell? ⟨b1, 1, none⟩ = some (.int .i64 x.f1) ∧ w'.cell? ⟨b1, 2, none⟩ = some (.int .i64 x.f2) ∧ w'.cell? ⟨b1, 3, none⟩ = some (.slice A6 x.f3.length c6))) (ds := [10]) #[false, false, false, false, false, false, false, false, false, false, false] (by kernel_rfl) rfl rfl ⟨(hP7.below hd7).cell, (hR7.below hd7).cells.2.2.2.2.1, (hN7.below hd7).cell.1, (hN7.below hd7).cell.2.1, (hN7.below hd7).cell.2.2.1, (hN7.below hd7).cell.2.2.2⟩ (fun hHeld => ?_)
  refine take_ (i := 0) (N := some 59) (v := ?_) (a' := ?_) #[true, false, false, false, false, false, false, false, false, false, false] rfl rfl (by kernel_rfl) (fun _ _ _ h => h) (Or.inl ⟨by rfl, ?_⟩) hHeld ?_ ?_
  rotate_left
  · rintro w' ⟨s0, s1, s2, s3, s4, s5⟩
    go_simp
    with_reducible rfl
  rotate_left
  · simp only [Act.put, List.setIfInBounds_toArray, List.set_cons_zero, List.set_cons_succ, i64_w, i32_w]
    rfl
  refine take_ (i := 1) (N := some 60) (v := ?_) (a' := ?_) #[true, true, false, false, false, false, false, false, false, false, false] rfl rfl (by kernel_rfl) (fun _ _ _ h => h) (Or.inl ⟨by rfl, ?_⟩) hHeld ?_ ?_
  rotate_left
  · rintro w' ⟨s0, s1, s2, s3, s4, s5⟩
    go_simp
    with_reducible rfl
  rotate_left
  · simp only [Act.put, List.setIfInBounds_toArray, List.set_cons_zero, List.set_cons_succ, i64_w, i32_w]
    rfl
  refine pure_ (i := 2) (N := some 61) (v := ?_) (a' := ?_) #[true, true, true, false, false, false, false, false, false, false, false] rfl rfl (by kernel_rfl) (fun _ _ _ h => h) (Or.inl ⟨by rfl, ?_⟩) ?_ ?_
  rotate_left
  · intro w'
    go_simp
    with_reducible rfl
  rotate_left
  · simp only [Act.put, List.setIfInBounds_toArray, List.set_cons_zero, List.set_cons_succ, i64_w, i32_w]
    rfl
  refine pure_ (i := 3) (N := some 62) (v := ?_) (a' := ?_) #[true, true, true, true, false, false, false, false, false, false, false] rfl rfl (by kernel_rfl) (fun _ _ _ h => h) (Or.inl ⟨by rfl, ?_⟩) ?_ ?_
  rotate_left
  · intro w'
    go_simp
    with_reducible rfl
  rotate_left
  · simp only [Act.put, List.setIfInBounds_toArray, List.set_cons_zero, List.set_cons_succ, i64_w, i32_w]
    rfl
  refine take_ (i := 4) (N := some 63) (v := ?_) (a' := ?_) #[true, true, true, true, true, false, false, false, false, false, false] rfl rfl (by kernel_rfl) (fun _ _ _ h => h) (Or.inl ⟨by rfl, ?_⟩) hHeld ?_ ?_
  rotate_left
  · rintro w' ⟨s0, s1, s2, s3, s4, s5⟩
    go_simp
    with_reducible rfl
  rotate_left
  · simp only [Act.put, List.setIfInBounds_toArray, List.set_cons_zero, List.set_cons_succ, i64_w, i32_w]
    rfl
  refine take_ (i := 5) (N := some 64) (v := ?_) (a' := ?_) #[true, true, true, true, true, true, false, false, false, false, false] rfl rfl (by kernel_rfl) (fun _ _ _ h => h) (Or.inl ⟨by rfl, ?_⟩) hHeld ?_ ?_
  rotate_left
  · rintro w' ⟨s0, s1, s2, s3, s4, s5⟩
    go_simp
    with_reducible rfl
  rotate_left
  · simp only [Act.put, List.setIfInBounds_toArray, List.set_cons_zero, List.set_cons_succ, i64_w, i32_w]
    rfl
  refine one_ (i := 6) (N := some 65) #[true, true, true, true, true, true, true, false, false, false, false] rfl rfl (by kernel_rfl) (by decide) (fun K hK => ?_)
  refine value_ (w1 := w7.drew.alloc (Obj.cells #[.string x.f0, .int .i64 x.f1, .int .i64 x.f2, .slice A6 x.f3.length c6] 31)) (v := .slice (some ⟨w7.drew.heap.size, 0, none⟩) 1 1) (by rfl) rfl ?_ ?_
  · go_simp
  have h78 : Below w7.heap.size w7 (w7.drew.alloc (Obj.cells #[.string x.f0, .int .i64 x.f1, .int .i64 x.f2, .slice A6 x.f3.length c6] 31)) := below_alloc hd7 _
  have hN8 := (hN7.below h78).cell
  refine hK.out _ _ ⟨(hP7.below h78).cell, (hR7.below h78).cells.2.2.2.2.1, hN8.1, hN8.2.1, hN8.2.2.1, hN8.2.2.2⟩ (fun hHeld => ?_)
  clear hK K
  refine norm_ (a' := ?_) ?_ ?_
  rotate_left
  · show Act.put _ (some 65) _ = _
    simp only [Act.put, List.setIfInBounds_toArray, List.set_cons_zero, List.set_cons_succ, i64_w, i32_w]
    rfl
  refine one_ (i := 7) (N := some 66) #[true, true, true, true, true, true, true, true, false, false, false] rfl rfl (by kernel_rfl) (by decide) (fun K hK => ?_)
  refine step_append_lies _ (by rfl) _ _ _ (by rfl) 0 31 i0 _ 4 56 Try.underlying104 hi hz0 hz1 hz2 rfl (by omega) (.slice Ap s.pend.length cp) s.pend.length inner (by rfl) (pw_own_below hown h78) ⟨w7.drew.heap.size, 0, none⟩ 1 1 [.string x.f0, .int .i64 x.f1, .int .i64 x.f2, .slice A6 x.f3.length c6] (by rfl) (by rfl) (World.news_of_block (cs := #[.string x.f0, .int .i64 x.f1, .int .i64 x.f2, .slice A6 x.f3.length c6]) (t := 31) (fr := (0, 0)) (heap_alloc_new _ _)) (by simp [Value.oneCell']) (by omega) (by unfold maxLen; omega) (by omega) (Nat.zero_le _) _ rfl ?_
  intro gg cap w8 hown8 hgrow hat hlt8
  have hR8 := hR7.below h78
  have hP8 : ∀ b t (cs : Array Value) (f : Nat × Nat), (w7.drew.alloc (Obj.cells #[.string x.f0, .int .i64 x.f1, .int .i64 x.f2, .slice A6 x.f3.length c6] 31)).heap[b]? = some (Obj.cells cs t f) → some b ≠ (Value.slice Ap s.pend.length cp).ownBlock → w8.heap[b]? = some (Obj.cells cs t f) := fun b t cs f hb ht => (hgrow.block b (blk_lt hb) ht).trans hb
  have hne1 : some b1 ≠ (Value.slice Ap s.pend.length cp).ownBlock := fun he => by
    obtain ⟨inner0, hown0, _⟩ := H0.out.pend
    have := own_lt hown0 b1 he.symm
    omega
  have hp8 := hP8 _ _ _ _ (hP7.below h78) (fun he => by exact O_ne hR8.pend (hP7.below h78) (by decide) he.symm)
  have hn8 : VarW w8 b1 x A6 c6 := hP8 _ _ _ _ (hN7.below h78) hne1
  have hg8 := hP8 _ _ _ _ hR8.blk (fun he => hR8.pend_ne he.symm)
  have hN8' := hn8.cell
  refine hK.out _ _ ⟨VarP.cell hp8, by rw [cell_of_row w8 g _ _ 106 (0, 0) hg8]; rfl, hN8'.1, hN8'.2.1, hN8'.2.2.1, hN8'.2.2.2⟩ (fun hHeld => ?_)
  have hO8 : O k31 31 w8 0 (fun k => k ≠ g) (.slice (some ⟨gg, 0, none⟩) (s.pend.length + 1) cap) (s.pend ++ [x]) := by
    refine O_snoc31 (W := w7.drew.alloc (Obj.cells #[.string x.f0, .int .i64 x.f1, .int .i64 x.f2, .slice A6 x.f3.length c6] 31)) (v := .slice Ap s.pend.length cp) (hreps.imp_ fun y c' hy => Kd.FK_below hy h78) ?_ hown8 hgrow ?_
    · refine k31_mkF _ _ x (Kd.V_reads' (O_V HO6.out)).2.1 (Kd.F_mono (Kd.F_below hF7 h78) fun k hk => ⟨?_, fun he => ?_⟩)
      · have := HK0.out.1
        omega
      · obtain ⟨inner0, hown0, _⟩ := H0.out.pend
        have := own_lt hown0 k he.symm
        have := HK0.out.1
        omega
    · rcases hat with hat | hat
      · exact .inl hat.symm
      · exact .inr (by rw [hat]; rfl)
  have hR9 := hR8.setPend hO8 hgrow (hat.elim (fun h => .inl h.symm) (fun h => .inr ⟨gg, rfl, by rw [h]; exact Nat.le_refl _, (Up.le (Up.le hBw hs7) h78.size) _ (by rw [h]; exact Nat.le_refl _)⟩))
  have hB9 : BelS B w w8 := belowB_trans (belowB_trans hB7 (belowB_of (Up.le hBw hs7) h78)) ⟨hgrow.os, hgrow.tape, hgrow.output, hgrow.size, fun k hk hn => hgrow.block k hk (fun he => hn (hR8.own k he.symm))⟩
  clear hK K
  refine norm_ (a' := ?_) ?_ ?_
  rotate_left
  · show Act.put _ (some 66) _ = _
    simp only [Act.put, List.setIfInBounds_toArray, List.set_cons_zero, List.set_cons_succ, i64_w, i32_w]
    rfl
  refine pure_ (i := 8) (N := some 67) (v := ?_) (a' := ?_) #[true, true, true, true, true, true, true, true, true, false, false] rfl rfl (by kernel_rfl) (fun _ _ _ h => h) (Or.inl ⟨by rfl, ?_⟩) ?_ ?_
  rotate_left
  · intro w'
    go_simp
    with_reducible rfl
  rotate_left
  · simp only [Act.put, List.setIfInBounds_toArray, List.set_cons_zero, List.set_cons_succ, i64_w, i32_w]
    rfl
  refine pure_ (i := 9) (N := some 68) (v := ?_) (a' := ?_) #[true, true, true, true, true, true, true, true, true, true, false] rfl rfl (by kernel_rfl) (fun _ _ _ h => h) (Or.inl ⟨by rfl, ?_⟩) ?_ ?_
  rotate_left
  · intro w'
    go_simp
    with_reducible rfl
  rotate_left
  · simp only [Act.put, List.setIfInBounds_toArray, List.set_cons_zero, List.set_cons_succ, i64_w, i32_w]
    rfl
  refine last_ (i := 10) (N := none) #[true, true, true, true, true, true, true, true, true, true, true] rfl rfl (by kernel_rfl) (by decide) (fun K hK => ?_)
  have hfr := blk_frozen hg8 4
  have hcl : w8.cell? ⟨g, 4, none⟩ = some (.slice Ap s.pend.length cp) := by rw [cell_of_row w8 g _ _ 106 (0, 0) hg8]; rfl
  refine skip_ (w1 := ?_) (by rfl) rfl ?_ ?_
  rotate_left
  · go_simp
    rfl
  refine hK.out _ _ ?_
  clear hK K
  refine done_ (by kernel_rfl) ?_
  have hp9 : VarP (w8.setCell ⟨g, 4, none⟩ (.slice (some ⟨gg, 0, none⟩) (s.pend.length + 1) cap)) b0 g := VarP.set hp8 hg8
  have hB10 := belowB_set hB9 H0.out.hg 4 (.slice (some ⟨gg, 0, none⟩) (s.pend.length + 1) cap)
  have HBS := Aside0.mk hB10
  clear hfr hcl hHeld hO8 hown8 hgrow hat hlt8 hreps hown hN8 hN8' hn8 hg8 hp8 hP8 hB9 hB10 hB7 hF7 hR8 hR7 hP7 hN7 h78 hd7 hi hz0 hz1 hz2
  go_wp2_with fail
  generalize w8.setCell ⟨g, 4, none⟩ (.slice (some ⟨gg, 0, none⟩) (s.pend.length + 1) cap) = w9 at hp9 hR9 HBS ⊢
  have hd9 : Below w9.heap.size w9 w9.drew := below_drew1 (Below.refl _ _)
  have hp9d := (hp9.below hd9).cell
  have hc6d := (hR9.below hd9).cells.2.2.2.2.2.2.1
  refine start_ (n := 10) (S := (fun w' => w'.cell? ⟨b0, 0, none⟩ = some (.pointer (some ⟨g, 0, none⟩)) ∧ w'.cell? ⟨g, 6, none⟩ = some (.int .i64 s.peak))) (ds := [9]) #[false, false, false, false, false, false, false, false, false, false] (by kernel_rfl) rfl rfl ⟨hp9d, hc6d⟩ (fun hHeld => ?_)
  refine pure_ (i := 5) (N := some 74) (v := ?_) (a' := ?_) #[false, false, false, false, false, true, false, false, false, false] rfl rfl (by kernel_rfl) (fun _ _ _ h => h) (Or.inl ⟨by rfl, ?_⟩) ?_ ?_
  rotate_left
  · intro w'
    go_simp
    with_reducible rfl
  rotate_left
  · simp only [Act.put, List.setIfInBounds_toArray, List.set_cons_zero, List.set_cons_succ, i64_w, i32_w]
    rfl
  refine take_ (i := 0) (N := some 69) (v := ?_) (a' := ?_) #[true, false, false, false, false, true, false, false, false, false] rfl rfl (by kernel_rfl) (fun _ _ _ h => h) (Or.inl ⟨by rfl, ?_⟩) hHeld ?_ ?_
  rotate_left
  · rintro w' ⟨s0, s1⟩
    go_simp
    with_reducible rfl
  rotate_left
  · simp only [Act.put, List.setIfInBounds_toArray, List.set_cons_zero, List.set_cons_succ, i64_w, i32_w]
    rfl
  refine take_ (i := 1) (N := some 70) (v := ?_) (a' := ?_) #[true, true, false, false, false, true, false, false, false, false] rfl rfl (by kernel_rfl) (fun _ _ _ h => h) (Or.inl ⟨by rfl, ?_⟩) hHeld ?_ ?_
  rotate_left
  · rintro w' ⟨s0, s1⟩
    go_simp
    with_reducible rfl
  rotate_left
  · simp only [Act.put, List.setIfInBounds_toArray, List.set_cons_zero, List.set_cons_succ, i64_w, i32_w]
    rfl
  refine pure_ (i := 2) (N := some 71) (v := ?_) (a' := ?_) #[true, true, true, false, false, true, false, false, false, false] rfl rfl (by kernel_rfl) (fun _ _ _ h => h) (Or.inl ⟨by rfl, ?_⟩) ?_ ?_
  rotate_left
  · intro w'
    go_simp
    with_reducible rfl
  rotate_left
  · simp only [Act.put, List.setIfInBounds_toArray, List.set_cons_zero, List.set_cons_succ, i64_w, i32_w]
    rfl
  refine pure_ (i := 3) (N := some 72) (v := ?_) (a' := ?_) #[true, true, true, true, false, true, false, false, false, false] rfl rfl (by kernel_rfl) (fun _ _ _ h => h) (Or.inl ⟨by rfl, ?_⟩) ?_ ?_
  rotate_left
  · intro w'
    go_simp
    with_reducible rfl
  rotate_left
  · simp only [Act.put, List.setIfInBounds_toArray, List.set_cons_zero, List.set_cons_succ, i64_w, i32_w]
    rfl
  refine take_ (i := 4) (N := some 73) (v := ?_) (a' := ?_) #[true, true, true, true, true, true, false, false, false, false] rfl rfl (by kernel_rfl) (fun _ _ _ h => h) (Or.inl ⟨by rfl, ?_⟩) hHeld ?_ ?_
  rotate_left
  · rintro w' ⟨s0, s1⟩
    go_simp
    with_reducible rfl
  rotate_left
  · simp only [Act.put, List.setIfInBounds_toArray, List.set_cons_zero, List.set_cons_succ, i64_w, i32_w]
    rfl
  refine pure_ (i := 6) (N := some 75) (v := ?_) (a' := ?_) #[true, true, true, true, true, true, true, false, false, false] rfl rfl (by kernel_rfl) (fun _ _ _ h => h) (Or.inl ⟨by rfl, ?_⟩) ?_ ?_
  rotate_left
  · intro w'
    go_simp
    with_reducible rfl
  rotate_left
  · simp only [Act.put, List.setIfInBounds_toArray, List.set_cons_zero, List.set_cons_succ, i64_w, i32_w]
    rfl
  refine pure_ (i := 7) (N := some 76) (v := ?_) (a' := ?_) #[true, true, true, true, true, true, true, true, false, false] rfl rfl (by kernel_rfl) (fun _ _ _ h => h) (Or.inl ⟨by rfl, ?_⟩) ?_ ?_
  rotate_left
  · intro w'
    go_simp
    with_reducible rfl
  rotate_left
  · simp only [Act.put, List.setIfInBounds_toArray, List.set_cons_zero, List.set_cons_succ, i64_w, i32_w]
    rfl
  refine pure_ (i := 8) (N := some 77) (v := ?_) (a' := ?_) #[true, true, true, true, true, true, true, true, true, false] rfl rfl (by kernel_rfl) (fun _ _ _ h => h) (Or.inl ⟨by rfl, ?_⟩) ?_ ?_
  rotate_left
  · intro w'
    go_simp
    with_reducible rfl
  rotate_left
  · simp only [Act.put, List.setIfInBounds_toArray, List.set_cons_zero, List.set_cons_succ, i64_w, i32_w]
    rfl
  refine last_ (i := 9) (N := none) #[true, true, true, true, true, true, true, true, true, true] rfl rfl (by kernel_rfl) (by decide) (fun K hK => ?_)
  have hfr := blk_frozen (hR9.below hd9).blk 6
  have hcl := hc6d
  refine skip_ (w1 := ?_) (by rfl) rfl ?_ ?_
  rotate_left
  · go_simp
    rfl
  refine hK.out _ _ ?_
  clear hK K
  refine done_ (by kernel_rfl) ?_
  have hend : RepAt B g { s with pend := s.pend ++ [x], peak := mx s.peak (sizeF n2) } (w9.drew.setCell ⟨g, 6, none⟩ (.int .i64 (mx s.peak (sizeF n2)))) mv sv (.slice (some ⟨gg, 0, none⟩) (s.pend.length + 1) cap) :=
    (hR9.below hd9).upd (fun k _ hk => Below.heap_setCell _ _ _ _ hk) (blk_set (hR9.below hd9).blk 6 _) rfl rfl rfl
  have hBe : BelS B w (w9.drew.setCell ⟨g, 6, none⟩ (.int .i64 (mx s.peak (sizeF n2)))) := belowB_set (belowB_trans HBS.out (belowB_of (Up.le hBw HBS.out.size) hd9)) H0.out.hg 6 _
  go_wp2_with fail
  all_goals go_ret
  · have hm : mx s.peak (sizeF n2) = sizeF n2 := by unfold mx; split <;> omega
    rw [hm] at hend hBe
    exact ⟨0, rfl, rfl, ⟨_, _, _, by rw [hm]; exact hend⟩, hBe⟩
  · have hm : mx s.peak (sizeF n2) = s.peak := by unfold mx; split <;> omega
    rw [hm] at hend hBe
    exact ⟨0, rfl, rfl, ⟨_, _, _, by rw [hm]; exact hend⟩, hBe⟩
end
end Go.Proofs.Ytcgeioingikeeaa.P
namespace Go.Proofs.Ytcgeioingikeeaa.P
open Go.RowKit Go.Proofs.YtcgeioingikeeaaW.PrintWords Go.Proofs.YtcgeioingikeeaaW.PrintLast Go.Proofs.YtcgeioingikeeaaW.PrintMore
set_option linter.unusedVariables false
set_option linter.unusedSimpArgs false
section
variable {B : Nat → Prop} {g : Nat} {s : SSt} {w : World} {mv sv pv : Value}
set_option maxHeartbeats 4000000 in
set_option maxRecDepth 100000 in
theorem do1_err_f (x : S31) (A3 : Option Addr) (c3 b0 b1 : Nat) {s0 : SSt} {w0 : World} (h0 : RepAt B g s0 w0 mv sv pv) (hk0 : KeptG g w0 w) (hb1 : w0.heap.size ≤ b1) (hB0 : Up B w0.heap.size) (e1 : s.safe = s0.safe) (e2 : s.pend = s0.pend) (e3 : s.fails = s0.fails)
    (h : RepAt B g s w mv sv pv) (hf : Fit s) (hx : x.f3.length ≤ 1000) (hp : VarP w b0 g) (hn : VarW w b1 x A3 c3) (hF : Kd.F (Kd.int .u8) w (fun k => k ≠ g) A3 x.f3.length x.f3) (hc3 : x.f3.length ≤ c3) (hok : (getT (filesOf s) x.f0).2 = false) (h2 : x.f1 ≠ 2) (h3 : x.f1 ≠ 3) (he : (doT (filesOf s) x (-1)).2 ≠ 0) :
    Calls Try.prog 91 #[.pointer (some ⟨b0, 0, none⟩), .pointer (some ⟨b1, 0, none⟩)] w fun e w' => ∃ r, e = .returned (.int .i64 r) ∧ r = (doB s x).2 ∧ Rep B g (doB s x).1 w' ∧ BelS B w w' := by
  obtain ⟨Ap, cp, rfl⟩ := O_slice h.pend
  have hBw : Up B w.heap.size := Up.le hB0 hk0.1
  have hg0 : g < w0.heap.size := blk_lt h0.blk
  have hlen := hf.len
  have hfl : okL (filesOf s) ∧ (filesOf s).length ≤ 1000 := files_ok hf
  have hget := get_f (filesOf s) x.f0 (by omega) hfl.1
  have hdo := doT_f (filesOf s) x (-1) (by omega) hfl.1 (by omega)
  have hdk := doT_ok (filesOf s) x (-1) hfl.1
  obtain ⟨kz, hkz⟩ := size_f (filesOf s) (by omega)
  have hno : ¬ ((getT (filesOf s) x.f0).2 = false ∧ (x.f1 = 2 ∨ x.f1 = 3)) := by simp [h2, h3]
  have hq2 : (x.f1 == 2) = false := by simpa using h2
  have hq3 : (x.f1 == 3) = false := by simpa using h3
  rw [hok] at hget
  have hE : doE s x = (doT (filesOf s) x (-1)).2 := by unfold doE; rw [if_neg hno, if_pos he]
  have hB : doB s x = (s, (doT (filesOf s) x (-1)).2) := by unfold doB; rw [hE, if_neg he]
  rw [hB]
  obtain ⟨⟨n2, r2⟩, hdr⟩ : ∃ r, doT (filesOf s) x (-1) = r := ⟨_, rfl⟩
  rw [hdr] at hdo hdk he ⊢
  simp only at hdo hdk he ⊢
  have hn2 : n2.length ≤ 1001 := by
    have := doT_len (filesOf s) x (-1) hfl.1
    rw [hdr] at this
    simp only at this
    omega
  obtain ⟨kd, hkd⟩ := size_f n2 (by omega)
  have HKD := Aside0.mk hkd
  have hce : (r2 == 0) = false := by simpa using he
  have hcn : (r2 != 0) = true := by simpa using he
  have HEB := Aside0.mk (And.intro hE hB)
  have HDR := Aside0.mk hdr
  clear hok hno h2 h3 hE hB hdr he hkd
  have hp0 := hp.cell
  obtain ⟨hx0, hx1, hx2, hx3⟩ := hn.cell
  have H := Aside0.mk h
  have H0 := Aside0.mk h0
  have HK0 := Aside0.mk hk0
  have HE := Aside0.mk (And.intro e1 (And.intro e2 e3))
  have HF := Aside0.mk hf
  have HP := Aside0.mk hp
  have HN := Aside0.mk hn
  have HFx := Aside0.mk hF
  have HGET := Aside0.mk hget
  have HDO := Aside0.mk hdo
  have HDK := Aside0.mk hdk
  have HKZ := Aside0.mk hkz
  clear h h0 hk0 hf hp hn hF hget hdo hdk hkz e1 e2 e3
  go_enter Try.func91, Try.ntmps91
  go_wp2_with (first
    | (go_at_call 42; refine (files_calls ⟨mv, sv, _, H.out⟩ HF.out).mono ?_; rintro e w1 ⟨v1, rfl, hV1, hb1w⟩; obtain ⟨A1, c1, rfl⟩ := Kd.V_slice hV1; obtain ⟨hx0, hx1, hx2, hx3⟩ := (HN.out.below hb1w).cell; have HV1 := Aside0.mk hV1; have HB1 := Aside0.mk hb1w; clear hV1 hb1w)
    | (go_at_call 28; refine (files_Get.calls A1 c1 (filesOf s) x.f0 _ _ _ (Kd.V_reads' HV1.out).2.2 (Kd.V_reads' HV1.out).2.1 HGET.out).mono ?_; rintro e w2 ⟨v2, rfl, hR2, hb2⟩; obtain ⟨A2, c2, rfl⟩ := Kd.R_slice hR2; obtain ⟨hx0, hx1, hx2, hx3⟩ := (HN.out.below (below_step HB1.out hb2)).cell; have HB12 := Aside0.mk hb2; have HB2 := Aside0.mk (below_step HB1.out hb2); clear hR2 hb2)
    | (go_at_call 17; refine (files_Do.calls (fun k => w.heap.size ≤ k) A1 c1 (filesOf s) x.f0 x.f1 x.f2 A3 c3 x.f3 (-1) _ _ _ (V_base (Kd.V_below HV1.out HB12.out)) (Kd.F_now (Kd.F_below HFx.out HB2.out)) hc3 HDO.out).mono ?_; rintro e w3 ⟨v3, rfl, hV3, hb3⟩; obtain ⟨A4, c4, rfl⟩ := Kd.V_slice hV3; have hp0 := (HP.out.below (below_step HB2.out hb3)).cell; obtain ⟨hx0, hx1, hx2, hx3⟩ := (HN.out.below (below_step HB2.out hb3)).cell; have HV3 := Aside0.mk hV3; have HB13 := Aside0.mk (below_step HB12.out hb3); have HB3 := Aside0.mk (below_step HB2.out hb3); clear hV3 hb3)
    | (go_at_call 35; with_reducible refine (files_Size.calls kd A4 c4 _ (sizeF n2) _ (Kd.V_reads' HV3.out).2.2 (Kd.V_reads' HV3.out).2.1 HKD.out).mono ?_; rintro e w4 ⟨rfl, hb4⟩; have hp0 := (HP.out.below (below_step HB3.out hb4)).cell; obtain ⟨hx0, hx1, hx2, hx3⟩ := (HN.out.below (below_step HB3.out hb4)).cell; have hq := (H.out.below (below_step HB3.out hb4)).cells.2.2.2.2.2.1; have HB14 := Aside0.mk (below_step HB13.out hb4); have HB4 := Aside0.mk (below_step HB3.out hb4); clear hb4))
  go_ret
  exact ⟨_, rfl, rfl, ⟨mv, sv, _, H.out.below HB4.out⟩, belowB_of hBw HB4.out⟩
end
end Go.Proofs.Ytcgeioingikeeaa.P
namespace Go.Proofs.Ytcgeioingikeeaa.P
open Go.RowKit Go.Proofs.YtcgeioingikeeaaW.PrintWords Go.Proofs.YtcgeioingikeeaaW.PrintLast Go.Proofs.YtcgeioingikeeaaW.PrintMore
set_option linter.unusedVariables false
set_option linter.unusedSimpArgs false
section
variable {B : Nat → Prop} {g : Nat} {s : SSt} {w : World} {mv sv pv : Value}
set_option maxHeartbeats 4000000 in
set_option maxRecDepth 100000 in
theorem do1_full_f (x : S31) (A3 : Option Addr) (c3 b0 b1 : Nat) {s0 : SSt} {w0 : World} (h0 : RepAt B g s0 w0 mv sv pv) (hk0 : KeptG g w0 w) (hb1 : w0.heap.size ≤ b1) (hB0 : Up B w0.heap.size) (e1 : s.safe = s0.safe) (e2 : s.pend = s0.pend) (e3 : s.fails = s0.fails)
    (h : RepAt B g s w mv sv pv) (hf : Fit s) (hx : x.f3.length ≤ 1000) (hp : VarP w b0 g) (hn : VarW w b1 x A3 c3) (hF : Kd.F (Kd.int .u8) w (fun k => k ≠ g) A3 x.f3.length x.f3) (hc3 : x.f3.length ≤ c3) (hok : (getT (filesOf s) x.f0).2 = false) (h2 : x.f1 ≠ 2) (h3 : x.f1 ≠ 3) (he : (doT (filesOf s) x (-1)).2 = 0) (hq1 : s.quota < sizeF (doT (filesOf s) x (-1)).1) (hq4 : sizeF (filesOf s) < sizeF (doT (filesOf s) x (-1)).1) :
    Calls Try.prog 91 #[.pointer (some ⟨b0, 0, none⟩), .pointer (some ⟨b1, 0, none⟩)] w fun e w' => ∃ r, e = .returned (.int .i64 r) ∧ r = (doB s x).2 ∧ Rep B g (doB s x).1 w' ∧ BelS B w w' := by
  obtain ⟨Ap, cp, rfl⟩ := O_slice h.pend
  have hBw : Up B w.heap.size := Up.le hB0 hk0.1
  have hg0 : g < w0.heap.size := blk_lt h0.blk
  have hlen := hf.len
  have hfl : okL (filesOf s) ∧ (filesOf s).length ≤ 1000 := files_ok hf
  have hget := get_f (filesOf s) x.f0 (by omega) hfl.1
  have hdo := doT_f (filesOf s) x (-1) (by omega) hfl.1 (by omega)
  have hdk := doT_ok (filesOf s) x (-1) hfl.1
  obtain ⟨kz, hkz⟩ := size_f (filesOf s) (by omega)
  have hno : ¬ ((getT (filesOf s) x.f0).2 = false ∧ (x.f1 = 2 ∨ x.f1 = 3)) := by simp [h2, h3]
  have hq2 : (x.f1 == 2) = false := by simpa using h2
  have hq3 : (x.f1 == 3) = false := by simpa using h3
  rw [hok] at hget
  have hE : doE s x = 8 := by unfold doE; rw [if_neg hno, if_neg (by simp [he]), if_pos ⟨hq1, hq4⟩]
  have hB : doB s x = (s, 8) := by unfold doB; rw [hE]; rfl
  rw [hB]
  obtain ⟨⟨n2, r2⟩, hdr⟩ : ∃ r, doT (filesOf s) x (-1) = r := ⟨_, rfl⟩
  rw [hdr] at hdo hdk he hq1 hq4 
  simp only at hdo hdk he hq1 hq4 
  obtain rfl := he
  have hn2 := (hdk rfl).2
  obtain ⟨kd, hkd⟩ := size_f n2 (by omega)
  have HKD := Aside0.mk hkd
  have HEB := Aside0.mk (And.intro hE hB)
  have HDR := Aside0.mk hdr
  clear hok hno h2 h3 hE hB hdr hkd
  have hp0 := hp.cell
  obtain ⟨hx0, hx1, hx2, hx3⟩ := hn.cell
  have H := Aside0.mk h
  have H0 := Aside0.mk h0
  have HK0 := Aside0.mk hk0
  have HE := Aside0.mk (And.intro e1 (And.intro e2 e3))
  have HF := Aside0.mk hf
  have HP := Aside0.mk hp
  have HN := Aside0.mk hn
  have HFx := Aside0.mk hF
  have HGET := Aside0.mk hget
  have HDO := Aside0.mk hdo
  have HDK := Aside0.mk hdk
  have HKZ := Aside0.mk hkz
  clear h h0 hk0 hf hp hn hF hget hdo hdk hkz e1 e2 e3
  go_enter Try.func91, Try.ntmps91
  go_wp2_with (first
    | (go_at_call 42; refine (files_calls ⟨mv, sv, _, H.out⟩ HF.out).mono ?_; rintro e w1 ⟨v1, rfl, hV1, hb1w⟩; obtain ⟨A1, c1, rfl⟩ := Kd.V_slice hV1; obtain ⟨hx0, hx1, hx2, hx3⟩ := (HN.out.below hb1w).cell; have HV1 := Aside0.mk hV1; have HB1 := Aside0.mk hb1w; clear hV1 hb1w)
    | (go_at_call 28; refine (files_Get.calls A1 c1 (filesOf s) x.f0 _ _ _ (Kd.V_reads' HV1.out).2.2 (Kd.V_reads' HV1.out).2.1 HGET.out).mono ?_; rintro e w2 ⟨v2, rfl, hR2, hb2⟩; obtain ⟨A2, c2, rfl⟩ := Kd.R_slice hR2; obtain ⟨hx0, hx1, hx2, hx3⟩ := (HN.out.below (below_step HB1.out hb2)).cell; have HB12 := Aside0.mk hb2; have HB2 := Aside0.mk (below_step HB1.out hb2); clear hR2 hb2)
    | (go_at_call 17; refine (files_Do.calls (fun k => w.heap.size ≤ k) A1 c1 (filesOf s) x.f0 x.f1 x.f2 A3 c3 x.f3 (-1) _ _ _ (V_base (Kd.V_below HV1.out HB12.out)) (Kd.F_now (Kd.F_below HFx.out HB2.out)) hc3 HDO.out).mono ?_; rintro e w3 ⟨v3, rfl, hV3, hb3⟩; obtain ⟨A4, c4, rfl⟩ := Kd.V_slice hV3; have hp0 := (HP.out.below (below_step HB2.out hb3)).cell; obtain ⟨hx0, hx1, hx2, hx3⟩ := (HN.out.below (below_step HB2.out hb3)).cell; have HV3 := Aside0.mk hV3; have HB13 := Aside0.mk (below_step HB12.out hb3); have HB3 := Aside0.mk (below_step HB2.out hb3); clear hV3 hb3)
    | (go_at_call 35; with_reducible refine (files_Size.calls kd A4 c4 _ (sizeF n2) _ (Kd.V_reads' HV3.out).2.2 (Kd.V_reads' HV3.out).2.1 HKD.out).mono ?_; rintro e w4 ⟨rfl, hb4⟩; have hp0 := (HP.out.below (below_step HB3.out hb4)).cell; obtain ⟨hx0, hx1, hx2, hx3⟩ := (HN.out.below (below_step HB3.out hb4)).cell; have hq := (H.out.below (below_step HB3.out hb4)).cells.2.2.2.2.2.1; have HB14 := Aside0.mk (below_step HB13.out hb4); have HB4 := Aside0.mk (below_step HB3.out hb4); clear hb4)
    | (go_at_call 35; with_reducible refine (files_Size.calls kz A1 c1 _ (sizeF (filesOf s)) _ (Kd.V_reads' (Kd.V_below HV1.out HB14.out)).2.2 (Kd.V_reads' HV1.out).2.1 HKZ.out).mono ?_; rintro e w5 ⟨rfl, hb5⟩; have HB5 := Aside0.mk (below_step HB4.out hb5); obtain ⟨hx0, hx1, hx2, hx3⟩ := (HN.out.below (below_step HB4.out hb5)).cell; clear hb5))
  go_ret
  exact ⟨_, rfl, rfl, ⟨mv, sv, _, H.out.below HB5.out⟩, belowB_of hBw HB5.out⟩
end
end Go.Proofs.Ytcgeioingikeeaa.P
namespace Go.Proofs.Ytcgeioingikeeaa.P
open Go.RowKit Go.Proofs.YtcgeioingikeeaaW.PrintWords Go.Proofs.YtcgeioingikeeaaW.PrintLast Go.Proofs.YtcgeioingikeeaaW.PrintMore
set_option linter.unusedVariables false
set_option linter.unusedSimpArgs false
section
variable {B : Nat → Prop} {g : Nat} {s : SSt} {w : World} {mv sv pv : Value}
set_option maxHeartbeats 4000000 in
set_option maxRecDepth 100000 in
theorem do1_in_f (x : S31) (A3 : Option Addr) (c3 b0 b1 : Nat) {s0 : SSt} {w0 : World} (h0 : RepAt B g s0 w0 mv sv pv) (hk0 : KeptG g w0 w) (hb1 : w0.heap.size ≤ b1) (hB0 : Up B w0.heap.size) (e1 : s.safe = s0.safe) (e2 : s.pend = s0.pend) (e3 : s.fails = s0.fails)
    (h : RepAt B g s w mv sv pv) (hf : Fit s) (hx : x.f3.length ≤ 1000) (hp : VarP w b0 g) (hn : VarW w b1 x A3 c3) (hF : Kd.F (Kd.int .u8) w (fun k => k ≠ g) A3 x.f3.length x.f3) (hc3 : x.f3.length ≤ c3) (hok : (getT (filesOf s) x.f0).2 = false) (h2 : x.f1 ≠ 2) (h3 : x.f1 ≠ 3) (he : (doT (filesOf s) x (-1)).2 = 0) (hq1 : ¬ s.quota < sizeF (doT (filesOf s) x (-1)).1) :
    Calls Try.prog 91 #[.pointer (some ⟨b0, 0, none⟩), .pointer (some ⟨b1, 0, none⟩)] w fun e w' => ∃ r, e = .returned (.int .i64 r) ∧ r = (doB s x).2 ∧ Rep B g (doB s x).1 w' ∧ BelS B w w' := by
  obtain ⟨Ap, cp, rfl⟩ := O_slice h.pend
  have hBw : Up B w.heap.size := Up.le hB0 hk0.1
  have hg0 : g < w0.heap.size := blk_lt h0.blk
  have hlen := hf.len
  have hfl : okL (filesOf s) ∧ (filesOf s).length ≤ 1000 := files_ok hf
  have hget := get_f (filesOf s) x.f0 (by omega) hfl.1
  have hdo := doT_f (filesOf s) x (-1) (by omega) hfl.1 (by omega)
  have hdk := doT_ok (filesOf s) x (-1) hfl.1
  obtain ⟨kz, hkz⟩ := size_f (filesOf s) (by omega)
  have hno : ¬ ((getT (filesOf s) x.f0).2 = false ∧ (x.f1 = 2 ∨ x.f1 = 3)) := by simp [h2, h3]
  have hq2 : (x.f1 == 2) = false := by simpa using h2
  have hq3 : (x.f1 == 3) = false := by simpa using h3
  rw [hok] at hget
  have hE : doE s x = 0 := by unfold doE; rw [if_neg hno, if_neg (by simp [he]), if_neg (fun h => hq1 h.1)]
  have hB : doB s x = ({ s with pend := s.pend ++ [x], peak := mx s.peak (sizeF (doT (filesOf s) x (-1)).1) }, 0) := by unfold doB; rw [if_pos hE]
  rw [hB]
  obtain ⟨⟨n2, r2⟩, hdr⟩ : ∃ r, doT (filesOf s) x (-1) = r := ⟨_, rfl⟩
  rw [hdr] at hdo hdk he hq1 ⊢
  simp only at hdo hdk he hq1 ⊢
  obtain rfl := he
  have hn2 := (hdk rfl).2
  obtain ⟨kd, hkd⟩ := size_f n2 (by omega)
  have HKD := Aside0.mk hkd
  have HEB := Aside0.mk (And.intro hE hB)
  have HDR := Aside0.mk hdr
  clear hok hno h2 h3 hE hB hdr hkd
  have hp0 := hp.cell
  obtain ⟨hx0, hx1, hx2, hx3⟩ := hn.cell
  have H := Aside0.mk h
  have H0 := Aside0.mk h0
  have HK0 := Aside0.mk hk0
  have HE := Aside0.mk (And.intro e1 (And.intro e2 e3))
  have HF := Aside0.mk hf
  have HP := Aside0.mk hp
  have HN := Aside0.mk hn
  have HFx := Aside0.mk hF
  have HGET := Aside0.mk hget
  have HDO := Aside0.mk hdo
  have HDK := Aside0.mk hdk
  have HKZ := Aside0.mk hkz
  clear h h0 hk0 hf hp hn hF hget hdo hdk hkz e1 e2 e3
  go_enter Try.func91, Try.ntmps91
  go_wp2_with (first
    | (go_at_call 42; refine (files_calls ⟨mv, sv, _, H.out⟩ HF.out).mono ?_; rintro e w1 ⟨v1, rfl, hV1, hb1w⟩; obtain ⟨A1, c1, rfl⟩ := Kd.V_slice hV1; obtain ⟨hx0, hx1, hx2, hx3⟩ := (HN.out.below hb1w).cell; have HV1 := Aside0.mk hV1; have HB1 := Aside0.mk hb1w; clear hV1 hb1w)
    | (go_at_call 28; refine (files_Get.calls A1 c1 (filesOf s) x.f0 _ _ _ (Kd.V_reads' HV1.out).2.2 (Kd.V_reads' HV1.out).2.1 HGET.out).mono ?_; rintro e w2 ⟨v2, rfl, hR2, hb2⟩; obtain ⟨A2, c2, rfl⟩ := Kd.R_slice hR2; obtain ⟨hx0, hx1, hx2, hx3⟩ := (HN.out.below (below_step HB1.out hb2)).cell; have HB12 := Aside0.mk hb2; have HB2 := Aside0.mk (below_step HB1.out hb2); clear hR2 hb2)
    | (go_at_call 17; refine (files_Do.calls (fun k => w.heap.size ≤ k) A1 c1 (filesOf s) x.f0 x.f1 x.f2 A3 c3 x.f3 (-1) _ _ _ (V_base (Kd.V_below HV1.out HB12.out)) (Kd.F_now (Kd.F_below HFx.out HB2.out)) hc3 HDO.out).mono ?_; rintro e w3 ⟨v3, rfl, hV3, hb3⟩; obtain ⟨A4, c4, rfl⟩ := Kd.V_slice hV3; have hp0 := (HP.out.below (below_step HB2.out hb3)).cell; obtain ⟨hx0, hx1, hx2, hx3⟩ := (HN.out.below (below_step HB2.out hb3)).cell; have HV3 := Aside0.mk hV3; have HB13 := Aside0.mk (below_step HB12.out hb3); have HB3 := Aside0.mk (below_step HB2.out hb3); clear hV3 hb3)
    | (go_at_call 35; with_reducible refine (files_Size.calls kd A4 c4 _ (sizeF n2) _ (Kd.V_reads' HV3.out).2.2 (Kd.V_reads' HV3.out).2.1 HKD.out).mono ?_; rintro e w4 ⟨rfl, hb4⟩; have hp0 := (HP.out.below (below_step HB3.out hb4)).cell; obtain ⟨hx0, hx1, hx2, hx3⟩ := (HN.out.below (below_step HB3.out hb4)).cell; have hq := (H.out.below (below_step HB3.out hb4)).cells.2.2.2.2.2.1; have HB14 := Aside0.mk (below_step HB13.out hb4); have HB4 := Aside0.mk (below_step HB3.out hb4); clear hb4)
    | (go_at_call 61; refine (cloneB (fun k => k ≠ g) A3 c3 x.f3 _ (Kd.F_below HFx.out HB4.out) (by omega)).mono ?_; rintro e w6 ⟨v6, rfl, hO6, hb6⟩; obtain ⟨A6, c6, rfl⟩ := O_slice hO6; have hb26 : Below w.heap.size w w6 := below_step HB4.out hb6; obtain ⟨hx0, hx1, hx2, hx3⟩ := (HN.out.below hb26).cell; have hfb := blk_frozen (HN.out.below hb26) 3; have HO6 := Aside0.mk hO6; have HB6 := Aside0.mk hb26; clear hO6 hb6 hb26))
  have hn6' : w6.heap[b1]? = some (.cells #[.string x.f0, .int .i64 x.f1, .int .i64 x.f2, .slice A3 x.f3.length c3] 31 (0, 0)) := HN.out.below HB6.out
  have hp6' : w6.heap[b0]? = some (.cells #[.pointer (some ⟨g, 0, none⟩)] 58 (0, 0)) := HP.out.below HB6.out
  have hn6 := blk_set hn6' 3 (.slice A6 x.f3.length c6)
  have hF6 : Kd.F (Kd.int .u8) w6 (fun k => w.heap.size ≤ k) A6 x.f3.length x.f3 := Kd.F_mono (O_F_own HO6.out) fun k hk => Nat.le_trans HB4.out.size (O_base HO6.out k hk.symm)
  have hb1w : b1 < w.heap.size := blk_lt HN.out
  have hgb : g ≠ b1 := by omega
  have hsz6 : w.heap.size ≤ w6.heap.size := HB6.out.size
  have hF7 : Kd.F (Kd.int .u8) (w6.setCell ⟨b1, 3, none⟩ (.slice A6 x.f3.length c6)) (fun k => w.heap.size ≤ k) A6 x.f3.length x.f3 := Kd.F_step hF6 fun k hk _ => Below.heap_setCell _ _ _ _ (show k ≠ b1 by omega)
  have hR7 : RepAt B g s (w6.setCell ⟨b1, 3, none⟩ (.slice A6 x.f3.length c6)) mv sv (.slice Ap s.pend.length cp) := H0.out.beside (H.out.below HB6.out) (HK0.out.trans (KeptG.of_below HB6.out)) hb1 (fun k hk => Below.heap_setCell _ _ _ _ hk) HE.out.1 HE.out.2.1 HE.out.2.2
  have hP7 : VarP (w6.setCell ⟨b1, 3, none⟩ (.slice A6 x.f3.length c6)) b0 g := (Below.heap_setCell _ _ _ _ (show b0 ≠ b1 from blk_ne hp6' hn6' (by decide))).trans hp6'
  have hN7 : VarW (w6.setCell ⟨b1, 3, none⟩ (.slice A6 x.f3.length c6)) b1 x A6 c6 := hn6
  have hB7 : BelS B w (w6.setCell ⟨b1, 3, none⟩ (.slice A6 x.f3.length c6)) := belowB_set (belowB_of hBw HB6.out) (hB0 _ hb1) 3 _
  have hs7 : w.heap.size ≤ (w6.setCell ⟨b1, 3, none⟩ (.slice A6 x.f3.length c6)).heap.size := by rw [World.size_setCell]; exact hsz6
  clear hn6 hF6 hp0 hx0 hx1 hx2 hx3 hfb
  generalize w6.setCell ⟨b1, 3, none⟩ (.slice A6 x.f3.length c6) = w7 at hF7 hR7 hP7 hN7 hB7 hs7 ⊢
  obtain ⟨i0, hi, hz0, hz1, hz2⟩ := info_parts info31
  obtain ⟨inner, hown, hreps⟩ := hR7.pend
  have hd7 : Below w7.heap.size w7 w7.drew := below_drew1 (Below.refl _ _)
  refine start_ (n := 11) (S := (fun w' => w'.cell? ⟨b0, 0, none⟩ = some (.pointer (some ⟨g, 0, none⟩)) ∧ w'.cell? ⟨g, 4, none⟩ = some (.slice Ap s.pend.length cp) ∧ w'.cell? ⟨b1, 0, none⟩ = some (.string x.f0) ∧ w'.cell? ⟨b1, 1, none⟩ = some (.int .i64 x.f1) ∧ w'.cell? ⟨b1, 2, none⟩ = some (.int .i64 x.f2) ∧ w'.cell? ⟨b1, 3, none⟩ = some (.slice A6 x.f3.length c6))) (ds := [10]) #[false, false, false, false, false, false, false, false, false, false, false] (by kernel_rfl) rfl rfl ⟨(hP7.below hd7).cell, (hR7.below hd7).cells.2.2.2.2.1, (hN7.below hd7).cell.1, (hN7.below hd7).cell.2.1, (hN7.below hd7).cell.2.2.1, (hN7.below hd7).cell.2.2.2⟩ (fun hHeld => ?_)
  refine take_ (i := 0) (N := some 59) (v := ?_) (a' := ?_) #[true, false, false, false, false, false, false, false, false, false, false] rfl rfl (by kernel_rfl) (fun _ _ _ h => h) (Or.inl ⟨by rfl, ?_⟩) hHeld ?_ ?_
  rotate_left
  · rintro w' ⟨s0, s1, s2, s3, s4, s5⟩
    go_simp
    with_reducible rfl
  rotate_left
  · simp only [Act.put, List.setIfInBounds_toArray, List.set_cons_zero, List.set_cons_succ, i64_w, i32_w]
    rfl
  refine take_ (i := 1) (N := some 60) (v := ?_) (a' := ?_) #[true, true, false, false, false, false, false, false, false, false, false] rfl rfl (by kernel_rfl) (fun _ _ _ h => h) (Or.inl ⟨by rfl, ?_⟩) hHeld ?_ ?_
  rotate_left
  · rintro w' ⟨s0, s1, s2, s3, s4, s5⟩
    go_simp
    with_reducible rfl
  rotate_left
  · simp only [Act.put, List.setIfInBounds_toArray, List.set_cons_zero, List.set_cons_succ, i64_w, i32_w]
    rfl
  refine pure_ (i := 2) (N := some 61) (v := ?_) (a' := ?_) #[true, true, true, false, false, false, false, false, false, false, false] rfl rfl (by kernel_rfl) (fun _ _ _ h => h) (Or.inl ⟨by rfl, ?_⟩) ?_ ?_
  rotate_left
  · intro w'
    go_simp
    with_reducible rfl
  rotate_left
  · simp only [Act.put, List.setIfInBounds_toArray, List.set_cons_zero, List.set_cons_succ, i64_w, i32_w]
    rfl
  refine pure_ (i := 3) (N := some 62) (v := ?_) (a' := ?_) #[true, true, true, true, false, false, false, false, false, false, false] rfl rfl (by kernel_rfl) (fun _ _ _ h => h) (Or.inl ⟨by rfl, ?_⟩) ?_ ?_
  rotate_left
  · intro w'
    go_simp
    with_reducible rfl
  rotate_left
  · simp only [Act.put, List.setIfInBounds_toArray, List.set_cons_zero, List.set_cons_succ, i64_w, i32_w]
    rfl
  refine take_ (i := 4) (N := some 63) (v := ?_) (a' := ?_) #[true, true, true, true, true, false, false, false, false, false, false] rfl rfl (by kernel_rfl) (fun _ _ _ h => h) (Or.inl ⟨by rfl, ?_⟩) hHeld ?_ ?_
  rotate_left
  · rintro w' ⟨s0, s1, s2, s3, s4, s5⟩
    go_simp
    with_reducible rfl
  rotate_left
  · simp only [Act.put, List.setIfInBounds_toArray, List.set_cons_zero, List.set_cons_succ, i64_w, i32_w]
    rfl
  refine take_ (i := 5) (N := some 64) (v := ?_) (a' := ?_) #[true, true, true, true, true, true, false, false, false, false, false] rfl rfl (by kernel_rfl) (fun _ _ _ h => h) (Or.inl ⟨by rfl, ?_⟩) hHeld ?_ ?_
  rotate_left
  · rintro w' ⟨s0, s1, s2, s3, s4, s5⟩
    go_simp
    with_reducible rfl
  rotate_left
  · simp only [Act.put, List.setIfInBounds_toArray, List.set_cons_zero, List.set_cons_succ, i64_w, i32_w]
    rfl
  refine one_ (i := 6) (N := some 65) #[true, true, true, true, true, true, true, false, false, false, false] rfl rfl (by kernel_rfl) (by decide) (fun K hK => ?_)
  refine value_ (w1 := w7.drew.alloc (Obj.cells #[.string x.f0, .int .i64 x.f1, .int .i64 x.f2, .slice A6 x.f3.length c6] 31)) (v := .slice (some ⟨w7.drew.heap.size, 0, none⟩) 1 1) (by rfl) rfl ?_ ?_
  · go_simp
  have h78 : Below w7.heap.size w7 (w7.drew.alloc (Obj.cells #[.string x.f0, .int .i64 x.f1, .int .i64 x.f2, .slice A6 x.f3.length c6] 31)) := below_alloc hd7 _
  have hN8 := (hN7.below h78).cell
  refine hK.out _ _ ⟨(hP7.below h78).cell, (hR7.below h78).cells.2.2.2.2.1, hN8.1, hN8.2.1, hN8.2.2.1, hN8.2.2.2⟩ (fun hHeld => ?_)
  clear hK K
  refine norm_ (a' := ?_) ?_ ?_
  rotate_left
  · show Act.put _ (some 65) _ = _
    simp only [Act.put, List.setIfInBounds_toArray, List.set_cons_zero, List.set_cons_succ, i64_w, i32_w]
    rfl
  refine one_ (i := 7) (N := some 66) #[true, true, true, true, true, true, true, true, false, false, false] rfl rfl (by kernel_rfl) (by decide) (fun K hK => ?_)
  refine step_append_lies _ (by rfl) _ _ _ (by rfl) 0 31 i0 _ 4 56 Try.underlying104 hi hz0 hz1 hz2 rfl (by omega) (.slice Ap s.pend.length cp) s.pend.length inner (by rfl) (pw_own_below hown h78) ⟨w7.drew.heap.size, 0, none⟩ 1 1 [.string x.f0, .int .i64 x.f1, .int .i64 x.f2, .slice A6 x.f3.length c6] (by rfl) (by rfl) (World.news_of_block (cs := #[.string x.f0, .int .i64 x.f1, .int .i64 x.f2, .slice A6 x.f3.length c6]) (t := 31) (fr := (0, 0)) (heap_alloc_new _ _)) (by simp [Value.oneCell']) (by omega) (by unfold maxLen; omega) (by omega) (Nat.zero_le _) _ rfl ?_
  intro gg cap w8 hown8 hgrow hat hlt8
  have hR8 := hR7.below h78
  have hP8 : ∀ b t (cs : Array Value) (f : Nat × Nat), (w7.drew.alloc (Obj.cells #[.string x.f0, .int .i64 x.f1, .int .i64 x.f2, .slice A6 x.f3.length c6] 31)).heap[b]? = some (Obj.cells cs t f) → some b ≠ (Value.slice Ap s.pend.length cp).ownBlock → w8.heap[b]? = some (Obj.cells cs t f) := fun b t cs f hb ht => (hgrow.block b (blk_lt hb) ht).trans hb
  have hne1 : some b1 ≠ (Value.slice Ap s.pend.length cp).ownBlock := fun he => by
    obtain ⟨inner0, hown0, _⟩ := H0.out.pend
    have := own_lt hown0 b1 he.symm
    omega
  have hp8 := hP8 _ _ _ _ (hP7.below h78) (fun he => by exact O_ne hR8.pend (hP7.below h78) (by decide) he.symm)
  have hn8 : VarW w8 b1 x A6 c6 := hP8 _ _ _ _ (hN7.below h78) hne1
  have hg8 := hP8 _ _ _ _ hR8.blk (fun he => hR8.pend_ne he.symm)
  have hN8' := hn8.cell
  refine hK.out _ _ ⟨VarP.cell hp8, by rw [cell_of_row w8 g _ _ 106 (0, 0) hg8]; rfl, hN8'.1, hN8'.2.1, hN8'.2.2.1, hN8'.2.2.2⟩ (fun hHeld => ?_)
  have hO8 : O k31 31 w8 0 (fun k => k ≠ g) (.slice (some ⟨gg, 0, none⟩) (s.pend.length + 1) cap) (s.pend ++ [x]) := by
    refine O_snoc31 (W := w7.drew.alloc (Obj.cells #[.string x.f0, .int .i64 x.f1, .int .i64 x.f2, .slice A6 x.f3.length c6] 31)) (v := .slice Ap s.pend.length cp) (hreps.imp_ fun y c' hy => Kd.FK_below hy h78) ?_ hown8 hgrow ?_
    · refine k31_mkF _ _ x (Kd.V_reads' (O_V HO6.out)).2.1 (Kd.F_mono (Kd.F_below hF7 h78) fun k hk => ⟨?_, fun he => ?_⟩)
      · have := HK0.out.1
        omega
      · obtain ⟨inner0, hown0, _⟩ := H0.out.pend
        have := own_lt hown0 k he.symm
        have := HK0.out.1
        omega
    · rcases hat with hat | hat
      · exact .inl hat.symm
      · exact .inr (by rw [hat]; rfl)
  have hR9 := hR8.setPend hO8 hgrow (hat.elim (fun h => .inl h.symm) (fun h => .inr ⟨gg, rfl, by rw [h]; exact Nat.le_refl _, (Up.le (Up.le hBw hs7) h78.size) _ (by rw [h]; exact Nat.le_refl _)⟩))
  have hB9 : BelS B w w8 := belowB_trans (belowB_trans hB7 (belowB_of (Up.le hBw hs7) h78)) ⟨hgrow.os, hgrow.tape, hgrow.output, hgrow.size, fun k hk hn => hgrow.block k hk (fun he => hn (hR8.own k he.symm))⟩
  clear hK K
  refine norm_ (a' := ?_) ?_ ?_
  rotate_left
  · show Act.put _ (some 66) _ = _
    simp only [Act.put, List.setIfInBounds_toArray, List.set_cons_zero, List.set_cons_succ, i64_w, i32_w]
    rfl
  refine pure_ (i := 8) (N := some 67) (v := ?_) (a' := ?_) #[true, true, true, true, true, true, true, true, true, false, false] rfl rfl (by kernel_rfl) (fun _ _ _ h => h) (Or.inl ⟨by rfl, ?_⟩) ?_ ?_
  rotate_left
  · intro w'
    go_simp
    with_reducible rfl
  rotate_left
  · simp only [Act.put, List.setIfInBounds_toArray, List.set_cons_zero, List.set_cons_succ, i64_w, i32_w]
    rfl
  refine pure_ (i := 9) (N := some 68) (v := ?_) (a' := ?_) #[true, true, true, true, true, true, true, true, true, true, false] rfl rfl (by kernel_rfl) (fun _ _ _ h => h) (Or.inl ⟨by rfl, ?_⟩) ?_ ?_
  rotate_left
  · intro w'
    go_simp
    with_reducible rfl
  rotate_left
  · simp only [Act.put, List.setIfInBounds_toArray, List.set_cons_zero, List.set_cons_succ, i64_w, i32_w]
    rfl
  refine last_ (i := 10) (N := none) #[true, true, true, true, true, true, true, true, true, true, true] rfl rfl (by kernel_rfl) (by decide) (fun K hK => ?_)
  have hfr := blk_frozen hg8 4
  have hcl : w8.cell? ⟨g, 4, none⟩ = some (.slice Ap s.pend.length cp) := by rw [cell_of_row w8 g _ _ 106 (0, 0) hg8]; rfl
  refine skip_ (w1 := ?_) (by rfl) rfl ?_ ?_
  rotate_left
  · go_simp
    rfl
  refine hK.out _ _ ?_
  clear hK K
  refine done_ (by kernel_rfl) ?_
  have hp9 : VarP (w8.setCell ⟨g, 4, none⟩ (.slice (some ⟨gg, 0, none⟩) (s.pend.length + 1) cap)) b0 g := VarP.set hp8 hg8
  have hB10 := belowB_set hB9 H0.out.hg 4 (.slice (some ⟨gg, 0, none⟩) (s.pend.length + 1) cap)
  have HBS := Aside0.mk hB10
  clear hfr hcl hHeld hO8 hown8 hgrow hat hlt8 hreps hown hN8 hN8' hn8 hg8 hp8 hP8 hB9 hB10 hB7 hF7 hR8 hR7 hP7 hN7 h78 hd7 hi hz0 hz1 hz2
  go_wp2_with fail
  generalize w8.setCell ⟨g, 4, none⟩ (.slice (some ⟨gg, 0, none⟩) (s.pend.length + 1) cap) = w9 at hp9 hR9 HBS ⊢
  have hd9 : Below w9.heap.size w9 w9.drew := below_drew1 (Below.refl _ _)
  have hp9d := (hp9.below hd9).cell
  have hc6d := (hR9.below hd9).cells.2.2.2.2.2.2.1
  refine start_ (n := 10) (S := (fun w' => w'.cell? ⟨b0, 0, none⟩ = some (.pointer (some ⟨g, 0, none⟩)) ∧ w'.cell? ⟨g, 6, none⟩ = some (.int .i64 s.peak))) (ds := [9]) #[false, false, false, false, false, false, false, false, false, false] (by kernel_rfl) rfl rfl ⟨hp9d, hc6d⟩ (fun hHeld => ?_)
  refine pure_ (i := 5) (N := some 74) (v := ?_) (a' := ?_) #[false, false, false, false, false, true, false, false, false, false] rfl rfl (by kernel_rfl) (fun _ _ _ h => h) (Or.inl ⟨by rfl, ?_⟩) ?_ ?_
  rotate_left
  · intro w'
    go_simp
    with_reducible rfl
  rotate_left
  · simp only [Act.put, List.setIfInBounds_toArray, List.set_cons_zero, List.set_cons_succ, i64_w, i32_w]
    rfl
  refine take_ (i := 0) (N := some 69) (v := ?_) (a' := ?_) #[true, false, false, false, false, true, false, false, false, false] rfl rfl (by kernel_rfl) (fun _ _ _ h => h) (Or.inl ⟨by rfl, ?_⟩) hHeld ?_ ?_
  rotate_left
  · rintro w' ⟨s0, s1⟩
    go_simp
    with_reducible rfl
  rotate_left
  · simp only [Act.put, List.setIfInBounds_toArray, List.set_cons_zero, List.set_cons_succ, i64_w, i32_w]
    rfl
  refine take_ (i := 1) (N := some 70) (v := ?_) (a' := ?_) #[true, true, false, false, false, true, false, false, false, false] rfl rfl (by kernel_rfl) (fun _ _ _ h => h) (Or.inl ⟨by rfl, ?_⟩) hHeld ?_ ?_
  rotate_left
  · rintro w' ⟨s0, s1⟩
    go_simp
    with_reducible rfl
  rotate_left
  · simp only [Act.put, List.setIfInBounds_toArray, List.set_cons_zero, List.set_cons_succ, i64_w, i32_w]
    rfl
  refine pure_ (i := 2) (N := some 71) (v := ?_) (a' := ?_) #[true, true, true, false, false, true, false, false, false, false] rfl rfl (by kernel_rfl) (fun _ _ _ h => h) (Or.inl ⟨by rfl, ?_⟩) ?_ ?_
  rotate_left
  · intro w'
    go_simp
    with_reducible rfl
  rotate_left
  · simp only [Act.put, List.setIfInBounds_toArray, List.set_cons_zero, List.set_cons_succ, i64_w, i32_w]
    rfl
  refine pure_ (i := 3) (N := some 72) (v := ?_) (a' := ?_) #[true, true, true, true, false, true, false, false, false, false] rfl rfl (by kernel_rfl) (fun _ _ _ h => h) (Or.inl ⟨by rfl, ?_⟩) ?_ ?_
  rotate_left
  · intro w'
    go_simp
    with_reducible rfl
  rotate_left
  · simp only [Act.put, List.setIfInBounds_toArray, List.set_cons_zero, List.set_cons_succ, i64_w, i32_w]
    rfl
  refine take_ (i := 4) (N := some 73) (v := ?_) (a' := ?_) #[true, true, true, true, true, true, false, false, false, false] rfl rfl (by kernel_rfl) (fun _ _ _ h => h) (Or.inl ⟨by rfl, ?_⟩) hHeld ?_ ?_
  rotate_left
  · rintro w' ⟨s0, s1⟩
    go_simp
    with_reducible rfl
  rotate_left
  · simp only [Act.put, List.setIfInBounds_toArray, List.set_cons_zero, List.set_cons_succ, i64_w, i32_w]
    rfl
  refine pure_ (i := 6) (N := some 75) (v := ?_) (a' := ?_) #[true, true, true, true, true, true, true, false, false, false] rfl rfl (by kernel_rfl) (fun _ _ _ h => h) (Or.inl ⟨by rfl, ?_⟩) ?_ ?_
  rotate_left
  · intro w'
    go_simp
    with_reducible rfl
  rotate_left
  · simp only [Act.put, List.setIfInBounds_toArray, List.set_cons_zero, List.set_cons_succ, i64_w, i32_w]
    rfl
  refine pure_ (i := 7) (N := some 76) (v := ?_) (a' := ?_) #[true, true, true, true, true, true, true, true, false, false] rfl rfl (by kernel_rfl) (fun _ _ _ h => h) (Or.inl ⟨by rfl, ?_⟩) ?_ ?_
  rotate_left
  · intro w'
    go_simp
    with_reducible rfl
  rotate_left
  · simp only [Act.put, List.setIfInBounds_toArray, List.set_cons_zero, List.set_cons_succ, i64_w, i32_w]
    rfl
  refine pure_ (i := 8) (N := some 77) (v := ?_) (a' := ?_) #[true, true, true, true, true, true, true, true, true, false] rfl rfl (by kernel_rfl) (fun _ _ _ h => h) (Or.inl ⟨by rfl, ?_⟩) ?_ ?_
  rotate_left
  · intro w'
    go_simp
    with_reducible rfl
  rotate_left
  · simp only [Act.put, List.setIfInBounds_toArray, List.set_cons_zero, List.set_cons_succ, i64_w, i32_w]
    rfl
  refine last_ (i := 9) (N := none) #[true, true, true, true, true, true, true, true, true, true] rfl rfl (by kernel_rfl) (by decide) (fun K hK => ?_)
  have hfr := blk_frozen (hR9.below hd9).blk 6
  have hcl := hc6d
  refine skip_ (w1 := ?_) (by rfl) rfl ?_ ?_
  rotate_left
  · go_simp
    rfl
  refine hK.out _ _ ?_
  clear hK K
  refine done_ (by kernel_rfl) ?_
  have hend : RepAt B g { s with pend := s.pend ++ [x], peak := mx s.peak (sizeF n2) } (w9.drew.setCell ⟨g, 6, none⟩ (.int .i64 (mx s.peak (sizeF n2)))) mv sv (.slice (some ⟨gg, 0, none⟩) (s.pend.length + 1) cap) :=
    (hR9.below hd9).upd (fun k _ hk => Below.heap_setCell _ _ _ _ hk) (blk_set (hR9.below hd9).blk 6 _) rfl rfl rfl
  have hBe : BelS B w (w9.drew.setCell ⟨g, 6, none⟩ (.int .i64 (mx s.peak (sizeF n2)))) := belowB_set (belowB_trans HBS.out (belowB_of (Up.le hBw HBS.out.size) hd9)) H0.out.hg 6 _
  go_wp2_with fail
  all_goals go_ret
  · have hm : mx s.peak (sizeF n2) = sizeF n2 := by unfold mx; split <;> omega
    rw [hm] at hend hBe
    exact ⟨0, rfl, rfl, ⟨_, _, _, by rw [hm]; exact hend⟩, hBe⟩
  · have hm : mx s.peak (sizeF n2) = s.peak := by unfold mx; split <;> omega
    rw [hm] at hend hBe
    exact ⟨0, rfl, rfl, ⟨_, _, _, by rw [hm]; exact hend⟩, hBe⟩
end
end Go.Proofs.Ytcgeioingikeeaa.P
namespace Go.Proofs.Ytcgeioingikeeaa.P
open Go.RowKit Go.Proofs.YtcgeioingikeeaaW.PrintWords Go.Proofs.YtcgeioingikeeaaW.PrintLast Go.Proofs.YtcgeioingikeeaaW.PrintMore
set_option linter.unusedVariables false
set_option linter.unusedSimpArgs false
section
variable {B : Nat → Prop} {g : Nat} {s : SSt} {w : World} {mv sv pv : Value}
set_option maxHeartbeats 4000000 in
set_option maxRecDepth 100000 in
theorem do1_less_f (x : S31) (A3 : Option Addr) (c3 b0 b1 : Nat) {s0 : SSt} {w0 : World} (h0 : RepAt B g s0 w0 mv sv pv) (hk0 : KeptG g w0 w) (hb1 : w0.heap.size ≤ b1) (hB0 : Up B w0.heap.size) (e1 : s.safe = s0.safe) (e2 : s.pend = s0.pend) (e3 : s.fails = s0.fails)
    (h : RepAt B g s w mv sv pv) (hf : Fit s) (hx : x.f3.length ≤ 1000) (hp : VarP w b0 g) (hn : VarW w b1 x A3 c3) (hF : Kd.F (Kd.int .u8) w (fun k => k ≠ g) A3 x.f3.length x.f3) (hc3 : x.f3.length ≤ c3) (hok : (getT (filesOf s) x.f0).2 = false) (h2 : x.f1 ≠ 2) (h3 : x.f1 ≠ 3) (he : (doT (filesOf s) x (-1)).2 = 0) (hq1 : s.quota < sizeF (doT (filesOf s) x (-1)).1) (hq4 : ¬ sizeF (filesOf s) < sizeF (doT (filesOf s) x (-1)).1) :
    Calls Try.prog 91 #[.pointer (some ⟨b0, 0, none⟩), .pointer (some ⟨b1, 0, none⟩)] w fun e w' => ∃ r, e = .returned (.int .i64 r) ∧ r = (doB s x).2 ∧ Rep B g (doB s x).1 w' ∧ BelS B w w' := by
  obtain ⟨Ap, cp, rfl⟩ := O_slice h.pend
  have hBw : Up B w.heap.size := Up.le hB0 hk0.1
  have hg0 : g < w0.heap.size := blk_lt h0.blk
  have hlen := hf.len
  have hfl : okL (filesOf s) ∧ (filesOf s).length ≤ 1000 := files_ok hf
  have hget := get_f (filesOf s) x.f0 (by omega) hfl.1
  have hdo := doT_f (filesOf s) x (-1) (by omega) hfl.1 (by omega)
  have hdk := doT_ok (filesOf s) x (-1) hfl.1
  obtain ⟨kz, hkz⟩ := size_f (filesOf s) (by omega)
  have hno : ¬ ((getT (filesOf s) x.f0).2 = false ∧ (x.f1 = 2 ∨ x.f1 = 3)) := by simp [h2, h3]
  have hq2 : (x.f1 == 2) = false := by simpa using h2
  have hq3 : (x.f1 == 3) = false := by simpa using h3
  rw [hok] at hget
  have hE : doE s x = 0 := by unfold doE; rw [if_neg hno, if_neg (by simp [he]), if_neg (fun h => hq4 h.2)]
  have hB : doB s x = ({ s with pend := s.pend ++ [x], peak := mx s.peak (sizeF (doT (filesOf s) x (-1)).1) }, 0) := by unfold doB; rw [if_pos hE]
  rw [hB]
  obtain ⟨⟨n2, r2⟩, hdr⟩ : ∃ r, doT (filesOf s) x (-1) = r := ⟨_, rfl⟩
  rw [hdr] at hdo hdk he hq1 hq4 ⊢
  simp only at hdo hdk he hq1 hq4 ⊢
  obtain rfl := he
  have hn2 := (hdk rfl).2
  obtain ⟨kd, hkd⟩ := size_f n2 (by omega)
  have HKD := Aside0.mk hkd
  have HEB := Aside0.mk (And.intro hE hB)
  have HDR := Aside0.mk hdr
  clear hok hno h2 h3 hE hB hdr hkd
  have hp0 := hp.cell
  obtain ⟨hx0, hx1, hx2, hx3⟩ := hn.cell
  have H := Aside0.mk h
  have H0 := Aside0.mk h0
  have HK0 := Aside0.mk hk0
  have HE := Aside0.mk (And.intro e1 (And.intro e2 e3))
  have HF := Aside0.mk hf
  have HP := Aside0.mk hp
  have HN := Aside0.mk hn
  have HFx := Aside0.mk hF
  have HGET := Aside0.mk hget
  have HDO := Aside0.mk hdo
  have HDK := Aside0.mk hdk
  have HKZ := Aside0.mk hkz
  clear h h0 hk0 hf hp hn hF hget hdo hdk hkz e1 e2 e3
  go_enter Try.func91, Try.ntmps91
  go_wp2_with (first
    | (go_at_call 42; refine (files_calls ⟨mv, sv, _, H.out⟩ HF.out).mono ?_; rintro e w1 ⟨v1, rfl, hV1, hb1w⟩; obtain ⟨A1, c1, rfl⟩ := Kd.V_slice hV1; obtain ⟨hx0, hx1, hx2, hx3⟩ := (HN.out.below hb1w).cell; have HV1 := Aside0.mk hV1; have HB1 := Aside0.mk hb1w; clear hV1 hb1w)
    | (go_at_call 28; refine (files_Get.calls A1 c1 (filesOf s) x.f0 _ _ _ (Kd.V_reads' HV1.out).2.2 (Kd.V_reads' HV1.out).2.1 HGET.out).mono ?_; rintro e w2 ⟨v2, rfl, hR2, hb2⟩; obtain ⟨A2, c2, rfl⟩ := Kd.R_slice hR2; obtain ⟨hx0, hx1, hx2, hx3⟩ := (HN.out.below (below_step HB1.out hb2)).cell; have HB12 := Aside0.mk hb2; have HB2 := Aside0.mk (below_step HB1.out hb2); clear hR2 hb2)
    | (go_at_call 17; refine (files_Do.calls (fun k => w.heap.size ≤ k) A1 c1 (filesOf s) x.f0 x.f1 x.f2 A3 c3 x.f3 (-1) _ _ _ (V_base (Kd.V_below HV1.out HB12.out)) (Kd.F_now (Kd.F_below HFx.out HB2.out)) hc3 HDO.out).mono ?_; rintro e w3 ⟨v3, rfl, hV3, hb3⟩; obtain ⟨A4, c4, rfl⟩ := Kd.V_slice hV3; have hp0 := (HP.out.below (below_step HB2.out hb3)).cell; obtain ⟨hx0, hx1, hx2, hx3⟩ := (HN.out.below (below_step HB2.out hb3)).cell; have HV3 := Aside0.mk hV3; have HB13 := Aside0.mk (below_step HB12.out hb3); have HB3 := Aside0.mk (below_step HB2.out hb3); clear hV3 hb3)
    | (go_at_call 35; with_reducible refine (files_Size.calls kd A4 c4 _ (sizeF n2) _ (Kd.V_reads' HV3.out).2.2 (Kd.V_reads' HV3.out).2.1 HKD.out).mono ?_; rintro e w4 ⟨rfl, hb4⟩; have hp0 := (HP.out.below (below_step HB3.out hb4)).cell; obtain ⟨hx0, hx1, hx2, hx3⟩ := (HN.out.below (below_step HB3.out hb4)).cell; have hq := (H.out.below (below_step HB3.out hb4)).cells.2.2.2.2.2.1; have HB14 := Aside0.mk (below_step HB13.out hb4); have HB4 := Aside0.mk (below_step HB3.out hb4); clear hb4)
    | (go_at_call 35; with_reducible refine (files_Size.calls kz A1 c1 _ (sizeF (filesOf s)) _ (Kd.V_reads' (Kd.V_below HV1.out HB14.out)).2.2 (Kd.V_reads' HV1.out).2.1 HKZ.out).mono ?_; rintro e w5 ⟨rfl, hb5⟩; have HB5 := Aside0.mk (below_step HB4.out hb5); obtain ⟨hx0, hx1, hx2, hx3⟩ := (HN.out.below (below_step HB4.out hb5)).cell; clear hb5)
    | (go_at_call 61; refine (cloneB (fun k => k ≠ g) A3 c3 x.f3 _ (Kd.F_below HFx.out HB5.out) (by omega)).mono ?_; rintro e w6 ⟨v6, rfl, hO6, hb6⟩; obtain ⟨A6, c6, rfl⟩ := O_slice hO6; have hb26 : Below w.heap.size w w6 := below_step HB5.out hb6; obtain ⟨hx0, hx1, hx2, hx3⟩ := (HN.out.below hb26).cell; have hfb := blk_frozen (HN.out.below hb26) 3; have HO6 := Aside0.mk hO6; have HB6 := Aside0.mk hb26; clear hO6 hb6 hb26))
  have hn6' : w6.heap[b1]? = some (.cells #[.string x.f0, .int .i64 x.f1, .int .i64 x.f2, .slice A3 x.f3.length c3] 31 (0, 0)) := HN.out.below HB6.out
  have hp6' : w6.heap[b0]? = some (.cells #[.pointer (some ⟨g, 0, none⟩)] 58 (0, 0)) := HP.out.below HB6.out
  have hn6 := blk_set hn6' 3 (.slice A6 x.f3.length c6)
  have hF6 : Kd.F (Kd.int .u8) w6 (fun k => w.heap.size ≤ k) A6 x.f3.length x.f3 := Kd.F_mono (O_F_own HO6.out) fun k hk => Nat.le_trans HB5.out.size (O_base HO6.out k hk.symm)
  have hb1w : b1 < w.heap.size := blk_lt HN.out
  have hgb : g ≠ b1 := by omega
  have hsz6 : w.heap.size ≤ w6.heap.size := HB6.out.size
  have hF7 : Kd.F (Kd.int .u8) (w6.setCell ⟨b1, 3, none⟩ (.slice A6 x.f3.length c6)) (fun k => w.heap.size ≤ k) A6 x.f3.length x.f3 := Kd.F_step hF6 fun k hk _ => Below.heap_setCell _ _ _ _ (show k ≠ b1 by omega)
  have hR7 : RepAt B g s (w6.setCell ⟨b1, 3, none⟩ (.slice A6 x.f3.length c6)) mv sv (.slice Ap s.pend.length cp) := H0.out.beside (H.out.below HB6.out) (HK0.out.trans (KeptG.of_below HB6.out)) hb1 (fun k hk => Below.heap_setCell _ _ _ _ hk) HE.out.1 HE.out.2.1 HE.out.2.2
  have hP7 : VarP (w6.setCell ⟨b1, 3, none⟩ (.slice A6 x.f3.length c6)) b0 g := (Below.heap_setCell _ _ _ _ (show b0 ≠ b1 from blk_ne hp6' hn6' (by decide))).trans hp6'
  have hN7 : VarW (w6.setCell ⟨b1, 3, none⟩ (.slice A6 x.f3.length c6)) b1 x A6 c6 := hn6
  have hB7 : BelS B w (w6.setCell ⟨b1, 3, none⟩ (.slice A6 x.f3.length c6)) := belowB_set (belowB_of hBw HB6.out) (hB0 _ hb1) 3 _
  have hs7 : w.heap.size ≤ (w6.setCell ⟨b1, 3, none⟩ (.slice A6 x.f3.length c6)).heap.size := by rw [World.size_setCell]; exact hsz6
  clear hn6 hF6 hp0 hx0 hx1 hx2 hx3 hfb
  generalize w6.setCell ⟨b1, 3, none⟩ (.slice A6 x.f3.length c6) = w7 at hF7 hR7 hP7 hN7 hB7 hs7 ⊢
  obtain ⟨i0, hi, hz0, hz1, hz2⟩ := info_parts info31
  obtain ⟨inner, hown, hreps⟩ := hR7.pend
  have hd7 : Below w7.heap.size w7 w7.drew := below_drew1 (Below.refl _ _)
  refine start_ (n := 11) (S := (fun w' => w'.cell? ⟨b0, 0, none⟩ = some (.pointer (some ⟨g, 0, none⟩)) ∧ w'.cell? ⟨g, 4, none⟩ = some (.slice Ap s.pend.length cp) ∧ w'.cell? ⟨b1, 0, none⟩ = some (.string x.f0) ∧ w'.cell? ⟨b1, 1, none⟩ = some (.int .i64 x.f1) ∧ w'.cell? ⟨b1, 2, none⟩ = some (.int .i64 x.f2) ∧ w'.cell? ⟨b1, 3, none⟩ = some (.slice A6 x.f3.length c6))) (ds := [10]) #[false, false, false, false, false, false, false, false, false, false, false] (by kernel_rfl) rfl rfl ⟨(hP7.below hd7).cell, (hR7.below hd7).cells.2.2.2.2.1, (hN7.below hd7).cell.1, (hN7.below hd7).cell.2.1, (hN7.below hd7).cell.2.2.1, (hN7.below hd7).cell.2.2.2⟩ (fun hHeld => ?_)
  refine take_ (i := 0) (N := some 59) (v := ?_) (a' := ?_) #[true, false, false, false, false, false, false, false, false, false, false] rfl rfl (by kernel_rfl) (fun _ _ _ h => h) (Or.inl ⟨by rfl, ?_⟩) hHeld ?_ ?_
  rotate_left
  · rintro w' ⟨s0, s1, s2, s3, s4, s5⟩
    go_simp
    with_reducible rfl
  rotate_left
  · simp only [Act.put, List.setIfInBounds_toArray, List.set_cons_zero, List.set_cons_succ, i64_w, i32_w]
    rfl
  refine take_ (i := 1) (N := some 60) (v := ?_) (a' := ?_) #[true, true, false, false, false, false, false, false, false, false, false] rfl rfl (by kernel_rfl) (fun _ _ _ h => h) (Or.inl ⟨by rfl, ?_⟩) hHeld ?_ ?_
  rotate_left
  · rintro w' ⟨s0, s1, s2, s3, s4, s5⟩
    go_simp
    with_reducible rfl
  rotate_left
  · simp only [Act.put, List.setIfInBounds_toArray, List.set_cons_zero, List.set_cons_succ, i64_w, i32_w]
    rfl
  refine pure_ (i := 2) (N := some 61) (v := ?_) (a' := ?_) #[true, true, true, false, false, false, false, false, false, false, false] rfl rfl (by kernel_rfl) (fun _ _ _ h => h) (Or.inl ⟨by rfl, ?_⟩) ?_ ?_
  rotate_left
  · intro w'
    go_simp
    with_reducible rfl
  rotate_left
  · simp only [Act.put, List.setIfInBounds_toArray, List.set_cons_zero, List.set_cons_succ, i64_w, i32_w]
    rfl
  refine pure_ (i := 3) (N := some 62) (v := ?_) (a' := ?_) #[true, true, true, true, false, false, false, false, false, false, false] rfl rfl (by kernel_rfl) (fun _ _ _ h => h) (Or.inl ⟨by rfl, ?_⟩) ?_ ?_
  rotate_left
  · intro w'
    go_simp
    with_reducible rfl
  rotate_left
  · simp only [Act.put, List.setIfInBounds_toArray, List.set_cons_zero, List.set_cons_succ, i64_w, i32_w]
    rfl
  refine take_ (i := 4) (N := some 63) (v := ?_) (a' := ?_) #[true, true, true, true, true, false, false, false, false, false, false] rfl rfl (by kernel_rfl) (fun _ _ _ h => h) (Or.inl ⟨by rfl, ?_⟩) hHeld ?_ ?_
  rotate_left
  · rintro w' ⟨s0, s1, s2, s3, s4, s5⟩
    go_simp
    with_reducible rfl
  rotate_left
  · simp only [Act.put, List.setIfInBounds_toArray, List.set_cons_zero, List.set_cons_succ, i64_w, i32_w]
    rfl
  refine take_ (i := 5) (N := some 64) (v := ?_) (a' := ?_) #[true, true, true, true, true, true, false, false, false, false, false] rfl rfl (by kernel_rfl) (fun _ _ _ h => h) (Or.inl ⟨by rfl, ?_⟩) hHeld ?_ ?_
  rotate_left
  · rintro w' ⟨s0, s1, s2, s3, s4, s5⟩
    go_simp
    with_reducible rfl
  rotate_left
  · simp only [Act.put, List.setIfInBounds_toArray, List.set_cons_zero, List.set_cons_succ, i64_w, i32_w]
    rfl
  refine one_ (i := 6) (N := some 65) #[true, true, true, true, true, true, true, false, false, false, false] rfl rfl (by kernel_rfl) (by decide) (fun K hK => ?_)
  refine value_ (w1 := w7.drew.alloc (Obj.cells #[.string x.f0, .int .i64 x.f1, .int .i64 x.f2, .slice A6 x.f3.length c6] 31)) (v := .slice (some ⟨w7.drew.heap.size, 0, none⟩) 1 1) (by rfl) rfl ?_ ?_
  · go_simp
  have h78 : Below w7.heap.size w7 (w7.drew.alloc (Obj.cells #[.string x.f0, .int .i64 x.f1, .int .i64 x.f2, .slice A6 x.f3.length c6] 31)) := below_alloc hd7 _
  have hN8 := (hN7.below h78).cell
  refine hK.out _ _ ⟨(hP7.below h78).cell, (hR7.below h78).cells.2.2.2.2.1, hN8.1, hN8.2.1, hN8.2.2.1, hN8.2.2.2⟩ (fun hHeld => ?_)
  clear hK K
  refine norm_ (a' := ?_) ?_ ?_
  rotate_left
  · show Act.put _ (some 65) _ = _
    simp only [Act.put, List.setIfInBounds_toArray, List.set_cons_zero, List.set_cons_succ, i64_w, i32_w]
    rfl
  refine one_ (i := 7) (N := some 66) #[true, true, true, true, true, true, true, true, false, false, false] rfl rfl (by kernel_rfl) (by decide) (fun K hK => ?_)
  refine step_append_lies _ (by rfl) _ _ _ (by rfl) 0 31 i0 _ 4 56 Try.underlying104 hi hz0 hz1 hz2 rfl (by omega) (.slice Ap s.pend.length cp) s.pend.length inner (by rfl) (pw_own_below hown h78) ⟨w7.drew.heap.size, 0, none⟩ 1 1 [.string x.f0, .int .i64 x.f1, .int .i64 x.f2, .slice A6 x.f3.length c6] (by rfl) (by rfl) (World.news_of_block (cs := #[.string x.f0, .int .i64 x.f1, .int .i64 x.f2, .slice A6 x.f3.length c6]) (t := 31) (fr := (0, 0)) (heap_alloc_new _ _)) (by simp [Value.oneCell']) (by omega) (by unfold maxLen; omega) (by omega) (Nat.zero_le _) _ rfl ?_
  intro gg cap w8 hown8 hgrow hat hlt8
  have hR8 := hR7.below h78
  have hP8 : ∀ b t (cs : Array Value) (f : Nat × Nat), (w7.drew.alloc (Obj.cells #[.string x.f0, .int .i64 x.f1, .int .i64 x.f2, .slice A6 x.f3.length c6] 31)).heap[b]? = some (Obj.cells cs t f) → some b ≠ (Value.slice Ap s.pend.length cp).ownBlock → w8.heap[b]? = some (Obj.cells cs t f) := fun b t cs f hb ht => (hgrow.block b (blk_lt hb) ht).trans hb
  have hne1 : some b1 ≠ (Value.slice Ap s.pend.length cp).ownBlock := fun he => by
    obtain ⟨inner0, hown0, _⟩ := H0.out.pend
    have := own_lt hown0 b1 he.symm
    omega
  have hp8 := hP8 _ _ _ _ (hP7.below h78) (fun he => by exact O_ne hR8.pend (hP7.below h78) (by decide) he.symm)
  have hn8 : VarW w8 b1 x A6 c6 := hP8 _ _ _ _ (hN7.below h78) hne1
  have hg8 := hP8 _ _ _ _ hR8.blk (fun he => hR8.pend_ne he.symm)
  have hN8' := hn8.cell
  refine hK.out _ _ ⟨VarP.cell hp8, by rw [cell_of_row w8 g _ _ 106 (0, 0) hg8]; rfl, hN8'.1, hN8'.2.1, hN8'.2.2.1, hN8'.2.2.2⟩ (fun hHeld => ?_)
  have hO8 : O k31 31 w8 0 (fun k => k ≠ g) (.slice (some ⟨gg, 0, none⟩) (s.pend.length + 1) cap) (s.pend ++ [x]) := by
    refine O_snoc31 (W := w7.drew.alloc (Obj.cells #[.string x.f0, .int .i64 x.f1, .int .i64 x.f2, .slice A6 x.f3.length c6] 31)) (v := .slice Ap s.pend.length cp) (hreps.imp_ fun y c' hy => Kd.FK_below hy h78) ?_ hown8 hgrow ?_
    · refine k31_mkF _ _ x (Kd.V_reads' (O_V HO6.out)).2.1 (Kd.F_mono (Kd.F_below hF7 h78) fun k hk => ⟨?_, fun he => ?_⟩)
      · have := HK0.out.1
        omega
      · obtain ⟨inner0, hown0, _⟩ := H0.out.pend
        have := own_lt hown0 k he.symm
        have := HK0.out.1
        omega
    · rcases hat with hat | hat
      · exact .inl hat.symm
      · exact .inr (by rw [hat]; rfl)
  have hR9 := hR8.setPend hO8 hgrow (hat.elim (fun h => .inl h.symm) (fun h => .inr ⟨gg, rfl, by rw [h]; exact Nat.le_refl _, (Up.le (Up.le hBw hs7) h78.size) _ (by rw [h]; exact Nat.le_refl _)⟩))
  have hB9 : BelS B w w8 := belowB_trans (belowB_trans hB7 (belowB_of (Up.le hBw hs7) h78)) ⟨hgrow.os, hgrow.tape, hgrow.output, hgrow.size, fun k hk hn => hgrow.block k hk (fun he => hn (hR8.own k he.symm))⟩
  clear hK K
  refine norm_ (a' := ?_) ?_ ?_
  rotate_left
  · show Act.put _ (some 66) _ = _
    simp only [Act.put, List.setIfInBounds_toArray, List.set_cons_zero, List.set_cons_succ, i64_w, i32_w]
    rfl
  refine pure_ (i := 8) (N := some 67) (v := ?_) (a' := ?_) #[true, true, true, true, true, true, true, true, true, false, false] rfl rfl (by kernel_rfl) (fun _ _ _ h => h) (Or.inl ⟨by rfl, ?_⟩) ?_ ?_
  rotate_left
  · intro w'
    go_simp
    with_reducible rfl
  rotate_left
  · simp only [Act.put, List.setIfInBounds_toArray, List.set_cons_zero, List.set_cons_succ, i64_w, i32_w]
    rfl
  refine pure_ (i := 9) (N := some 68) (v := ?_) (a' := ?_) #[true, true, true, true, true, true, true, true, true, true, false] rfl rfl (by kernel_rfl) (fun _ _ _ h => h) (Or.inl ⟨by rfl, ?_⟩) ?_ ?_
  rotate_left
  · intro w'
    go_simp
    with_reducible rfl
  rotate_left
  · simp only [Act.put, List.setIfInBounds_toArray, List.set_cons_zero, List.set_cons_succ, i64_w, i32_w]
    rfl
  refine last_ (i := 10) (N := none) #[true, true, true, true, true, true, true, true, true, true, true] rfl rfl (by kernel_rfl) (by decide) (fun K hK => ?_)
  have hfr := blk_frozen hg8 4
  have hcl : w8.cell? ⟨g, 4, none⟩ = some (.slice Ap s.pend.length cp) := by rw [cell_of_row w8 g _ _ 106 (0, 0) hg8]; rfl
  refine skip_ (w1 := ?_) (by rfl) rfl ?_ ?_
  rotate_left
  · go_simp
    rfl
  refine hK.out _ _ ?_
  clear hK K
  refine done_ (by kernel_rfl) ?_
  have hp9 : VarP (w8.setCell ⟨g, 4, none⟩ (.slice (some ⟨gg, 0, none⟩) (s.pend.length + 1) cap)) b0 g := VarP.set hp8 hg8
  have hB10 := belowB_set hB9 H0.out.hg 4 (.slice (some ⟨gg, 0, none⟩) (s.pend.length + 1) cap)
  have HBS := Aside0.mk hB10
  clear hfr hcl hHeld hO8 hown8 hgrow hat hlt8 hreps hown hN8 hN8' hn8 hg8 hp8 hP8 hB9 hB10 hB7 hF7 hR8 hR7 hP7 hN7 h78 hd7 hi hz0 hz1 hz2
  go_wp2_with fail
  generalize w8.setCell ⟨g, 4, none⟩ (.slice (some ⟨gg, 0, none⟩) (s.pend.length + 1) cap) = w9 at hp9 hR9 HBS ⊢
  have hd9 : Below w9.heap.size w9 w9.drew := below_drew1 (Below.refl _ _)
  have hp9d := (hp9.below hd9).cell
  have hc6d := (hR9.below hd9).cells.2.2.2.2.2.2.1
  refine start_ (n := 10) (S := (fun w' => w'.cell? ⟨b0, 0, none⟩ = some (.pointer (some ⟨g, 0, none⟩)) ∧ w'.cell? ⟨g, 6, none⟩ = some (.int .i64 s.peak))) (ds := [9]) #[false, false, false, false, false, false, false, false, false, false] (by kernel_rfl) rfl rfl ⟨hp9d, hc6d⟩ (fun hHeld => ?_)
  refine pure_ (i := 5) (N := some 74) (v := ?_) (a' := ?_) #[false, false, false, false, false, true, false, false, false, false] rfl rfl (by kernel_rfl) (fun _ _ _ h => h) (Or.inl ⟨by rfl, ?_⟩) ?_ ?_
  rotate_left
  · intro w'
    go_simp
    with_reducible rfl
  rotate_left
  · simp only [Act.put, List.setIfInBounds_toArray, List.set_cons_zero, List.set_cons_succ, i64_w, i32_w]
    rfl
  refine take_ (i := 0) (N := some 69) (v := ?_) (a' := ?_) #[true, false, false, false, false, true, false, false, false, false] rfl rfl (by kernel_rfl) (fun _ _ _ h => h) (Or.inl ⟨by rfl, ?_⟩) hHeld ?_ ?_
  rotate_left
  · rintro w' ⟨s0, s1⟩
    go_simp
    with_reducible rfl
  rotate_left
  · simp only [Act.put, List.setIfInBounds_toArray, List.set_cons_zero, List.set_cons_succ, i64_w, i32_w]
    rfl
  refine take_ (i := 1) (N := some 70) (v := ?_) (a' := ?_) #[true, true, false, false, false, true, false, false, false, false] rfl rfl (by kernel_rfl) (fun _ _ _ h => h) (Or.inl ⟨by rfl, ?_⟩) hHeld ?_ ?_
  rotate_left
  · rintro w' ⟨s0, s1⟩
    go_simp
    with_reducible rfl
  rotate_left
  · simp only [Act.put, List.setIfInBounds_toArray, List.set_cons_zero, List.set_cons_succ, i64_w, i32_w]
    rfl
  refine pure_ (i := 2) (N := some 71) (v := ?_) (a' := ?_) #[true, true, true, false, false, true, false, false, false, false] rfl rfl (by kernel_rfl) (fun _ _ _ h => h) (Or.inl ⟨by rfl, ?_⟩) ?_ ?_
  rotate_left
  · intro w'
    go_simp
    with_reducible rfl
  rotate_left
  · simp only [Act.put, List.setIfInBounds_toArray, List.set_cons_zero, List.set_cons_succ, i64_w, i32_w]
    rfl
  refine pure_ (i := 3) (N := some 72) (v := ?_) (a' := ?_) #[true, true, true, true, false, true, false, false, false, false] rfl rfl (by kernel_rfl) (fun _ _ _ h => h) (Or.inl ⟨by rfl, ?_⟩) ?_ ?_
  rotate_left
  · intro w'
    go_simp
    with_reducible rfl
  rotate_left
  · simp only [Act.put, List.setIfInBounds_toArray, List.set_cons_zero, List.set_cons_succ, i64_w, i32_w]
    rfl
  refine take_ (i := 4) (N := some 73) (v := ?_) (a' := ?_) #[true, true, true, true, true, true, false, false, false, false] rfl rfl (by kernel_rfl) (fun _ _ _ h => h) (Or.inl ⟨by rfl, ?_⟩) hHeld ?_ ?_
  rotate_left
  · rintro w' ⟨s0, s1⟩
    go_simp
    with_reducible rfl
  rotate_left
  · simp only [Act.put, List.setIfInBounds_toArray, List.set_cons_zero, List.set_cons_succ, i64_w, i32_w]
    rfl
  refine pure_ (i := 6) (N := some 75) (v := ?_) (a' := ?_) #[true, true, true, true, true, true, true, false, false, false] rfl rfl (by kernel_rfl) (fun _ _ _ h => h) (Or.inl ⟨by rfl, ?_⟩) ?_ ?_
  rotate_left
  · intro w'
    go_simp
    with_reducible rfl
  rotate_left
  · simp only [Act.put, List.setIfInBounds_toArray, List.set_cons_zero, List.set_cons_succ, i64_w, i32_w]
    rfl
  refine pure_ (i := 7) (N := some 76) (v := ?_) (a' := ?_) #[true, true, true, true, true, true, true, true, false, false] rfl rfl (by kernel_rfl) (fun _ _ _ h => h) (Or.inl ⟨by rfl, ?_⟩) ?_ ?_
  rotate_left
  · intro w'
    go_simp
    with_reducible rfl
  rotate_left
  · simp only [Act.put, List.setIfInBounds_toArray, List.set_cons_zero, List.set_cons_succ, i64_w, i32_w]
    rfl
  refine pure_ (i := 8) (N := some 77) (v := ?_) (a' := ?_) #[true, true, true, true, true, true, true, true, true, false] rfl rfl (by kernel_rfl) (fun _ _ _ h => h) (Or.inl ⟨by rfl, ?_⟩) ?_ ?_
  rotate_left
  · intro w'
    go_simp
    with_reducible rfl
  rotate_left
  · simp only [Act.put, List.setIfInBounds_toArray, List.set_cons_zero, List.set_cons_succ, i64_w, i32_w]
    rfl
  refine last_ (i := 9) (N := none) #[true, true, true, true, true, true, true, true, true, true] rfl rfl (by kernel_rfl) (by decide) (fun K hK => ?_)
  have hfr := blk_frozen (hR9.below hd9).blk 6
  have hcl := hc6d
  refine skip_ (w1 := ?_) (by rfl) rfl ?_ ?_
  rotate_left
  · go_simp
    rfl
  refine hK.out _ _ ?_
  clear hK K
  refine done_ (by kernel_rfl) ?_
  have hend : RepAt B g { s with pend := s.pend ++ [x], peak := mx s.peak (sizeF n2) } (w9.drew.setCell ⟨g, 6, none⟩ (.int .i64 (mx s.peak (sizeF n2)))) mv sv (.slice (some ⟨gg, 0, none⟩) (s.pend.length + 1) cap) :=
    (hR9.below hd9).upd (fun k _ hk => Below.heap_setCell _ _ _ _ hk) (blk_set (hR9.below hd9).blk 6 _) rfl rfl rfl
  have hBe : BelS B w (w9.drew.setCell ⟨g, 6, none⟩ (.int .i64 (mx s.peak (sizeF n2)))) := belowB_set (belowB_trans HBS.out (belowB_of (Up.le hBw HBS.out.size) hd9)) H0.out.hg 6 _
  go_wp2_with fail
  all_goals go_ret
  · have hm : mx s.peak (sizeF n2) = sizeF n2 := by unfold mx; split <;> omega
    rw [hm] at hend hBe
    exact ⟨0, rfl, rfl, ⟨_, _, _, by rw [hm]; exact hend⟩, hBe⟩
  · have hm : mx s.peak (sizeF n2) = s.peak := by unfold mx; split <;> omega
    rw [hm] at hend hBe
    exact ⟨0, rfl, rfl, ⟨_, _, _, by rw [hm]; exact hend⟩, hBe⟩
end
end Go.Proofs.Ytcgeioingikeeaa.P
namespace Go.Proofs.Ytcgeioingikeeaa.P
open Go.RowKit Go.Proofs.YtcgeioingikeeaaW.PrintWords Go.Proofs.YtcgeioingikeeaaW.PrintLast Go.Proofs.YtcgeioingikeeaaW.PrintMore
set_option linter.unusedVariables false
set_option linter.unusedSimpArgs false
section
variable {B : Nat → Prop} {g : Nat} {s : SSt} {w : World} {mv sv pv : Value}
theorem do1_calls (x : S31) (A3 : Option Addr) (c3 b0 b1 : Nat) {s0 : SSt} {w0 : World} (h0 : RepAt B g s0 w0 mv sv pv) (hk0 : KeptG g w0 w) (hb1 : w0.heap.size ≤ b1) (hB0 : Up B w0.heap.size) (e1 : s.safe = s0.safe) (e2 : s.pend = s0.pend) (e3 : s.fails = s0.fails)
    (h : RepAt B g s w mv sv pv) (hf : Fit s) (hx : x.f3.length ≤ 1000) (hp : VarP w b0 g) (hn : VarW w b1 x A3 c3) (hF : Kd.F (Kd.int .u8) w (fun k => k ≠ g) A3 x.f3.length x.f3) (hc3 : x.f3.length ≤ c3) :
    Calls Try.prog 91 #[.pointer (some ⟨b0, 0, none⟩), .pointer (some ⟨b1, 0, none⟩)] w fun e w' => ∃ r, e = .returned (.int .i64 r) ∧ r = (doB s x).2 ∧ Rep B g (doB s x).1 w' ∧ BelS B w w' := by
  cases hok : (getT (filesOf s) x.f0).2
  · by_cases h2 : x.f1 = 2
    · exact do1_none2 x A3 c3 b0 b1 h0 hk0 hb1 hB0 e1 e2 e3 h hf hx hp hn hF hc3 hok h2
    · by_cases h3 : x.f1 = 3
      · exact do1_none3 x A3 c3 b0 b1 h0 hk0 hb1 hB0 e1 e2 e3 h hf hx hp hn hF hc3 hok h3
      · by_cases he : (doT (filesOf s) x (-1)).2 = 0
        · by_cases q1 : s.quota < sizeF (doT (filesOf s) x (-1)).1
          · by_cases q2 : sizeF (filesOf s) < sizeF (doT (filesOf s) x (-1)).1
            · exact do1_full_f x A3 c3 b0 b1 h0 hk0 hb1 hB0 e1 e2 e3 h hf hx hp hn hF hc3 hok h2 h3 he q1 q2
            · exact do1_less_f x A3 c3 b0 b1 h0 hk0 hb1 hB0 e1 e2 e3 h hf hx hp hn hF hc3 hok h2 h3 he q1 q2
          · exact do1_in_f x A3 c3 b0 b1 h0 hk0 hb1 hB0 e1 e2 e3 h hf hx hp hn hF hc3 hok h2 h3 he q1
        · exact do1_err_f x A3 c3 b0 b1 h0 hk0 hb1 hB0 e1 e2 e3 h hf hx hp hn hF hc3 hok h2 h3 he
  · by_cases he : (doT (filesOf s) x (-1)).2 = 0
    · by_cases q1 : s.quota < sizeF (doT (filesOf s) x (-1)).1
      · by_cases q2 : sizeF (filesOf s) < sizeF (doT (filesOf s) x (-1)).1
        · exact do1_full_t x A3 c3 b0 b1 h0 hk0 hb1 hB0 e1 e2 e3 h hf hx hp hn hF hc3 hok he q1 q2
        · exact do1_less_t x A3 c3 b0 b1 h0 hk0 hb1 hB0 e1 e2 e3 h hf hx hp hn hF hc3 hok he q1 q2
      · exact do1_in_t x A3 c3 b0 b1 h0 hk0 hb1 hB0 e1 e2 e3 h hf hx hp hn hF hc3 hok he q1
    · exact do1_err_t x A3 c3 b0 b1 h0 hk0 hb1 hB0 e1 e2 e3 h hf hx hp hn hF hc3 hok he
end
end Go.Proofs.Ytcgeioingikeeaa.P
