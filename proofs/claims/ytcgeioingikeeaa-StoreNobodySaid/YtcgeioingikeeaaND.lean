/- Read and List of a store: what each does. New and Crash of a store: what each does. By a program of this seat (wip/tools/mkK9.py). The closure of a store's Do: what it does. By a program of this seat (wip/tools/mkKA.py). The closure of a store's Do: what it does. By a program of this seat (wip/tools/mkKA.py). The closure of a store's Do: what it does. By a program of this seat (wip/tools/mkKA.py). The closure of a store's Do: what it does. By a program of this seat (wip/tools/mkKA.py). The closure of a store's Do: what it does. By a program of this seat (wip/tools/mkKA.py). The closure of a store's Do: what it does. By a program of this seat (wip/tools/mkKA.py). The closure of a store's Do: what it does. By a program of this seat (wip/tools/mkKA.py). The closure of a store's Do: what it does. By a program of this seat (wip/tools/mkKA.py). The closure of a store's Do: what it does. By a program of this seat (wip/tools/mkKA.py). The closure of a store's Do: what it does. By a program of this seat (wip/tools/mkKA.py). The closure of a store's Do: what it does. By a program of this seat (wip/tools/mkKA.py). Do and List of a store: what each does. Do and List of a store: what each does. What a store that is nobody's tells. do of the store's law, with nobody's store. By a program of this seat (wip/tools/mkKF.py). awake of the law of the store: it tells true. The law StoreNobody: it tells true. -/
import Derived.Test.YtcgeioingikeeaaK7
import Derived.Test.YtcgeioingikeeaaPf33
import Derived.Test.YtcgeioingikeeaaPf35
import Derived.Test.YtcgeioingikeeaaGZ
import Derived.Test.YtcgeioingikeeaaPf79
import Derived.Test.YtcgeioingikeeaaPf38
namespace Go.Proofs.Ytcgeioingikeeaa.P
open Go.RowKit Go.Proofs.YtcgeioingikeeaaW.PrintWords Go.Proofs.YtcgeioingikeeaaW.PrintLast Go.Proofs.YtcgeioingikeeaaW.PrintMore
set_option linter.unusedVariables false
set_option linter.unusedSimpArgs false
section
variable {B g : Nat} {s : SSt} {w : World} {name : ByteArray} {mv sv pv : Value}
def readR (s : SSt) (name : ByteArray) : SSt × Int × List Int :=
  if (asked s).2 ≠ 0 then ((asked s).1, (asked s).2, []) else if (getT (filesOf s) name).2 = true then ((asked s).1, 0, (getT (filesOf s) name).1) else ((asked s).1, 4, [])
/-- Another block than the store's is written, one that is new: the store is as it was. -/
theorem RepAt.beside {s' : SSt} {w1 w2 : World} {b : Nat} (h : RepAt B g s w mv sv pv) (h1 : RepAt B g s' w1 mv sv pv) (hk : KeptG g w w1) (hb : w.heap.size ≤ b) (h2 : ∀ k, k ≠ b → w2.heap[k]? = w1.heap[k]?) (e1 : s'.safe = s.safe) (e2 : s'.pend = s.pend) (e3 : s'.fails = s.fails) : RepAt B g s' w2 mv sv pv := by
  have hg := blk_lt h.blk
  refine h.upd (fun k hlt hkg => (h2 k (by omega)).trans (hk.2 k hlt hkg)) ?_ e1 e2 e3
  rw [h2 g (by omega)]
  exact h1.blk
set_option maxHeartbeats 1000000 in
theorem read1_calls (A : Option Addr) (n c : Nat) (b0 : Nat) (x : Value) (hb : w.heap[b0]? = some (.cells #[x] 23 (0, 0))) :
    Calls Try.prog 92 #[.slice A n c, .pointer (some ⟨b0, 0, none⟩)] w fun e w' => e = .returned (.int .i64 0) ∧ w' = w.setCell ⟨b0, 0, none⟩ (.slice A n c) := by
  have hc : w.cell? ⟨b0, 0, none⟩ = some x := by rw [cell_of_row w b0 _ _ 23 (0, 0) hb]; rfl
  have hf := blk_frozen hb 0
  clear hb
  go_enter Try.func92, Try.ntmps92
  go_wp2
  go_ret
  exact ⟨rfl, rfl⟩
set_option maxHeartbeats 8000000 in
set_option maxRecDepth 100000 in
theorem read_calls (h : Rep B g s w) (hf : Fit s) (hf1 : Fit (asked s).1) (hBw : B ≤ w.heap.size) :
    Calls Try.prog 68 #[.pointer (some ⟨g, 0, none⟩), .string name] w fun e w' => ∃ v, e = .returned (.tuple #[v, .int .i64 (readR s name).2.1]) ∧ Kd.R (Kd.int .u8) 5 w' w.heap.size (fun _ => True) v (readR s name).2.2 ∧ Rep B g (readR s name).1 w' ∧ Below B w w' := by
  obtain ⟨mv, sv, pv, h⟩ := h
  have H := Aside0.mk h
  have HF := Aside0.mk hf
  have HF1 := Aside0.mk hf1
  have hg0 : g < w.heap.size := blk_lt h.blk
  clear h hf hf1
  have hw1 : Below w.heap.size w (w.alloc (Obj.cells #[.slice none 0 0] 23)) := below_alloc (Below.refl _ _) _
  have hb1 : (w.alloc (Obj.cells #[.slice none 0 0] 23)).heap[w.heap.size]? = some (.cells #[.slice none 0 0] 23 (0, 0)) := heap_alloc_new _ _
  have HW1 := Aside0.mk hw1
  have HB1 := Aside0.mk hb1
  clear hw1 hb1
  by_cases ha : (asked s).2 = 0
  · cases hok : (getT (filesOf s) name).2
    · have hR : readR s name = ((asked s).1, 4, []) := by unfold readR; rw [if_neg (by simp [ha]), if_neg (by simp [hok])]
      rw [hR]
      have HA := Aside0.mk ha
      have HOK := Aside0.mk hok
      clear hR ha hok
      go_enter Try.func68, Try.ntmps68
      go_wp2_with (go_at_call 69; refine (of_none92 w.heap.size (H.out.below HW1.out) HF.out HF1.out (Nat.le_trans hBw HW1.out.size) HA.out HOK.out).mono ?_; rintro e w7 ⟨r, rfl, rfl, hr7, hb7, hk7⟩; have hcb : w7.cell? ⟨w.heap.size, 0, none⟩ = some (.slice none 0 0) := (by rw [cell_of_row w7 _ _ _ 23 (0, 0) (blk_keptG HB1.out hk7 (by omega))]; rfl); have HR7 := Aside0.mk hr7; have HB7 := Aside0.mk (belowB_trans (belowB_of hBw HW1.out) hb7); clear hr7 hb7 hk7)
      go_ret2
      exact ⟨_, rfl, Kd.R_nil _ _ _ _ _, HR7.out, HB7.out⟩
    · have hR : readR s name = ((asked s).1, 0, (getT (filesOf s) name).1) := by unfold readR; rw [if_neg (by simp [ha]), if_pos hok]
      rw [hR]
      have HA := Aside0.mk ha
      have HOK := Aside0.mk hok
      have HAS := Aside0.mk (asked_ok ha)
      clear hR ha hok
      have hcall : Calls Try.prog 69 #[.pointer (some ⟨g, 0, none⟩), .string name, (.func (.func 92) #[] #[.pointer (some ⟨w.heap.size, 0, none⟩)])] (w.alloc (Obj.cells #[.slice none 0 0] 23)) fun e w' => ∃ r, e = .returned (.int .i64 r) ∧ (r = 0 ∧ Rep B g (asked s).1 w' ∧ Below B (w.alloc (Obj.cells #[.slice none 0 0] 23)) w' ∧ ∃ A n c, w'.cell? ⟨w.heap.size, 0, none⟩ = some (.slice A n c) ∧ Kd.R (Kd.int .u8) 5 w' w.heap.size (fun _ => True) (.slice A n c) (getT (filesOf s) name).1) := by
        refine of_ok92 w.heap.size (fun r w' => r = 0 ∧ Rep B g (asked s).1 w' ∧ Below B (w.alloc (Obj.cells #[.slice none 0 0] 23)) w' ∧ ∃ A n c, w'.cell? ⟨w.heap.size, 0, none⟩ = some (.slice A n c) ∧ Kd.R (Kd.int .u8) 5 w' w.heap.size (fun _ => True) (.slice A n c) (getT (filesOf s) name).1) (H.out.below HW1.out) HF.out HF1.out (Nat.le_trans hBw HW1.out.size) HA.out HOK.out ?_
        intro w1 v hr1 hb1 hk1 hv
        have hbk := blk_keptG HB1.out hk1 (by omega)
        obtain ⟨A, c, rfl⟩ := Kd.R_slice hv
        refine (read1_calls A _ c w.heap.size _ hbk).mono ?_
        rintro e w2 ⟨rfl, rfl⟩
        have hset := blk_set hbk 0 (.slice A (getT (filesOf s) name).1.length c)
        refine ⟨0, rfl, rfl, ⟨mv, sv, pv, ?_⟩, belowB_set hb1 hBw 0 _, A, (getT (filesOf s) name).1.length, c, ?_, ?_⟩
        · exact H.out.beside hr1 ((KeptG.of_below HW1.out).trans hk1) (Nat.le_refl _) (fun k hk => Below.heap_setCell _ _ _ _ hk) (by rw [HAS.out]) (by rw [HAS.out]) (by rw [HAS.out])
        · rw [cell_of_row _ _ _ _ 23 (0, 0) hset]; rfl
        · exact Kd.R_set (Kd.R_lower hv HW1.out.size) hbk (by decide) 0 _
      have HC := Aside0.mk hcall
      clear hcall
      go_enter Try.func68, Try.ntmps68
      go_wp2_with (go_at_call 69; refine (Aside0.out HC).mono ?_; rintro e w7 ⟨r, rfl, rfl, hr7, hb7, A7, n7, c7, hc7, hv7⟩; have HR7 := Aside0.mk hr7; have HB7 := Aside0.mk (belowB_trans (belowB_of hBw HW1.out) hb7); have HV7 := Aside0.mk hv7; clear hr7 hb7 hv7)
      go_ret2
      exact ⟨_, rfl, HV7.out, HR7.out, HB7.out⟩
  · have hR : readR s name = ((asked s).1, (asked s).2, []) := by unfold readR; rw [if_pos ha]
    rw [hR]
    have HA := Aside0.mk ha
    clear hR ha
    go_enter Try.func68, Try.ntmps68
    go_wp2_with (go_at_call 69; refine (of_err92 w.heap.size ⟨mv, sv, pv, H.out.below HW1.out⟩ HF.out (Nat.le_trans hBw HW1.out.size) HA.out).mono ?_; rintro e w7 ⟨r, rfl, rfl, hr7, hb7, hk7⟩; have hcb : w7.cell? ⟨w.heap.size, 0, none⟩ = some (.slice none 0 0) := (by rw [cell_of_row w7 _ _ _ 23 (0, 0) (blk_keptG HB1.out hk7 (by omega))]; rfl); have HR7 := Aside0.mk hr7; have HB7 := Aside0.mk (belowB_trans (belowB_of hBw HW1.out) hb7); clear hr7 hb7 hk7)
    go_ret2
    exact ⟨_, rfl, Kd.R_nil _ _ _ _ _, HR7.out, HB7.out⟩
end
end Go.Proofs.Ytcgeioingikeeaa.P
namespace Go.Proofs.Ytcgeioingikeeaa.P
open Go.RowKit Go.Proofs.YtcgeioingikeeaaW.PrintWords Go.Proofs.YtcgeioingikeeaaW.PrintLast Go.Proofs.YtcgeioingikeeaaW.PrintMore
set_option linter.unusedVariables false
set_option linter.unusedSimpArgs false
section
variable {B g : Nat} {s : SSt} {w : World} {name : ByteArray}
def newD (q : Int) : SSt := ⟨[], [], q, 0, [], 0, false, 0⟩
/-- How many bytes files have. -/
def sizeF (l : List S38) : Int := sumW 0 l
theorem size_f (l : List S38) (hl : l.length ≤ 1000000) : ∃ k, files_Size.f k l = some (sizeF l) := by
  obtain ⟨k, hk⟩ := sizeA l hl l.length 0 0 (by omega)
  rw [List.drop_zero] at hk
  exact ⟨k, hk⟩
def crashD (s : SSt) (ks : List Int) : SSt := ⟨doneL (keepN ks) 0 s.safe s.pend, [], s.quota, 0, [], 0, false, mx s.peak (sizeF (doneL (keepN ks) 0 s.safe s.pend))⟩
theorem new_none (q : Int) (hq : q < 0) : Calls Try.prog 47 #[.int .i64 q] w fun e w' => e = .returned (.pointer none) ∧ Below w.heap.size w w' := by
  go_enter Try.func47, Try.ntmps47
  go_wp2
  go_ret
  exact ⟨rfl, Below.refl _ _⟩
theorem new_calls (q : Int) (hq : 0 ≤ q) : Calls Try.prog 47 #[.int .i64 q] w fun e w' => e = .returned (.pointer (some ⟨w.heap.size, 0, none⟩)) ∧ Rep w.heap.size w.heap.size (newD q) w' ∧ Below w.heap.size w w' := by
  have hR : ∀ w1 : World, w1.heap[w.heap.size]? = some (.cells #[.map none, .int .i64 0, .int .i64 0, .slice none 0 0, .slice none 0 0, .int .i64 q, .int .i64 0, .bool false] 106 (0, 0)) → Rep w.heap.size w.heap.size (newD q) w1 := fun w1 hb =>
    ⟨.map none, .slice none 0 0, .slice none 0 0, Nat.le_refl _, hb, .inl ⟨rfl, rfl⟩, Kd.V_nil _ _ _ _ _, O_nil _ _ _ _ _⟩
  have HR := Aside0.mk hR
  clear hR
  go_enter Try.func47, Try.ntmps47
  go_wp2
  go_ret
  exact ⟨rfl, HR.out _ (heap_alloc_new _ _), below_alloc (Below.refl _ _) _⟩

set_option maxHeartbeats 8000000 in
set_option maxRecDepth 100000 in
theorem crash_calls (A : Option Addr) (c : Nat) (ks : List Int) (h : Rep B g s w) (hf : Fit s) (hBw : B ≤ w.heap.size) (hk : (Kd.int .i64).C w A ks.length ks) :
    Calls Try.prog 44 #[.pointer (some ⟨g, 0, none⟩), .slice A ks.length c] w fun e w' => e = .returned (.tuple #[]) ∧ Rep B g (crashD s ks) w' ∧ Below B w w' := by
  obtain ⟨mv, sv, pv, h⟩ := h
  obtain ⟨As, cs, rfl⟩ := Kd.V_slice h.safe
  obtain ⟨Ap, cp, rfl⟩ := O_slice h.pend
  have hlen := hf.len
  have hw1 : Below w.heap.size w (w.alloc (Obj.cells #[.slice A ks.length c] 56)) := below_alloc (Below.refl _ _) _
  have hb1 : VarK (w.alloc (Obj.cells #[.slice A ks.length c] 56)) w.heap.size A c ks := ⟨heap_alloc_new _ _, Kd.C_below hk hw1⟩
  have hg0 : g < w.heap.size := blk_lt h.blk
  have H := Aside0.mk h
  have HF := Aside0.mk hf
  have HW1 := Aside0.mk hw1
  have HB1 := Aside0.mk hb1
  clear h hf hw1 hb1 hk
  go_enter Try.func44, Try.ntmps44
  go_wp2_with fail
  have hR1 := H.out.below HW1.out
  have hb1 := HB1.out
  have hBw1 : B ≤ (w.alloc (Obj.cells #[.slice A ks.length c] 56)).heap.size := Nat.le_trans hBw HW1.out.size
  have hB1 := belowB_of hBw HW1.out
  generalize w.alloc (Obj.cells #[.slice A ks.length c] 56) = w1 at hR1 hb1 hBw1 hB1 ⊢
  generalize w.heap.size = b at hb1 ⊢
  refine start_ (n := 14) (S := (fun w' => w'.cell? ⟨g, 3, none⟩ = some (.slice As s.safe.length cs) ∧ w'.cell? ⟨g, 4, none⟩ = some (.slice Ap s.pend.length cp))) (ds := [13]) #[false, false, false, false, false, false, false, false, false, false, false, false, false, false] (by kernel_rfl) rfl rfl ⟨(hR1.below (below_drew1 (Below.refl _ _))).cells.2.2.2.1, (hR1.below (below_drew1 (Below.refl _ _))).cells.2.2.2.2.1⟩ (fun hHeld => ?_)
  refine pure_ (i := 0) (N := some 6) (v := ?_) (a' := ?_) #[true, false, false, false, false, false, false, false, false, false, false, false, false, false] rfl rfl (by kernel_rfl) (fun _ _ _ h => h) (Or.inl ⟨by rfl, ?_⟩) ?_ ?_
  rotate_left
  · intro w'
    go_simp
    with_reducible rfl
  rotate_left
  · simp only [Act.put, List.setIfInBounds_toArray, List.set_cons_zero, List.set_cons_succ, i64_w, i32_w]
    rfl
  refine pure_ (i := 1) (N := some 7) (v := ?_) (a' := ?_) #[true, true, false, false, false, false, false, false, false, false, false, false, false, false] rfl rfl (by kernel_rfl) (fun _ _ _ h => h) (Or.inl ⟨by rfl, ?_⟩) ?_ ?_
  rotate_left
  · intro w'
    go_simp
    with_reducible rfl
  rotate_left
  · simp only [Act.put, List.setIfInBounds_toArray, List.set_cons_zero, List.set_cons_succ, i64_w, i32_w]
    rfl
  refine pure_ (i := 2) (N := some 8) (v := ?_) (a' := ?_) #[true, true, true, false, false, false, false, false, false, false, false, false, false, false] rfl rfl (by kernel_rfl) (fun _ _ _ h => h) (Or.inl ⟨by rfl, ?_⟩) ?_ ?_
  rotate_left
  · intro w'
    go_simp
    with_reducible rfl
  rotate_left
  · simp only [Act.put, List.setIfInBounds_toArray, List.set_cons_zero, List.set_cons_succ, i64_w, i32_w]
    rfl
  refine pure_ (i := 3) (N := some 9) (v := ?_) (a' := ?_) #[true, true, true, true, false, false, false, false, false, false, false, false, false, false] rfl rfl (by kernel_rfl) (fun _ _ _ h => h) (Or.inl ⟨by rfl, ?_⟩) ?_ ?_
  rotate_left
  · intro w'
    go_simp
    with_reducible rfl
  rotate_left
  · simp only [Act.put, List.setIfInBounds_toArray, List.set_cons_zero, List.set_cons_succ, i64_w, i32_w]
    rfl
  refine pure_ (i := 5) (N := some 11) (v := ?_) (a' := ?_) #[true, true, true, true, false, true, false, false, false, false, false, false, false, false] rfl rfl (by kernel_rfl) (fun _ _ _ h => h) (Or.inl ⟨by rfl, ?_⟩) ?_ ?_
  rotate_left
  · intro w'
    go_simp
    with_reducible rfl
  rotate_left
  · simp only [Act.put, List.setIfInBounds_toArray, List.set_cons_zero, List.set_cons_succ, i64_w, i32_w]
    rfl
  refine pure_ (i := 6) (N := some 12) (v := ?_) (a' := ?_) #[true, true, true, true, false, true, true, false, false, false, false, false, false, false] rfl rfl (by kernel_rfl) (fun _ _ _ h => h) (Or.inl ⟨by rfl, ?_⟩) ?_ ?_
  rotate_left
  · intro w'
    go_simp
    with_reducible rfl
  rotate_left
  · simp only [Act.put, List.setIfInBounds_toArray, List.set_cons_zero, List.set_cons_succ, i64_w, i32_w]
    rfl
  refine pure_ (i := 7) (N := some 13) (v := ?_) (a' := ?_) #[true, true, true, true, false, true, true, true, false, false, false, false, false, false] rfl rfl (by kernel_rfl) (fun _ _ _ h => h) (Or.inl ⟨by rfl, ?_⟩) ?_ ?_
  rotate_left
  · intro w'
    go_simp
    with_reducible rfl
  rotate_left
  · simp only [Act.put, List.setIfInBounds_toArray, List.set_cons_zero, List.set_cons_succ, i64_w, i32_w]
    rfl
  refine pure_ (i := 9) (N := some 15) (v := ?_) (a' := ?_) #[true, true, true, true, false, true, true, true, false, true, false, false, false, false] rfl rfl (by kernel_rfl) (fun _ _ _ h => h) (Or.inl ⟨by rfl, ?_⟩) ?_ ?_
  rotate_left
  · intro w'
    go_simp
    with_reducible rfl
  rotate_left
  · simp only [Act.put, List.setIfInBounds_toArray, List.set_cons_zero, List.set_cons_succ, i64_w, i32_w]
    rfl
  refine take_ (i := 4) (N := some 10) (v := ?_) (a' := ?_) #[true, true, true, true, true, true, true, true, false, true, false, false, false, false] rfl rfl (by kernel_rfl) (fun _ _ _ h => h) (Or.inl ⟨by rfl, ?_⟩) hHeld ?_ ?_
  rotate_left
  · rintro w' ⟨s0, s1⟩
    go_simp
    with_reducible rfl
  rotate_left
  · simp only [Act.put, List.setIfInBounds_toArray, List.set_cons_zero, List.set_cons_succ, i64_w, i32_w]
    rfl
  refine take_ (i := 8) (N := some 14) (v := ?_) (a' := ?_) #[true, true, true, true, true, true, true, true, true, true, false, false, false, false] rfl rfl (by kernel_rfl) (fun _ _ _ h => h) (Or.inl ⟨by rfl, ?_⟩) hHeld ?_ ?_
  rotate_left
  · rintro w' ⟨s0, s1⟩
    go_simp
    with_reducible rfl
  rotate_left
  · simp only [Act.put, List.setIfInBounds_toArray, List.set_cons_zero, List.set_cons_succ, i64_w, i32_w]
    rfl
  refine one_ (i := 10) (N := some 16) #[true, true, true, true, true, true, true, true, true, true, true, false, false, false] rfl rfl (by kernel_rfl) (by decide) (fun K hK => ?_)
  refine goes_ Try.func74 (by kernel_rfl) rfl #[.slice As s.safe.length cs, .slice Ap s.pend.length cp, .func (.func 78) #[] #[.pointer (some ⟨b, 0, none⟩)]] (by rfl) rfl rfl (by (try simp only [List.map_toArray, List.map_cons, List.map_nil]); first | done | rfl) ?_
  refine (done_crash (fun k => k ≠ g ∧ some k ≠ (Value.slice Ap s.pend.length cp).ownBlock) As cs s.safe Ap cp s.pend ks b c A _ (V_base (Kd.V_drew hR1.safe)) (Kd.V_reads' (O_V (O_below hR1.pend (below_drew1 (Below.refl _ _))))).2.2 (Kd.V_reads' (O_V hR1.pend)).2.1 (hb1.below (below_drew1 (Below.refl _ _))) (by omega) HF.out.safe HF.out.pend).mono ?_
  rintro e w5 ⟨v5, rfl, hV5, hb5⟩
  refine ⟨_, rfl, ?_⟩
  have hb15 : Below w1.heap.size w1 w5 := below_step (below_drew1 (Below.refl _ _)) hb5
  refine hK.out _ _ ⟨(hR1.below hb15).cells.2.2.2.1, (hR1.below hb15).cells.2.2.2.2.1⟩ (fun hHeld => ?_)
  have hR5 := hR1.below hb15
  clear hK K
  refine norm_ (a' := ?_) ?_ ?_
  rotate_left
  · show Act.put _ (some 16) _ = _
    simp only [Act.put, List.setIfInBounds_toArray, List.set_cons_zero, List.set_cons_succ, i64_w, i32_w]
    rfl
  refine pure_ (i := 11) (N := some 17) (v := ?_) (a' := ?_) #[true, true, true, true, true, true, true, true, true, true, true, true, false, false] rfl rfl (by kernel_rfl) (fun _ _ _ h => h) (Or.inl ⟨by rfl, ?_⟩) ?_ ?_
  rotate_left
  · intro w'
    go_simp
    with_reducible rfl
  rotate_left
  · simp only [Act.put, List.setIfInBounds_toArray, List.set_cons_zero, List.set_cons_succ, i64_w, i32_w]
    rfl
  refine pure_ (i := 12) (N := some 18) (v := ?_) (a' := ?_) #[true, true, true, true, true, true, true, true, true, true, true, true, true, false] rfl rfl (by kernel_rfl) (fun _ _ _ h => h) (Or.inl ⟨by rfl, ?_⟩) ?_ ?_
  rotate_left
  · intro w'
    go_simp
    with_reducible rfl
  rotate_left
  · simp only [Act.put, List.setIfInBounds_toArray, List.set_cons_zero, List.set_cons_succ, i64_w, i32_w]
    rfl
  refine last_ (i := 13) (N := none) #[true, true, true, true, true, true, true, true, true, true, true, true, true, true] rfl rfl (by kernel_rfl) (by decide) (fun K hK => ?_)
  have hfr := blk_frozen hR5.blk 3
  have hcl := hR5.cells.2.2.2.1
  obtain ⟨A5, c5, rfl⟩ := Kd.V_slice hV5
  refine skip_ (w1 := ?_) (by rfl) rfl ?_ ?_
  rotate_left
  · go_simp
    rfl
  refine hK.out _ _ ?_
  clear hK K
  refine done_ (by kernel_rfl) ?_
  obtain ⟨l5, hl5⟩ : ∃ l5, l5 = doneL (keepN ks) 0 s.safe s.pend := ⟨_, rfl⟩
  have hdl : okL l5 ∧ l5.length ≤ 1000 := by
    rw [hl5]
    have := doneL_ok (keepN ks) s.pend 0 s.safe HF.out.safe
    exact ⟨this.1, by omega⟩
  rw [← hl5] at hV5
  have HL5 := Aside0.mk hl5
  have hv5 : Kd.V k38 38 w5 B (fun k => k ≠ g ∧ some k ≠ (Value.slice Ap s.pend.length cp).ownBlock) (.slice A5 l5.length c5) l5 := V_base (Kd.V_mono hV5 (fun k hk => hk.elim id (fun hk => hR1.fresh hk)))
  have hR := hR5.setSafe hv5
  have hBB : Below B w (w5.setCell ⟨g, 3, none⟩ (.slice A5 l5.length c5)) := belowB_set (belowB_trans hB1 (belowB_of hBw1 hb15)) H.out.hg 3 _
  obtain ⟨kz, hkz⟩ := size_f l5 (by omega)
  have HKZ := Aside0.mk hkz
  rw [← hl5]
  clear hfr hcl hHeld hV5 hv5 hkz
  generalize w5.setCell ⟨g, 3, none⟩ (.slice A5 l5.length c5) = w6 at hR hBB ⊢
  have hb6 := hR.blk
  have hb7 := blk_set hb6 4 (.slice none 0 0)
  have hb8 := blk_set hb7 0 (.map none)
  have hb9 := blk_set hb8 1 (.int .i64 0)
  have hb10 := blk_set hb9 2 (.int .i64 0)
  have hb11 := blk_set hb10 7 (.bool false)
  have hR11 : RepAt B g { safe := l5, pend := [], quota := s.quota, calls := 0, fails := [], crash := 0, down := false, peak := s.peak } (((((w6.setCell ⟨g, 4, none⟩ (.slice none 0 0)).setCell ⟨g, 0, none⟩ (.map none)).setCell ⟨g, 1, none⟩ (.int .i64 0)).setCell ⟨g, 2, none⟩ (.int .i64 0)).setCell ⟨g, 7, none⟩ (.bool false)) (.map none) (.slice A5 l5.length c5) (.slice none 0 0) := by
    refine ⟨hR.hg, hb11, .inl ⟨rfl, rfl⟩, ?_, O_nil _ _ _ _ _⟩
    refine Kd.V_step (Kd.V_mono hR.safe (fun k hk => ⟨hk.1, fun h => nomatch h⟩)) (fun k h1 hlt => ?_)
    rw [Below.heap_setCell _ _ _ _ h1.1, Below.heap_setCell _ _ _ _ h1.1, Below.heap_setCell _ _ _ _ h1.1, Below.heap_setCell _ _ _ _ h1.1, Below.heap_setCell _ _ _ _ h1.1]
  have hB11 : Below B w (((((w6.setCell ⟨g, 4, none⟩ (.slice none 0 0)).setCell ⟨g, 0, none⟩ (.map none)).setCell ⟨g, 1, none⟩ (.int .i64 0)).setCell ⟨g, 2, none⟩ (.int .i64 0)).setCell ⟨g, 7, none⟩ (.bool false)) :=
    belowB_set (belowB_set (belowB_set (belowB_set (belowB_set hBB H.out.hg 4 _) H.out.hg 0 _) H.out.hg 1 _) H.out.hg 2 _) H.out.hg 7 _
  have hf4 := blk_frozen hb6 4
  have hf0 := blk_frozen hb7 0
  have hf1 := blk_frozen hb8 1
  have hf2 := blk_frozen hb9 2
  have hf7 := blk_frozen hb10 7
  have hc4 : w6.cell? ⟨g, 4, none⟩ = some _ := hR.cells.2.2.2.2.1
  have hc0 : (w6.setCell ⟨g, 4, none⟩ (.slice none 0 0)).cell? ⟨g, 0, none⟩ = some mv := by rw [cell_of_row _ g _ _ 106 (0, 0) hb7]; rfl
  have hc1 : ((w6.setCell ⟨g, 4, none⟩ (.slice none 0 0)).setCell ⟨g, 0, none⟩ (.map none)).cell? ⟨g, 1, none⟩ = some (.int .i64 s.crash) := by rw [cell_of_row _ g _ _ 106 (0, 0) hb8]; rfl
  have hc2 : (((w6.setCell ⟨g, 4, none⟩ (.slice none 0 0)).setCell ⟨g, 0, none⟩ (.map none)).setCell ⟨g, 1, none⟩ (.int .i64 0)).cell? ⟨g, 2, none⟩ = some (.int .i64 s.calls) := by rw [cell_of_row _ g _ _ 106 (0, 0) hb9]; rfl
  have hc7 : ((((w6.setCell ⟨g, 4, none⟩ (.slice none 0 0)).setCell ⟨g, 0, none⟩ (.map none)).setCell ⟨g, 1, none⟩ (.int .i64 0)).setCell ⟨g, 2, none⟩ (.int .i64 0)).cell? ⟨g, 7, none⟩ = some (.bool s.down) := by rw [cell_of_row _ g _ _ 106 (0, 0) hb10]; rfl
  have HR11 := Aside0.mk hR11
  have HB11 := Aside0.mk hB11
  have HHR := Aside0.mk hR
  clear hR11 hB11 hb6 hb7 hb8 hb9 hb10 hb11 hR hR5 hR1 hl5 hBB hb5 hb15 hB1
  go_wp2_with fail
  clear hf4 hf0 hf1 hf2 hf7 hc4 hc0 hc1 hc2 hc7 HHR
  generalize ((((w6.setCell ⟨g, 4, none⟩ (.slice none 0 0)).setCell ⟨g, 0, none⟩ (.map none)).setCell ⟨g, 1, none⟩ (.int .i64 0)).setCell ⟨g, 2, none⟩ (.int .i64 0)).setCell ⟨g, 7, none⟩ (.bool false) = w7 at HR11 HB11 ⊢
  have hR7 := HR11.out
  have hBw7 : B ≤ w7.heap.size := Nat.le_trans hBw HB11.out.size
  refine start_ (n := 14) (S := (fun w' => w'.cell? ⟨g, 3, none⟩ = some (.slice A5 l5.length c5) ∧ w'.cell? ⟨g, 6, none⟩ = some (.int .i64 s.peak))) (ds := [13]) #[false, false, false, false, false, false, false, false, false, false, false, false, false, false] (by kernel_rfl) rfl rfl ⟨(hR7.below (below_drew1 (Below.refl _ _))).cells.2.2.2.1, (hR7.below (below_drew1 (Below.refl _ _))).cells.2.2.2.2.2.2.1⟩ (fun hHeld => ?_)
  refine pure_ (i := 0) (N := some 29) (v := ?_) (a' := ?_) #[true, false, false, false, false, false, false, false, false, false, false, false, false, false] rfl rfl (by kernel_rfl) (fun _ _ _ h => h) (Or.inl ⟨by rfl, ?_⟩) ?_ ?_
  rotate_left
  · intro w'
    go_simp
    with_reducible rfl
  rotate_left
  · simp only [Act.put, List.setIfInBounds_toArray, List.set_cons_zero, List.set_cons_succ, i64_w, i32_w]
    rfl
  refine pure_ (i := 1) (N := some 30) (v := ?_) (a' := ?_) #[true, true, false, false, false, false, false, false, false, false, false, false, false, false] rfl rfl (by kernel_rfl) (fun _ _ _ h => h) (Or.inl ⟨by rfl, ?_⟩) ?_ ?_
  rotate_left
  · intro w'
    go_simp
    with_reducible rfl
  rotate_left
  · simp only [Act.put, List.setIfInBounds_toArray, List.set_cons_zero, List.set_cons_succ, i64_w, i32_w]
    rfl
  refine pure_ (i := 2) (N := some 31) (v := ?_) (a' := ?_) #[true, true, true, false, false, false, false, false, false, false, false, false, false, false] rfl rfl (by kernel_rfl) (fun _ _ _ h => h) (Or.inl ⟨by rfl, ?_⟩) ?_ ?_
  rotate_left
  · intro w'
    go_simp
    with_reducible rfl
  rotate_left
  · simp only [Act.put, List.setIfInBounds_toArray, List.set_cons_zero, List.set_cons_succ, i64_w, i32_w]
    rfl
  refine pure_ (i := 3) (N := some 32) (v := ?_) (a' := ?_) #[true, true, true, true, false, false, false, false, false, false, false, false, false, false] rfl rfl (by kernel_rfl) (fun _ _ _ h => h) (Or.inl ⟨by rfl, ?_⟩) ?_ ?_
  rotate_left
  · intro w'
    go_simp
    with_reducible rfl
  rotate_left
  · simp only [Act.put, List.setIfInBounds_toArray, List.set_cons_zero, List.set_cons_succ, i64_w, i32_w]
    rfl
  refine pure_ (i := 5) (N := some 34) (v := ?_) (a' := ?_) #[true, true, true, true, false, true, false, false, false, false, false, false, false, false] rfl rfl (by kernel_rfl) (fun _ _ _ h => h) (Or.inl ⟨by rfl, ?_⟩) ?_ ?_
  rotate_left
  · intro w'
    go_simp
    with_reducible rfl
  rotate_left
  · simp only [Act.put, List.setIfInBounds_toArray, List.set_cons_zero, List.set_cons_succ, i64_w, i32_w]
    rfl
  refine pure_ (i := 6) (N := some 35) (v := ?_) (a' := ?_) #[true, true, true, true, false, true, true, false, false, false, false, false, false, false] rfl rfl (by kernel_rfl) (fun _ _ _ h => h) (Or.inl ⟨by rfl, ?_⟩) ?_ ?_
  rotate_left
  · intro w'
    go_simp
    with_reducible rfl
  rotate_left
  · simp only [Act.put, List.setIfInBounds_toArray, List.set_cons_zero, List.set_cons_succ, i64_w, i32_w]
    rfl
  refine pure_ (i := 7) (N := some 36) (v := ?_) (a' := ?_) #[true, true, true, true, false, true, true, true, false, false, false, false, false, false] rfl rfl (by kernel_rfl) (fun _ _ _ h => h) (Or.inl ⟨by rfl, ?_⟩) ?_ ?_
  rotate_left
  · intro w'
    go_simp
    with_reducible rfl
  rotate_left
  · simp only [Act.put, List.setIfInBounds_toArray, List.set_cons_zero, List.set_cons_succ, i64_w, i32_w]
    rfl
  refine take_ (i := 4) (N := some 33) (v := ?_) (a' := ?_) #[true, true, true, true, true, true, true, true, false, false, false, false, false, false] rfl rfl (by kernel_rfl) (fun _ _ _ h => h) (Or.inl ⟨by rfl, ?_⟩) hHeld ?_ ?_
  rotate_left
  · rintro w' ⟨s0, s1⟩
    go_simp
    with_reducible rfl
  rotate_left
  · simp only [Act.put, List.setIfInBounds_toArray, List.set_cons_zero, List.set_cons_succ, i64_w, i32_w]
    rfl
  refine take_ (i := 8) (N := some 37) (v := ?_) (a' := ?_) #[true, true, true, true, true, true, true, true, true, false, false, false, false, false] rfl rfl (by kernel_rfl) (fun _ _ _ h => h) (Or.inl ⟨by rfl, ?_⟩) hHeld ?_ ?_
  rotate_left
  · rintro w' ⟨s0, s1⟩
    go_simp
    with_reducible rfl
  rotate_left
  · simp only [Act.put, List.setIfInBounds_toArray, List.set_cons_zero, List.set_cons_succ, i64_w, i32_w]
    rfl
  refine one_ (i := 9) (N := some 38) #[true, true, true, true, true, true, true, true, true, true, false, false, false, false] rfl rfl (by kernel_rfl) (by decide) (fun K hK => ?_)
  refine goes_ Try.func35 (by kernel_rfl) rfl #[.slice A5 l5.length c5] (by rfl) rfl rfl (by (try simp only [List.map_toArray, List.map_cons, List.map_nil]); first | done | rfl) ?_
  refine (files_Size.calls kz A5 c5 l5 (sizeF l5) _ (Kd.V_reads' (Kd.V_drew hR7.safe)).2.2 (Kd.V_reads' hR7.safe).2.1 HKZ.out).mono ?_
  rintro e w8 ⟨rfl, hb8⟩
  refine ⟨_, rfl, ?_⟩
  have hb78 : Below w7.heap.size w7 w8 := below_step (below_drew1 (Below.refl _ _)) hb8
  refine hK.out _ _ ⟨(hR7.below hb78).cells.2.2.2.1, (hR7.below hb78).cells.2.2.2.2.2.2.1⟩ (fun hHeld => ?_)
  have hR8 := hR7.below hb78
  clear hK K
  refine norm_ (a' := ?_) ?_ ?_
  rotate_left
  · show Act.put _ (some 38) _ = _
    simp only [Act.put, List.setIfInBounds_toArray, List.set_cons_zero, List.set_cons_succ, i64_w, i32_w]
    rfl
  refine pure_ (i := 10) (N := some 39) (v := ?_) (a' := ?_) #[true, true, true, true, true, true, true, true, true, true, true, false, false, false] rfl rfl (by kernel_rfl) (fun _ _ _ h => h) (Or.inl ⟨by rfl, ?_⟩) ?_ ?_
  rotate_left
  · intro w'
    go_simp
    with_reducible rfl
  rotate_left
  · simp only [Act.put, List.setIfInBounds_toArray, List.set_cons_zero, List.set_cons_succ, i64_w, i32_w]
    rfl
  refine pure_ (i := 11) (N := some 40) (v := ?_) (a' := ?_) #[true, true, true, true, true, true, true, true, true, true, true, true, false, false] rfl rfl (by kernel_rfl) (fun _ _ _ h => h) (Or.inl ⟨by rfl, ?_⟩) ?_ ?_
  rotate_left
  · intro w'
    go_simp
    with_reducible rfl
  rotate_left
  · simp only [Act.put, List.setIfInBounds_toArray, List.set_cons_zero, List.set_cons_succ, i64_w, i32_w]
    rfl
  refine pure_ (i := 12) (N := some 41) (v := ?_) (a' := ?_) #[true, true, true, true, true, true, true, true, true, true, true, true, true, false] rfl rfl (by kernel_rfl) (fun _ _ _ h => h) (Or.inl ⟨by rfl, ?_⟩) ?_ ?_
  rotate_left
  · intro w'
    go_simp
    with_reducible rfl
  rotate_left
  · simp only [Act.put, List.setIfInBounds_toArray, List.set_cons_zero, List.set_cons_succ, i64_w, i32_w]
    rfl
  refine last_ (i := 13) (N := none) #[true, true, true, true, true, true, true, true, true, true, true, true, true, true] rfl rfl (by kernel_rfl) (by decide) (fun K hK => ?_)
  have hfr := blk_frozen hR8.blk 6
  have hcl := hR8.cells.2.2.2.2.2.2.1
  refine skip_ (w1 := ?_) (by rfl) rfl ?_ ?_
  rotate_left
  · go_simp
    rfl
  refine hK.out _ _ ?_
  clear hK K
  refine done_ (by kernel_rfl) ?_
  have hend : RepAt B g (crashD s ks) (w8.setCell ⟨g, 6, none⟩ (.int .i64 (mx s.peak (sizeF l5)))) (.map none) (.slice A5 l5.length c5) (.slice none 0 0) := by
    have hcd : crashD s ks = { safe := l5, pend := [], quota := s.quota, calls := 0, fails := [], crash := 0, down := false, peak := mx s.peak (sizeF l5) } := by rw [HL5.out]; rfl
    rw [hcd]
    exact hR8.upd (fun k _ hk => Below.heap_setCell _ _ _ _ hk) (blk_set hR8.blk 6 _) rfl rfl rfl
  have hBe : Below B w (w8.setCell ⟨g, 6, none⟩ (.int .i64 (mx s.peak (sizeF l5)))) := belowB_set (belowB_trans HB11.out (belowB_of hBw7 hb78)) H.out.hg 6 _
  go_wp2_with fail
  all_goals go_end0
  · have hm : mx s.peak (sizeF l5) = sizeF l5 := by unfold mx; split <;> omega
    rw [hm] at hend hBe
    exact ⟨rfl, ⟨_, _, _, hend⟩, hBe⟩
  · have hm : mx s.peak (sizeF l5) = s.peak := by unfold mx; split <;> omega
    rw [hm] at hend hBe
    exact ⟨rfl, ⟨_, _, _, hend⟩, hBe⟩
end
end Go.Proofs.Ytcgeioingikeeaa.P
namespace Go.Proofs.Ytcgeioingikeeaa.P
open Go.RowKit Go.Proofs.YtcgeioingikeeaaW.PrintWords Go.Proofs.YtcgeioingikeeaaW.PrintLast Go.Proofs.YtcgeioingikeeaaW.PrintMore
set_option linter.unusedVariables false
set_option linter.unusedSimpArgs false
section
variable {B g : Nat} {s : SSt} {w : World} {mv sv pv : Value}
/-- A captured variable that holds a write. -/
def VarW (w : World) (b : Nat) (x : S31) (A : Option Addr) (c : Nat) : Prop := w.heap[b]? = some (.cells #[.string x.f0, .int .i64 x.f1, .int .i64 x.f2, .slice A x.f3.length c] 31 (0, 0))
theorem VarW.below {w w1 : World} {b c : Nat} {x : S31} {A : Option Addr} (h : VarW w b x A c) (hb : Below w.heap.size w w1) : VarW w1 b x A c := blk_stays hb h
theorem VarW.cell {w : World} {b c : Nat} {x : S31} {A : Option Addr} (h : VarW w b x A c) : w.cell? ⟨b, 0, none⟩ = some (.string x.f0) ∧ w.cell? ⟨b, 1, none⟩ = some (.int .i64 x.f1) ∧ w.cell? ⟨b, 2, none⟩ = some (.int .i64 x.f2) ∧ w.cell? ⟨b, 3, none⟩ = some (.slice A x.f3.length c) := by
  refine ⟨?_, ?_, ?_, ?_⟩ <;> (rw [cell_of_row w b _ _ 31 (0, 0) h]; rfl)
/-- One more write, in a row of the store's own. -/
theorem O_snoc31 {W w1 : World} {ok : Nat → Prop} {v v1 : Value} {xs : List S31} {x : S31} {seg : List Value} {inner : List Value}
    (hr : Reps (fun x c => Kd.FK k31 W (fun k => ok k ∧ some k ≠ v.ownBlock) x c) 4 xs inner) (hx : Kd.FK k31 W (fun k => ok k ∧ some k ≠ v.ownBlock) x seg)
    (hown : w1.ownsRow B 31 4 v1 (xs.length + 1) (inner ++ seg)) (hg : W.grownBy w1 v.ownBlock) (hat : v1.ownBlock = v.ownBlock ∨ v1.ownBlock = some W.heap.size) : O k31 31 w1 B ok v1 (xs ++ [x]) := by
  refine ⟨inner ++ seg, by rw [List.length_append]; exact hown, ?_⟩
  exact O_put (hr.imp_ fun y c' hy => FK_after hy hg hat) (FK_after hx hg hat) (FK_one hx).1
theorem doT_len (l : List S38) (x : S31) (keep : Int) (_ : okL l) : (doT l x keep).1.length ≤ l.length + 1 := by
  unfold doT
  split
  · simp
  · unfold doRes
    split
    · simp
    · by_cases h0 : (keptOf x.f3 keep).length = 0 ∧ x.f3.length > 0
      · rw [if_pos h0]; simp
      · rw [if_neg h0]; exact putL_len _ _ _
/-- A write, done to a store that is up, plainly: what is told. -/
def doE (s : SSt) (x : S31) : Int :=
  if (getT (filesOf s) x.f0).2 = false ∧ (x.f1 = 2 ∨ x.f1 = 3) then 4 else
    if (doT (filesOf s) x (-1)).2 ≠ 0 then (doT (filesOf s) x (-1)).2 else
      if s.quota < sizeF (doT (filesOf s) x (-1)).1 ∧ sizeF (filesOf s) < sizeF (doT (filesOf s) x (-1)).1 then 8 else 0
def doB (s : SSt) (x : S31) : SSt × Int :=
  if doE s x = 0 then ({ s with pend := s.pend ++ [x], peak := mx s.peak (sizeF (doT (filesOf s) x (-1)).1) }, 0) else (s, doE s x)

end
end Go.Proofs.Ytcgeioingikeeaa.P
namespace Go.Proofs.Ytcgeioingikeeaa.P
open Go.RowKit Go.Proofs.YtcgeioingikeeaaW.PrintWords Go.Proofs.YtcgeioingikeeaaW.PrintLast Go.Proofs.YtcgeioingikeeaaW.PrintMore
set_option linter.unusedVariables false
set_option linter.unusedSimpArgs false
section
variable {B g : Nat} {s : SSt} {w : World} {mv sv pv : Value}
set_option maxHeartbeats 4000000 in
set_option maxRecDepth 100000 in
theorem do1_none2 (x : S31) (A3 : Option Addr) (c3 b0 b1 : Nat) {s0 : SSt} {w0 : World} (h0 : RepAt B g s0 w0 mv sv pv) (hk0 : KeptG g w0 w) (hb1 : w0.heap.size ≤ b1) (hB0 : B ≤ w0.heap.size) (e1 : s.safe = s0.safe) (e2 : s.pend = s0.pend) (e3 : s.fails = s0.fails)
    (h : RepAt B g s w mv sv pv) (hf : Fit s) (hx : x.f3.length ≤ 1000) (hp : VarP w b0 g) (hn : VarW w b1 x A3 c3) (hF : Kd.F (Kd.int .u8) w (fun k => k ≠ g) A3 x.f3.length x.f3) (hc3 : x.f3.length ≤ c3) (hok : (getT (filesOf s) x.f0).2 = false) (h2 : x.f1 = 2) :
    Calls Try.prog 91 #[.pointer (some ⟨b0, 0, none⟩), .pointer (some ⟨b1, 0, none⟩)] w fun e w' => ∃ r, e = .returned (.int .i64 r) ∧ r = (doB s x).2 ∧ Rep B g (doB s x).1 w' ∧ Below B w w' := by
  obtain ⟨Ap, cp, rfl⟩ := O_slice h.pend
  have hBw : B ≤ w.heap.size := Nat.le_trans hB0 hk0.1
  have hg0 : g < w0.heap.size := blk_lt h0.blk
  have hlen := hf.len
  have hfl : okL (filesOf s) ∧ (filesOf s).length ≤ 1000 := files_ok hf
  have hget := get_f (filesOf s) x.f0 (by omega) hfl.1
  have hdo := doT_f (filesOf s) x (-1) (by omega) hfl.1 (by omega)
  have hdk := doT_ok (filesOf s) x (-1) hfl.1
  obtain ⟨kz, hkz⟩ := size_f (filesOf s) (by omega)
  have hE : doE s x = 4 := by unfold doE; rw [if_pos ⟨hok, by omega⟩]
  have hB : doB s x = (s, 4) := by unfold doB; rw [hE]; rfl
  rw [hB]
  rw [hok] at hget
  have hq2 : (x.f1 == 2) = true := by simpa using h2
  have HOK := Aside0.mk hok
  have HEB := Aside0.mk (And.intro hE hB)
  clear hok h2 hE hB
  have hp0 := hp.cell
  obtain ⟨hx0, hx1, hx2, hx3⟩ := hn.cell
  have H := Aside0.mk h
  have H0 := Aside0.mk h0
  have HK0 := Aside0.mk hk0
  have HE := Aside0.mk (And.intro e1 (And.intro e2 e3))
  have HF := Aside0.mk hf
  have HP := Aside0.mk hp
  have HN := Aside0.mk hn
  have HFx := Aside0.mk hF
  have HGET := Aside0.mk hget
  have HDO := Aside0.mk hdo
  have HDK := Aside0.mk hdk
  have HKZ := Aside0.mk hkz
  clear h h0 hk0 hf hp hn hF hget hdo hdk hkz e1 e2 e3
  go_enter Try.func91, Try.ntmps91
  go_wp2_with (first
    | (go_at_call 42; refine (files_calls ⟨mv, sv, _, H.out⟩ HF.out).mono ?_; rintro e w1 ⟨v1, rfl, hV1, hb1w⟩; obtain ⟨A1, c1, rfl⟩ := Kd.V_slice hV1; obtain ⟨hx0, hx1, hx2, hx3⟩ := (HN.out.below hb1w).cell; have HV1 := Aside0.mk hV1; have HB1 := Aside0.mk hb1w; clear hV1 hb1w)
    | (go_at_call 28; refine (files_Get.calls A1 c1 (filesOf s) x.f0 _ _ _ (Kd.V_reads' HV1.out).2.2 (Kd.V_reads' HV1.out).2.1 HGET.out).mono ?_; rintro e w2 ⟨v2, rfl, hR2, hb2⟩; obtain ⟨A2, c2, rfl⟩ := Kd.R_slice hR2; obtain ⟨hx0, hx1, hx2, hx3⟩ := (HN.out.below (below_step HB1.out hb2)).cell; have HB12 := Aside0.mk hb2; have HB2 := Aside0.mk (below_step HB1.out hb2); clear hR2 hb2))
  go_ret
  exact ⟨4, rfl, rfl, ⟨mv, sv, _, H.out.below HB2.out⟩, belowB_of hBw HB2.out⟩
end
end Go.Proofs.Ytcgeioingikeeaa.P
namespace Go.Proofs.Ytcgeioingikeeaa.P
open Go.RowKit Go.Proofs.YtcgeioingikeeaaW.PrintWords Go.Proofs.YtcgeioingikeeaaW.PrintLast Go.Proofs.YtcgeioingikeeaaW.PrintMore
set_option linter.unusedVariables false
set_option linter.unusedSimpArgs false
section
variable {B g : Nat} {s : SSt} {w : World} {mv sv pv : Value}
set_option maxHeartbeats 4000000 in
set_option maxRecDepth 100000 in
theorem do1_none3 (x : S31) (A3 : Option Addr) (c3 b0 b1 : Nat) {s0 : SSt} {w0 : World} (h0 : RepAt B g s0 w0 mv sv pv) (hk0 : KeptG g w0 w) (hb1 : w0.heap.size ≤ b1) (hB0 : B ≤ w0.heap.size) (e1 : s.safe = s0.safe) (e2 : s.pend = s0.pend) (e3 : s.fails = s0.fails)
    (h : RepAt B g s w mv sv pv) (hf : Fit s) (hx : x.f3.length ≤ 1000) (hp : VarP w b0 g) (hn : VarW w b1 x A3 c3) (hF : Kd.F (Kd.int .u8) w (fun k => k ≠ g) A3 x.f3.length x.f3) (hc3 : x.f3.length ≤ c3) (hok : (getT (filesOf s) x.f0).2 = false) (h2 : x.f1 = 3) :
    Calls Try.prog 91 #[.pointer (some ⟨b0, 0, none⟩), .pointer (some ⟨b1, 0, none⟩)] w fun e w' => ∃ r, e = .returned (.int .i64 r) ∧ r = (doB s x).2 ∧ Rep B g (doB s x).1 w' ∧ Below B w w' := by
  obtain ⟨Ap, cp, rfl⟩ := O_slice h.pend
  have hBw : B ≤ w.heap.size := Nat.le_trans hB0 hk0.1
  have hg0 : g < w0.heap.size := blk_lt h0.blk
  have hlen := hf.len
  have hfl : okL (filesOf s) ∧ (filesOf s).length ≤ 1000 := files_ok hf
  have hget := get_f (filesOf s) x.f0 (by omega) hfl.1
  have hdo := doT_f (filesOf s) x (-1) (by omega) hfl.1 (by omega)
  have hdk := doT_ok (filesOf s) x (-1) hfl.1
  obtain ⟨kz, hkz⟩ := size_f (filesOf s) (by omega)
  have hE : doE s x = 4 := by unfold doE; rw [if_pos ⟨hok, by omega⟩]
  have hB : doB s x = (s, 4) := by unfold doB; rw [hE]; rfl
  rw [hB]
  rw [hok] at hget
  have hq2 : (x.f1 == 2) = false := by rw [h2]; rfl
  have hq3 : (x.f1 == 3) = true := by simpa using h2
  have HOK := Aside0.mk hok
  have HEB := Aside0.mk (And.intro hE hB)
  clear hok h2 hE hB
  have hp0 := hp.cell
  obtain ⟨hx0, hx1, hx2, hx3⟩ := hn.cell
  have H := Aside0.mk h
  have H0 := Aside0.mk h0
  have HK0 := Aside0.mk hk0
  have HE := Aside0.mk (And.intro e1 (And.intro e2 e3))
  have HF := Aside0.mk hf
  have HP := Aside0.mk hp
  have HN := Aside0.mk hn
  have HFx := Aside0.mk hF
  have HGET := Aside0.mk hget
  have HDO := Aside0.mk hdo
  have HDK := Aside0.mk hdk
  have HKZ := Aside0.mk hkz
  clear h h0 hk0 hf hp hn hF hget hdo hdk hkz e1 e2 e3
  go_enter Try.func91, Try.ntmps91
  go_wp2_with (first
    | (go_at_call 42; refine (files_calls ⟨mv, sv, _, H.out⟩ HF.out).mono ?_; rintro e w1 ⟨v1, rfl, hV1, hb1w⟩; obtain ⟨A1, c1, rfl⟩ := Kd.V_slice hV1; obtain ⟨hx0, hx1, hx2, hx3⟩ := (HN.out.below hb1w).cell; have HV1 := Aside0.mk hV1; have HB1 := Aside0.mk hb1w; clear hV1 hb1w)
    | (go_at_call 28; refine (files_Get.calls A1 c1 (filesOf s) x.f0 _ _ _ (Kd.V_reads' HV1.out).2.2 (Kd.V_reads' HV1.out).2.1 HGET.out).mono ?_; rintro e w2 ⟨v2, rfl, hR2, hb2⟩; obtain ⟨A2, c2, rfl⟩ := Kd.R_slice hR2; obtain ⟨hx0, hx1, hx2, hx3⟩ := (HN.out.below (below_step HB1.out hb2)).cell; have HB12 := Aside0.mk hb2; have HB2 := Aside0.mk (below_step HB1.out hb2); clear hR2 hb2))
  go_ret
  exact ⟨4, rfl, rfl, ⟨mv, sv, _, H.out.below HB2.out⟩, belowB_of hBw HB2.out⟩
end
end Go.Proofs.Ytcgeioingikeeaa.P
namespace Go.Proofs.Ytcgeioingikeeaa.P
open Go.RowKit Go.Proofs.YtcgeioingikeeaaW.PrintWords Go.Proofs.YtcgeioingikeeaaW.PrintLast Go.Proofs.YtcgeioingikeeaaW.PrintMore
set_option linter.unusedVariables false
set_option linter.unusedSimpArgs false
section
variable {B g : Nat} {s : SSt} {w : World} {mv sv pv : Value}
set_option maxHeartbeats 4000000 in
set_option maxRecDepth 100000 in
theorem do1_err_t (x : S31) (A3 : Option Addr) (c3 b0 b1 : Nat) {s0 : SSt} {w0 : World} (h0 : RepAt B g s0 w0 mv sv pv) (hk0 : KeptG g w0 w) (hb1 : w0.heap.size ≤ b1) (hB0 : B ≤ w0.heap.size) (e1 : s.safe = s0.safe) (e2 : s.pend = s0.pend) (e3 : s.fails = s0.fails)
    (h : RepAt B g s w mv sv pv) (hf : Fit s) (hx : x.f3.length ≤ 1000) (hp : VarP w b0 g) (hn : VarW w b1 x A3 c3) (hF : Kd.F (Kd.int .u8) w (fun k => k ≠ g) A3 x.f3.length x.f3) (hc3 : x.f3.length ≤ c3) (hok : (getT (filesOf s) x.f0).2 = true) (he : (doT (filesOf s) x (-1)).2 ≠ 0) :
    Calls Try.prog 91 #[.pointer (some ⟨b0, 0, none⟩), .pointer (some ⟨b1, 0, none⟩)] w fun e w' => ∃ r, e = .returned (.int .i64 r) ∧ r = (doB s x).2 ∧ Rep B g (doB s x).1 w' ∧ Below B w w' := by
  obtain ⟨Ap, cp, rfl⟩ := O_slice h.pend
  have hBw : B ≤ w.heap.size := Nat.le_trans hB0 hk0.1
  have hg0 : g < w0.heap.size := blk_lt h0.blk
  have hlen := hf.len
  have hfl : okL (filesOf s) ∧ (filesOf s).length ≤ 1000 := files_ok hf
  have hget := get_f (filesOf s) x.f0 (by omega) hfl.1
  have hdo := doT_f (filesOf s) x (-1) (by omega) hfl.1 (by omega)
  have hdk := doT_ok (filesOf s) x (-1) hfl.1
  obtain ⟨kz, hkz⟩ := size_f (filesOf s) (by omega)
  have hno : ¬ ((getT (filesOf s) x.f0).2 = false ∧ (x.f1 = 2 ∨ x.f1 = 3)) := by simp [hok]
  rw [hok] at hget
  have hE : doE s x = (doT (filesOf s) x (-1)).2 := by unfold doE; rw [if_neg hno, if_pos he]
  have hB : doB s x = (s, (doT (filesOf s) x (-1)).2) := by unfold doB; rw [hE, if_neg he]
  rw [hB]
  obtain ⟨⟨n2, r2⟩, hdr⟩ : ∃ r, doT (filesOf s) x (-1) = r := ⟨_, rfl⟩
  rw [hdr] at hdo hdk he ⊢
  simp only at hdo hdk he ⊢
  have hn2 : n2.length ≤ 1001 := by
    have := doT_len (filesOf s) x (-1) hfl.1
    rw [hdr] at this
    simp only at this
    omega
  obtain ⟨kd, hkd⟩ := size_f n2 (by omega)
  have HKD := Aside0.mk hkd
  have hce : (r2 == 0) = false := by simpa using he
  have hcn : (r2 != 0) = true := by simpa using he
  have HEB := Aside0.mk (And.intro hE hB)
  have HDR := Aside0.mk hdr
  clear hok hno hE hB hdr he hkd
  have hp0 := hp.cell
  obtain ⟨hx0, hx1, hx2, hx3⟩ := hn.cell
  have H := Aside0.mk h
  have H0 := Aside0.mk h0
  have HK0 := Aside0.mk hk0
  have HE := Aside0.mk (And.intro e1 (And.intro e2 e3))
  have HF := Aside0.mk hf
  have HP := Aside0.mk hp
  have HN := Aside0.mk hn
  have HFx := Aside0.mk hF
  have HGET := Aside0.mk hget
  have HDO := Aside0.mk hdo
  have HDK := Aside0.mk hdk
  have HKZ := Aside0.mk hkz
  clear h h0 hk0 hf hp hn hF hget hdo hdk hkz e1 e2 e3
  go_enter Try.func91, Try.ntmps91
  go_wp2_with (first
    | (go_at_call 42; refine (files_calls ⟨mv, sv, _, H.out⟩ HF.out).mono ?_; rintro e w1 ⟨v1, rfl, hV1, hb1w⟩; obtain ⟨A1, c1, rfl⟩ := Kd.V_slice hV1; obtain ⟨hx0, hx1, hx2, hx3⟩ := (HN.out.below hb1w).cell; have HV1 := Aside0.mk hV1; have HB1 := Aside0.mk hb1w; clear hV1 hb1w)
    | (go_at_call 28; refine (files_Get.calls A1 c1 (filesOf s) x.f0 _ _ _ (Kd.V_reads' HV1.out).2.2 (Kd.V_reads' HV1.out).2.1 HGET.out).mono ?_; rintro e w2 ⟨v2, rfl, hR2, hb2⟩; obtain ⟨A2, c2, rfl⟩ := Kd.R_slice hR2; obtain ⟨hx0, hx1, hx2, hx3⟩ := (HN.out.below (below_step HB1.out hb2)).cell; have HB12 := Aside0.mk hb2; have HB2 := Aside0.mk (below_step HB1.out hb2); clear hR2 hb2)
    | (go_at_call 17; refine (files_Do.calls (fun k => w.heap.size ≤ k) A1 c1 (filesOf s) x.f0 x.f1 x.f2 A3 c3 x.f3 (-1) _ _ _ (V_base (Kd.V_below HV1.out HB12.out)) (Kd.F_now (Kd.F_below HFx.out HB2.out)) hc3 HDO.out).mono ?_; rintro e w3 ⟨v3, rfl, hV3, hb3⟩; obtain ⟨A4, c4, rfl⟩ := Kd.V_slice hV3; have hp0 := (HP.out.below (below_step HB2.out hb3)).cell; obtain ⟨hx0, hx1, hx2, hx3⟩ := (HN.out.below (below_step HB2.out hb3)).cell; have HV3 := Aside0.mk hV3; have HB13 := Aside0.mk (below_step HB12.out hb3); have HB3 := Aside0.mk (below_step HB2.out hb3); clear hV3 hb3)
    | (go_at_call 35; with_reducible refine (files_Size.calls kd A4 c4 _ (sizeF n2) _ (Kd.V_reads' HV3.out).2.2 (Kd.V_reads' HV3.out).2.1 HKD.out).mono ?_; rintro e w4 ⟨rfl, hb4⟩; have hp0 := (HP.out.below (below_step HB3.out hb4)).cell; obtain ⟨hx0, hx1, hx2, hx3⟩ := (HN.out.below (below_step HB3.out hb4)).cell; have hq := (H.out.below (below_step HB3.out hb4)).cells.2.2.2.2.2.1; have HB14 := Aside0.mk (below_step HB13.out hb4); have HB4 := Aside0.mk (below_step HB3.out hb4); clear hb4))
  go_ret
  exact ⟨_, rfl, rfl, ⟨mv, sv, _, H.out.below HB4.out⟩, belowB_of hBw HB4.out⟩
end
end Go.Proofs.Ytcgeioingikeeaa.P
namespace Go.Proofs.Ytcgeioingikeeaa.P
open Go.RowKit Go.Proofs.YtcgeioingikeeaaW.PrintWords Go.Proofs.YtcgeioingikeeaaW.PrintLast Go.Proofs.YtcgeioingikeeaaW.PrintMore
set_option linter.unusedVariables false
set_option linter.unusedSimpArgs false
section
variable {B g : Nat} {s : SSt} {w : World} {mv sv pv : Value}
set_option maxHeartbeats 4000000 in
set_option maxRecDepth 100000 in
theorem do1_full_t (x : S31) (A3 : Option Addr) (c3 b0 b1 : Nat) {s0 : SSt} {w0 : World} (h0 : RepAt B g s0 w0 mv sv pv) (hk0 : KeptG g w0 w) (hb1 : w0.heap.size ≤ b1) (hB0 : B ≤ w0.heap.size) (e1 : s.safe = s0.safe) (e2 : s.pend = s0.pend) (e3 : s.fails = s0.fails)
    (h : RepAt B g s w mv sv pv) (hf : Fit s) (hx : x.f3.length ≤ 1000) (hp : VarP w b0 g) (hn : VarW w b1 x A3 c3) (hF : Kd.F (Kd.int .u8) w (fun k => k ≠ g) A3 x.f3.length x.f3) (hc3 : x.f3.length ≤ c3) (hok : (getT (filesOf s) x.f0).2 = true) (he : (doT (filesOf s) x (-1)).2 = 0) (hq1 : s.quota < sizeF (doT (filesOf s) x (-1)).1) (hq4 : sizeF (filesOf s) < sizeF (doT (filesOf s) x (-1)).1) :
    Calls Try.prog 91 #[.pointer (some ⟨b0, 0, none⟩), .pointer (some ⟨b1, 0, none⟩)] w fun e w' => ∃ r, e = .returned (.int .i64 r) ∧ r = (doB s x).2 ∧ Rep B g (doB s x).1 w' ∧ Below B w w' := by
  obtain ⟨Ap, cp, rfl⟩ := O_slice h.pend
  have hBw : B ≤ w.heap.size := Nat.le_trans hB0 hk0.1
  have hg0 : g < w0.heap.size := blk_lt h0.blk
  have hlen := hf.len
  have hfl : okL (filesOf s) ∧ (filesOf s).length ≤ 1000 := files_ok hf
  have hget := get_f (filesOf s) x.f0 (by omega) hfl.1
  have hdo := doT_f (filesOf s) x (-1) (by omega) hfl.1 (by omega)
  have hdk := doT_ok (filesOf s) x (-1) hfl.1
  obtain ⟨kz, hkz⟩ := size_f (filesOf s) (by omega)
  have hno : ¬ ((getT (filesOf s) x.f0).2 = false ∧ (x.f1 = 2 ∨ x.f1 = 3)) := by simp [hok]
  rw [hok] at hget
  have hE : doE s x = 8 := by unfold doE; rw [if_neg hno, if_neg (by simp [he]), if_pos ⟨hq1, hq4⟩]
  have hB : doB s x = (s, 8) := by unfold doB; rw [hE]; rfl
  rw [hB]
  obtain ⟨⟨n2, r2⟩, hdr⟩ : ∃ r, doT (filesOf s) x (-1) = r := ⟨_, rfl⟩
  rw [hdr] at hdo hdk he hq1 hq4 
  simp only at hdo hdk he hq1 hq4 
  obtain rfl := he
  have hn2 := (hdk rfl).2
  obtain ⟨kd, hkd⟩ := size_f n2 (by omega)
  have HKD := Aside0.mk hkd
  have HEB := Aside0.mk (And.intro hE hB)
  have HDR := Aside0.mk hdr
  clear hok hno hE hB hdr hkd
  have hp0 := hp.cell
  obtain ⟨hx0, hx1, hx2, hx3⟩ := hn.cell
  have H := Aside0.mk h
  have H0 := Aside0.mk h0
  have HK0 := Aside0.mk hk0
  have HE := Aside0.mk (And.intro e1 (And.intro e2 e3))
  have HF := Aside0.mk hf
  have HP := Aside0.mk hp
  have HN := Aside0.mk hn
  have HFx := Aside0.mk hF
  have HGET := Aside0.mk hget
  have HDO := Aside0.mk hdo
  have HDK := Aside0.mk hdk
  have HKZ := Aside0.mk hkz
  clear h h0 hk0 hf hp hn hF hget hdo hdk hkz e1 e2 e3
  go_enter Try.func91, Try.ntmps91
  go_wp2_with (first
    | (go_at_call 42; refine (files_calls ⟨mv, sv, _, H.out⟩ HF.out).mono ?_; rintro e w1 ⟨v1, rfl, hV1, hb1w⟩; obtain ⟨A1, c1, rfl⟩ := Kd.V_slice hV1; obtain ⟨hx0, hx1, hx2, hx3⟩ := (HN.out.below hb1w).cell; have HV1 := Aside0.mk hV1; have HB1 := Aside0.mk hb1w; clear hV1 hb1w)
    | (go_at_call 28; refine (files_Get.calls A1 c1 (filesOf s) x.f0 _ _ _ (Kd.V_reads' HV1.out).2.2 (Kd.V_reads' HV1.out).2.1 HGET.out).mono ?_; rintro e w2 ⟨v2, rfl, hR2, hb2⟩; obtain ⟨A2, c2, rfl⟩ := Kd.R_slice hR2; obtain ⟨hx0, hx1, hx2, hx3⟩ := (HN.out.below (below_step HB1.out hb2)).cell; have HB12 := Aside0.mk hb2; have HB2 := Aside0.mk (below_step HB1.out hb2); clear hR2 hb2)
    | (go_at_call 17; refine (files_Do.calls (fun k => w.heap.size ≤ k) A1 c1 (filesOf s) x.f0 x.f1 x.f2 A3 c3 x.f3 (-1) _ _ _ (V_base (Kd.V_below HV1.out HB12.out)) (Kd.F_now (Kd.F_below HFx.out HB2.out)) hc3 HDO.out).mono ?_; rintro e w3 ⟨v3, rfl, hV3, hb3⟩; obtain ⟨A4, c4, rfl⟩ := Kd.V_slice hV3; have hp0 := (HP.out.below (below_step HB2.out hb3)).cell; obtain ⟨hx0, hx1, hx2, hx3⟩ := (HN.out.below (below_step HB2.out hb3)).cell; have HV3 := Aside0.mk hV3; have HB13 := Aside0.mk (below_step HB12.out hb3); have HB3 := Aside0.mk (below_step HB2.out hb3); clear hV3 hb3)
    | (go_at_call 35; with_reducible refine (files_Size.calls kd A4 c4 _ (sizeF n2) _ (Kd.V_reads' HV3.out).2.2 (Kd.V_reads' HV3.out).2.1 HKD.out).mono ?_; rintro e w4 ⟨rfl, hb4⟩; have hp0 := (HP.out.below (below_step HB3.out hb4)).cell; obtain ⟨hx0, hx1, hx2, hx3⟩ := (HN.out.below (below_step HB3.out hb4)).cell; have hq := (H.out.below (below_step HB3.out hb4)).cells.2.2.2.2.2.1; have HB14 := Aside0.mk (below_step HB13.out hb4); have HB4 := Aside0.mk (below_step HB3.out hb4); clear hb4)
    | (go_at_call 35; with_reducible refine (files_Size.calls kz A1 c1 _ (sizeF (filesOf s)) _ (Kd.V_reads' (Kd.V_below HV1.out HB14.out)).2.2 (Kd.V_reads' HV1.out).2.1 HKZ.out).mono ?_; rintro e w5 ⟨rfl, hb5⟩; have HB5 := Aside0.mk (below_step HB4.out hb5); obtain ⟨hx0, hx1, hx2, hx3⟩ := (HN.out.below (below_step HB4.out hb5)).cell; clear hb5))
  go_ret
  exact ⟨_, rfl, rfl, ⟨mv, sv, _, H.out.below HB5.out⟩, belowB_of hBw HB5.out⟩
end
end Go.Proofs.Ytcgeioingikeeaa.P
namespace Go.Proofs.Ytcgeioingikeeaa.P
open Go.RowKit Go.Proofs.YtcgeioingikeeaaW.PrintWords Go.Proofs.YtcgeioingikeeaaW.PrintLast Go.Proofs.YtcgeioingikeeaaW.PrintMore
set_option linter.unusedVariables false
set_option linter.unusedSimpArgs false
section
variable {B g : Nat} {s : SSt} {w : World} {mv sv pv : Value}
set_option maxHeartbeats 4000000 in
set_option maxRecDepth 100000 in
theorem do1_in_t (x : S31) (A3 : Option Addr) (c3 b0 b1 : Nat) {s0 : SSt} {w0 : World} (h0 : RepAt B g s0 w0 mv sv pv) (hk0 : KeptG g w0 w) (hb1 : w0.heap.size ≤ b1) (hB0 : B ≤ w0.heap.size) (e1 : s.safe = s0.safe) (e2 : s.pend = s0.pend) (e3 : s.fails = s0.fails)
    (h : RepAt B g s w mv sv pv) (hf : Fit s) (hx : x.f3.length ≤ 1000) (hp : VarP w b0 g) (hn : VarW w b1 x A3 c3) (hF : Kd.F (Kd.int .u8) w (fun k => k ≠ g) A3 x.f3.length x.f3) (hc3 : x.f3.length ≤ c3) (hok : (getT (filesOf s) x.f0).2 = true) (he : (doT (filesOf s) x (-1)).2 = 0) (hq1 : ¬ s.quota < sizeF (doT (filesOf s) x (-1)).1) :
    Calls Try.prog 91 #[.pointer (some ⟨b0, 0, none⟩), .pointer (some ⟨b1, 0, none⟩)] w fun e w' => ∃ r, e = .returned (.int .i64 r) ∧ r = (doB s x).2 ∧ Rep B g (doB s x).1 w' ∧ Below B w w' := by
  obtain ⟨Ap, cp, rfl⟩ := O_slice h.pend
  have hBw : B ≤ w.heap.size := Nat.le_trans hB0 hk0.1
  have hg0 : g < w0.heap.size := blk_lt h0.blk
  have hlen := hf.len
  have hfl : okL (filesOf s) ∧ (filesOf s).length ≤ 1000 := files_ok hf
  have hget := get_f (filesOf s) x.f0 (by omega) hfl.1
  have hdo := doT_f (filesOf s) x (-1) (by omega) hfl.1 (by omega)
  have hdk := doT_ok (filesOf s) x (-1) hfl.1
  obtain ⟨kz, hkz⟩ := size_f (filesOf s) (by omega)
  have hno : ¬ ((getT (filesOf s) x.f0).2 = false ∧ (x.f1 = 2 ∨ x.f1 = 3)) := by simp [hok]
  rw [hok] at hget
  have hE : doE s x = 0 := by unfold doE; rw [if_neg hno, if_neg (by simp [he]), if_neg (fun h => hq1 h.1)]
  have hB : doB s x = ({ s with pend := s.pend ++ [x], peak := mx s.peak (sizeF (doT (filesOf s) x (-1)).1) }, 0) := by unfold doB; rw [if_pos hE]
  rw [hB]
  obtain ⟨⟨n2, r2⟩, hdr⟩ : ∃ r, doT (filesOf s) x (-1) = r := ⟨_, rfl⟩
  rw [hdr] at hdo hdk he hq1 ⊢
  simp only at hdo hdk he hq1 ⊢
  obtain rfl := he
  have hn2 := (hdk rfl).2
  obtain ⟨kd, hkd⟩ := size_f n2 (by omega)
  have HKD := Aside0.mk hkd
  have HEB := Aside0.mk (And.intro hE hB)
  have HDR := Aside0.mk hdr
  clear hok hno hE hB hdr hkd
  have hp0 := hp.cell
  obtain ⟨hx0, hx1, hx2, hx3⟩ := hn.cell
  have H := Aside0.mk h
  have H0 := Aside0.mk h0
  have HK0 := Aside0.mk hk0
  have HE := Aside0.mk (And.intro e1 (And.intro e2 e3))
  have HF := Aside0.mk hf
  have HP := Aside0.mk hp
  have HN := Aside0.mk hn
  have HFx := Aside0.mk hF
  have HGET := Aside0.mk hget
  have HDO := Aside0.mk hdo
  have HDK := Aside0.mk hdk
  have HKZ := Aside0.mk hkz
  clear h h0 hk0 hf hp hn hF hget hdo hdk hkz e1 e2 e3
  go_enter Try.func91, Try.ntmps91
  go_wp2_with (first
    | (go_at_call 42; refine (files_calls ⟨mv, sv, _, H.out⟩ HF.out).mono ?_; rintro e w1 ⟨v1, rfl, hV1, hb1w⟩; obtain ⟨A1, c1, rfl⟩ := Kd.V_slice hV1; obtain ⟨hx0, hx1, hx2, hx3⟩ := (HN.out.below hb1w).cell; have HV1 := Aside0.mk hV1; have HB1 := Aside0.mk hb1w; clear hV1 hb1w)
    | (go_at_call 28; refine (files_Get.calls A1 c1 (filesOf s) x.f0 _ _ _ (Kd.V_reads' HV1.out).2.2 (Kd.V_reads' HV1.out).2.1 HGET.out).mono ?_; rintro e w2 ⟨v2, rfl, hR2, hb2⟩; obtain ⟨A2, c2, rfl⟩ := Kd.R_slice hR2; obtain ⟨hx0, hx1, hx2, hx3⟩ := (HN.out.below (below_step HB1.out hb2)).cell; have HB12 := Aside0.mk hb2; have HB2 := Aside0.mk (below_step HB1.out hb2); clear hR2 hb2)
    | (go_at_call 17; refine (files_Do.calls (fun k => w.heap.size ≤ k) A1 c1 (filesOf s) x.f0 x.f1 x.f2 A3 c3 x.f3 (-1) _ _ _ (V_base (Kd.V_below HV1.out HB12.out)) (Kd.F_now (Kd.F_below HFx.out HB2.out)) hc3 HDO.out).mono ?_; rintro e w3 ⟨v3, rfl, hV3, hb3⟩; obtain ⟨A4, c4, rfl⟩ := Kd.V_slice hV3; have hp0 := (HP.out.below (below_step HB2.out hb3)).cell; obtain ⟨hx0, hx1, hx2, hx3⟩ := (HN.out.below (below_step HB2.out hb3)).cell; have HV3 := Aside0.mk hV3; have HB13 := Aside0.mk (below_step HB12.out hb3); have HB3 := Aside0.mk (below_step HB2.out hb3); clear hV3 hb3)
    | (go_at_call 35; with_reducible refine (files_Size.calls kd A4 c4 _ (sizeF n2) _ (Kd.V_reads' HV3.out).2.2 (Kd.V_reads' HV3.out).2.1 HKD.out).mono ?_; rintro e w4 ⟨rfl, hb4⟩; have hp0 := (HP.out.below (below_step HB3.out hb4)).cell; obtain ⟨hx0, hx1, hx2, hx3⟩ := (HN.out.below (below_step HB3.out hb4)).cell; have hq := (H.out.below (below_step HB3.out hb4)).cells.2.2.2.2.2.1; have HB14 := Aside0.mk (below_step HB13.out hb4); have HB4 := Aside0.mk (below_step HB3.out hb4); clear hb4)
    | (go_at_call 61; refine (cloneB (fun k => k ≠ g) A3 c3 x.f3 _ (Kd.F_below HFx.out HB4.out) (by omega)).mono ?_; rintro e w6 ⟨v6, rfl, hO6, hb6⟩; obtain ⟨A6, c6, rfl⟩ := O_slice hO6; have hb26 : Below w.heap.size w w6 := below_step HB4.out hb6; obtain ⟨hx0, hx1, hx2, hx3⟩ := (HN.out.below hb26).cell; have hfb := blk_frozen (HN.out.below hb26) 3; have HO6 := Aside0.mk hO6; have HB6 := Aside0.mk hb26; clear hO6 hb6 hb26))

  have hn6' : w6.heap[b1]? = some (.cells #[.string x.f0, .int .i64 x.f1, .int .i64 x.f2, .slice A3 x.f3.length c3] 31 (0, 0)) := HN.out.below HB6.out
  have hp6' : w6.heap[b0]? = some (.cells #[.pointer (some ⟨g, 0, none⟩)] 58 (0, 0)) := HP.out.below HB6.out
  have hn6 := blk_set hn6' 3 (.slice A6 x.f3.length c6)
  have hF6 : Kd.F (Kd.int .u8) w6 (fun k => w.heap.size ≤ k) A6 x.f3.length x.f3 := Kd.F_mono (O_F_own HO6.out) fun k hk => Nat.le_trans HB4.out.size (O_base HO6.out k hk.symm)
  have hb1w : b1 < w.heap.size := blk_lt HN.out
  have hgb : g ≠ b1 := by omega
  have hsz6 : w.heap.size ≤ w6.heap.size := HB6.out.size
  have hF7 : Kd.F (Kd.int .u8) (w6.setCell ⟨b1, 3, none⟩ (.slice A6 x.f3.length c6)) (fun k => w.heap.size ≤ k) A6 x.f3.length x.f3 := Kd.F_step hF6 fun k hk _ => Below.heap_setCell _ _ _ _ (show k ≠ b1 by omega)
  have hR7 : RepAt B g s (w6.setCell ⟨b1, 3, none⟩ (.slice A6 x.f3.length c6)) mv sv (.slice Ap s.pend.length cp) := H0.out.beside (H.out.below HB6.out) (HK0.out.trans (KeptG.of_below HB6.out)) hb1 (fun k hk => Below.heap_setCell _ _ _ _ hk) HE.out.1 HE.out.2.1 HE.out.2.2
  have hP7 : VarP (w6.setCell ⟨b1, 3, none⟩ (.slice A6 x.f3.length c6)) b0 g := (Below.heap_setCell _ _ _ _ (show b0 ≠ b1 from blk_ne hp6' hn6' (by decide))).trans hp6'
  have hN7 : VarW (w6.setCell ⟨b1, 3, none⟩ (.slice A6 x.f3.length c6)) b1 x A6 c6 := hn6
  have hB7 : Below B w (w6.setCell ⟨b1, 3, none⟩ (.slice A6 x.f3.length c6)) := belowB_set (belowB_of hBw HB6.out) (Nat.le_trans hB0 hb1) 3 _
  have hs7 : w.heap.size ≤ (w6.setCell ⟨b1, 3, none⟩ (.slice A6 x.f3.length c6)).heap.size := by rw [World.size_setCell]; exact hsz6
  clear hn6 hF6 hp0 hx0 hx1 hx2 hx3 hfb
  generalize w6.setCell ⟨b1, 3, none⟩ (.slice A6 x.f3.length c6) = w7 at hF7 hR7 hP7 hN7 hB7 hs7 ⊢
  obtain ⟨i0, hi, hz0, hz1, hz2⟩ := info_parts info31
  obtain ⟨inner, hown, hreps⟩ := hR7.pend
  have hd7 : Below w7.heap.size w7 w7.drew := below_drew1 (Below.refl _ _)
  refine start_ (n := 11) (S := (fun w' => w'.cell? ⟨b0, 0, none⟩ = some (.pointer (some ⟨g, 0, none⟩)) ∧ w'.cell? ⟨g, 4, none⟩ = some (.slice Ap s.pend.length cp) ∧ w'.cell? ⟨b1, 0, none⟩ = some (.string x.f0) ∧ w'.cell? ⟨b1, 1, none⟩ = some (.int .i64 x.f1) ∧ w'.cell? ⟨b1, 2, none⟩ = some (.int .i64 x.f2) ∧ w'.cell? ⟨b1, 3, none⟩ = some (.slice A6 x.f3.length c6))) (ds := [10]) #[false, false, false, false, false, false, false, false, false, false, false] (by kernel_rfl) rfl rfl ⟨(hP7.below hd7).cell, (hR7.below hd7).cells.2.2.2.2.1, (hN7.below hd7).cell.1, (hN7.below hd7).cell.2.1, (hN7.below hd7).cell.2.2.1, (hN7.below hd7).cell.2.2.2⟩ (fun hHeld => ?_)
  refine take_ (i := 0) (N := some 59) (v := ?_) (a' := ?_) #[true, false, false, false, false, false, false, false, false, false, false] rfl rfl (by kernel_rfl) (fun _ _ _ h => h) (Or.inl ⟨by rfl, ?_⟩) hHeld ?_ ?_
  rotate_left
  · rintro w' ⟨s0, s1, s2, s3, s4, s5⟩
    go_simp
    with_reducible rfl
  rotate_left
  · simp only [Act.put, List.setIfInBounds_toArray, List.set_cons_zero, List.set_cons_succ, i64_w, i32_w]
    rfl
  refine take_ (i := 1) (N := some 60) (v := ?_) (a' := ?_) #[true, true, false, false, false, false, false, false, false, false, false] rfl rfl (by kernel_rfl) (fun _ _ _ h => h) (Or.inl ⟨by rfl, ?_⟩) hHeld ?_ ?_
  rotate_left
  · rintro w' ⟨s0, s1, s2, s3, s4, s5⟩
    go_simp
    with_reducible rfl
  rotate_left
  · simp only [Act.put, List.setIfInBounds_toArray, List.set_cons_zero, List.set_cons_succ, i64_w, i32_w]
    rfl
  refine pure_ (i := 2) (N := some 61) (v := ?_) (a' := ?_) #[true, true, true, false, false, false, false, false, false, false, false] rfl rfl (by kernel_rfl) (fun _ _ _ h => h) (Or.inl ⟨by rfl, ?_⟩) ?_ ?_
  rotate_left
  · intro w'
    go_simp
    with_reducible rfl
  rotate_left
  · simp only [Act.put, List.setIfInBounds_toArray, List.set_cons_zero, List.set_cons_succ, i64_w, i32_w]
    rfl
  refine pure_ (i := 3) (N := some 62) (v := ?_) (a' := ?_) #[true, true, true, true, false, false, false, false, false, false, false] rfl rfl (by kernel_rfl) (fun _ _ _ h => h) (Or.inl ⟨by rfl, ?_⟩) ?_ ?_
  rotate_left
  · intro w'
    go_simp
    with_reducible rfl
  rotate_left
  · simp only [Act.put, List.setIfInBounds_toArray, List.set_cons_zero, List.set_cons_succ, i64_w, i32_w]
    rfl
  refine take_ (i := 4) (N := some 63) (v := ?_) (a' := ?_) #[true, true, true, true, true, false, false, false, false, false, false] rfl rfl (by kernel_rfl) (fun _ _ _ h => h) (Or.inl ⟨by rfl, ?_⟩) hHeld ?_ ?_
  rotate_left
  · rintro w' ⟨s0, s1, s2, s3, s4, s5⟩
    go_simp
    with_reducible rfl
  rotate_left
  · simp only [Act.put, List.setIfInBounds_toArray, List.set_cons_zero, List.set_cons_succ, i64_w, i32_w]
    rfl
  refine take_ (i := 5) (N := some 64) (v := ?_) (a' := ?_) #[true, true, true, true, true, true, false, false, false, false, false] rfl rfl (by kernel_rfl) (fun _ _ _ h => h) (Or.inl ⟨by rfl, ?_⟩) hHeld ?_ ?_
  rotate_left
  · rintro w' ⟨s0, s1, s2, s3, s4, s5⟩
    go_simp
    with_reducible rfl
  rotate_left
  · simp only [Act.put, List.setIfInBounds_toArray, List.set_cons_zero, List.set_cons_succ, i64_w, i32_w]
    rfl
  refine one_ (i := 6) (N := some 65) #[true, true, true, true, true, true, true, false, false, false, false] rfl rfl (by kernel_rfl) (by decide) (fun K hK => ?_)
  refine value_ (w1 := w7.drew.alloc (Obj.cells #[.string x.f0, .int .i64 x.f1, .int .i64 x.f2, .slice A6 x.f3.length c6] 31)) (v := .slice (some ⟨w7.drew.heap.size, 0, none⟩) 1 1) (by rfl) rfl ?_ ?_
  · go_simp
  have h78 : Below w7.heap.size w7 (w7.drew.alloc (Obj.cells #[.string x.f0, .int .i64 x.f1, .int .i64 x.f2, .slice A6 x.f3.length c6] 31)) := below_alloc hd7 _
  have hN8 := (hN7.below h78).cell
  refine hK.out _ _ ⟨(hP7.below h78).cell, (hR7.below h78).cells.2.2.2.2.1, hN8.1, hN8.2.1, hN8.2.2.1, hN8.2.2.2⟩ (fun hHeld => ?_)
  clear hK K
  refine norm_ (a' := ?_) ?_ ?_
  rotate_left
  · show Act.put _ (some 65) _ = _
    simp only [Act.put, List.setIfInBounds_toArray, List.set_cons_zero, List.set_cons_succ, i64_w, i32_w]
    rfl
  refine one_ (i := 7) (N := some 66) #[true, true, true, true, true, true, true, true, false, false, false] rfl rfl (by kernel_rfl) (by decide) (fun K hK => ?_)
  refine step_append_lies _ (by rfl) _ _ _ (by rfl) B 31 i0 _ 4 56 Try.underlying104 hi hz0 hz1 hz2 rfl (by omega) (.slice Ap s.pend.length cp) s.pend.length inner (by rfl) (pw_own_below hown h78) ⟨w7.drew.heap.size, 0, none⟩ 1 1 [.string x.f0, .int .i64 x.f1, .int .i64 x.f2, .slice A6 x.f3.length c6] (by rfl) (by rfl) (World.news_of_block (cs := #[.string x.f0, .int .i64 x.f1, .int .i64 x.f2, .slice A6 x.f3.length c6]) (t := 31) (fr := (0, 0)) (heap_alloc_new _ _)) (by simp [Value.oneCell']) (by omega) (by unfold maxLen; omega) (by omega) (Nat.le_trans (Nat.le_trans hBw hs7) h78.size) _ rfl ?_
  intro gg cap w8 hown8 hgrow hat hlt8
  have hR8 := hR7.below h78
  have hP8 : ∀ b t (cs : Array Value) (f : Nat × Nat), (w7.drew.alloc (Obj.cells #[.string x.f0, .int .i64 x.f1, .int .i64 x.f2, .slice A6 x.f3.length c6] 31)).heap[b]? = some (Obj.cells cs t f) → some b ≠ (Value.slice Ap s.pend.length cp).ownBlock → w8.heap[b]? = some (Obj.cells cs t f) := fun b t cs f hb ht => (hgrow.block b (blk_lt hb) ht).trans hb
  have hne1 : some b1 ≠ (Value.slice Ap s.pend.length cp).ownBlock := fun he => by
    obtain ⟨inner0, hown0, _⟩ := H0.out.pend
    have := own_lt hown0 b1 he.symm
    omega
  have hp8 := hP8 _ _ _ _ (hP7.below h78) (fun he => by exact O_ne hR8.pend (hP7.below h78) (by decide) he.symm)
  have hn8 : VarW w8 b1 x A6 c6 := hP8 _ _ _ _ (hN7.below h78) hne1
  have hg8 := hP8 _ _ _ _ hR8.blk (fun he => hR8.pend_ne he.symm)
  have hN8' := hn8.cell
  refine hK.out _ _ ⟨VarP.cell hp8, by rw [cell_of_row w8 g _ _ 106 (0, 0) hg8]; rfl, hN8'.1, hN8'.2.1, hN8'.2.2.1, hN8'.2.2.2⟩ (fun hHeld => ?_)
  have hO8 : O k31 31 w8 B (fun k => k ≠ g) (.slice (some ⟨gg, 0, none⟩) (s.pend.length + 1) cap) (s.pend ++ [x]) := by
    refine O_snoc31 (W := w7.drew.alloc (Obj.cells #[.string x.f0, .int .i64 x.f1, .int .i64 x.f2, .slice A6 x.f3.length c6] 31)) (v := .slice Ap s.pend.length cp) (hreps.imp_ fun y c' hy => Kd.FK_below hy h78) ?_ hown8 hgrow ?_
    · refine k31_mkF _ _ x (Kd.V_reads' (O_V HO6.out)).2.1 (Kd.F_mono (Kd.F_below hF7 h78) fun k hk => ⟨?_, fun he => ?_⟩)
      · have := HK0.out.1
        omega
      · obtain ⟨inner0, hown0, _⟩ := H0.out.pend
        have := own_lt hown0 k he.symm
        have := HK0.out.1
        omega
    · rcases hat with hat | hat
      · exact .inl hat.symm
      · exact .inr (by rw [hat]; rfl)
  have hR9 := hR8.setPend hO8 hgrow (hat.elim (fun h => .inl h.symm) (fun h => .inr ⟨gg, rfl, by rw [h]; exact Nat.le_refl _⟩))
  have hB9 : Below B w w8 := belowB_trans (belowB_trans hB7 (belowB_of (Nat.le_trans hBw hs7) h78)) ⟨hgrow.os, hgrow.tape, hgrow.output, hgrow.size, fun k hk => hgrow.block k (Nat.lt_of_lt_of_le hk (Nat.le_trans (Nat.le_trans hBw hs7) h78.size)) (fun he => by have := O_base hR8.pend k he.symm; omega)⟩
  clear hK K
  refine norm_ (a' := ?_) ?_ ?_
  rotate_left
  · show Act.put _ (some 66) _ = _
    simp only [Act.put, List.setIfInBounds_toArray, List.set_cons_zero, List.set_cons_succ, i64_w, i32_w]
    rfl
  refine pure_ (i := 8) (N := some 67) (v := ?_) (a' := ?_) #[true, true, true, true, true, true, true, true, true, false, false] rfl rfl (by kernel_rfl) (fun _ _ _ h => h) (Or.inl ⟨by rfl, ?_⟩) ?_ ?_
  rotate_left
  · intro w'
    go_simp
    with_reducible rfl
  rotate_left
  · simp only [Act.put, List.setIfInBounds_toArray, List.set_cons_zero, List.set_cons_succ, i64_w, i32_w]
    rfl
  refine pure_ (i := 9) (N := some 68) (v := ?_) (a' := ?_) #[true, true, true, true, true, true, true, true, true, true, false] rfl rfl (by kernel_rfl) (fun _ _ _ h => h) (Or.inl ⟨by rfl, ?_⟩) ?_ ?_
  rotate_left
  · intro w'
    go_simp
    with_reducible rfl
  rotate_left
  · simp only [Act.put, List.setIfInBounds_toArray, List.set_cons_zero, List.set_cons_succ, i64_w, i32_w]
    rfl
  refine last_ (i := 10) (N := none) #[true, true, true, true, true, true, true, true, true, true, true] rfl rfl (by kernel_rfl) (by decide) (fun K hK => ?_)
  have hfr := blk_frozen hg8 4
  have hcl : w8.cell? ⟨g, 4, none⟩ = some (.slice Ap s.pend.length cp) := by rw [cell_of_row w8 g _ _ 106 (0, 0) hg8]; rfl
  refine skip_ (w1 := ?_) (by rfl) rfl ?_ ?_
  rotate_left
  · go_simp
    rfl
  refine hK.out _ _ ?_
  clear hK K
  refine done_ (by kernel_rfl) ?_
  have hp9 : VarP (w8.setCell ⟨g, 4, none⟩ (.slice (some ⟨gg, 0, none⟩) (s.pend.length + 1) cap)) b0 g := VarP.set hp8 hg8
  have hB10 := belowB_set hB9 H0.out.hg 4 (.slice (some ⟨gg, 0, none⟩) (s.pend.length + 1) cap)
  have HBS := Aside0.mk hB10
  clear hfr hcl hHeld hO8 hown8 hgrow hat hlt8 hreps hown hN8 hN8' hn8 hg8 hp8 hP8 hB9 hB10 hB7 hF7 hR8 hR7 hP7 hN7 h78 hd7 hi hz0 hz1 hz2
  go_wp2_with fail
  generalize w8.setCell ⟨g, 4, none⟩ (.slice (some ⟨gg, 0, none⟩) (s.pend.length + 1) cap) = w9 at hp9 hR9 HBS ⊢
  have hd9 : Below w9.heap.size w9 w9.drew := below_drew1 (Below.refl _ _)
  have hp9d := (hp9.below hd9).cell
  have hc6d := (hR9.below hd9).cells.2.2.2.2.2.2.1
  refine start_ (n := 10) (S := (fun w' => w'.cell? ⟨b0, 0, none⟩ = some (.pointer (some ⟨g, 0, none⟩)) ∧ w'.cell? ⟨g, 6, none⟩ = some (.int .i64 s.peak))) (ds := [9]) #[false, false, false, false, false, false, false, false, false, false] (by kernel_rfl) rfl rfl ⟨hp9d, hc6d⟩ (fun hHeld => ?_)
  refine pure_ (i := 5) (N := some 74) (v := ?_) (a' := ?_) #[false, false, false, false, false, true, false, false, false, false] rfl rfl (by kernel_rfl) (fun _ _ _ h => h) (Or.inl ⟨by rfl, ?_⟩) ?_ ?_
  rotate_left
  · intro w'
    go_simp
    with_reducible rfl
  rotate_left
  · simp only [Act.put, List.setIfInBounds_toArray, List.set_cons_zero, List.set_cons_succ, i64_w, i32_w]
    rfl
  refine take_ (i := 0) (N := some 69) (v := ?_) (a' := ?_) #[true, false, false, false, false, true, false, false, false, false] rfl rfl (by kernel_rfl) (fun _ _ _ h => h) (Or.inl ⟨by rfl, ?_⟩) hHeld ?_ ?_
  rotate_left
  · rintro w' ⟨s0, s1⟩
    go_simp
    with_reducible rfl
  rotate_left
  · simp only [Act.put, List.setIfInBounds_toArray, List.set_cons_zero, List.set_cons_succ, i64_w, i32_w]
    rfl
  refine take_ (i := 1) (N := some 70) (v := ?_) (a' := ?_) #[true, true, false, false, false, true, false, false, false, false] rfl rfl (by kernel_rfl) (fun _ _ _ h => h) (Or.inl ⟨by rfl, ?_⟩) hHeld ?_ ?_
  rotate_left
  · rintro w' ⟨s0, s1⟩
    go_simp
    with_reducible rfl
  rotate_left
  · simp only [Act.put, List.setIfInBounds_toArray, List.set_cons_zero, List.set_cons_succ, i64_w, i32_w]
    rfl
  refine pure_ (i := 2) (N := some 71) (v := ?_) (a' := ?_) #[true, true, true, false, false, true, false, false, false, false] rfl rfl (by kernel_rfl) (fun _ _ _ h => h) (Or.inl ⟨by rfl, ?_⟩) ?_ ?_
  rotate_left
  · intro w'
    go_simp
    with_reducible rfl
  rotate_left
  · simp only [Act.put, List.setIfInBounds_toArray, List.set_cons_zero, List.set_cons_succ, i64_w, i32_w]
    rfl
  refine pure_ (i := 3) (N := some 72) (v := ?_) (a' := ?_) #[true, true, true, true, false, true, false, false, false, false] rfl rfl (by kernel_rfl) (fun _ _ _ h => h) (Or.inl ⟨by rfl, ?_⟩) ?_ ?_
  rotate_left
  · intro w'
    go_simp
    with_reducible rfl
  rotate_left
  · simp only [Act.put, List.setIfInBounds_toArray, List.set_cons_zero, List.set_cons_succ, i64_w, i32_w]
    rfl
  refine take_ (i := 4) (N := some 73) (v := ?_) (a' := ?_) #[true, true, true, true, true, true, false, false, false, false] rfl rfl (by kernel_rfl) (fun _ _ _ h => h) (Or.inl ⟨by rfl, ?_⟩) hHeld ?_ ?_
  rotate_left
  · rintro w' ⟨s0, s1⟩
    go_simp
    with_reducible rfl
  rotate_left
  · simp only [Act.put, List.setIfInBounds_toArray, List.set_cons_zero, List.set_cons_succ, i64_w, i32_w]
    rfl
  refine pure_ (i := 6) (N := some 75) (v := ?_) (a' := ?_) #[true, true, true, true, true, true, true, false, false, false] rfl rfl (by kernel_rfl) (fun _ _ _ h => h) (Or.inl ⟨by rfl, ?_⟩) ?_ ?_
  rotate_left
  · intro w'
    go_simp
    with_reducible rfl
  rotate_left
  · simp only [Act.put, List.setIfInBounds_toArray, List.set_cons_zero, List.set_cons_succ, i64_w, i32_w]
    rfl
  refine pure_ (i := 7) (N := some 76) (v := ?_) (a' := ?_) #[true, true, true, true, true, true, true, true, false, false] rfl rfl (by kernel_rfl) (fun _ _ _ h => h) (Or.inl ⟨by rfl, ?_⟩) ?_ ?_
  rotate_left
  · intro w'
    go_simp
    with_reducible rfl
  rotate_left
  · simp only [Act.put, List.setIfInBounds_toArray, List.set_cons_zero, List.set_cons_succ, i64_w, i32_w]
    rfl
  refine pure_ (i := 8) (N := some 77) (v := ?_) (a' := ?_) #[true, true, true, true, true, true, true, true, true, false] rfl rfl (by kernel_rfl) (fun _ _ _ h => h) (Or.inl ⟨by rfl, ?_⟩) ?_ ?_
  rotate_left
  · intro w'
    go_simp
    with_reducible rfl
  rotate_left
  · simp only [Act.put, List.setIfInBounds_toArray, List.set_cons_zero, List.set_cons_succ, i64_w, i32_w]
    rfl
  refine last_ (i := 9) (N := none) #[true, true, true, true, true, true, true, true, true, true] rfl rfl (by kernel_rfl) (by decide) (fun K hK => ?_)
  have hfr := blk_frozen (hR9.below hd9).blk 6
  have hcl := hc6d
  refine skip_ (w1 := ?_) (by rfl) rfl ?_ ?_
  rotate_left
  · go_simp
    rfl
  refine hK.out _ _ ?_
  clear hK K
  refine done_ (by kernel_rfl) ?_
  have hend : RepAt B g { s with pend := s.pend ++ [x], peak := mx s.peak (sizeF n2) } (w9.drew.setCell ⟨g, 6, none⟩ (.int .i64 (mx s.peak (sizeF n2)))) mv sv (.slice (some ⟨gg, 0, none⟩) (s.pend.length + 1) cap) :=
    (hR9.below hd9).upd (fun k _ hk => Below.heap_setCell _ _ _ _ hk) (blk_set (hR9.below hd9).blk 6 _) rfl rfl rfl
  have hBe : Below B w (w9.drew.setCell ⟨g, 6, none⟩ (.int .i64 (mx s.peak (sizeF n2)))) := belowB_set (belowB_trans HBS.out (belowB_of (Nat.le_trans hBw HBS.out.size) hd9)) H0.out.hg 6 _
  go_wp2_with fail
  all_goals go_ret
  · have hm : mx s.peak (sizeF n2) = sizeF n2 := by unfold mx; split <;> omega
    rw [hm] at hend hBe
    exact ⟨0, rfl, rfl, ⟨_, _, _, by rw [hm]; exact hend⟩, hBe⟩
  · have hm : mx s.peak (sizeF n2) = s.peak := by unfold mx; split <;> omega
    rw [hm] at hend hBe
    exact ⟨0, rfl, rfl, ⟨_, _, _, by rw [hm]; exact hend⟩, hBe⟩
end
end Go.Proofs.Ytcgeioingikeeaa.P
namespace Go.Proofs.Ytcgeioingikeeaa.P
open Go.RowKit Go.Proofs.YtcgeioingikeeaaW.PrintWords Go.Proofs.YtcgeioingikeeaaW.PrintLast Go.Proofs.YtcgeioingikeeaaW.PrintMore
set_option linter.unusedVariables false
set_option linter.unusedSimpArgs false
section
variable {B g : Nat} {s : SSt} {w : World} {mv sv pv : Value}
set_option maxHeartbeats 4000000 in
set_option maxRecDepth 100000 in
theorem do1_less_t (x : S31) (A3 : Option Addr) (c3 b0 b1 : Nat) {s0 : SSt} {w0 : World} (h0 : RepAt B g s0 w0 mv sv pv) (hk0 : KeptG g w0 w) (hb1 : w0.heap.size ≤ b1) (hB0 : B ≤ w0.heap.size) (e1 : s.safe = s0.safe) (e2 : s.pend = s0.pend) (e3 : s.fails = s0.fails)
    (h : RepAt B g s w mv sv pv) (hf : Fit s) (hx : x.f3.length ≤ 1000) (hp : VarP w b0 g) (hn : VarW w b1 x A3 c3) (hF : Kd.F (Kd.int .u8) w (fun k => k ≠ g) A3 x.f3.length x.f3) (hc3 : x.f3.length ≤ c3) (hok : (getT (filesOf s) x.f0).2 = true) (he : (doT (filesOf s) x (-1)).2 = 0) (hq1 : s.quota < sizeF (doT (filesOf s) x (-1)).1) (hq4 : ¬ sizeF (filesOf s) < sizeF (doT (filesOf s) x (-1)).1) :
    Calls Try.prog 91 #[.pointer (some ⟨b0, 0, none⟩), .pointer (some ⟨b1, 0, none⟩)] w fun e w' => ∃ r, e = .returned (.int .i64 r) ∧ r = (doB s x).2 ∧ Rep B g (doB s x).1 w' ∧ Below B w w' := by
  obtain ⟨Ap, cp, rfl⟩ := O_slice h.pend
  have hBw : B ≤ w.heap.size := Nat.le_trans hB0 hk0.1
  have hg0 : g < w0.heap.size := blk_lt h0.blk
  have hlen := hf.len
  have hfl : okL (filesOf s) ∧ (filesOf s).length ≤ 1000 := files_ok hf
  have hget := get_f (filesOf s) x.f0 (by omega) hfl.1
  have hdo := doT_f (filesOf s) x (-1) (by omega) hfl.1 (by omega)
  have hdk := doT_ok (filesOf s) x (-1) hfl.1
  obtain ⟨kz, hkz⟩ := size_f (filesOf s) (by omega)
  have hno : ¬ ((getT (filesOf s) x.f0).2 = false ∧ (x.f1 = 2 ∨ x.f1 = 3)) := by simp [hok]
  rw [hok] at hget
  have hE : doE s x = 0 := by unfold doE; rw [if_neg hno, if_neg (by simp [he]), if_neg (fun h => hq4 h.2)]
  have hB : doB s x = ({ s with pend := s.pend ++ [x], peak := mx s.peak (sizeF (doT (filesOf s) x (-1)).1) }, 0) := by unfold doB; rw [if_pos hE]
  rw [hB]
  obtain ⟨⟨n2, r2⟩, hdr⟩ : ∃ r, doT (filesOf s) x (-1) = r := ⟨_, rfl⟩
  rw [hdr] at hdo hdk he hq1 hq4 ⊢
  simp only at hdo hdk he hq1 hq4 ⊢
  obtain rfl := he
  have hn2 := (hdk rfl).2
  obtain ⟨kd, hkd⟩ := size_f n2 (by omega)
  have HKD := Aside0.mk hkd
  have HEB := Aside0.mk (And.intro hE hB)
  have HDR := Aside0.mk hdr
  clear hok hno hE hB hdr hkd
  have hp0 := hp.cell
  obtain ⟨hx0, hx1, hx2, hx3⟩ := hn.cell
  have H := Aside0.mk h
  have H0 := Aside0.mk h0
  have HK0 := Aside0.mk hk0
  have HE := Aside0.mk (And.intro e1 (And.intro e2 e3))
  have HF := Aside0.mk hf
  have HP := Aside0.mk hp
  have HN := Aside0.mk hn
  have HFx := Aside0.mk hF
  have HGET := Aside0.mk hget
  have HDO := Aside0.mk hdo
  have HDK := Aside0.mk hdk
  have HKZ := Aside0.mk hkz
  clear h h0 hk0 hf hp hn hF hget hdo hdk hkz e1 e2 e3
  go_enter Try.func91, Try.ntmps91
  go_wp2_with (first
    | (go_at_call 42; refine (files_calls ⟨mv, sv, _, H.out⟩ HF.out).mono ?_; rintro e w1 ⟨v1, rfl, hV1, hb1w⟩; obtain ⟨A1, c1, rfl⟩ := Kd.V_slice hV1; obtain ⟨hx0, hx1, hx2, hx3⟩ := (HN.out.below hb1w).cell; have HV1 := Aside0.mk hV1; have HB1 := Aside0.mk hb1w; clear hV1 hb1w)
    | (go_at_call 28; refine (files_Get.calls A1 c1 (filesOf s) x.f0 _ _ _ (Kd.V_reads' HV1.out).2.2 (Kd.V_reads' HV1.out).2.1 HGET.out).mono ?_; rintro e w2 ⟨v2, rfl, hR2, hb2⟩; obtain ⟨A2, c2, rfl⟩ := Kd.R_slice hR2; obtain ⟨hx0, hx1, hx2, hx3⟩ := (HN.out.below (below_step HB1.out hb2)).cell; have HB12 := Aside0.mk hb2; have HB2 := Aside0.mk (below_step HB1.out hb2); clear hR2 hb2)
    | (go_at_call 17; refine (files_Do.calls (fun k => w.heap.size ≤ k) A1 c1 (filesOf s) x.f0 x.f1 x.f2 A3 c3 x.f3 (-1) _ _ _ (V_base (Kd.V_below HV1.out HB12.out)) (Kd.F_now (Kd.F_below HFx.out HB2.out)) hc3 HDO.out).mono ?_; rintro e w3 ⟨v3, rfl, hV3, hb3⟩; obtain ⟨A4, c4, rfl⟩ := Kd.V_slice hV3; have hp0 := (HP.out.below (below_step HB2.out hb3)).cell; obtain ⟨hx0, hx1, hx2, hx3⟩ := (HN.out.below (below_step HB2.out hb3)).cell; have HV3 := Aside0.mk hV3; have HB13 := Aside0.mk (below_step HB12.out hb3); have HB3 := Aside0.mk (below_step HB2.out hb3); clear hV3 hb3)
    | (go_at_call 35; with_reducible refine (files_Size.calls kd A4 c4 _ (sizeF n2) _ (Kd.V_reads' HV3.out).2.2 (Kd.V_reads' HV3.out).2.1 HKD.out).mono ?_; rintro e w4 ⟨rfl, hb4⟩; have hp0 := (HP.out.below (below_step HB3.out hb4)).cell; obtain ⟨hx0, hx1, hx2, hx3⟩ := (HN.out.below (below_step HB3.out hb4)).cell; have hq := (H.out.below (below_step HB3.out hb4)).cells.2.2.2.2.2.1; have HB14 := Aside0.mk (below_step HB13.out hb4); have HB4 := Aside0.mk (below_step HB3.out hb4); clear hb4)
    | (go_at_call 35; with_reducible refine (files_Size.calls kz A1 c1 _ (sizeF (filesOf s)) _ (Kd.V_reads' (Kd.V_below HV1.out HB14.out)).2.2 (Kd.V_reads' HV1.out).2.1 HKZ.out).mono ?_; rintro e w5 ⟨rfl, hb5⟩; have HB5 := Aside0.mk (below_step HB4.out hb5); obtain ⟨hx0, hx1, hx2, hx3⟩ := (HN.out.below (below_step HB4.out hb5)).cell; clear hb5)
    | (go_at_call 61; refine (cloneB (fun k => k ≠ g) A3 c3 x.f3 _ (Kd.F_below HFx.out HB5.out) (by omega)).mono ?_; rintro e w6 ⟨v6, rfl, hO6, hb6⟩; obtain ⟨A6, c6, rfl⟩ := O_slice hO6; have hb26 : Below w.heap.size w w6 := below_step HB5.out hb6; obtain ⟨hx0, hx1, hx2, hx3⟩ := (HN.out.below hb26).cell; have hfb := blk_frozen (HN.out.below hb26) 3; have HO6 := Aside0.mk hO6; have HB6 := Aside0.mk hb26; clear hO6 hb6 hb26))

  have hn6' : w6.heap[b1]? = some (.cells #[.string x.f0, .int .i64 x.f1, .int .i64 x.f2, .slice A3 x.f3.length c3] 31 (0, 0)) := HN.out.below HB6.out
  have hp6' : w6.heap[b0]? = some (.cells #[.pointer (some ⟨g, 0, none⟩)] 58 (0, 0)) := HP.out.below HB6.out
  have hn6 := blk_set hn6' 3 (.slice A6 x.f3.length c6)
  have hF6 : Kd.F (Kd.int .u8) w6 (fun k => w.heap.size ≤ k) A6 x.f3.length x.f3 := Kd.F_mono (O_F_own HO6.out) fun k hk => Nat.le_trans HB5.out.size (O_base HO6.out k hk.symm)
  have hb1w : b1 < w.heap.size := blk_lt HN.out
  have hgb : g ≠ b1 := by omega
  have hsz6 : w.heap.size ≤ w6.heap.size := HB6.out.size
  have hF7 : Kd.F (Kd.int .u8) (w6.setCell ⟨b1, 3, none⟩ (.slice A6 x.f3.length c6)) (fun k => w.heap.size ≤ k) A6 x.f3.length x.f3 := Kd.F_step hF6 fun k hk _ => Below.heap_setCell _ _ _ _ (show k ≠ b1 by omega)
  have hR7 : RepAt B g s (w6.setCell ⟨b1, 3, none⟩ (.slice A6 x.f3.length c6)) mv sv (.slice Ap s.pend.length cp) := H0.out.beside (H.out.below HB6.out) (HK0.out.trans (KeptG.of_below HB6.out)) hb1 (fun k hk => Below.heap_setCell _ _ _ _ hk) HE.out.1 HE.out.2.1 HE.out.2.2
  have hP7 : VarP (w6.setCell ⟨b1, 3, none⟩ (.slice A6 x.f3.length c6)) b0 g := (Below.heap_setCell _ _ _ _ (show b0 ≠ b1 from blk_ne hp6' hn6' (by decide))).trans hp6'
  have hN7 : VarW (w6.setCell ⟨b1, 3, none⟩ (.slice A6 x.f3.length c6)) b1 x A6 c6 := hn6
  have hB7 : Below B w (w6.setCell ⟨b1, 3, none⟩ (.slice A6 x.f3.length c6)) := belowB_set (belowB_of hBw HB6.out) (Nat.le_trans hB0 hb1) 3 _
  have hs7 : w.heap.size ≤ (w6.setCell ⟨b1, 3, none⟩ (.slice A6 x.f3.length c6)).heap.size := by rw [World.size_setCell]; exact hsz6
  clear hn6 hF6 hp0 hx0 hx1 hx2 hx3 hfb
  generalize w6.setCell ⟨b1, 3, none⟩ (.slice A6 x.f3.length c6) = w7 at hF7 hR7 hP7 hN7 hB7 hs7 ⊢
  obtain ⟨i0, hi, hz0, hz1, hz2⟩ := info_parts info31
  obtain ⟨inner, hown, hreps⟩ := hR7.pend
  have hd7 : Below w7.heap.size w7 w7.drew := below_drew1 (Below.refl _ _)
  refine start_ (n := 11) (S := (fun w' => w'.cell? ⟨b0, 0, none⟩ = some (.pointer (some ⟨g, 0, none⟩)) ∧ w'.cell? ⟨g, 4, none⟩ = some (.slice Ap s.pend.length cp) ∧ w'.cell? ⟨b1, 0, none⟩ = some (.string x.f0) ∧ w'.cell? ⟨b1, 1, none⟩ = some (.int .i64 x.f1) ∧ w'.cell? ⟨b1, 2, none⟩ = some (.int .i64 x.f2) ∧ w'.cell? ⟨b1, 3, none⟩ = some (.slice A6 x.f3.length c6))) (ds := [10]) #[false, false, false, false, false, false, false, false, false, false, false] (by kernel_rfl) rfl rfl ⟨(hP7.below hd7).cell, (hR7.below hd7).cells.2.2.2.2.1, (hN7.below hd7).cell.1, (hN7.below hd7).cell.2.1, (hN7.below hd7).cell.2.2.1, (hN7.below hd7).cell.2.2.2⟩ (fun hHeld => ?_)
  refine take_ (i := 0) (N := some 59) (v := ?_) (a' := ?_) #[true, false, false, false, false, false, false, false, false, false, false] rfl rfl (by kernel_rfl) (fun _ _ _ h => h) (Or.inl ⟨by rfl, ?_⟩) hHeld ?_ ?_
  rotate_left
  · rintro w' ⟨s0, s1, s2, s3, s4, s5⟩
    go_simp
    with_reducible rfl
  rotate_left
  · simp only [Act.put, List.setIfInBounds_toArray, List.set_cons_zero, List.set_cons_succ, i64_w, i32_w]
    rfl
  refine take_ (i := 1) (N := some 60) (v := ?_) (a' := ?_) #[true, true, false, false, false, false, false, false, false, false, false] rfl rfl (by kernel_rfl) (fun _ _ _ h => h) (Or.inl ⟨by rfl, ?_⟩) hHeld ?_ ?_
  rotate_left
  · rintro w' ⟨s0, s1, s2, s3, s4, s5⟩
    go_simp
    with_reducible rfl
  rotate_left
  · simp only [Act.put, List.setIfInBounds_toArray, List.set_cons_zero, List.set_cons_succ, i64_w, i32_w]
    rfl
  refine pure_ (i := 2) (N := some 61) (v := ?_) (a' := ?_) #[true, true, true, false, false, false, false, false, false, false, false] rfl rfl (by kernel_rfl) (fun _ _ _ h => h) (Or.inl ⟨by rfl, ?_⟩) ?_ ?_
  rotate_left
  · intro w'
    go_simp
    with_reducible rfl
  rotate_left
  · simp only [Act.put, List.setIfInBounds_toArray, List.set_cons_zero, List.set_cons_succ, i64_w, i32_w]
    rfl
  refine pure_ (i := 3) (N := some 62) (v := ?_) (a' := ?_) #[true, true, true, true, false, false, false, false, false, false, false] rfl rfl (by kernel_rfl) (fun _ _ _ h => h) (Or.inl ⟨by rfl, ?_⟩) ?_ ?_
  rotate_left
  · intro w'
    go_simp
    with_reducible rfl
  rotate_left
  · simp only [Act.put, List.setIfInBounds_toArray, List.set_cons_zero, List.set_cons_succ, i64_w, i32_w]
    rfl
  refine take_ (i := 4) (N := some 63) (v := ?_) (a' := ?_) #[true, true, true, true, true, false, false, false, false, false, false] rfl rfl (by kernel_rfl) (fun _ _ _ h => h) (Or.inl ⟨by rfl, ?_⟩) hHeld ?_ ?_
  rotate_left
  · rintro w' ⟨s0, s1, s2, s3, s4, s5⟩
    go_simp
    with_reducible rfl
  rotate_left
  · simp only [Act.put, List.setIfInBounds_toArray, List.set_cons_zero, List.set_cons_succ, i64_w, i32_w]
    rfl
  refine take_ (i := 5) (N := some 64) (v := ?_) (a' := ?_) #[true, true, true, true, true, true, false, false, false, false, false] rfl rfl (by kernel_rfl) (fun _ _ _ h => h) (Or.inl ⟨by rfl, ?_⟩) hHeld ?_ ?_
  rotate_left
  · rintro w' ⟨s0, s1, s2, s3, s4, s5⟩
    go_simp
    with_reducible rfl
  rotate_left
  · simp only [Act.put, List.setIfInBounds_toArray, List.set_cons_zero, List.set_cons_succ, i64_w, i32_w]
    rfl
  refine one_ (i := 6) (N := some 65) #[true, true, true, true, true, true, true, false, false, false, false] rfl rfl (by kernel_rfl) (by decide) (fun K hK => ?_)
  refine value_ (w1 := w7.drew.alloc (Obj.cells #[.string x.f0, .int .i64 x.f1, .int .i64 x.f2, .slice A6 x.f3.length c6] 31)) (v := .slice (some ⟨w7.drew.heap.size, 0, none⟩) 1 1) (by rfl) rfl ?_ ?_
  · go_simp
  have h78 : Below w7.heap.size w7 (w7.drew.alloc (Obj.cells #[.string x.f0, .int .i64 x.f1, .int .i64 x.f2, .slice A6 x.f3.length c6] 31)) := below_alloc hd7 _
  have hN8 := (hN7.below h78).cell
  refine hK.out _ _ ⟨(hP7.below h78).cell, (hR7.below h78).cells.2.2.2.2.1, hN8.1, hN8.2.1, hN8.2.2.1, hN8.2.2.2⟩ (fun hHeld => ?_)
  clear hK K
  refine norm_ (a' := ?_) ?_ ?_
  rotate_left
  · show Act.put _ (some 65) _ = _
    simp only [Act.put, List.setIfInBounds_toArray, List.set_cons_zero, List.set_cons_succ, i64_w, i32_w]
    rfl
  refine one_ (i := 7) (N := some 66) #[true, true, true, true, true, true, true, true, false, false, false] rfl rfl (by kernel_rfl) (by decide) (fun K hK => ?_)
  refine step_append_lies _ (by rfl) _ _ _ (by rfl) B 31 i0 _ 4 56 Try.underlying104 hi hz0 hz1 hz2 rfl (by omega) (.slice Ap s.pend.length cp) s.pend.length inner (by rfl) (pw_own_below hown h78) ⟨w7.drew.heap.size, 0, none⟩ 1 1 [.string x.f0, .int .i64 x.f1, .int .i64 x.f2, .slice A6 x.f3.length c6] (by rfl) (by rfl) (World.news_of_block (cs := #[.string x.f0, .int .i64 x.f1, .int .i64 x.f2, .slice A6 x.f3.length c6]) (t := 31) (fr := (0, 0)) (heap_alloc_new _ _)) (by simp [Value.oneCell']) (by omega) (by unfold maxLen; omega) (by omega) (Nat.le_trans (Nat.le_trans hBw hs7) h78.size) _ rfl ?_
  intro gg cap w8 hown8 hgrow hat hlt8
  have hR8 := hR7.below h78
  have hP8 : ∀ b t (cs : Array Value) (f : Nat × Nat), (w7.drew.alloc (Obj.cells #[.string x.f0, .int .i64 x.f1, .int .i64 x.f2, .slice A6 x.f3.length c6] 31)).heap[b]? = some (Obj.cells cs t f) → some b ≠ (Value.slice Ap s.pend.length cp).ownBlock → w8.heap[b]? = some (Obj.cells cs t f) := fun b t cs f hb ht => (hgrow.block b (blk_lt hb) ht).trans hb
  have hne1 : some b1 ≠ (Value.slice Ap s.pend.length cp).ownBlock := fun he => by
    obtain ⟨inner0, hown0, _⟩ := H0.out.pend
    have := own_lt hown0 b1 he.symm
    omega
  have hp8 := hP8 _ _ _ _ (hP7.below h78) (fun he => by exact O_ne hR8.pend (hP7.below h78) (by decide) he.symm)
  have hn8 : VarW w8 b1 x A6 c6 := hP8 _ _ _ _ (hN7.below h78) hne1
  have hg8 := hP8 _ _ _ _ hR8.blk (fun he => hR8.pend_ne he.symm)
  have hN8' := hn8.cell
  refine hK.out _ _ ⟨VarP.cell hp8, by rw [cell_of_row w8 g _ _ 106 (0, 0) hg8]; rfl, hN8'.1, hN8'.2.1, hN8'.2.2.1, hN8'.2.2.2⟩ (fun hHeld => ?_)
  have hO8 : O k31 31 w8 B (fun k => k ≠ g) (.slice (some ⟨gg, 0, none⟩) (s.pend.length + 1) cap) (s.pend ++ [x]) := by
    refine O_snoc31 (W := w7.drew.alloc (Obj.cells #[.string x.f0, .int .i64 x.f1, .int .i64 x.f2, .slice A6 x.f3.length c6] 31)) (v := .slice Ap s.pend.length cp) (hreps.imp_ fun y c' hy => Kd.FK_below hy h78) ?_ hown8 hgrow ?_
    · refine k31_mkF _ _ x (Kd.V_reads' (O_V HO6.out)).2.1 (Kd.F_mono (Kd.F_below hF7 h78) fun k hk => ⟨?_, fun he => ?_⟩)
      · have := HK0.out.1
        omega
      · obtain ⟨inner0, hown0, _⟩ := H0.out.pend
        have := own_lt hown0 k he.symm
        have := HK0.out.1
        omega
    · rcases hat with hat | hat
      · exact .inl hat.symm
      · exact .inr (by rw [hat]; rfl)
  have hR9 := hR8.setPend hO8 hgrow (hat.elim (fun h => .inl h.symm) (fun h => .inr ⟨gg, rfl, by rw [h]; exact Nat.le_refl _⟩))
  have hB9 : Below B w w8 := belowB_trans (belowB_trans hB7 (belowB_of (Nat.le_trans hBw hs7) h78)) ⟨hgrow.os, hgrow.tape, hgrow.output, hgrow.size, fun k hk => hgrow.block k (Nat.lt_of_lt_of_le hk (Nat.le_trans (Nat.le_trans hBw hs7) h78.size)) (fun he => by have := O_base hR8.pend k he.symm; omega)⟩
  clear hK K
  refine norm_ (a' := ?_) ?_ ?_
  rotate_left
  · show Act.put _ (some 66) _ = _
    simp only [Act.put, List.setIfInBounds_toArray, List.set_cons_zero, List.set_cons_succ, i64_w, i32_w]
    rfl
  refine pure_ (i := 8) (N := some 67) (v := ?_) (a' := ?_) #[true, true, true, true, true, true, true, true, true, false, false] rfl rfl (by kernel_rfl) (fun _ _ _ h => h) (Or.inl ⟨by rfl, ?_⟩) ?_ ?_
  rotate_left
  · intro w'
    go_simp
    with_reducible rfl
  rotate_left
  · simp only [Act.put, List.setIfInBounds_toArray, List.set_cons_zero, List.set_cons_succ, i64_w, i32_w]
    rfl
  refine pure_ (i := 9) (N := some 68) (v := ?_) (a' := ?_) #[true, true, true, true, true, true, true, true, true, true, false] rfl rfl (by kernel_rfl) (fun _ _ _ h => h) (Or.inl ⟨by rfl, ?_⟩) ?_ ?_
  rotate_left
  · intro w'
    go_simp
    with_reducible rfl
  rotate_left
  · simp only [Act.put, List.setIfInBounds_toArray, List.set_cons_zero, List.set_cons_succ, i64_w, i32_w]
    rfl
  refine last_ (i := 10) (N := none) #[true, true, true, true, true, true, true, true, true, true, true] rfl rfl (by kernel_rfl) (by decide) (fun K hK => ?_)
  have hfr := blk_frozen hg8 4
  have hcl : w8.cell? ⟨g, 4, none⟩ = some (.slice Ap s.pend.length cp) := by rw [cell_of_row w8 g _ _ 106 (0, 0) hg8]; rfl
  refine skip_ (w1 := ?_) (by rfl) rfl ?_ ?_
  rotate_left
  · go_simp
    rfl
  refine hK.out _ _ ?_
  clear hK K
  refine done_ (by kernel_rfl) ?_
  have hp9 : VarP (w8.setCell ⟨g, 4, none⟩ (.slice (some ⟨gg, 0, none⟩) (s.pend.length + 1) cap)) b0 g := VarP.set hp8 hg8
  have hB10 := belowB_set hB9 H0.out.hg 4 (.slice (some ⟨gg, 0, none⟩) (s.pend.length + 1) cap)
  have HBS := Aside0.mk hB10
  clear hfr hcl hHeld hO8 hown8 hgrow hat hlt8 hreps hown hN8 hN8' hn8 hg8 hp8 hP8 hB9 hB10 hB7 hF7 hR8 hR7 hP7 hN7 h78 hd7 hi hz0 hz1 hz2
  go_wp2_with fail
  generalize w8.setCell ⟨g, 4, none⟩ (.slice (some ⟨gg, 0, none⟩) (s.pend.length + 1) cap) = w9 at hp9 hR9 HBS ⊢
  have hd9 : Below w9.heap.size w9 w9.drew := below_drew1 (Below.refl _ _)
  have hp9d := (hp9.below hd9).cell
  have hc6d := (hR9.below hd9).cells.2.2.2.2.2.2.1
  refine start_ (n := 10) (S := (fun w' => w'.cell? ⟨b0, 0, none⟩ = some (.pointer (some ⟨g, 0, none⟩)) ∧ w'.cell? ⟨g, 6, none⟩ = some (.int .i64 s.peak))) (ds := [9]) #[false, false, false, false, false, false, false, false, false, false] (by kernel_rfl) rfl rfl ⟨hp9d, hc6d⟩ (fun hHeld => ?_)
  refine pure_ (i := 5) (N := some 74) (v := ?_) (a' := ?_) #[false, false, false, false, false, true, false, false, false, false] rfl rfl (by kernel_rfl) (fun _ _ _ h => h) (Or.inl ⟨by rfl, ?_⟩) ?_ ?_
  rotate_left
  · intro w'
    go_simp
    with_reducible rfl
  rotate_left
  · simp only [Act.put, List.setIfInBounds_toArray, List.set_cons_zero, List.set_cons_succ, i64_w, i32_w]
    rfl
  refine take_ (i := 0) (N := some 69) (v := ?_) (a' := ?_) #[true, false, false, false, false, true, false, false, false, false] rfl rfl (by kernel_rfl) (fun _ _ _ h => h) (Or.inl ⟨by rfl, ?_⟩) hHeld ?_ ?_
  rotate_left
  · rintro w' ⟨s0, s1⟩
    go_simp
    with_reducible rfl
  rotate_left
  · simp only [Act.put, List.setIfInBounds_toArray, List.set_cons_zero, List.set_cons_succ, i64_w, i32_w]
    rfl
  refine take_ (i := 1) (N := some 70) (v := ?_) (a' := ?_) #[true, true, false, false, false, true, false, false, false, false] rfl rfl (by kernel_rfl) (fun _ _ _ h => h) (Or.inl ⟨by rfl, ?_⟩) hHeld ?_ ?_
  rotate_left
  · rintro w' ⟨s0, s1⟩
    go_simp
    with_reducible rfl
  rotate_left
  · simp only [Act.put, List.setIfInBounds_toArray, List.set_cons_zero, List.set_cons_succ, i64_w, i32_w]
    rfl
  refine pure_ (i := 2) (N := some 71) (v := ?_) (a' := ?_) #[true, true, true, false, false, true, false, false, false, false] rfl rfl (by kernel_rfl) (fun _ _ _ h => h) (Or.inl ⟨by rfl, ?_⟩) ?_ ?_
  rotate_left
  · intro w'
    go_simp
    with_reducible rfl
  rotate_left
  · simp only [Act.put, List.setIfInBounds_toArray, List.set_cons_zero, List.set_cons_succ, i64_w, i32_w]
    rfl
  refine pure_ (i := 3) (N := some 72) (v := ?_) (a' := ?_) #[true, true, true, true, false, true, false, false, false, false] rfl rfl (by kernel_rfl) (fun _ _ _ h => h) (Or.inl ⟨by rfl, ?_⟩) ?_ ?_
  rotate_left
  · intro w'
    go_simp
    with_reducible rfl
  rotate_left
  · simp only [Act.put, List.setIfInBounds_toArray, List.set_cons_zero, List.set_cons_succ, i64_w, i32_w]
    rfl
  refine take_ (i := 4) (N := some 73) (v := ?_) (a' := ?_) #[true, true, true, true, true, true, false, false, false, false] rfl rfl (by kernel_rfl) (fun _ _ _ h => h) (Or.inl ⟨by rfl, ?_⟩) hHeld ?_ ?_
  rotate_left
  · rintro w' ⟨s0, s1⟩
    go_simp
    with_reducible rfl
  rotate_left
  · simp only [Act.put, List.setIfInBounds_toArray, List.set_cons_zero, List.set_cons_succ, i64_w, i32_w]
    rfl
  refine pure_ (i := 6) (N := some 75) (v := ?_) (a' := ?_) #[true, true, true, true, true, true, true, false, false, false] rfl rfl (by kernel_rfl) (fun _ _ _ h => h) (Or.inl ⟨by rfl, ?_⟩) ?_ ?_
  rotate_left
  · intro w'
    go_simp
    with_reducible rfl
  rotate_left
  · simp only [Act.put, List.setIfInBounds_toArray, List.set_cons_zero, List.set_cons_succ, i64_w, i32_w]
    rfl
  refine pure_ (i := 7) (N := some 76) (v := ?_) (a' := ?_) #[true, true, true, true, true, true, true, true, false, false] rfl rfl (by kernel_rfl) (fun _ _ _ h => h) (Or.inl ⟨by rfl, ?_⟩) ?_ ?_
  rotate_left
  · intro w'
    go_simp
    with_reducible rfl
  rotate_left
  · simp only [Act.put, List.setIfInBounds_toArray, List.set_cons_zero, List.set_cons_succ, i64_w, i32_w]
    rfl
  refine pure_ (i := 8) (N := some 77) (v := ?_) (a' := ?_) #[true, true, true, true, true, true, true, true, true, false] rfl rfl (by kernel_rfl) (fun _ _ _ h => h) (Or.inl ⟨by rfl, ?_⟩) ?_ ?_
  rotate_left
  · intro w'
    go_simp
    with_reducible rfl
  rotate_left
  · simp only [Act.put, List.setIfInBounds_toArray, List.set_cons_zero, List.set_cons_succ, i64_w, i32_w]
    rfl
  refine last_ (i := 9) (N := none) #[true, true, true, true, true, true, true, true, true, true] rfl rfl (by kernel_rfl) (by decide) (fun K hK => ?_)
  have hfr := blk_frozen (hR9.below hd9).blk 6
  have hcl := hc6d
  refine skip_ (w1 := ?_) (by rfl) rfl ?_ ?_
  rotate_left
  · go_simp
    rfl
  refine hK.out _ _ ?_
  clear hK K
  refine done_ (by kernel_rfl) ?_
  have hend : RepAt B g { s with pend := s.pend ++ [x], peak := mx s.peak (sizeF n2) } (w9.drew.setCell ⟨g, 6, none⟩ (.int .i64 (mx s.peak (sizeF n2)))) mv sv (.slice (some ⟨gg, 0, none⟩) (s.pend.length + 1) cap) :=
    (hR9.below hd9).upd (fun k _ hk => Below.heap_setCell _ _ _ _ hk) (blk_set (hR9.below hd9).blk 6 _) rfl rfl rfl
  have hBe : Below B w (w9.drew.setCell ⟨g, 6, none⟩ (.int .i64 (mx s.peak (sizeF n2)))) := belowB_set (belowB_trans HBS.out (belowB_of (Nat.le_trans hBw HBS.out.size) hd9)) H0.out.hg 6 _
  go_wp2_with fail
  all_goals go_ret
  · have hm : mx s.peak (sizeF n2) = sizeF n2 := by unfold mx; split <;> omega
    rw [hm] at hend hBe
    exact ⟨0, rfl, rfl, ⟨_, _, _, by rw [hm]; exact hend⟩, hBe⟩
  · have hm : mx s.peak (sizeF n2) = s.peak := by unfold mx; split <;> omega
    rw [hm] at hend hBe
    exact ⟨0, rfl, rfl, ⟨_, _, _, by rw [hm]; exact hend⟩, hBe⟩
end
end Go.Proofs.Ytcgeioingikeeaa.P
namespace Go.Proofs.Ytcgeioingikeeaa.P
open Go.RowKit Go.Proofs.YtcgeioingikeeaaW.PrintWords Go.Proofs.YtcgeioingikeeaaW.PrintLast Go.Proofs.YtcgeioingikeeaaW.PrintMore
set_option linter.unusedVariables false
set_option linter.unusedSimpArgs false
section
variable {B g : Nat} {s : SSt} {w : World} {mv sv pv : Value}
set_option maxHeartbeats 4000000 in
set_option maxRecDepth 100000 in
theorem do1_err_f (x : S31) (A3 : Option Addr) (c3 b0 b1 : Nat) {s0 : SSt} {w0 : World} (h0 : RepAt B g s0 w0 mv sv pv) (hk0 : KeptG g w0 w) (hb1 : w0.heap.size ≤ b1) (hB0 : B ≤ w0.heap.size) (e1 : s.safe = s0.safe) (e2 : s.pend = s0.pend) (e3 : s.fails = s0.fails)
    (h : RepAt B g s w mv sv pv) (hf : Fit s) (hx : x.f3.length ≤ 1000) (hp : VarP w b0 g) (hn : VarW w b1 x A3 c3) (hF : Kd.F (Kd.int .u8) w (fun k => k ≠ g) A3 x.f3.length x.f3) (hc3 : x.f3.length ≤ c3) (hok : (getT (filesOf s) x.f0).2 = false) (h2 : x.f1 ≠ 2) (h3 : x.f1 ≠ 3) (he : (doT (filesOf s) x (-1)).2 ≠ 0) :
    Calls Try.prog 91 #[.pointer (some ⟨b0, 0, none⟩), .pointer (some ⟨b1, 0, none⟩)] w fun e w' => ∃ r, e = .returned (.int .i64 r) ∧ r = (doB s x).2 ∧ Rep B g (doB s x).1 w' ∧ Below B w w' := by
  obtain ⟨Ap, cp, rfl⟩ := O_slice h.pend
  have hBw : B ≤ w.heap.size := Nat.le_trans hB0 hk0.1
  have hg0 : g < w0.heap.size := blk_lt h0.blk
  have hlen := hf.len
  have hfl : okL (filesOf s) ∧ (filesOf s).length ≤ 1000 := files_ok hf
  have hget := get_f (filesOf s) x.f0 (by omega) hfl.1
  have hdo := doT_f (filesOf s) x (-1) (by omega) hfl.1 (by omega)
  have hdk := doT_ok (filesOf s) x (-1) hfl.1
  obtain ⟨kz, hkz⟩ := size_f (filesOf s) (by omega)
  have hno : ¬ ((getT (filesOf s) x.f0).2 = false ∧ (x.f1 = 2 ∨ x.f1 = 3)) := by simp [h2, h3]
  have hq2 : (x.f1 == 2) = false := by simpa using h2
  have hq3 : (x.f1 == 3) = false := by simpa using h3
  rw [hok] at hget
  have hE : doE s x = (doT (filesOf s) x (-1)).2 := by unfold doE; rw [if_neg hno, if_pos he]
  have hB : doB s x = (s, (doT (filesOf s) x (-1)).2) := by unfold doB; rw [hE, if_neg he]
  rw [hB]
  obtain ⟨⟨n2, r2⟩, hdr⟩ : ∃ r, doT (filesOf s) x (-1) = r := ⟨_, rfl⟩
  rw [hdr] at hdo hdk he ⊢
  simp only at hdo hdk he ⊢
  have hn2 : n2.length ≤ 1001 := by
    have := doT_len (filesOf s) x (-1) hfl.1
    rw [hdr] at this
    simp only at this
    omega
  obtain ⟨kd, hkd⟩ := size_f n2 (by omega)
  have HKD := Aside0.mk hkd
  have hce : (r2 == 0) = false := by simpa using he
  have hcn : (r2 != 0) = true := by simpa using he
  have HEB := Aside0.mk (And.intro hE hB)
  have HDR := Aside0.mk hdr
  clear hok hno h2 h3 hE hB hdr he hkd
  have hp0 := hp.cell
  obtain ⟨hx0, hx1, hx2, hx3⟩ := hn.cell
  have H := Aside0.mk h
  have H0 := Aside0.mk h0
  have HK0 := Aside0.mk hk0
  have HE := Aside0.mk (And.intro e1 (And.intro e2 e3))
  have HF := Aside0.mk hf
  have HP := Aside0.mk hp
  have HN := Aside0.mk hn
  have HFx := Aside0.mk hF
  have HGET := Aside0.mk hget
  have HDO := Aside0.mk hdo
  have HDK := Aside0.mk hdk
  have HKZ := Aside0.mk hkz
  clear h h0 hk0 hf hp hn hF hget hdo hdk hkz e1 e2 e3
  go_enter Try.func91, Try.ntmps91
  go_wp2_with (first
    | (go_at_call 42; refine (files_calls ⟨mv, sv, _, H.out⟩ HF.out).mono ?_; rintro e w1 ⟨v1, rfl, hV1, hb1w⟩; obtain ⟨A1, c1, rfl⟩ := Kd.V_slice hV1; obtain ⟨hx0, hx1, hx2, hx3⟩ := (HN.out.below hb1w).cell; have HV1 := Aside0.mk hV1; have HB1 := Aside0.mk hb1w; clear hV1 hb1w)
    | (go_at_call 28; refine (files_Get.calls A1 c1 (filesOf s) x.f0 _ _ _ (Kd.V_reads' HV1.out).2.2 (Kd.V_reads' HV1.out).2.1 HGET.out).mono ?_; rintro e w2 ⟨v2, rfl, hR2, hb2⟩; obtain ⟨A2, c2, rfl⟩ := Kd.R_slice hR2; obtain ⟨hx0, hx1, hx2, hx3⟩ := (HN.out.below (below_step HB1.out hb2)).cell; have HB12 := Aside0.mk hb2; have HB2 := Aside0.mk (below_step HB1.out hb2); clear hR2 hb2)
    | (go_at_call 17; refine (files_Do.calls (fun k => w.heap.size ≤ k) A1 c1 (filesOf s) x.f0 x.f1 x.f2 A3 c3 x.f3 (-1) _ _ _ (V_base (Kd.V_below HV1.out HB12.out)) (Kd.F_now (Kd.F_below HFx.out HB2.out)) hc3 HDO.out).mono ?_; rintro e w3 ⟨v3, rfl, hV3, hb3⟩; obtain ⟨A4, c4, rfl⟩ := Kd.V_slice hV3; have hp0 := (HP.out.below (below_step HB2.out hb3)).cell; obtain ⟨hx0, hx1, hx2, hx3⟩ := (HN.out.below (below_step HB2.out hb3)).cell; have HV3 := Aside0.mk hV3; have HB13 := Aside0.mk (below_step HB12.out hb3); have HB3 := Aside0.mk (below_step HB2.out hb3); clear hV3 hb3)
    | (go_at_call 35; with_reducible refine (files_Size.calls kd A4 c4 _ (sizeF n2) _ (Kd.V_reads' HV3.out).2.2 (Kd.V_reads' HV3.out).2.1 HKD.out).mono ?_; rintro e w4 ⟨rfl, hb4⟩; have hp0 := (HP.out.below (below_step HB3.out hb4)).cell; obtain ⟨hx0, hx1, hx2, hx3⟩ := (HN.out.below (below_step HB3.out hb4)).cell; have hq := (H.out.below (below_step HB3.out hb4)).cells.2.2.2.2.2.1; have HB14 := Aside0.mk (below_step HB13.out hb4); have HB4 := Aside0.mk (below_step HB3.out hb4); clear hb4))
  go_ret
  exact ⟨_, rfl, rfl, ⟨mv, sv, _, H.out.below HB4.out⟩, belowB_of hBw HB4.out⟩
end
end Go.Proofs.Ytcgeioingikeeaa.P
namespace Go.Proofs.Ytcgeioingikeeaa.P
open Go.RowKit Go.Proofs.YtcgeioingikeeaaW.PrintWords Go.Proofs.YtcgeioingikeeaaW.PrintLast Go.Proofs.YtcgeioingikeeaaW.PrintMore
set_option linter.unusedVariables false
set_option linter.unusedSimpArgs false
section
variable {B g : Nat} {s : SSt} {w : World} {mv sv pv : Value}
set_option maxHeartbeats 4000000 in
set_option maxRecDepth 100000 in
theorem do1_full_f (x : S31) (A3 : Option Addr) (c3 b0 b1 : Nat) {s0 : SSt} {w0 : World} (h0 : RepAt B g s0 w0 mv sv pv) (hk0 : KeptG g w0 w) (hb1 : w0.heap.size ≤ b1) (hB0 : B ≤ w0.heap.size) (e1 : s.safe = s0.safe) (e2 : s.pend = s0.pend) (e3 : s.fails = s0.fails)
    (h : RepAt B g s w mv sv pv) (hf : Fit s) (hx : x.f3.length ≤ 1000) (hp : VarP w b0 g) (hn : VarW w b1 x A3 c3) (hF : Kd.F (Kd.int .u8) w (fun k => k ≠ g) A3 x.f3.length x.f3) (hc3 : x.f3.length ≤ c3) (hok : (getT (filesOf s) x.f0).2 = false) (h2 : x.f1 ≠ 2) (h3 : x.f1 ≠ 3) (he : (doT (filesOf s) x (-1)).2 = 0) (hq1 : s.quota < sizeF (doT (filesOf s) x (-1)).1) (hq4 : sizeF (filesOf s) < sizeF (doT (filesOf s) x (-1)).1) :
    Calls Try.prog 91 #[.pointer (some ⟨b0, 0, none⟩), .pointer (some ⟨b1, 0, none⟩)] w fun e w' => ∃ r, e = .returned (.int .i64 r) ∧ r = (doB s x).2 ∧ Rep B g (doB s x).1 w' ∧ Below B w w' := by
  obtain ⟨Ap, cp, rfl⟩ := O_slice h.pend
  have hBw : B ≤ w.heap.size := Nat.le_trans hB0 hk0.1
  have hg0 : g < w0.heap.size := blk_lt h0.blk
  have hlen := hf.len
  have hfl : okL (filesOf s) ∧ (filesOf s).length ≤ 1000 := files_ok hf
  have hget := get_f (filesOf s) x.f0 (by omega) hfl.1
  have hdo := doT_f (filesOf s) x (-1) (by omega) hfl.1 (by omega)
  have hdk := doT_ok (filesOf s) x (-1) hfl.1
  obtain ⟨kz, hkz⟩ := size_f (filesOf s) (by omega)
  have hno : ¬ ((getT (filesOf s) x.f0).2 = false ∧ (x.f1 = 2 ∨ x.f1 = 3)) := by simp [h2, h3]
  have hq2 : (x.f1 == 2) = false := by simpa using h2
  have hq3 : (x.f1 == 3) = false := by simpa using h3
  rw [hok] at hget
  have hE : doE s x = 8 := by unfold doE; rw [if_neg hno, if_neg (by simp [he]), if_pos ⟨hq1, hq4⟩]
  have hB : doB s x = (s, 8) := by unfold doB; rw [hE]; rfl
  rw [hB]
  obtain ⟨⟨n2, r2⟩, hdr⟩ : ∃ r, doT (filesOf s) x (-1) = r := ⟨_, rfl⟩
  rw [hdr] at hdo hdk he hq1 hq4 
  simp only at hdo hdk he hq1 hq4 
  obtain rfl := he
  have hn2 := (hdk rfl).2
  obtain ⟨kd, hkd⟩ := size_f n2 (by omega)
  have HKD := Aside0.mk hkd
  have HEB := Aside0.mk (And.intro hE hB)
  have HDR := Aside0.mk hdr
  clear hok hno h2 h3 hE hB hdr hkd
  have hp0 := hp.cell
  obtain ⟨hx0, hx1, hx2, hx3⟩ := hn.cell
  have H := Aside0.mk h
  have H0 := Aside0.mk h0
  have HK0 := Aside0.mk hk0
  have HE := Aside0.mk (And.intro e1 (And.intro e2 e3))
  have HF := Aside0.mk hf
  have HP := Aside0.mk hp
  have HN := Aside0.mk hn
  have HFx := Aside0.mk hF
  have HGET := Aside0.mk hget
  have HDO := Aside0.mk hdo
  have HDK := Aside0.mk hdk
  have HKZ := Aside0.mk hkz
  clear h h0 hk0 hf hp hn hF hget hdo hdk hkz e1 e2 e3
  go_enter Try.func91, Try.ntmps91
  go_wp2_with (first
    | (go_at_call 42; refine (files_calls ⟨mv, sv, _, H.out⟩ HF.out).mono ?_; rintro e w1 ⟨v1, rfl, hV1, hb1w⟩; obtain ⟨A1, c1, rfl⟩ := Kd.V_slice hV1; obtain ⟨hx0, hx1, hx2, hx3⟩ := (HN.out.below hb1w).cell; have HV1 := Aside0.mk hV1; have HB1 := Aside0.mk hb1w; clear hV1 hb1w)
    | (go_at_call 28; refine (files_Get.calls A1 c1 (filesOf s) x.f0 _ _ _ (Kd.V_reads' HV1.out).2.2 (Kd.V_reads' HV1.out).2.1 HGET.out).mono ?_; rintro e w2 ⟨v2, rfl, hR2, hb2⟩; obtain ⟨A2, c2, rfl⟩ := Kd.R_slice hR2; obtain ⟨hx0, hx1, hx2, hx3⟩ := (HN.out.below (below_step HB1.out hb2)).cell; have HB12 := Aside0.mk hb2; have HB2 := Aside0.mk (below_step HB1.out hb2); clear hR2 hb2)
    | (go_at_call 17; refine (files_Do.calls (fun k => w.heap.size ≤ k) A1 c1 (filesOf s) x.f0 x.f1 x.f2 A3 c3 x.f3 (-1) _ _ _ (V_base (Kd.V_below HV1.out HB12.out)) (Kd.F_now (Kd.F_below HFx.out HB2.out)) hc3 HDO.out).mono ?_; rintro e w3 ⟨v3, rfl, hV3, hb3⟩; obtain ⟨A4, c4, rfl⟩ := Kd.V_slice hV3; have hp0 := (HP.out.below (below_step HB2.out hb3)).cell; obtain ⟨hx0, hx1, hx2, hx3⟩ := (HN.out.below (below_step HB2.out hb3)).cell; have HV3 := Aside0.mk hV3; have HB13 := Aside0.mk (below_step HB12.out hb3); have HB3 := Aside0.mk (below_step HB2.out hb3); clear hV3 hb3)
    | (go_at_call 35; with_reducible refine (files_Size.calls kd A4 c4 _ (sizeF n2) _ (Kd.V_reads' HV3.out).2.2 (Kd.V_reads' HV3.out).2.1 HKD.out).mono ?_; rintro e w4 ⟨rfl, hb4⟩; have hp0 := (HP.out.below (below_step HB3.out hb4)).cell; obtain ⟨hx0, hx1, hx2, hx3⟩ := (HN.out.below (below_step HB3.out hb4)).cell; have hq := (H.out.below (below_step HB3.out hb4)).cells.2.2.2.2.2.1; have HB14 := Aside0.mk (below_step HB13.out hb4); have HB4 := Aside0.mk (below_step HB3.out hb4); clear hb4)
    | (go_at_call 35; with_reducible refine (files_Size.calls kz A1 c1 _ (sizeF (filesOf s)) _ (Kd.V_reads' (Kd.V_below HV1.out HB14.out)).2.2 (Kd.V_reads' HV1.out).2.1 HKZ.out).mono ?_; rintro e w5 ⟨rfl, hb5⟩; have HB5 := Aside0.mk (below_step HB4.out hb5); obtain ⟨hx0, hx1, hx2, hx3⟩ := (HN.out.below (below_step HB4.out hb5)).cell; clear hb5))
  go_ret
  exact ⟨_, rfl, rfl, ⟨mv, sv, _, H.out.below HB5.out⟩, belowB_of hBw HB5.out⟩
end
end Go.Proofs.Ytcgeioingikeeaa.P
namespace Go.Proofs.Ytcgeioingikeeaa.P
open Go.RowKit Go.Proofs.YtcgeioingikeeaaW.PrintWords Go.Proofs.YtcgeioingikeeaaW.PrintLast Go.Proofs.YtcgeioingikeeaaW.PrintMore
set_option linter.unusedVariables false
set_option linter.unusedSimpArgs false
section
variable {B g : Nat} {s : SSt} {w : World} {mv sv pv : Value}
set_option maxHeartbeats 4000000 in
set_option maxRecDepth 100000 in
theorem do1_in_f (x : S31) (A3 : Option Addr) (c3 b0 b1 : Nat) {s0 : SSt} {w0 : World} (h0 : RepAt B g s0 w0 mv sv pv) (hk0 : KeptG g w0 w) (hb1 : w0.heap.size ≤ b1) (hB0 : B ≤ w0.heap.size) (e1 : s.safe = s0.safe) (e2 : s.pend = s0.pend) (e3 : s.fails = s0.fails)
    (h : RepAt B g s w mv sv pv) (hf : Fit s) (hx : x.f3.length ≤ 1000) (hp : VarP w b0 g) (hn : VarW w b1 x A3 c3) (hF : Kd.F (Kd.int .u8) w (fun k => k ≠ g) A3 x.f3.length x.f3) (hc3 : x.f3.length ≤ c3) (hok : (getT (filesOf s) x.f0).2 = false) (h2 : x.f1 ≠ 2) (h3 : x.f1 ≠ 3) (he : (doT (filesOf s) x (-1)).2 = 0) (hq1 : ¬ s.quota < sizeF (doT (filesOf s) x (-1)).1) :
    Calls Try.prog 91 #[.pointer (some ⟨b0, 0, none⟩), .pointer (some ⟨b1, 0, none⟩)] w fun e w' => ∃ r, e = .returned (.int .i64 r) ∧ r = (doB s x).2 ∧ Rep B g (doB s x).1 w' ∧ Below B w w' := by
  obtain ⟨Ap, cp, rfl⟩ := O_slice h.pend
  have hBw : B ≤ w.heap.size := Nat.le_trans hB0 hk0.1
  have hg0 : g < w0.heap.size := blk_lt h0.blk
  have hlen := hf.len
  have hfl : okL (filesOf s) ∧ (filesOf s).length ≤ 1000 := files_ok hf
  have hget := get_f (filesOf s) x.f0 (by omega) hfl.1
  have hdo := doT_f (filesOf s) x (-1) (by omega) hfl.1 (by omega)
  have hdk := doT_ok (filesOf s) x (-1) hfl.1
  obtain ⟨kz, hkz⟩ := size_f (filesOf s) (by omega)
  have hno : ¬ ((getT (filesOf s) x.f0).2 = false ∧ (x.f1 = 2 ∨ x.f1 = 3)) := by simp [h2, h3]
  have hq2 : (x.f1 == 2) = false := by simpa using h2
  have hq3 : (x.f1 == 3) = false := by simpa using h3
  rw [hok] at hget
  have hE : doE s x = 0 := by unfold doE; rw [if_neg hno, if_neg (by simp [he]), if_neg (fun h => hq1 h.1)]
  have hB : doB s x = ({ s with pend := s.pend ++ [x], peak := mx s.peak (sizeF (doT (filesOf s) x (-1)).1) }, 0) := by unfold doB; rw [if_pos hE]
  rw [hB]
  obtain ⟨⟨n2, r2⟩, hdr⟩ : ∃ r, doT (filesOf s) x (-1) = r := ⟨_, rfl⟩
  rw [hdr] at hdo hdk he hq1 ⊢
  simp only at hdo hdk he hq1 ⊢
  obtain rfl := he
  have hn2 := (hdk rfl).2
  obtain ⟨kd, hkd⟩ := size_f n2 (by omega)
  have HKD := Aside0.mk hkd
  have HEB := Aside0.mk (And.intro hE hB)
  have HDR := Aside0.mk hdr
  clear hok hno h2 h3 hE hB hdr hkd
  have hp0 := hp.cell
  obtain ⟨hx0, hx1, hx2, hx3⟩ := hn.cell
  have H := Aside0.mk h
  have H0 := Aside0.mk h0
  have HK0 := Aside0.mk hk0
  have HE := Aside0.mk (And.intro e1 (And.intro e2 e3))
  have HF := Aside0.mk hf
  have HP := Aside0.mk hp
  have HN := Aside0.mk hn
  have HFx := Aside0.mk hF
  have HGET := Aside0.mk hget
  have HDO := Aside0.mk hdo
  have HDK := Aside0.mk hdk
  have HKZ := Aside0.mk hkz
  clear h h0 hk0 hf hp hn hF hget hdo hdk hkz e1 e2 e3
  go_enter Try.func91, Try.ntmps91
  go_wp2_with (first
    | (go_at_call 42; refine (files_calls ⟨mv, sv, _, H.out⟩ HF.out).mono ?_; rintro e w1 ⟨v1, rfl, hV1, hb1w⟩; obtain ⟨A1, c1, rfl⟩ := Kd.V_slice hV1; obtain ⟨hx0, hx1, hx2, hx3⟩ := (HN.out.below hb1w).cell; have HV1 := Aside0.mk hV1; have HB1 := Aside0.mk hb1w; clear hV1 hb1w)
    | (go_at_call 28; refine (files_Get.calls A1 c1 (filesOf s) x.f0 _ _ _ (Kd.V_reads' HV1.out).2.2 (Kd.V_reads' HV1.out).2.1 HGET.out).mono ?_; rintro e w2 ⟨v2, rfl, hR2, hb2⟩; obtain ⟨A2, c2, rfl⟩ := Kd.R_slice hR2; obtain ⟨hx0, hx1, hx2, hx3⟩ := (HN.out.below (below_step HB1.out hb2)).cell; have HB12 := Aside0.mk hb2; have HB2 := Aside0.mk (below_step HB1.out hb2); clear hR2 hb2)
    | (go_at_call 17; refine (files_Do.calls (fun k => w.heap.size ≤ k) A1 c1 (filesOf s) x.f0 x.f1 x.f2 A3 c3 x.f3 (-1) _ _ _ (V_base (Kd.V_below HV1.out HB12.out)) (Kd.F_now (Kd.F_below HFx.out HB2.out)) hc3 HDO.out).mono ?_; rintro e w3 ⟨v3, rfl, hV3, hb3⟩; obtain ⟨A4, c4, rfl⟩ := Kd.V_slice hV3; have hp0 := (HP.out.below (below_step HB2.out hb3)).cell; obtain ⟨hx0, hx1, hx2, hx3⟩ := (HN.out.below (below_step HB2.out hb3)).cell; have HV3 := Aside0.mk hV3; have HB13 := Aside0.mk (below_step HB12.out hb3); have HB3 := Aside0.mk (below_step HB2.out hb3); clear hV3 hb3)
    | (go_at_call 35; with_reducible refine (files_Size.calls kd A4 c4 _ (sizeF n2) _ (Kd.V_reads' HV3.out).2.2 (Kd.V_reads' HV3.out).2.1 HKD.out).mono ?_; rintro e w4 ⟨rfl, hb4⟩; have hp0 := (HP.out.below (below_step HB3.out hb4)).cell; obtain ⟨hx0, hx1, hx2, hx3⟩ := (HN.out.below (below_step HB3.out hb4)).cell; have hq := (H.out.below (below_step HB3.out hb4)).cells.2.2.2.2.2.1; have HB14 := Aside0.mk (below_step HB13.out hb4); have HB4 := Aside0.mk (below_step HB3.out hb4); clear hb4)
    | (go_at_call 61; refine (cloneB (fun k => k ≠ g) A3 c3 x.f3 _ (Kd.F_below HFx.out HB4.out) (by omega)).mono ?_; rintro e w6 ⟨v6, rfl, hO6, hb6⟩; obtain ⟨A6, c6, rfl⟩ := O_slice hO6; have hb26 : Below w.heap.size w w6 := below_step HB4.out hb6; obtain ⟨hx0, hx1, hx2, hx3⟩ := (HN.out.below hb26).cell; have hfb := blk_frozen (HN.out.below hb26) 3; have HO6 := Aside0.mk hO6; have HB6 := Aside0.mk hb26; clear hO6 hb6 hb26))

  have hn6' : w6.heap[b1]? = some (.cells #[.string x.f0, .int .i64 x.f1, .int .i64 x.f2, .slice A3 x.f3.length c3] 31 (0, 0)) := HN.out.below HB6.out
  have hp6' : w6.heap[b0]? = some (.cells #[.pointer (some ⟨g, 0, none⟩)] 58 (0, 0)) := HP.out.below HB6.out
  have hn6 := blk_set hn6' 3 (.slice A6 x.f3.length c6)
  have hF6 : Kd.F (Kd.int .u8) w6 (fun k => w.heap.size ≤ k) A6 x.f3.length x.f3 := Kd.F_mono (O_F_own HO6.out) fun k hk => Nat.le_trans HB4.out.size (O_base HO6.out k hk.symm)
  have hb1w : b1 < w.heap.size := blk_lt HN.out
  have hgb : g ≠ b1 := by omega
  have hsz6 : w.heap.size ≤ w6.heap.size := HB6.out.size
  have hF7 : Kd.F (Kd.int .u8) (w6.setCell ⟨b1, 3, none⟩ (.slice A6 x.f3.length c6)) (fun k => w.heap.size ≤ k) A6 x.f3.length x.f3 := Kd.F_step hF6 fun k hk _ => Below.heap_setCell _ _ _ _ (show k ≠ b1 by omega)
  have hR7 : RepAt B g s (w6.setCell ⟨b1, 3, none⟩ (.slice A6 x.f3.length c6)) mv sv (.slice Ap s.pend.length cp) := H0.out.beside (H.out.below HB6.out) (HK0.out.trans (KeptG.of_below HB6.out)) hb1 (fun k hk => Below.heap_setCell _ _ _ _ hk) HE.out.1 HE.out.2.1 HE.out.2.2
  have hP7 : VarP (w6.setCell ⟨b1, 3, none⟩ (.slice A6 x.f3.length c6)) b0 g := (Below.heap_setCell _ _ _ _ (show b0 ≠ b1 from blk_ne hp6' hn6' (by decide))).trans hp6'
  have hN7 : VarW (w6.setCell ⟨b1, 3, none⟩ (.slice A6 x.f3.length c6)) b1 x A6 c6 := hn6
  have hB7 : Below B w (w6.setCell ⟨b1, 3, none⟩ (.slice A6 x.f3.length c6)) := belowB_set (belowB_of hBw HB6.out) (Nat.le_trans hB0 hb1) 3 _
  have hs7 : w.heap.size ≤ (w6.setCell ⟨b1, 3, none⟩ (.slice A6 x.f3.length c6)).heap.size := by rw [World.size_setCell]; exact hsz6
  clear hn6 hF6 hp0 hx0 hx1 hx2 hx3 hfb
  generalize w6.setCell ⟨b1, 3, none⟩ (.slice A6 x.f3.length c6) = w7 at hF7 hR7 hP7 hN7 hB7 hs7 ⊢
  obtain ⟨i0, hi, hz0, hz1, hz2⟩ := info_parts info31
  obtain ⟨inner, hown, hreps⟩ := hR7.pend
  have hd7 : Below w7.heap.size w7 w7.drew := below_drew1 (Below.refl _ _)
  refine start_ (n := 11) (S := (fun w' => w'.cell? ⟨b0, 0, none⟩ = some (.pointer (some ⟨g, 0, none⟩)) ∧ w'.cell? ⟨g, 4, none⟩ = some (.slice Ap s.pend.length cp) ∧ w'.cell? ⟨b1, 0, none⟩ = some (.string x.f0) ∧ w'.cell? ⟨b1, 1, none⟩ = some (.int .i64 x.f1) ∧ w'.cell? ⟨b1, 2, none⟩ = some (.int .i64 x.f2) ∧ w'.cell? ⟨b1, 3, none⟩ = some (.slice A6 x.f3.length c6))) (ds := [10]) #[false, false, false, false, false, false, false, false, false, false, false] (by kernel_rfl) rfl rfl ⟨(hP7.below hd7).cell, (hR7.below hd7).cells.2.2.2.2.1, (hN7.below hd7).cell.1, (hN7.below hd7).cell.2.1, (hN7.below hd7).cell.2.2.1, (hN7.below hd7).cell.2.2.2⟩ (fun hHeld => ?_)
  refine take_ (i := 0) (N := some 59) (v := ?_) (a' := ?_) #[true, false, false, false, false, false, false, false, false, false, false] rfl rfl (by kernel_rfl) (fun _ _ _ h => h) (Or.inl ⟨by rfl, ?_⟩) hHeld ?_ ?_
  rotate_left
  · rintro w' ⟨s0, s1, s2, s3, s4, s5⟩
    go_simp
    with_reducible rfl
  rotate_left
  · simp only [Act.put, List.setIfInBounds_toArray, List.set_cons_zero, List.set_cons_succ, i64_w, i32_w]
    rfl
  refine take_ (i := 1) (N := some 60) (v := ?_) (a' := ?_) #[true, true, false, false, false, false, false, false, false, false, false] rfl rfl (by kernel_rfl) (fun _ _ _ h => h) (Or.inl ⟨by rfl, ?_⟩) hHeld ?_ ?_
  rotate_left
  · rintro w' ⟨s0, s1, s2, s3, s4, s5⟩
    go_simp
    with_reducible rfl
  rotate_left
  · simp only [Act.put, List.setIfInBounds_toArray, List.set_cons_zero, List.set_cons_succ, i64_w, i32_w]
    rfl
  refine pure_ (i := 2) (N := some 61) (v := ?_) (a' := ?_) #[true, true, true, false, false, false, false, false, false, false, false] rfl rfl (by kernel_rfl) (fun _ _ _ h => h) (Or.inl ⟨by rfl, ?_⟩) ?_ ?_
  rotate_left
  · intro w'
    go_simp
    with_reducible rfl
  rotate_left
  · simp only [Act.put, List.setIfInBounds_toArray, List.set_cons_zero, List.set_cons_succ, i64_w, i32_w]
    rfl
  refine pure_ (i := 3) (N := some 62) (v := ?_) (a' := ?_) #[true, true, true, true, false, false, false, false, false, false, false] rfl rfl (by kernel_rfl) (fun _ _ _ h => h) (Or.inl ⟨by rfl, ?_⟩) ?_ ?_
  rotate_left
  · intro w'
    go_simp
    with_reducible rfl
  rotate_left
  · simp only [Act.put, List.setIfInBounds_toArray, List.set_cons_zero, List.set_cons_succ, i64_w, i32_w]
    rfl
  refine take_ (i := 4) (N := some 63) (v := ?_) (a' := ?_) #[true, true, true, true, true, false, false, false, false, false, false] rfl rfl (by kernel_rfl) (fun _ _ _ h => h) (Or.inl ⟨by rfl, ?_⟩) hHeld ?_ ?_
  rotate_left
  · rintro w' ⟨s0, s1, s2, s3, s4, s5⟩
    go_simp
    with_reducible rfl
  rotate_left
  · simp only [Act.put, List.setIfInBounds_toArray, List.set_cons_zero, List.set_cons_succ, i64_w, i32_w]
    rfl
  refine take_ (i := 5) (N := some 64) (v := ?_) (a' := ?_) #[true, true, true, true, true, true, false, false, false, false, false] rfl rfl (by kernel_rfl) (fun _ _ _ h => h) (Or.inl ⟨by rfl, ?_⟩) hHeld ?_ ?_
  rotate_left
  · rintro w' ⟨s0, s1, s2, s3, s4, s5⟩
    go_simp
    with_reducible rfl
  rotate_left
  · simp only [Act.put, List.setIfInBounds_toArray, List.set_cons_zero, List.set_cons_succ, i64_w, i32_w]
    rfl
  refine one_ (i := 6) (N := some 65) #[true, true, true, true, true, true, true, false, false, false, false] rfl rfl (by kernel_rfl) (by decide) (fun K hK => ?_)
  refine value_ (w1 := w7.drew.alloc (Obj.cells #[.string x.f0, .int .i64 x.f1, .int .i64 x.f2, .slice A6 x.f3.length c6] 31)) (v := .slice (some ⟨w7.drew.heap.size, 0, none⟩) 1 1) (by rfl) rfl ?_ ?_
  · go_simp
  have h78 : Below w7.heap.size w7 (w7.drew.alloc (Obj.cells #[.string x.f0, .int .i64 x.f1, .int .i64 x.f2, .slice A6 x.f3.length c6] 31)) := below_alloc hd7 _
  have hN8 := (hN7.below h78).cell
  refine hK.out _ _ ⟨(hP7.below h78).cell, (hR7.below h78).cells.2.2.2.2.1, hN8.1, hN8.2.1, hN8.2.2.1, hN8.2.2.2⟩ (fun hHeld => ?_)
  clear hK K
  refine norm_ (a' := ?_) ?_ ?_
  rotate_left
  · show Act.put _ (some 65) _ = _
    simp only [Act.put, List.setIfInBounds_toArray, List.set_cons_zero, List.set_cons_succ, i64_w, i32_w]
    rfl
  refine one_ (i := 7) (N := some 66) #[true, true, true, true, true, true, true, true, false, false, false] rfl rfl (by kernel_rfl) (by decide) (fun K hK => ?_)
  refine step_append_lies _ (by rfl) _ _ _ (by rfl) B 31 i0 _ 4 56 Try.underlying104 hi hz0 hz1 hz2 rfl (by omega) (.slice Ap s.pend.length cp) s.pend.length inner (by rfl) (pw_own_below hown h78) ⟨w7.drew.heap.size, 0, none⟩ 1 1 [.string x.f0, .int .i64 x.f1, .int .i64 x.f2, .slice A6 x.f3.length c6] (by rfl) (by rfl) (World.news_of_block (cs := #[.string x.f0, .int .i64 x.f1, .int .i64 x.f2, .slice A6 x.f3.length c6]) (t := 31) (fr := (0, 0)) (heap_alloc_new _ _)) (by simp [Value.oneCell']) (by omega) (by unfold maxLen; omega) (by omega) (Nat.le_trans (Nat.le_trans hBw hs7) h78.size) _ rfl ?_
  intro gg cap w8 hown8 hgrow hat hlt8
  have hR8 := hR7.below h78
  have hP8 : ∀ b t (cs : Array Value) (f : Nat × Nat), (w7.drew.alloc (Obj.cells #[.string x.f0, .int .i64 x.f1, .int .i64 x.f2, .slice A6 x.f3.length c6] 31)).heap[b]? = some (Obj.cells cs t f) → some b ≠ (Value.slice Ap s.pend.length cp).ownBlock → w8.heap[b]? = some (Obj.cells cs t f) := fun b t cs f hb ht => (hgrow.block b (blk_lt hb) ht).trans hb
  have hne1 : some b1 ≠ (Value.slice Ap s.pend.length cp).ownBlock := fun he => by
    obtain ⟨inner0, hown0, _⟩ := H0.out.pend
    have := own_lt hown0 b1 he.symm
    omega
  have hp8 := hP8 _ _ _ _ (hP7.below h78) (fun he => by exact O_ne hR8.pend (hP7.below h78) (by decide) he.symm)
  have hn8 : VarW w8 b1 x A6 c6 := hP8 _ _ _ _ (hN7.below h78) hne1
  have hg8 := hP8 _ _ _ _ hR8.blk (fun he => hR8.pend_ne he.symm)
  have hN8' := hn8.cell
  refine hK.out _ _ ⟨VarP.cell hp8, by rw [cell_of_row w8 g _ _ 106 (0, 0) hg8]; rfl, hN8'.1, hN8'.2.1, hN8'.2.2.1, hN8'.2.2.2⟩ (fun hHeld => ?_)
  have hO8 : O k31 31 w8 B (fun k => k ≠ g) (.slice (some ⟨gg, 0, none⟩) (s.pend.length + 1) cap) (s.pend ++ [x]) := by
    refine O_snoc31 (W := w7.drew.alloc (Obj.cells #[.string x.f0, .int .i64 x.f1, .int .i64 x.f2, .slice A6 x.f3.length c6] 31)) (v := .slice Ap s.pend.length cp) (hreps.imp_ fun y c' hy => Kd.FK_below hy h78) ?_ hown8 hgrow ?_
    · refine k31_mkF _ _ x (Kd.V_reads' (O_V HO6.out)).2.1 (Kd.F_mono (Kd.F_below hF7 h78) fun k hk => ⟨?_, fun he => ?_⟩)
      · have := HK0.out.1
        omega
      · obtain ⟨inner0, hown0, _⟩ := H0.out.pend
        have := own_lt hown0 k he.symm
        have := HK0.out.1
        omega
    · rcases hat with hat | hat
      · exact .inl hat.symm
      · exact .inr (by rw [hat]; rfl)
  have hR9 := hR8.setPend hO8 hgrow (hat.elim (fun h => .inl h.symm) (fun h => .inr ⟨gg, rfl, by rw [h]; exact Nat.le_refl _⟩))
  have hB9 : Below B w w8 := belowB_trans (belowB_trans hB7 (belowB_of (Nat.le_trans hBw hs7) h78)) ⟨hgrow.os, hgrow.tape, hgrow.output, hgrow.size, fun k hk => hgrow.block k (Nat.lt_of_lt_of_le hk (Nat.le_trans (Nat.le_trans hBw hs7) h78.size)) (fun he => by have := O_base hR8.pend k he.symm; omega)⟩
  clear hK K
  refine norm_ (a' := ?_) ?_ ?_
  rotate_left
  · show Act.put _ (some 66) _ = _
    simp only [Act.put, List.setIfInBounds_toArray, List.set_cons_zero, List.set_cons_succ, i64_w, i32_w]
    rfl
  refine pure_ (i := 8) (N := some 67) (v := ?_) (a' := ?_) #[true, true, true, true, true, true, true, true, true, false, false] rfl rfl (by kernel_rfl) (fun _ _ _ h => h) (Or.inl ⟨by rfl, ?_⟩) ?_ ?_
  rotate_left
  · intro w'
    go_simp
    with_reducible rfl
  rotate_left
  · simp only [Act.put, List.setIfInBounds_toArray, List.set_cons_zero, List.set_cons_succ, i64_w, i32_w]
    rfl
  refine pure_ (i := 9) (N := some 68) (v := ?_) (a' := ?_) #[true, true, true, true, true, true, true, true, true, true, false] rfl rfl (by kernel_rfl) (fun _ _ _ h => h) (Or.inl ⟨by rfl, ?_⟩) ?_ ?_
  rotate_left
  · intro w'
    go_simp
    with_reducible rfl
  rotate_left
  · simp only [Act.put, List.setIfInBounds_toArray, List.set_cons_zero, List.set_cons_succ, i64_w, i32_w]
    rfl
  refine last_ (i := 10) (N := none) #[true, true, true, true, true, true, true, true, true, true, true] rfl rfl (by kernel_rfl) (by decide) (fun K hK => ?_)
  have hfr := blk_frozen hg8 4
  have hcl : w8.cell? ⟨g, 4, none⟩ = some (.slice Ap s.pend.length cp) := by rw [cell_of_row w8 g _ _ 106 (0, 0) hg8]; rfl
  refine skip_ (w1 := ?_) (by rfl) rfl ?_ ?_
  rotate_left
  · go_simp
    rfl
  refine hK.out _ _ ?_
  clear hK K
  refine done_ (by kernel_rfl) ?_
  have hp9 : VarP (w8.setCell ⟨g, 4, none⟩ (.slice (some ⟨gg, 0, none⟩) (s.pend.length + 1) cap)) b0 g := VarP.set hp8 hg8
  have hB10 := belowB_set hB9 H0.out.hg 4 (.slice (some ⟨gg, 0, none⟩) (s.pend.length + 1) cap)
  have HBS := Aside0.mk hB10
  clear hfr hcl hHeld hO8 hown8 hgrow hat hlt8 hreps hown hN8 hN8' hn8 hg8 hp8 hP8 hB9 hB10 hB7 hF7 hR8 hR7 hP7 hN7 h78 hd7 hi hz0 hz1 hz2
  go_wp2_with fail
  generalize w8.setCell ⟨g, 4, none⟩ (.slice (some ⟨gg, 0, none⟩) (s.pend.length + 1) cap) = w9 at hp9 hR9 HBS ⊢
  have hd9 : Below w9.heap.size w9 w9.drew := below_drew1 (Below.refl _ _)
  have hp9d := (hp9.below hd9).cell
  have hc6d := (hR9.below hd9).cells.2.2.2.2.2.2.1
  refine start_ (n := 10) (S := (fun w' => w'.cell? ⟨b0, 0, none⟩ = some (.pointer (some ⟨g, 0, none⟩)) ∧ w'.cell? ⟨g, 6, none⟩ = some (.int .i64 s.peak))) (ds := [9]) #[false, false, false, false, false, false, false, false, false, false] (by kernel_rfl) rfl rfl ⟨hp9d, hc6d⟩ (fun hHeld => ?_)
  refine pure_ (i := 5) (N := some 74) (v := ?_) (a' := ?_) #[false, false, false, false, false, true, false, false, false, false] rfl rfl (by kernel_rfl) (fun _ _ _ h => h) (Or.inl ⟨by rfl, ?_⟩) ?_ ?_
  rotate_left
  · intro w'
    go_simp
    with_reducible rfl
  rotate_left
  · simp only [Act.put, List.setIfInBounds_toArray, List.set_cons_zero, List.set_cons_succ, i64_w, i32_w]
    rfl
  refine take_ (i := 0) (N := some 69) (v := ?_) (a' := ?_) #[true, false, false, false, false, true, false, false, false, false] rfl rfl (by kernel_rfl) (fun _ _ _ h => h) (Or.inl ⟨by rfl, ?_⟩) hHeld ?_ ?_
  rotate_left
  · rintro w' ⟨s0, s1⟩
    go_simp
    with_reducible rfl
  rotate_left
  · simp only [Act.put, List.setIfInBounds_toArray, List.set_cons_zero, List.set_cons_succ, i64_w, i32_w]
    rfl
  refine take_ (i := 1) (N := some 70) (v := ?_) (a' := ?_) #[true, true, false, false, false, true, false, false, false, false] rfl rfl (by kernel_rfl) (fun _ _ _ h => h) (Or.inl ⟨by rfl, ?_⟩) hHeld ?_ ?_
  rotate_left
  · rintro w' ⟨s0, s1⟩
    go_simp
    with_reducible rfl
  rotate_left
  · simp only [Act.put, List.setIfInBounds_toArray, List.set_cons_zero, List.set_cons_succ, i64_w, i32_w]
    rfl
  refine pure_ (i := 2) (N := some 71) (v := ?_) (a' := ?_) #[true, true, true, false, false, true, false, false, false, false] rfl rfl (by kernel_rfl) (fun _ _ _ h => h) (Or.inl ⟨by rfl, ?_⟩) ?_ ?_
  rotate_left
  · intro w'
    go_simp
    with_reducible rfl
  rotate_left
  · simp only [Act.put, List.setIfInBounds_toArray, List.set_cons_zero, List.set_cons_succ, i64_w, i32_w]
    rfl
  refine pure_ (i := 3) (N := some 72) (v := ?_) (a' := ?_) #[true, true, true, true, false, true, false, false, false, false] rfl rfl (by kernel_rfl) (fun _ _ _ h => h) (Or.inl ⟨by rfl, ?_⟩) ?_ ?_
  rotate_left
  · intro w'
    go_simp
    with_reducible rfl
  rotate_left
  · simp only [Act.put, List.setIfInBounds_toArray, List.set_cons_zero, List.set_cons_succ, i64_w, i32_w]
    rfl
  refine take_ (i := 4) (N := some 73) (v := ?_) (a' := ?_) #[true, true, true, true, true, true, false, false, false, false] rfl rfl (by kernel_rfl) (fun _ _ _ h => h) (Or.inl ⟨by rfl, ?_⟩) hHeld ?_ ?_
  rotate_left
  · rintro w' ⟨s0, s1⟩
    go_simp
    with_reducible rfl
  rotate_left
  · simp only [Act.put, List.setIfInBounds_toArray, List.set_cons_zero, List.set_cons_succ, i64_w, i32_w]
    rfl
  refine pure_ (i := 6) (N := some 75) (v := ?_) (a' := ?_) #[true, true, true, true, true, true, true, false, false, false] rfl rfl (by kernel_rfl) (fun _ _ _ h => h) (Or.inl ⟨by rfl, ?_⟩) ?_ ?_
  rotate_left
  · intro w'
    go_simp
    with_reducible rfl
  rotate_left
  · simp only [Act.put, List.setIfInBounds_toArray, List.set_cons_zero, List.set_cons_succ, i64_w, i32_w]
    rfl
  refine pure_ (i := 7) (N := some 76) (v := ?_) (a' := ?_) #[true, true, true, true, true, true, true, true, false, false] rfl rfl (by kernel_rfl) (fun _ _ _ h => h) (Or.inl ⟨by rfl, ?_⟩) ?_ ?_
  rotate_left
  · intro w'
    go_simp
    with_reducible rfl
  rotate_left
  · simp only [Act.put, List.setIfInBounds_toArray, List.set_cons_zero, List.set_cons_succ, i64_w, i32_w]
    rfl
  refine pure_ (i := 8) (N := some 77) (v := ?_) (a' := ?_) #[true, true, true, true, true, true, true, true, true, false] rfl rfl (by kernel_rfl) (fun _ _ _ h => h) (Or.inl ⟨by rfl, ?_⟩) ?_ ?_
  rotate_left
  · intro w'
    go_simp
    with_reducible rfl
  rotate_left
  · simp only [Act.put, List.setIfInBounds_toArray, List.set_cons_zero, List.set_cons_succ, i64_w, i32_w]
    rfl
  refine last_ (i := 9) (N := none) #[true, true, true, true, true, true, true, true, true, true] rfl rfl (by kernel_rfl) (by decide) (fun K hK => ?_)
  have hfr := blk_frozen (hR9.below hd9).blk 6
  have hcl := hc6d
  refine skip_ (w1 := ?_) (by rfl) rfl ?_ ?_
  rotate_left
  · go_simp
    rfl
  refine hK.out _ _ ?_
  clear hK K
  refine done_ (by kernel_rfl) ?_
  have hend : RepAt B g { s with pend := s.pend ++ [x], peak := mx s.peak (sizeF n2) } (w9.drew.setCell ⟨g, 6, none⟩ (.int .i64 (mx s.peak (sizeF n2)))) mv sv (.slice (some ⟨gg, 0, none⟩) (s.pend.length + 1) cap) :=
    (hR9.below hd9).upd (fun k _ hk => Below.heap_setCell _ _ _ _ hk) (blk_set (hR9.below hd9).blk 6 _) rfl rfl rfl
  have hBe : Below B w (w9.drew.setCell ⟨g, 6, none⟩ (.int .i64 (mx s.peak (sizeF n2)))) := belowB_set (belowB_trans HBS.out (belowB_of (Nat.le_trans hBw HBS.out.size) hd9)) H0.out.hg 6 _
  go_wp2_with fail
  all_goals go_ret
  · have hm : mx s.peak (sizeF n2) = sizeF n2 := by unfold mx; split <;> omega
    rw [hm] at hend hBe
    exact ⟨0, rfl, rfl, ⟨_, _, _, by rw [hm]; exact hend⟩, hBe⟩
  · have hm : mx s.peak (sizeF n2) = s.peak := by unfold mx; split <;> omega
    rw [hm] at hend hBe
    exact ⟨0, rfl, rfl, ⟨_, _, _, by rw [hm]; exact hend⟩, hBe⟩
end
end Go.Proofs.Ytcgeioingikeeaa.P
namespace Go.Proofs.Ytcgeioingikeeaa.P
open Go.RowKit Go.Proofs.YtcgeioingikeeaaW.PrintWords Go.Proofs.YtcgeioingikeeaaW.PrintLast Go.Proofs.YtcgeioingikeeaaW.PrintMore
set_option linter.unusedVariables false
set_option linter.unusedSimpArgs false
section
variable {B g : Nat} {s : SSt} {w : World} {mv sv pv : Value}
set_option maxHeartbeats 4000000 in
set_option maxRecDepth 100000 in
theorem do1_less_f (x : S31) (A3 : Option Addr) (c3 b0 b1 : Nat) {s0 : SSt} {w0 : World} (h0 : RepAt B g s0 w0 mv sv pv) (hk0 : KeptG g w0 w) (hb1 : w0.heap.size ≤ b1) (hB0 : B ≤ w0.heap.size) (e1 : s.safe = s0.safe) (e2 : s.pend = s0.pend) (e3 : s.fails = s0.fails)
    (h : RepAt B g s w mv sv pv) (hf : Fit s) (hx : x.f3.length ≤ 1000) (hp : VarP w b0 g) (hn : VarW w b1 x A3 c3) (hF : Kd.F (Kd.int .u8) w (fun k => k ≠ g) A3 x.f3.length x.f3) (hc3 : x.f3.length ≤ c3) (hok : (getT (filesOf s) x.f0).2 = false) (h2 : x.f1 ≠ 2) (h3 : x.f1 ≠ 3) (he : (doT (filesOf s) x (-1)).2 = 0) (hq1 : s.quota < sizeF (doT (filesOf s) x (-1)).1) (hq4 : ¬ sizeF (filesOf s) < sizeF (doT (filesOf s) x (-1)).1) :
    Calls Try.prog 91 #[.pointer (some ⟨b0, 0, none⟩), .pointer (some ⟨b1, 0, none⟩)] w fun e w' => ∃ r, e = .returned (.int .i64 r) ∧ r = (doB s x).2 ∧ Rep B g (doB s x).1 w' ∧ Below B w w' := by
  obtain ⟨Ap, cp, rfl⟩ := O_slice h.pend
  have hBw : B ≤ w.heap.size := Nat.le_trans hB0 hk0.1
  have hg0 : g < w0.heap.size := blk_lt h0.blk
  have hlen := hf.len
  have hfl : okL (filesOf s) ∧ (filesOf s).length ≤ 1000 := files_ok hf
  have hget := get_f (filesOf s) x.f0 (by omega) hfl.1
  have hdo := doT_f (filesOf s) x (-1) (by omega) hfl.1 (by omega)
  have hdk := doT_ok (filesOf s) x (-1) hfl.1
  obtain ⟨kz, hkz⟩ := size_f (filesOf s) (by omega)
  have hno : ¬ ((getT (filesOf s) x.f0).2 = false ∧ (x.f1 = 2 ∨ x.f1 = 3)) := by simp [h2, h3]
  have hq2 : (x.f1 == 2) = false := by simpa using h2
  have hq3 : (x.f1 == 3) = false := by simpa using h3
  rw [hok] at hget
  have hE : doE s x = 0 := by unfold doE; rw [if_neg hno, if_neg (by simp [he]), if_neg (fun h => hq4 h.2)]
  have hB : doB s x = ({ s with pend := s.pend ++ [x], peak := mx s.peak (sizeF (doT (filesOf s) x (-1)).1) }, 0) := by unfold doB; rw [if_pos hE]
  rw [hB]
  obtain ⟨⟨n2, r2⟩, hdr⟩ : ∃ r, doT (filesOf s) x (-1) = r := ⟨_, rfl⟩
  rw [hdr] at hdo hdk he hq1 hq4 ⊢
  simp only at hdo hdk he hq1 hq4 ⊢
  obtain rfl := he
  have hn2 := (hdk rfl).2
  obtain ⟨kd, hkd⟩ := size_f n2 (by omega)
  have HKD := Aside0.mk hkd
  have HEB := Aside0.mk (And.intro hE hB)
  have HDR := Aside0.mk hdr
  clear hok hno h2 h3 hE hB hdr hkd
  have hp0 := hp.cell
  obtain ⟨hx0, hx1, hx2, hx3⟩ := hn.cell
  have H := Aside0.mk h
  have H0 := Aside0.mk h0
  have HK0 := Aside0.mk hk0
  have HE := Aside0.mk (And.intro e1 (And.intro e2 e3))
  have HF := Aside0.mk hf
  have HP := Aside0.mk hp
  have HN := Aside0.mk hn
  have HFx := Aside0.mk hF
  have HGET := Aside0.mk hget
  have HDO := Aside0.mk hdo
  have HDK := Aside0.mk hdk
  have HKZ := Aside0.mk hkz
  clear h h0 hk0 hf hp hn hF hget hdo hdk hkz e1 e2 e3
  go_enter Try.func91, Try.ntmps91
  go_wp2_with (first
    | (go_at_call 42; refine (files_calls ⟨mv, sv, _, H.out⟩ HF.out).mono ?_; rintro e w1 ⟨v1, rfl, hV1, hb1w⟩; obtain ⟨A1, c1, rfl⟩ := Kd.V_slice hV1; obtain ⟨hx0, hx1, hx2, hx3⟩ := (HN.out.below hb1w).cell; have HV1 := Aside0.mk hV1; have HB1 := Aside0.mk hb1w; clear hV1 hb1w)
    | (go_at_call 28; refine (files_Get.calls A1 c1 (filesOf s) x.f0 _ _ _ (Kd.V_reads' HV1.out).2.2 (Kd.V_reads' HV1.out).2.1 HGET.out).mono ?_; rintro e w2 ⟨v2, rfl, hR2, hb2⟩; obtain ⟨A2, c2, rfl⟩ := Kd.R_slice hR2; obtain ⟨hx0, hx1, hx2, hx3⟩ := (HN.out.below (below_step HB1.out hb2)).cell; have HB12 := Aside0.mk hb2; have HB2 := Aside0.mk (below_step HB1.out hb2); clear hR2 hb2)
    | (go_at_call 17; refine (files_Do.calls (fun k => w.heap.size ≤ k) A1 c1 (filesOf s) x.f0 x.f1 x.f2 A3 c3 x.f3 (-1) _ _ _ (V_base (Kd.V_below HV1.out HB12.out)) (Kd.F_now (Kd.F_below HFx.out HB2.out)) hc3 HDO.out).mono ?_; rintro e w3 ⟨v3, rfl, hV3, hb3⟩; obtain ⟨A4, c4, rfl⟩ := Kd.V_slice hV3; have hp0 := (HP.out.below (below_step HB2.out hb3)).cell; obtain ⟨hx0, hx1, hx2, hx3⟩ := (HN.out.below (below_step HB2.out hb3)).cell; have HV3 := Aside0.mk hV3; have HB13 := Aside0.mk (below_step HB12.out hb3); have HB3 := Aside0.mk (below_step HB2.out hb3); clear hV3 hb3)
    | (go_at_call 35; with_reducible refine (files_Size.calls kd A4 c4 _ (sizeF n2) _ (Kd.V_reads' HV3.out).2.2 (Kd.V_reads' HV3.out).2.1 HKD.out).mono ?_; rintro e w4 ⟨rfl, hb4⟩; have hp0 := (HP.out.below (below_step HB3.out hb4)).cell; obtain ⟨hx0, hx1, hx2, hx3⟩ := (HN.out.below (below_step HB3.out hb4)).cell; have hq := (H.out.below (below_step HB3.out hb4)).cells.2.2.2.2.2.1; have HB14 := Aside0.mk (below_step HB13.out hb4); have HB4 := Aside0.mk (below_step HB3.out hb4); clear hb4)
    | (go_at_call 35; with_reducible refine (files_Size.calls kz A1 c1 _ (sizeF (filesOf s)) _ (Kd.V_reads' (Kd.V_below HV1.out HB14.out)).2.2 (Kd.V_reads' HV1.out).2.1 HKZ.out).mono ?_; rintro e w5 ⟨rfl, hb5⟩; have HB5 := Aside0.mk (below_step HB4.out hb5); obtain ⟨hx0, hx1, hx2, hx3⟩ := (HN.out.below (below_step HB4.out hb5)).cell; clear hb5)
    | (go_at_call 61; refine (cloneB (fun k => k ≠ g) A3 c3 x.f3 _ (Kd.F_below HFx.out HB5.out) (by omega)).mono ?_; rintro e w6 ⟨v6, rfl, hO6, hb6⟩; obtain ⟨A6, c6, rfl⟩ := O_slice hO6; have hb26 : Below w.heap.size w w6 := below_step HB5.out hb6; obtain ⟨hx0, hx1, hx2, hx3⟩ := (HN.out.below hb26).cell; have hfb := blk_frozen (HN.out.below hb26) 3; have HO6 := Aside0.mk hO6; have HB6 := Aside0.mk hb26; clear hO6 hb6 hb26))

  have hn6' : w6.heap[b1]? = some (.cells #[.string x.f0, .int .i64 x.f1, .int .i64 x.f2, .slice A3 x.f3.length c3] 31 (0, 0)) := HN.out.below HB6.out
  have hp6' : w6.heap[b0]? = some (.cells #[.pointer (some ⟨g, 0, none⟩)] 58 (0, 0)) := HP.out.below HB6.out
  have hn6 := blk_set hn6' 3 (.slice A6 x.f3.length c6)
  have hF6 : Kd.F (Kd.int .u8) w6 (fun k => w.heap.size ≤ k) A6 x.f3.length x.f3 := Kd.F_mono (O_F_own HO6.out) fun k hk => Nat.le_trans HB5.out.size (O_base HO6.out k hk.symm)
  have hb1w : b1 < w.heap.size := blk_lt HN.out
  have hgb : g ≠ b1 := by omega
  have hsz6 : w.heap.size ≤ w6.heap.size := HB6.out.size
  have hF7 : Kd.F (Kd.int .u8) (w6.setCell ⟨b1, 3, none⟩ (.slice A6 x.f3.length c6)) (fun k => w.heap.size ≤ k) A6 x.f3.length x.f3 := Kd.F_step hF6 fun k hk _ => Below.heap_setCell _ _ _ _ (show k ≠ b1 by omega)
  have hR7 : RepAt B g s (w6.setCell ⟨b1, 3, none⟩ (.slice A6 x.f3.length c6)) mv sv (.slice Ap s.pend.length cp) := H0.out.beside (H.out.below HB6.out) (HK0.out.trans (KeptG.of_below HB6.out)) hb1 (fun k hk => Below.heap_setCell _ _ _ _ hk) HE.out.1 HE.out.2.1 HE.out.2.2
  have hP7 : VarP (w6.setCell ⟨b1, 3, none⟩ (.slice A6 x.f3.length c6)) b0 g := (Below.heap_setCell _ _ _ _ (show b0 ≠ b1 from blk_ne hp6' hn6' (by decide))).trans hp6'
  have hN7 : VarW (w6.setCell ⟨b1, 3, none⟩ (.slice A6 x.f3.length c6)) b1 x A6 c6 := hn6
  have hB7 : Below B w (w6.setCell ⟨b1, 3, none⟩ (.slice A6 x.f3.length c6)) := belowB_set (belowB_of hBw HB6.out) (Nat.le_trans hB0 hb1) 3 _
  have hs7 : w.heap.size ≤ (w6.setCell ⟨b1, 3, none⟩ (.slice A6 x.f3.length c6)).heap.size := by rw [World.size_setCell]; exact hsz6
  clear hn6 hF6 hp0 hx0 hx1 hx2 hx3 hfb
  generalize w6.setCell ⟨b1, 3, none⟩ (.slice A6 x.f3.length c6) = w7 at hF7 hR7 hP7 hN7 hB7 hs7 ⊢
  obtain ⟨i0, hi, hz0, hz1, hz2⟩ := info_parts info31
  obtain ⟨inner, hown, hreps⟩ := hR7.pend
  have hd7 : Below w7.heap.size w7 w7.drew := below_drew1 (Below.refl _ _)
  refine start_ (n := 11) (S := (fun w' => w'.cell? ⟨b0, 0, none⟩ = some (.pointer (some ⟨g, 0, none⟩)) ∧ w'.cell? ⟨g, 4, none⟩ = some (.slice Ap s.pend.length cp) ∧ w'.cell? ⟨b1, 0, none⟩ = some (.string x.f0) ∧ w'.cell? ⟨b1, 1, none⟩ = some (.int .i64 x.f1) ∧ w'.cell? ⟨b1, 2, none⟩ = some (.int .i64 x.f2) ∧ w'.cell? ⟨b1, 3, none⟩ = some (.slice A6 x.f3.length c6))) (ds := [10]) #[false, false, false, false, false, false, false, false, false, false, false] (by kernel_rfl) rfl rfl ⟨(hP7.below hd7).cell, (hR7.below hd7).cells.2.2.2.2.1, (hN7.below hd7).cell.1, (hN7.below hd7).cell.2.1, (hN7.below hd7).cell.2.2.1, (hN7.below hd7).cell.2.2.2⟩ (fun hHeld => ?_)
  refine take_ (i := 0) (N := some 59) (v := ?_) (a' := ?_) #[true, false, false, false, false, false, false, false, false, false, false] rfl rfl (by kernel_rfl) (fun _ _ _ h => h) (Or.inl ⟨by rfl, ?_⟩) hHeld ?_ ?_
  rotate_left
  · rintro w' ⟨s0, s1, s2, s3, s4, s5⟩
    go_simp
    with_reducible rfl
  rotate_left
  · simp only [Act.put, List.setIfInBounds_toArray, List.set_cons_zero, List.set_cons_succ, i64_w, i32_w]
    rfl
  refine take_ (i := 1) (N := some 60) (v := ?_) (a' := ?_) #[true, true, false, false, false, false, false, false, false, false, false] rfl rfl (by kernel_rfl) (fun _ _ _ h => h) (Or.inl ⟨by rfl, ?_⟩) hHeld ?_ ?_
  rotate_left
  · rintro w' ⟨s0, s1, s2, s3, s4, s5⟩
    go_simp
    with_reducible rfl
  rotate_left
  · simp only [Act.put, List.setIfInBounds_toArray, List.set_cons_zero, List.set_cons_succ, i64_w, i32_w]
    rfl
  refine pure_ (i := 2) (N := some 61) (v := ?_) (a' := ?_) #[true, true, true, false, false, false, false, false, false, false, false] rfl rfl (by kernel_rfl) (fun _ _ _ h => h) (Or.inl ⟨by rfl, ?_⟩) ?_ ?_
  rotate_left
  · intro w'
    go_simp
    with_reducible rfl
  rotate_left
  · simp only [Act.put, List.setIfInBounds_toArray, List.set_cons_zero, List.set_cons_succ, i64_w, i32_w]
    rfl
  refine pure_ (i := 3) (N := some 62) (v := ?_) (a' := ?_) #[true, true, true, true, false, false, false, false, false, false, false] rfl rfl (by kernel_rfl) (fun _ _ _ h => h) (Or.inl ⟨by rfl, ?_⟩) ?_ ?_
  rotate_left
  · intro w'
    go_simp
    with_reducible rfl
  rotate_left
  · simp only [Act.put, List.setIfInBounds_toArray, List.set_cons_zero, List.set_cons_succ, i64_w, i32_w]
    rfl
  refine take_ (i := 4) (N := some 63) (v := ?_) (a' := ?_) #[true, true, true, true, true, false, false, false, false, false, false] rfl rfl (by kernel_rfl) (fun _ _ _ h => h) (Or.inl ⟨by rfl, ?_⟩) hHeld ?_ ?_
  rotate_left
  · rintro w' ⟨s0, s1, s2, s3, s4, s5⟩
    go_simp
    with_reducible rfl
  rotate_left
  · simp only [Act.put, List.setIfInBounds_toArray, List.set_cons_zero, List.set_cons_succ, i64_w, i32_w]
    rfl
  refine take_ (i := 5) (N := some 64) (v := ?_) (a' := ?_) #[true, true, true, true, true, true, false, false, false, false, false] rfl rfl (by kernel_rfl) (fun _ _ _ h => h) (Or.inl ⟨by rfl, ?_⟩) hHeld ?_ ?_
  rotate_left
  · rintro w' ⟨s0, s1, s2, s3, s4, s5⟩
    go_simp
    with_reducible rfl
  rotate_left
  · simp only [Act.put, List.setIfInBounds_toArray, List.set_cons_zero, List.set_cons_succ, i64_w, i32_w]
    rfl
  refine one_ (i := 6) (N := some 65) #[true, true, true, true, true, true, true, false, false, false, false] rfl rfl (by kernel_rfl) (by decide) (fun K hK => ?_)
  refine value_ (w1 := w7.drew.alloc (Obj.cells #[.string x.f0, .int .i64 x.f1, .int .i64 x.f2, .slice A6 x.f3.length c6] 31)) (v := .slice (some ⟨w7.drew.heap.size, 0, none⟩) 1 1) (by rfl) rfl ?_ ?_
  · go_simp
  have h78 : Below w7.heap.size w7 (w7.drew.alloc (Obj.cells #[.string x.f0, .int .i64 x.f1, .int .i64 x.f2, .slice A6 x.f3.length c6] 31)) := below_alloc hd7 _
  have hN8 := (hN7.below h78).cell
  refine hK.out _ _ ⟨(hP7.below h78).cell, (hR7.below h78).cells.2.2.2.2.1, hN8.1, hN8.2.1, hN8.2.2.1, hN8.2.2.2⟩ (fun hHeld => ?_)
  clear hK K
  refine norm_ (a' := ?_) ?_ ?_
  rotate_left
  · show Act.put _ (some 65) _ = _
    simp only [Act.put, List.setIfInBounds_toArray, List.set_cons_zero, List.set_cons_succ, i64_w, i32_w]
    rfl
  refine one_ (i := 7) (N := some 66) #[true, true, true, true, true, true, true, true, false, false, false] rfl rfl (by kernel_rfl) (by decide) (fun K hK => ?_)
  refine step_append_lies _ (by rfl) _ _ _ (by rfl) B 31 i0 _ 4 56 Try.underlying104 hi hz0 hz1 hz2 rfl (by omega) (.slice Ap s.pend.length cp) s.pend.length inner (by rfl) (pw_own_below hown h78) ⟨w7.drew.heap.size, 0, none⟩ 1 1 [.string x.f0, .int .i64 x.f1, .int .i64 x.f2, .slice A6 x.f3.length c6] (by rfl) (by rfl) (World.news_of_block (cs := #[.string x.f0, .int .i64 x.f1, .int .i64 x.f2, .slice A6 x.f3.length c6]) (t := 31) (fr := (0, 0)) (heap_alloc_new _ _)) (by simp [Value.oneCell']) (by omega) (by unfold maxLen; omega) (by omega) (Nat.le_trans (Nat.le_trans hBw hs7) h78.size) _ rfl ?_
  intro gg cap w8 hown8 hgrow hat hlt8
  have hR8 := hR7.below h78
  have hP8 : ∀ b t (cs : Array Value) (f : Nat × Nat), (w7.drew.alloc (Obj.cells #[.string x.f0, .int .i64 x.f1, .int .i64 x.f2, .slice A6 x.f3.length c6] 31)).heap[b]? = some (Obj.cells cs t f) → some b ≠ (Value.slice Ap s.pend.length cp).ownBlock → w8.heap[b]? = some (Obj.cells cs t f) := fun b t cs f hb ht => (hgrow.block b (blk_lt hb) ht).trans hb
  have hne1 : some b1 ≠ (Value.slice Ap s.pend.length cp).ownBlock := fun he => by
    obtain ⟨inner0, hown0, _⟩ := H0.out.pend
    have := own_lt hown0 b1 he.symm
    omega
  have hp8 := hP8 _ _ _ _ (hP7.below h78) (fun he => by exact O_ne hR8.pend (hP7.below h78) (by decide) he.symm)
  have hn8 : VarW w8 b1 x A6 c6 := hP8 _ _ _ _ (hN7.below h78) hne1
  have hg8 := hP8 _ _ _ _ hR8.blk (fun he => hR8.pend_ne he.symm)
  have hN8' := hn8.cell
  refine hK.out _ _ ⟨VarP.cell hp8, by rw [cell_of_row w8 g _ _ 106 (0, 0) hg8]; rfl, hN8'.1, hN8'.2.1, hN8'.2.2.1, hN8'.2.2.2⟩ (fun hHeld => ?_)
  have hO8 : O k31 31 w8 B (fun k => k ≠ g) (.slice (some ⟨gg, 0, none⟩) (s.pend.length + 1) cap) (s.pend ++ [x]) := by
    refine O_snoc31 (W := w7.drew.alloc (Obj.cells #[.string x.f0, .int .i64 x.f1, .int .i64 x.f2, .slice A6 x.f3.length c6] 31)) (v := .slice Ap s.pend.length cp) (hreps.imp_ fun y c' hy => Kd.FK_below hy h78) ?_ hown8 hgrow ?_
    · refine k31_mkF _ _ x (Kd.V_reads' (O_V HO6.out)).2.1 (Kd.F_mono (Kd.F_below hF7 h78) fun k hk => ⟨?_, fun he => ?_⟩)
      · have := HK0.out.1
        omega
      · obtain ⟨inner0, hown0, _⟩ := H0.out.pend
        have := own_lt hown0 k he.symm
        have := HK0.out.1
        omega
    · rcases hat with hat | hat
      · exact .inl hat.symm
      · exact .inr (by rw [hat]; rfl)
  have hR9 := hR8.setPend hO8 hgrow (hat.elim (fun h => .inl h.symm) (fun h => .inr ⟨gg, rfl, by rw [h]; exact Nat.le_refl _⟩))
  have hB9 : Below B w w8 := belowB_trans (belowB_trans hB7 (belowB_of (Nat.le_trans hBw hs7) h78)) ⟨hgrow.os, hgrow.tape, hgrow.output, hgrow.size, fun k hk => hgrow.block k (Nat.lt_of_lt_of_le hk (Nat.le_trans (Nat.le_trans hBw hs7) h78.size)) (fun he => by have := O_base hR8.pend k he.symm; omega)⟩
  clear hK K
  refine norm_ (a' := ?_) ?_ ?_
  rotate_left
  · show Act.put _ (some 66) _ = _
    simp only [Act.put, List.setIfInBounds_toArray, List.set_cons_zero, List.set_cons_succ, i64_w, i32_w]
    rfl
  refine pure_ (i := 8) (N := some 67) (v := ?_) (a' := ?_) #[true, true, true, true, true, true, true, true, true, false, false] rfl rfl (by kernel_rfl) (fun _ _ _ h => h) (Or.inl ⟨by rfl, ?_⟩) ?_ ?_
  rotate_left
  · intro w'
    go_simp
    with_reducible rfl
  rotate_left
  · simp only [Act.put, List.setIfInBounds_toArray, List.set_cons_zero, List.set_cons_succ, i64_w, i32_w]
    rfl
  refine pure_ (i := 9) (N := some 68) (v := ?_) (a' := ?_) #[true, true, true, true, true, true, true, true, true, true, false] rfl rfl (by kernel_rfl) (fun _ _ _ h => h) (Or.inl ⟨by rfl, ?_⟩) ?_ ?_
  rotate_left
  · intro w'
    go_simp
    with_reducible rfl
  rotate_left
  · simp only [Act.put, List.setIfInBounds_toArray, List.set_cons_zero, List.set_cons_succ, i64_w, i32_w]
    rfl
  refine last_ (i := 10) (N := none) #[true, true, true, true, true, true, true, true, true, true, true] rfl rfl (by kernel_rfl) (by decide) (fun K hK => ?_)
  have hfr := blk_frozen hg8 4
  have hcl : w8.cell? ⟨g, 4, none⟩ = some (.slice Ap s.pend.length cp) := by rw [cell_of_row w8 g _ _ 106 (0, 0) hg8]; rfl
  refine skip_ (w1 := ?_) (by rfl) rfl ?_ ?_
  rotate_left
  · go_simp
    rfl
  refine hK.out _ _ ?_
  clear hK K
  refine done_ (by kernel_rfl) ?_
  have hp9 : VarP (w8.setCell ⟨g, 4, none⟩ (.slice (some ⟨gg, 0, none⟩) (s.pend.length + 1) cap)) b0 g := VarP.set hp8 hg8
  have hB10 := belowB_set hB9 H0.out.hg 4 (.slice (some ⟨gg, 0, none⟩) (s.pend.length + 1) cap)
  have HBS := Aside0.mk hB10
  clear hfr hcl hHeld hO8 hown8 hgrow hat hlt8 hreps hown hN8 hN8' hn8 hg8 hp8 hP8 hB9 hB10 hB7 hF7 hR8 hR7 hP7 hN7 h78 hd7 hi hz0 hz1 hz2
  go_wp2_with fail
  generalize w8.setCell ⟨g, 4, none⟩ (.slice (some ⟨gg, 0, none⟩) (s.pend.length + 1) cap) = w9 at hp9 hR9 HBS ⊢
  have hd9 : Below w9.heap.size w9 w9.drew := below_drew1 (Below.refl _ _)
  have hp9d := (hp9.below hd9).cell
  have hc6d := (hR9.below hd9).cells.2.2.2.2.2.2.1
  refine start_ (n := 10) (S := (fun w' => w'.cell? ⟨b0, 0, none⟩ = some (.pointer (some ⟨g, 0, none⟩)) ∧ w'.cell? ⟨g, 6, none⟩ = some (.int .i64 s.peak))) (ds := [9]) #[false, false, false, false, false, false, false, false, false, false] (by kernel_rfl) rfl rfl ⟨hp9d, hc6d⟩ (fun hHeld => ?_)
  refine pure_ (i := 5) (N := some 74) (v := ?_) (a' := ?_) #[false, false, false, false, false, true, false, false, false, false] rfl rfl (by kernel_rfl) (fun _ _ _ h => h) (Or.inl ⟨by rfl, ?_⟩) ?_ ?_
  rotate_left
  · intro w'
    go_simp
    with_reducible rfl
  rotate_left
  · simp only [Act.put, List.setIfInBounds_toArray, List.set_cons_zero, List.set_cons_succ, i64_w, i32_w]
    rfl
  refine take_ (i := 0) (N := some 69) (v := ?_) (a' := ?_) #[true, false, false, false, false, true, false, false, false, false] rfl rfl (by kernel_rfl) (fun _ _ _ h => h) (Or.inl ⟨by rfl, ?_⟩) hHeld ?_ ?_
  rotate_left
  · rintro w' ⟨s0, s1⟩
    go_simp
    with_reducible rfl
  rotate_left
  · simp only [Act.put, List.setIfInBounds_toArray, List.set_cons_zero, List.set_cons_succ, i64_w, i32_w]
    rfl
  refine take_ (i := 1) (N := some 70) (v := ?_) (a' := ?_) #[true, true, false, false, false, true, false, false, false, false] rfl rfl (by kernel_rfl) (fun _ _ _ h => h) (Or.inl ⟨by rfl, ?_⟩) hHeld ?_ ?_
  rotate_left
  · rintro w' ⟨s0, s1⟩
    go_simp
    with_reducible rfl
  rotate_left
  · simp only [Act.put, List.setIfInBounds_toArray, List.set_cons_zero, List.set_cons_succ, i64_w, i32_w]
    rfl
  refine pure_ (i := 2) (N := some 71) (v := ?_) (a' := ?_) #[true, true, true, false, false, true, false, false, false, false] rfl rfl (by kernel_rfl) (fun _ _ _ h => h) (Or.inl ⟨by rfl, ?_⟩) ?_ ?_
  rotate_left
  · intro w'
    go_simp
    with_reducible rfl
  rotate_left
  · simp only [Act.put, List.setIfInBounds_toArray, List.set_cons_zero, List.set_cons_succ, i64_w, i32_w]
    rfl
  refine pure_ (i := 3) (N := some 72) (v := ?_) (a' := ?_) #[true, true, true, true, false, true, false, false, false, false] rfl rfl (by kernel_rfl) (fun _ _ _ h => h) (Or.inl ⟨by rfl, ?_⟩) ?_ ?_
  rotate_left
  · intro w'
    go_simp
    with_reducible rfl
  rotate_left
  · simp only [Act.put, List.setIfInBounds_toArray, List.set_cons_zero, List.set_cons_succ, i64_w, i32_w]
    rfl
  refine take_ (i := 4) (N := some 73) (v := ?_) (a' := ?_) #[true, true, true, true, true, true, false, false, false, false] rfl rfl (by kernel_rfl) (fun _ _ _ h => h) (Or.inl ⟨by rfl, ?_⟩) hHeld ?_ ?_
  rotate_left
  · rintro w' ⟨s0, s1⟩
    go_simp
    with_reducible rfl
  rotate_left
  · simp only [Act.put, List.setIfInBounds_toArray, List.set_cons_zero, List.set_cons_succ, i64_w, i32_w]
    rfl
  refine pure_ (i := 6) (N := some 75) (v := ?_) (a' := ?_) #[true, true, true, true, true, true, true, false, false, false] rfl rfl (by kernel_rfl) (fun _ _ _ h => h) (Or.inl ⟨by rfl, ?_⟩) ?_ ?_
  rotate_left
  · intro w'
    go_simp
    with_reducible rfl
  rotate_left
  · simp only [Act.put, List.setIfInBounds_toArray, List.set_cons_zero, List.set_cons_succ, i64_w, i32_w]
    rfl
  refine pure_ (i := 7) (N := some 76) (v := ?_) (a' := ?_) #[true, true, true, true, true, true, true, true, false, false] rfl rfl (by kernel_rfl) (fun _ _ _ h => h) (Or.inl ⟨by rfl, ?_⟩) ?_ ?_
  rotate_left
  · intro w'
    go_simp
    with_reducible rfl
  rotate_left
  · simp only [Act.put, List.setIfInBounds_toArray, List.set_cons_zero, List.set_cons_succ, i64_w, i32_w]
    rfl
  refine pure_ (i := 8) (N := some 77) (v := ?_) (a' := ?_) #[true, true, true, true, true, true, true, true, true, false] rfl rfl (by kernel_rfl) (fun _ _ _ h => h) (Or.inl ⟨by rfl, ?_⟩) ?_ ?_
  rotate_left
  · intro w'
    go_simp
    with_reducible rfl
  rotate_left
  · simp only [Act.put, List.setIfInBounds_toArray, List.set_cons_zero, List.set_cons_succ, i64_w, i32_w]
    rfl
  refine last_ (i := 9) (N := none) #[true, true, true, true, true, true, true, true, true, true] rfl rfl (by kernel_rfl) (by decide) (fun K hK => ?_)
  have hfr := blk_frozen (hR9.below hd9).blk 6
  have hcl := hc6d
  refine skip_ (w1 := ?_) (by rfl) rfl ?_ ?_
  rotate_left
  · go_simp
    rfl
  refine hK.out _ _ ?_
  clear hK K
  refine done_ (by kernel_rfl) ?_
  have hend : RepAt B g { s with pend := s.pend ++ [x], peak := mx s.peak (sizeF n2) } (w9.drew.setCell ⟨g, 6, none⟩ (.int .i64 (mx s.peak (sizeF n2)))) mv sv (.slice (some ⟨gg, 0, none⟩) (s.pend.length + 1) cap) :=
    (hR9.below hd9).upd (fun k _ hk => Below.heap_setCell _ _ _ _ hk) (blk_set (hR9.below hd9).blk 6 _) rfl rfl rfl
  have hBe : Below B w (w9.drew.setCell ⟨g, 6, none⟩ (.int .i64 (mx s.peak (sizeF n2)))) := belowB_set (belowB_trans HBS.out (belowB_of (Nat.le_trans hBw HBS.out.size) hd9)) H0.out.hg 6 _
  go_wp2_with fail
  all_goals go_ret
  · have hm : mx s.peak (sizeF n2) = sizeF n2 := by unfold mx; split <;> omega
    rw [hm] at hend hBe
    exact ⟨0, rfl, rfl, ⟨_, _, _, by rw [hm]; exact hend⟩, hBe⟩
  · have hm : mx s.peak (sizeF n2) = s.peak := by unfold mx; split <;> omega
    rw [hm] at hend hBe
    exact ⟨0, rfl, rfl, ⟨_, _, _, by rw [hm]; exact hend⟩, hBe⟩
end
end Go.Proofs.Ytcgeioingikeeaa.P
namespace Go.Proofs.Ytcgeioingikeeaa.P
open Go.RowKit Go.Proofs.YtcgeioingikeeaaW.PrintWords Go.Proofs.YtcgeioingikeeaaW.PrintLast Go.Proofs.YtcgeioingikeeaaW.PrintMore
set_option linter.unusedVariables false
set_option linter.unusedSimpArgs false
section
variable {B g : Nat} {s : SSt} {w : World} {mv sv pv : Value}
theorem do1_calls (x : S31) (A3 : Option Addr) (c3 b0 b1 : Nat) {s0 : SSt} {w0 : World} (h0 : RepAt B g s0 w0 mv sv pv) (hk0 : KeptG g w0 w) (hb1 : w0.heap.size ≤ b1) (hB0 : B ≤ w0.heap.size) (e1 : s.safe = s0.safe) (e2 : s.pend = s0.pend) (e3 : s.fails = s0.fails)
    (h : RepAt B g s w mv sv pv) (hf : Fit s) (hx : x.f3.length ≤ 1000) (hp : VarP w b0 g) (hn : VarW w b1 x A3 c3) (hF : Kd.F (Kd.int .u8) w (fun k => k ≠ g) A3 x.f3.length x.f3) (hc3 : x.f3.length ≤ c3) :
    Calls Try.prog 91 #[.pointer (some ⟨b0, 0, none⟩), .pointer (some ⟨b1, 0, none⟩)] w fun e w' => ∃ r, e = .returned (.int .i64 r) ∧ r = (doB s x).2 ∧ Rep B g (doB s x).1 w' ∧ Below B w w' := by
  cases hok : (getT (filesOf s) x.f0).2
  · by_cases h2 : x.f1 = 2
    · exact do1_none2 x A3 c3 b0 b1 h0 hk0 hb1 hB0 e1 e2 e3 h hf hx hp hn hF hc3 hok h2
    · by_cases h3 : x.f1 = 3
      · exact do1_none3 x A3 c3 b0 b1 h0 hk0 hb1 hB0 e1 e2 e3 h hf hx hp hn hF hc3 hok h3
      · by_cases he : (doT (filesOf s) x (-1)).2 = 0
        · by_cases q1 : s.quota < sizeF (doT (filesOf s) x (-1)).1
          · by_cases q2 : sizeF (filesOf s) < sizeF (doT (filesOf s) x (-1)).1
            · exact do1_full_f x A3 c3 b0 b1 h0 hk0 hb1 hB0 e1 e2 e3 h hf hx hp hn hF hc3 hok h2 h3 he q1 q2
            · exact do1_less_f x A3 c3 b0 b1 h0 hk0 hb1 hB0 e1 e2 e3 h hf hx hp hn hF hc3 hok h2 h3 he q1 q2
          · exact do1_in_f x A3 c3 b0 b1 h0 hk0 hb1 hB0 e1 e2 e3 h hf hx hp hn hF hc3 hok h2 h3 he q1
        · exact do1_err_f x A3 c3 b0 b1 h0 hk0 hb1 hB0 e1 e2 e3 h hf hx hp hn hF hc3 hok h2 h3 he
  · by_cases he : (doT (filesOf s) x (-1)).2 = 0
    · by_cases q1 : s.quota < sizeF (doT (filesOf s) x (-1)).1
      · by_cases q2 : sizeF (filesOf s) < sizeF (doT (filesOf s) x (-1)).1
        · exact do1_full_t x A3 c3 b0 b1 h0 hk0 hb1 hB0 e1 e2 e3 h hf hx hp hn hF hc3 hok he q1 q2
        · exact do1_less_t x A3 c3 b0 b1 h0 hk0 hb1 hB0 e1 e2 e3 h hf hx hp hn hF hc3 hok he q1 q2
      · exact do1_in_t x A3 c3 b0 b1 h0 hk0 hb1 hB0 e1 e2 e3 h hf hx hp hn hF hc3 hok he q1
    · exact do1_err_t x A3 c3 b0 b1 h0 hk0 hb1 hB0 e1 e2 e3 h hf hx hp hn hF hc3 hok he
end
end Go.Proofs.Ytcgeioingikeeaa.P
namespace Go.Proofs.Ytcgeioingikeeaa.P
open Go.RowKit Go.Proofs.YtcgeioingikeeaaW.PrintWords Go.Proofs.YtcgeioingikeeaaW.PrintLast Go.Proofs.YtcgeioingikeeaaW.PrintMore
set_option linter.unusedVariables false
set_option linter.unusedSimpArgs false
section
variable {B g : Nat} {s : SSt} {w : World} {mv sv pv : Value}
def doR (s : SSt) (x : S31) : SSt × Int := if (asked s).2 ≠ 0 then asked s else doB (asked s).1 x
set_option maxHeartbeats 8000000 in
set_option maxRecDepth 100000 in
theorem do_calls (x : S31) (A3 : Option Addr) (c3 : Nat) (h : Rep B g s w) (hf : Fit s) (hf1 : Fit (asked s).1) (hBw : B ≤ w.heap.size) (hx : x.f3.length ≤ 1000) (hF : Kd.F (Kd.int .u8) w (fun k => k ≠ g) A3 x.f3.length x.f3) (hc3 : x.f3.length ≤ c3) :
    Calls Try.prog 67 #[.pointer (some ⟨g, 0, none⟩), .agg #[.string x.f0, .int .i64 x.f1, .int .i64 x.f2, .slice A3 x.f3.length c3]] w fun e w' => e = .returned (.int .i64 (doR s x).2) ∧ Rep B g (doR s x).1 w' ∧ Below B w w' := by
  obtain ⟨mv, sv, pv, h⟩ := h
  have hw1 : Below w.heap.size w (w.alloc (Obj.cells #[.pointer (some ⟨g, 0, none⟩)] 58)) := below_alloc (Below.refl _ _) _
  have hp1 : VarP (w.alloc (Obj.cells #[.pointer (some ⟨g, 0, none⟩)] 58)) w.heap.size g := heap_alloc_new _ _
  generalize hW1 : w.alloc (Obj.cells #[.pointer (some ⟨g, 0, none⟩)] 58) = w1 at hw1 hp1
  have hsz : w1.heap.size = w.heap.size + 1 := by rw [← hW1, World.size_alloc]
  have hw2 : Below w1.heap.size w1 (w1.alloc (Obj.cells #[.string x.f0, .int .i64 x.f1, .int .i64 x.f2, .slice A3 x.f3.length c3] 31)) := below_alloc (Below.refl _ _) _
  have hn2 : VarW (w1.alloc (Obj.cells #[.string x.f0, .int .i64 x.f1, .int .i64 x.f2, .slice A3 x.f3.length c3] 31)) w1.heap.size x A3 c3 := heap_alloc_new _ _
  have hp2 := hp1.below hw2
  have hw02 := below_step hw1 hw2
  have H := Aside0.mk h
  have HF := Aside0.mk hf
  have HF1 := Aside0.mk hf1
  have HP := Aside0.mk hp2
  have HN := Aside0.mk hn2
  have HW := Aside0.mk hw02
  have HW1 := Aside0.mk hw1
  have HW2 := Aside0.mk hw2
  have HFx := Aside0.mk hF
  have hg0 : g < w.heap.size := blk_lt h.blk
  have hcell : (w1.alloc (Obj.cells #[.string x.f0, .int .i64 x.f1, .int .i64 x.f2, .slice A3 x.f3.length c3] 31)).cell? ⟨w.heap.size, 0, none⟩ = some (.pointer (some ⟨g, 0, none⟩)) := hp2.cell
  clear h hf hf1 hw1 hp1 hw2 hn2 hp2 hw02 hF
  by_cases ha : (asked s).2 = 0
  · have hR : doR s x = doB (asked s).1 x := by unfold doR; rw [if_neg (by simp [ha])]
    rw [hR]
    have hcall : Calls Try.prog 90 #[.pointer (some ⟨g, 0, none⟩), .func (.func 91) #[] #[.pointer (some ⟨w.heap.size, 0, none⟩), .pointer (some ⟨w1.heap.size, 0, none⟩)]] (w1.alloc (Obj.cells #[.string x.f0, .int .i64 x.f1, .int .i64 x.f2, .slice A3 x.f3.length c3] 31)) fun e w' => ∃ r, e = .returned (.int .i64 r) ∧ (r = (doB (asked s).1 x).2 ∧ Rep B g (doB (asked s).1 x).1 w' ∧ Below B w w') := by
      refine call_ok91 _ _ (fun r w' => r = (doB (asked s).1 x).2 ∧ Rep B g (doB (asked s).1 x).1 w' ∧ Below B w w') (H.out.below HW.out) HF.out ha ?_
      intro w3 hr3 hb3 hk3
      have hk03 := (KeptG.of_below HW.out (g := g)).trans hk3
      have hp3 : VarP w3 w.heap.size g := blk_keptG HP.out hk3 (by omega)
      have hn3 : VarW w3 w1.heap.size x A3 c3 := blk_keptG HN.out hk3 (by have := HW1.out.size; omega)
      have hF3 : Kd.F (Kd.int .u8) w3 (fun k => k ≠ g) A3 x.f3.length x.f3 := Kd.F_step HFx.out fun k hk hlt => hk03.2 k hlt hk
      have hao := asked_ok ha
      refine (do1_calls x A3 c3 _ _ H.out hk03 HW1.out.size hBw (by rw [hao]) (by rw [hao]) (by rw [hao]) hr3 HF1.out hx hp3 hn3 hF3 hc3).mono ?_
      rintro e w4 ⟨r, rfl, rfl, hr4, hb4⟩
      exact ⟨_, rfl, rfl, hr4, belowB_trans (belowB_trans (belowB_of hBw HW.out) hb3) hb4⟩
    rw [hsz] at hcall
    have HC := Aside0.mk hcall
    clear hcall hR ha
    subst hW1
    go_enter Try.func67, Try.ntmps67
    go_wp2_with (go_at_call 90; refine (Aside0.out HC).mono ?_; rintro e w7 ⟨r, rfl, rfl, hr7, hb7⟩; have HR7 := Aside0.mk hr7; have HB7 := Aside0.mk hb7; clear hr7 hb7)
    go_ret
    exact ⟨rfl, HR7.out, HB7.out⟩
  · have hR : doR s x = asked s := by unfold doR; rw [if_pos ha]
    rw [hR]
    have hce := (call_err (.func (.func 91) #[] #[.pointer (some ⟨w.heap.size, 0, none⟩), .pointer (some ⟨w1.heap.size, 0, none⟩)]) ⟨mv, sv, pv, H.out.below HW.out⟩ HF.out ha)
    rw [hsz] at hce
    have HC := Aside0.mk hce
    clear hR ha hce
    subst hW1
    go_enter Try.func67, Try.ntmps67
    go_wp2_with (go_at_call 90; refine (Aside0.out HC).mono ?_; rintro e w7 ⟨rfl, hr7, hb7, hk7⟩; have HR7 := Aside0.mk hr7; have HB7 := Aside0.mk (belowB_trans (belowB_of hBw HW.out) hb7); clear hr7 hb7 hk7)
    go_ret
    exact ⟨rfl, HR7.out, HB7.out⟩
end
end Go.Proofs.Ytcgeioingikeeaa.P
namespace Go.Proofs.Ytcgeioingikeeaa.P
open Go.RowKit Go.Proofs.YtcgeioingikeeaaW.PrintWords Go.Proofs.YtcgeioingikeeaaW.PrintLast Go.Proofs.YtcgeioingikeeaaW.PrintMore
set_option linter.unusedVariables false
set_option linter.unusedSimpArgs false
section
variable {w : World}
theorem n90 (clo : Value) : Calls Try.prog 90 #[.pointer none, clo] w fun e w' => e = .returned (.int .i64 1) ∧ Below w.heap.size w w' := by
  go_enter Try.func90, Try.ntmps90
  go_wp2
  go_ret
  exact ⟨rfl, Below.refl _ _⟩
theorem n69 (name : ByteArray) (clo : Value) : Calls Try.prog 69 #[.pointer none, .string name, clo] w fun e w' => e = .returned (.int .i64 1) ∧ Below w.heap.size w w' := by
  go_enter Try.func69, Try.ntmps69
  go_wp2_with (go_at_call 90; refine (n90 _).mono ?_; rintro e w1 ⟨rfl, hb1⟩; have HB1 := Aside0.mk hb1; clear hb1)
  go_ret
  exact ⟨rfl, below_step (below_alloc (below_alloc (below_alloc (Below.refl _ _) _) _) _) HB1.out⟩
theorem n41 (name : ByteArray) : Calls Try.prog 41 #[.pointer none, .string name] w fun e w' => e = .returned (.int .i64 1) ∧ Below w.heap.size w w' := by
  go_enter Try.func41, Try.ntmps41
  go_wp2_with (go_at_call 69; refine (n69 _ _).mono ?_; rintro e w1 ⟨rfl, hb1⟩; have HB1 := Aside0.mk hb1; clear hb1)
  go_ret
  exact ⟨rfl, below_step (below_alloc (below_alloc (Below.refl _ _) _) _) HB1.out⟩
theorem n80 (name : ByteArray) : Calls Try.prog 80 #[.pointer none, .string name] w fun e w' => e = .returned (.int .i64 1) ∧ Below w.heap.size w w' := by
  go_enter Try.func80, Try.ntmps80
  go_wp2_with (go_at_call 69; refine (n69 _ _).mono ?_; rintro e w1 ⟨rfl, hb1⟩; have HB1 := Aside0.mk hb1; clear hb1)
  go_ret
  exact ⟨rfl, below_step (below_alloc (below_alloc (Below.refl _ _) _) _) HB1.out⟩
theorem n43 (a b : ByteArray) : Calls Try.prog 43 #[.pointer none, .string a, .string b] w fun e w' => e = .returned (.int .i64 1) ∧ Below w.heap.size w w' := by
  go_enter Try.func43, Try.ntmps43
  go_wp2_with (go_at_call 69; refine (n69 _ _).mono ?_; rintro e w1 ⟨rfl, hb1⟩; have HB1 := Aside0.mk hb1; clear hb1)
  go_ret
  exact ⟨rfl, below_step (below_alloc (below_alloc (below_alloc (Below.refl _ _) _) _) _) HB1.out⟩
theorem n67 (a b c d : Value) : Calls Try.prog 67 #[.pointer none, .agg #[a, b, c, d]] w fun e w' => e = .returned (.int .i64 1) ∧ Below w.heap.size w w' := by
  go_enter Try.func67, Try.ntmps67
  go_wp2_with (go_at_call 90; refine (n90 _).mono ?_; rintro e w1 ⟨rfl, hb1⟩; have HB1 := Aside0.mk hb1; clear hb1)
  go_ret
  exact ⟨rfl, below_step (below_alloc (below_alloc (Below.refl _ _) _) _) HB1.out⟩
theorem n68 (name : ByteArray) : Calls Try.prog 68 #[.pointer none, .string name] w fun e w' => e = .returned (.tuple #[.slice none 0 0, .int .i64 1]) ∧ Below w.heap.size w w' := by
  have hb : (w.alloc (Obj.cells #[.slice none 0 0] 23)).heap[w.heap.size]? = some (.cells #[.slice none 0 0] 23 (0, 0)) := heap_alloc_new _ _
  have HB := Aside0.mk hb
  clear hb
  go_enter Try.func68, Try.ntmps68
  go_wp2_with (go_at_call 69; refine (n69 _ _).mono ?_; rintro e w1 ⟨rfl, hb1⟩; have hc := cell_of_row w1 _ 0 _ 23 (0, 0) (blk_stays hb1 HB.out); simp only [List.getElem?_toArray, List.getElem?_cons_zero] at hc; have HB1 := Aside0.mk hb1; clear hb1)
  go_ret2
  exact ⟨rfl, below_step (below_alloc (Below.refl _ _) _) HB1.out⟩
theorem n81 : Calls Try.prog 81 #[.pointer none] w fun e w' => e = .returned (.tuple #[.slice none 0 0, .int .i64 1]) ∧ Below w.heap.size w w' := by
  have hb : ((w.alloc (Obj.cells #[.pointer none] 58)).alloc (Obj.cells #[.slice none 0 0] 48)).heap[w.heap.size + 1]? = some (.cells #[.slice none 0 0] 48 (0, 0)) := by
    have := heap_alloc_new (w.alloc (Obj.cells #[.pointer none] 58)) (Obj.cells #[.slice none 0 0] 48)
    rw [World.size_alloc] at this
    exact this
  have HB := Aside0.mk hb
  clear hb
  go_enter Try.func81, Try.ntmps81
  go_wp2_with (go_at_call 90; refine (n90 _).mono ?_; rintro e w1 ⟨rfl, hb1⟩; have hc := cell_of_row w1 _ 0 _ 48 (0, 0) (blk_stays hb1 HB.out); simp only [List.getElem?_toArray, List.getElem?_cons_zero] at hc; have HB1 := Aside0.mk hb1; clear hb1)
  go_ret2
  exact ⟨rfl, below_step (below_alloc (below_alloc (Below.refl _ _) _) _) HB1.out⟩
theorem n44 (v : Value) (hv : v.oneCell' = true) : Calls Try.prog 44 #[.pointer none, v] w fun e w' => e = .returned (.tuple #[]) ∧ Below w.heap.size w w' := by
  go_enter Try.func44, Try.ntmps44
  go_wp2
  (try simp only [Exit.inBlock, Exit.then]); refine bodyPost_ret (results_none rfl _ _ _) rfl ?_
  exact ⟨rfl, below_alloc (Below.refl _ _) _⟩
theorem n40 (v u : Value) : Calls Try.prog 40 #[.pointer none, v, u] w fun e w' => e = .returned (.tuple #[]) ∧ Below w.heap.size w w' := by
  go_enter Try.func40, Try.ntmps40
  go_wp2
  (try simp only [Exit.inBlock, Exit.then]); refine bodyPost_ret (results_none rfl _ _ _) rfl ?_
  exact ⟨rfl, Below.refl _ _⟩
theorem n42 : Calls Try.prog 42 #[.pointer none] w fun e w' => e = .returned (.slice none 0 0) ∧ Below w.heap.size w w' := by
  go_enter Try.func42, Try.ntmps42
  go_wp2
  go_ret
  exact ⟨rfl, Below.refl _ _⟩
theorem n45 : Calls Try.prog 45 #[.pointer none] w fun e w' => e = .returned (.slice none 0 0) ∧ Below w.heap.size w w' := by
  go_enter Try.func45, Try.ntmps45
  go_wp2
  go_ret
  exact ⟨rfl, Below.refl _ _⟩
theorem n46 : Calls Try.prog 46 #[.pointer none] w fun e w' => e = .returned (.int .i64 0) ∧ Below w.heap.size w w' := by
  go_enter Try.func46, Try.ntmps46
  go_wp2
  go_ret
  exact ⟨rfl, Below.refl _ _⟩
theorem n52 : Calls Try.prog 52 #[.pointer none] w fun e w' => e = .returned (.int .i64 0) ∧ Below w.heap.size w w' := by
  go_enter Try.func52, Try.ntmps52
  go_wp2
  go_ret
  exact ⟨rfl, Below.refl _ _⟩
theorem n54 : Calls Try.prog 54 #[.pointer none] w fun e w' => e = .returned (.int .i64 0) ∧ Below w.heap.size w w' := by
  go_enter Try.func54, Try.ntmps54
  go_wp2
  go_ret
  exact ⟨rfl, Below.refl _ _⟩
theorem n53 : Calls Try.prog 53 #[.pointer none] w fun e w' => e = .returned (.bool false) ∧ Below w.heap.size w w' := by
  go_enter Try.func53, Try.ntmps53
  go_wp2
  go_ret
  exact ⟨rfl, Below.refl _ _⟩
end
end Go.Proofs.Ytcgeioingikeeaa.P
namespace Go.Proofs.Ytcgeioingikeeaa.P
open Go.RowKit Go.Proofs.YtcgeioingikeeaaW.PrintWords Go.Proofs.YtcgeioingikeeaaW.PrintLast Go.Proofs.YtcgeioingikeeaaW.PrintMore
set_option linter.unusedVariables false
set_option linter.unusedSimpArgs false
section
variable {w : World}
theorem results_told {fn : Func} (h : fn.results = #[.cell 4 73]) {tmps : Array Value} {b : Nat} {x y z : Value} (ht : tmps.getD 4 undef = .pointer (some ⟨b, 0, none⟩)) (hb : w.heap[b]? = some (.cells #[x, y, z] 73 (0, 0))) :
    (results fn tmps).run Try.prog w = .ok (.agg #[x, y, z]) w := by
  have hc0 : w.cell? ⟨b, 0, none⟩ = some x := by rw [cell_of_row w b _ _ 73 (0, 0) hb]; rfl
  have hc1 : w.cell? ⟨b, 1, none⟩ = some y := by rw [cell_of_row w b _ _ 73 (0, 0) hb]; rfl
  have hc2 : w.cell? ⟨b, 2, none⟩ = some z := by rw [cell_of_row w b _ _ 73 (0, 0) hb]; rfl
  rw [Array.getD_eq_getD_getElem?] at ht
  simp only [results, h]
  simp [asAddr]
  rw [ht]
  go_simp
/-- A variable that holds what is told. -/
def VarT (w : World) (b : Nat) (x y z : Value) : Prop := w.heap[b]? = some (.cells #[x, y, z] 73 (0, 0))
theorem VarT.facts {b : Nat} {x y z : Value} (h : VarT w b x y z) (x1 y1 z1 : Value) : w.frozen? ⟨b, 0, none⟩ = false ∧ w.cell? ⟨b, 0, none⟩ = some x ∧ (w.setCell ⟨b, 0, none⟩ x1).frozen? ⟨b, 1, none⟩ = false ∧ (w.setCell ⟨b, 0, none⟩ x1).cell? ⟨b, 1, none⟩ = some y ∧
    ((w.setCell ⟨b, 0, none⟩ x1).setCell ⟨b, 1, none⟩ y1).frozen? ⟨b, 2, none⟩ = false ∧ ((w.setCell ⟨b, 0, none⟩ x1).setCell ⟨b, 1, none⟩ y1).cell? ⟨b, 2, none⟩ = some z ∧ VarT (((w.setCell ⟨b, 0, none⟩ x1).setCell ⟨b, 1, none⟩ y1).setCell ⟨b, 2, none⟩ z1) b x1 y1 z1 := by
  have h1 := blk_set h 0 x1
  have h2 := blk_set h1 1 y1
  have h3 := blk_set h2 2 z1
  exact ⟨blk_frozen h 0, by rw [cell_of_row _ b _ _ 73 (0, 0) h]; rfl, blk_frozen h1 1, by rw [cell_of_row _ b _ _ 73 (0, 0) h1]; rfl, blk_frozen h2 2, by rw [cell_of_row _ b _ _ 73 (0, 0) h2]; rfl, h3⟩
theorem set3_keeps {B b : Nat} {w0 : World} (h : Below B w0 w) (hb : B ≤ b) (x y z : Value) : Below B w0 (((w.setCell ⟨b, 0, none⟩ x).setCell ⟨b, 1, none⟩ y).setCell ⟨b, 2, none⟩ z) :=
  belowB_set (belowB_set (belowB_set h hb 0 _) hb 1 _) hb 2 _

set_option maxHeartbeats 2000000 in
theorem do_nil1 (d : S76) (A4 : Option Addr) (c4 : Nat) (A7 : Option Addr) (c7 : Nat) (hC4 : (Kd.int .u8).C w A4 d.f1.f3.length d.f1.f3) (hc4 : d.f1.f3.length ≤ c4) :
    Calls Try.prog 48 #[.pointer none, .agg #[.int .i64 1, .string d.f1.f0, .int .i64 d.f1.f1, .int .i64 d.f1.f2, .slice A4 d.f1.f3.length c4, .string d.f2, .string d.f3, .slice A7 d.f4.length c7, .int .i64 d.f5]] w fun e w' => e = .returned (.agg #[.int .i64 1, .slice none 0 0, .slice none 0 0]) ∧ Below w.heap.size w w' := by
  have hw2 : Below w.heap.size w ((w.alloc (Obj.cells #[.int .i64 1, .string d.f1.f0, .int .i64 d.f1.f1, .int .i64 d.f1.f2, .slice A4 d.f1.f3.length c4, .string d.f2, .string d.f3, .slice A7 d.f4.length c7, .int .i64 d.f5] 76)).alloc (Obj.cells #[.int .i64 0, .slice none 0 0, .slice none 0 0] 73)) := below_alloc (below_alloc (Below.refl _ _) _) _
  have hv2 : VarT ((w.alloc (Obj.cells #[.int .i64 1, .string d.f1.f0, .int .i64 d.f1.f1, .int .i64 d.f1.f2, .slice A4 d.f1.f3.length c4, .string d.f2, .string d.f3, .slice A7 d.f4.length c7, .int .i64 d.f5] 76)).alloc (Obj.cells #[.int .i64 0, .slice none 0 0, .slice none 0 0] 73)) (w.heap.size + 1) (.int .i64 0) (.slice none 0 0) (.slice none 0 0) := by
    have := heap_alloc_new (w.alloc (Obj.cells #[.int .i64 1, .string d.f1.f0, .int .i64 d.f1.f1, .int .i64 d.f1.f2, .slice A4 d.f1.f3.length c4, .string d.f2, .string d.f3, .slice A7 d.f4.length c7, .int .i64 d.f5] 76)) (Obj.cells #[.int .i64 0, .slice none 0 0, .slice none 0 0] 73)
    rw [World.size_alloc] at this
    exact this
  have HW2 := Aside0.mk hw2
  have HV2 := Aside0.mk hv2
  have HC := Aside0.mk hC4
  clear hw2 hv2 hC4
  go_enter Try.func48, Try.ntmps48
  go_wp2_with (first
    | (go_at_call 79; refine (gambrellaw18_made.calls d.f1.f0 d.f1.f1 d.f1.f2 (fun k => k < w.heap.size) A4 c4 d.f1.f3 _ _ _ _ _ (Kd.V_below (show Kd.V (Kd.int .u8) 5 w 0 (fun k => k < w.heap.size) (.slice A4 d.f1.f3.length c4) d.f1.f3 from ⟨A4, c4, rfl, hc4, Kd.C_F (Kd.heap_int .u8) HC.out⟩) HW2.out) rfl).mono ?_; rintro e w0 ⟨v0, rfl, _, hb0⟩; have HB0 := Aside0.mk hb0; clear hb0)
    | (go_at_call 67; refine (n67 _ _ _ _).mono ?_; rintro e w1 ⟨rfl, hb1'⟩; have hb1 := below_step HB0.out hb1'; clear hb1'; obtain ⟨hf0, hg0, hf1, hg1, hf2, hg2, hT⟩ := VarT.facts (blk_stays hb1 HV2.out) (.int .i64 1) (.slice none 0 0) (.slice none 0 0); have HT := Aside0.mk hT; have HB1 := Aside0.mk (below_step HW2.out hb1); clear hb1 hT))
  refine bodyPost_ret (results_told rfl rfl HT.out) rfl ?_
  exact ⟨rfl, set3_keeps HB1.out (by omega) _ _ _⟩
set_option maxHeartbeats 2000000 in
theorem do_nil2 (d : S76) (A4 : Option Addr) (c4 : Nat) (A7 : Option Addr) (c7 : Nat) (hC4 : (Kd.int .u8).C w A4 d.f1.f3.length d.f1.f3) (hc4 : d.f1.f3.length ≤ c4) :
    Calls Try.prog 48 #[.pointer none, .agg #[.int .i64 2, .string d.f1.f0, .int .i64 d.f1.f1, .int .i64 d.f1.f2, .slice A4 d.f1.f3.length c4, .string d.f2, .string d.f3, .slice A7 d.f4.length c7, .int .i64 d.f5]] w fun e w' => e = .returned (.agg #[.int .i64 1, .slice none 0 0, .slice none 0 0]) ∧ Below w.heap.size w w' := by
  have hw2 : Below w.heap.size w ((w.alloc (Obj.cells #[.int .i64 2, .string d.f1.f0, .int .i64 d.f1.f1, .int .i64 d.f1.f2, .slice A4 d.f1.f3.length c4, .string d.f2, .string d.f3, .slice A7 d.f4.length c7, .int .i64 d.f5] 76)).alloc (Obj.cells #[.int .i64 0, .slice none 0 0, .slice none 0 0] 73)) := below_alloc (below_alloc (Below.refl _ _) _) _
  have hv2 : VarT ((w.alloc (Obj.cells #[.int .i64 2, .string d.f1.f0, .int .i64 d.f1.f1, .int .i64 d.f1.f2, .slice A4 d.f1.f3.length c4, .string d.f2, .string d.f3, .slice A7 d.f4.length c7, .int .i64 d.f5] 76)).alloc (Obj.cells #[.int .i64 0, .slice none 0 0, .slice none 0 0] 73)) (w.heap.size + 1) (.int .i64 0) (.slice none 0 0) (.slice none 0 0) := by
    have := heap_alloc_new (w.alloc (Obj.cells #[.int .i64 2, .string d.f1.f0, .int .i64 d.f1.f1, .int .i64 d.f1.f2, .slice A4 d.f1.f3.length c4, .string d.f2, .string d.f3, .slice A7 d.f4.length c7, .int .i64 d.f5] 76)) (Obj.cells #[.int .i64 0, .slice none 0 0, .slice none 0 0] 73)
    rw [World.size_alloc] at this
    exact this
  have HW2 := Aside0.mk hw2
  have HV2 := Aside0.mk hv2
  have HC := Aside0.mk hC4
  clear hw2 hv2 hC4
  go_enter Try.func48, Try.ntmps48
  go_wp2_with (go_at_call 41; refine (n41 _).mono ?_; rintro e w1 ⟨rfl, hb1⟩; obtain ⟨hf0, hg0, hf1, hg1, hf2, hg2, hT⟩ := VarT.facts (blk_stays hb1 HV2.out) (.int .i64 1) (.slice none 0 0) (.slice none 0 0); have HT := Aside0.mk hT; have HB1 := Aside0.mk (below_step HW2.out hb1); clear hb1 hT)
  refine bodyPost_ret (results_told rfl rfl HT.out) rfl ?_
  exact ⟨rfl, set3_keeps HB1.out (by omega) _ _ _⟩
set_option maxHeartbeats 2000000 in
theorem do_nil3 (d : S76) (A4 : Option Addr) (c4 : Nat) (A7 : Option Addr) (c7 : Nat) (hC4 : (Kd.int .u8).C w A4 d.f1.f3.length d.f1.f3) (hc4 : d.f1.f3.length ≤ c4) :
    Calls Try.prog 48 #[.pointer none, .agg #[.int .i64 3, .string d.f1.f0, .int .i64 d.f1.f1, .int .i64 d.f1.f2, .slice A4 d.f1.f3.length c4, .string d.f2, .string d.f3, .slice A7 d.f4.length c7, .int .i64 d.f5]] w fun e w' => e = .returned (.agg #[.int .i64 1, .slice none 0 0, .slice none 0 0]) ∧ Below w.heap.size w w' := by
  have hw2 : Below w.heap.size w ((w.alloc (Obj.cells #[.int .i64 3, .string d.f1.f0, .int .i64 d.f1.f1, .int .i64 d.f1.f2, .slice A4 d.f1.f3.length c4, .string d.f2, .string d.f3, .slice A7 d.f4.length c7, .int .i64 d.f5] 76)).alloc (Obj.cells #[.int .i64 0, .slice none 0 0, .slice none 0 0] 73)) := below_alloc (below_alloc (Below.refl _ _) _) _
  have hv2 : VarT ((w.alloc (Obj.cells #[.int .i64 3, .string d.f1.f0, .int .i64 d.f1.f1, .int .i64 d.f1.f2, .slice A4 d.f1.f3.length c4, .string d.f2, .string d.f3, .slice A7 d.f4.length c7, .int .i64 d.f5] 76)).alloc (Obj.cells #[.int .i64 0, .slice none 0 0, .slice none 0 0] 73)) (w.heap.size + 1) (.int .i64 0) (.slice none 0 0) (.slice none 0 0) := by
    have := heap_alloc_new (w.alloc (Obj.cells #[.int .i64 3, .string d.f1.f0, .int .i64 d.f1.f1, .int .i64 d.f1.f2, .slice A4 d.f1.f3.length c4, .string d.f2, .string d.f3, .slice A7 d.f4.length c7, .int .i64 d.f5] 76)) (Obj.cells #[.int .i64 0, .slice none 0 0, .slice none 0 0] 73)
    rw [World.size_alloc] at this
    exact this
  have HW2 := Aside0.mk hw2
  have HV2 := Aside0.mk hv2
  have HC := Aside0.mk hC4
  clear hw2 hv2 hC4
  go_enter Try.func48, Try.ntmps48
  go_wp2_with (go_at_call 43; refine (n43 _ _).mono ?_; rintro e w1 ⟨rfl, hb1⟩; obtain ⟨hf0, hg0, hf1, hg1, hf2, hg2, hT⟩ := VarT.facts (blk_stays hb1 HV2.out) (.int .i64 1) (.slice none 0 0) (.slice none 0 0); have HT := Aside0.mk hT; have HB1 := Aside0.mk (below_step HW2.out hb1); clear hb1 hT)
  refine bodyPost_ret (results_told rfl rfl HT.out) rfl ?_
  exact ⟨rfl, set3_keeps HB1.out (by omega) _ _ _⟩
set_option maxHeartbeats 2000000 in
theorem do_nil4 (d : S76) (A4 : Option Addr) (c4 : Nat) (A7 : Option Addr) (c7 : Nat) (hC4 : (Kd.int .u8).C w A4 d.f1.f3.length d.f1.f3) (hc4 : d.f1.f3.length ≤ c4) :
    Calls Try.prog 48 #[.pointer none, .agg #[.int .i64 4, .string d.f1.f0, .int .i64 d.f1.f1, .int .i64 d.f1.f2, .slice A4 d.f1.f3.length c4, .string d.f2, .string d.f3, .slice A7 d.f4.length c7, .int .i64 d.f5]] w fun e w' => e = .returned (.agg #[.int .i64 1, .slice none 0 0, .slice none 0 0]) ∧ Below w.heap.size w w' := by
  have hw2 : Below w.heap.size w ((w.alloc (Obj.cells #[.int .i64 4, .string d.f1.f0, .int .i64 d.f1.f1, .int .i64 d.f1.f2, .slice A4 d.f1.f3.length c4, .string d.f2, .string d.f3, .slice A7 d.f4.length c7, .int .i64 d.f5] 76)).alloc (Obj.cells #[.int .i64 0, .slice none 0 0, .slice none 0 0] 73)) := below_alloc (below_alloc (Below.refl _ _) _) _
  have hv2 : VarT ((w.alloc (Obj.cells #[.int .i64 4, .string d.f1.f0, .int .i64 d.f1.f1, .int .i64 d.f1.f2, .slice A4 d.f1.f3.length c4, .string d.f2, .string d.f3, .slice A7 d.f4.length c7, .int .i64 d.f5] 76)).alloc (Obj.cells #[.int .i64 0, .slice none 0 0, .slice none 0 0] 73)) (w.heap.size + 1) (.int .i64 0) (.slice none 0 0) (.slice none 0 0) := by
    have := heap_alloc_new (w.alloc (Obj.cells #[.int .i64 4, .string d.f1.f0, .int .i64 d.f1.f1, .int .i64 d.f1.f2, .slice A4 d.f1.f3.length c4, .string d.f2, .string d.f3, .slice A7 d.f4.length c7, .int .i64 d.f5] 76)) (Obj.cells #[.int .i64 0, .slice none 0 0, .slice none 0 0] 73)
    rw [World.size_alloc] at this
    exact this
  have HW2 := Aside0.mk hw2
  have HV2 := Aside0.mk hv2
  have HC := Aside0.mk hC4
  clear hw2 hv2 hC4
  go_enter Try.func48, Try.ntmps48
  go_wp2_with (go_at_call 80; refine (n80 _).mono ?_; rintro e w1 ⟨rfl, hb1⟩; obtain ⟨hf0, hg0, hf1, hg1, hf2, hg2, hT⟩ := VarT.facts (blk_stays hb1 HV2.out) (.int .i64 1) (.slice none 0 0) (.slice none 0 0); have HT := Aside0.mk hT; have HB1 := Aside0.mk (below_step HW2.out hb1); clear hb1 hT)
  refine bodyPost_ret (results_told rfl rfl HT.out) rfl ?_
  exact ⟨rfl, set3_keeps HB1.out (by omega) _ _ _⟩
set_option maxHeartbeats 2000000 in
theorem do_nil5 (d : S76) (A4 : Option Addr) (c4 : Nat) (A7 : Option Addr) (c7 : Nat) (hC4 : (Kd.int .u8).C w A4 d.f1.f3.length d.f1.f3) (hc4 : d.f1.f3.length ≤ c4) :
    Calls Try.prog 48 #[.pointer none, .agg #[.int .i64 5, .string d.f1.f0, .int .i64 d.f1.f1, .int .i64 d.f1.f2, .slice A4 d.f1.f3.length c4, .string d.f2, .string d.f3, .slice A7 d.f4.length c7, .int .i64 d.f5]] w fun e w' => e = .returned (.agg #[.int .i64 1, .slice none 0 0, .slice none 0 0]) ∧ Below w.heap.size w w' := by
  have hw2 : Below w.heap.size w ((w.alloc (Obj.cells #[.int .i64 5, .string d.f1.f0, .int .i64 d.f1.f1, .int .i64 d.f1.f2, .slice A4 d.f1.f3.length c4, .string d.f2, .string d.f3, .slice A7 d.f4.length c7, .int .i64 d.f5] 76)).alloc (Obj.cells #[.int .i64 0, .slice none 0 0, .slice none 0 0] 73)) := below_alloc (below_alloc (Below.refl _ _) _) _
  have hv2 : VarT ((w.alloc (Obj.cells #[.int .i64 5, .string d.f1.f0, .int .i64 d.f1.f1, .int .i64 d.f1.f2, .slice A4 d.f1.f3.length c4, .string d.f2, .string d.f3, .slice A7 d.f4.length c7, .int .i64 d.f5] 76)).alloc (Obj.cells #[.int .i64 0, .slice none 0 0, .slice none 0 0] 73)) (w.heap.size + 1) (.int .i64 0) (.slice none 0 0) (.slice none 0 0) := by
    have := heap_alloc_new (w.alloc (Obj.cells #[.int .i64 5, .string d.f1.f0, .int .i64 d.f1.f1, .int .i64 d.f1.f2, .slice A4 d.f1.f3.length c4, .string d.f2, .string d.f3, .slice A7 d.f4.length c7, .int .i64 d.f5] 76)) (Obj.cells #[.int .i64 0, .slice none 0 0, .slice none 0 0] 73)
    rw [World.size_alloc] at this
    exact this
  have HW2 := Aside0.mk hw2
  have HV2 := Aside0.mk hv2
  have HC := Aside0.mk hC4
  clear hw2 hv2 hC4
  go_enter Try.func48, Try.ntmps48
  go_wp2_with (go_at_call 68; refine (n68 _).mono ?_; rintro e w1 ⟨rfl, hb1⟩; obtain ⟨hf0, hg0, hf1, hg1, hf2, hg2, hT⟩ := VarT.facts (blk_stays hb1 HV2.out) (.int .i64 1) (.slice none 0 0) (.slice none 0 0); have HT := Aside0.mk hT; have HB1 := Aside0.mk (below_step HW2.out hb1); clear hb1 hT)
  refine bodyPost_ret (results_told rfl rfl HT.out) rfl ?_
  exact ⟨rfl, set3_keeps HB1.out (by omega) _ _ _⟩
set_option maxHeartbeats 2000000 in
theorem do_nil6 (d : S76) (A4 : Option Addr) (c4 : Nat) (A7 : Option Addr) (c7 : Nat) (hC4 : (Kd.int .u8).C w A4 d.f1.f3.length d.f1.f3) (hc4 : d.f1.f3.length ≤ c4) :
    Calls Try.prog 48 #[.pointer none, .agg #[.int .i64 6, .string d.f1.f0, .int .i64 d.f1.f1, .int .i64 d.f1.f2, .slice A4 d.f1.f3.length c4, .string d.f2, .string d.f3, .slice A7 d.f4.length c7, .int .i64 d.f5]] w fun e w' => e = .returned (.agg #[.int .i64 1, .slice none 0 0, .slice none 0 0]) ∧ Below w.heap.size w w' := by
  have hw2 : Below w.heap.size w ((w.alloc (Obj.cells #[.int .i64 6, .string d.f1.f0, .int .i64 d.f1.f1, .int .i64 d.f1.f2, .slice A4 d.f1.f3.length c4, .string d.f2, .string d.f3, .slice A7 d.f4.length c7, .int .i64 d.f5] 76)).alloc (Obj.cells #[.int .i64 0, .slice none 0 0, .slice none 0 0] 73)) := below_alloc (below_alloc (Below.refl _ _) _) _
  have hv2 : VarT ((w.alloc (Obj.cells #[.int .i64 6, .string d.f1.f0, .int .i64 d.f1.f1, .int .i64 d.f1.f2, .slice A4 d.f1.f3.length c4, .string d.f2, .string d.f3, .slice A7 d.f4.length c7, .int .i64 d.f5] 76)).alloc (Obj.cells #[.int .i64 0, .slice none 0 0, .slice none 0 0] 73)) (w.heap.size + 1) (.int .i64 0) (.slice none 0 0) (.slice none 0 0) := by
    have := heap_alloc_new (w.alloc (Obj.cells #[.int .i64 6, .string d.f1.f0, .int .i64 d.f1.f1, .int .i64 d.f1.f2, .slice A4 d.f1.f3.length c4, .string d.f2, .string d.f3, .slice A7 d.f4.length c7, .int .i64 d.f5] 76)) (Obj.cells #[.int .i64 0, .slice none 0 0, .slice none 0 0] 73)
    rw [World.size_alloc] at this
    exact this
  have HW2 := Aside0.mk hw2
  have HV2 := Aside0.mk hv2
  have HC := Aside0.mk hC4
  clear hw2 hv2 hC4
  go_enter Try.func48, Try.ntmps48
  go_wp2_with (go_at_call 81; refine (n81).mono ?_; rintro e w1 ⟨rfl, hb1⟩; obtain ⟨hf0, hg0, hf1, hg1, hf2, hg2, hT⟩ := VarT.facts (blk_stays hb1 HV2.out) (.int .i64 1) (.slice none 0 0) (.slice none 0 0); have HT := Aside0.mk hT; have HB1 := Aside0.mk (below_step HW2.out hb1); clear hb1 hT)
  refine bodyPost_ret (results_told rfl rfl HT.out) rfl ?_
  exact ⟨rfl, set3_keeps HB1.out (by omega) _ _ _⟩
set_option maxHeartbeats 2000000 in
theorem do_nil7 (d : S76) (A4 : Option Addr) (c4 : Nat) (A7 : Option Addr) (c7 : Nat) (hC4 : (Kd.int .u8).C w A4 d.f1.f3.length d.f1.f3) (hc4 : d.f1.f3.length ≤ c4) :
    Calls Try.prog 48 #[.pointer none, .agg #[.int .i64 7, .string d.f1.f0, .int .i64 d.f1.f1, .int .i64 d.f1.f2, .slice A4 d.f1.f3.length c4, .string d.f2, .string d.f3, .slice A7 d.f4.length c7, .int .i64 d.f5]] w fun e w' => e = .returned (.agg #[.int .i64 0, .slice none 0 0, .slice none 0 0]) ∧ Below w.heap.size w w' := by
  have hw2 : Below w.heap.size w ((w.alloc (Obj.cells #[.int .i64 7, .string d.f1.f0, .int .i64 d.f1.f1, .int .i64 d.f1.f2, .slice A4 d.f1.f3.length c4, .string d.f2, .string d.f3, .slice A7 d.f4.length c7, .int .i64 d.f5] 76)).alloc (Obj.cells #[.int .i64 0, .slice none 0 0, .slice none 0 0] 73)) := below_alloc (below_alloc (Below.refl _ _) _) _
  have hv2 : VarT ((w.alloc (Obj.cells #[.int .i64 7, .string d.f1.f0, .int .i64 d.f1.f1, .int .i64 d.f1.f2, .slice A4 d.f1.f3.length c4, .string d.f2, .string d.f3, .slice A7 d.f4.length c7, .int .i64 d.f5] 76)).alloc (Obj.cells #[.int .i64 0, .slice none 0 0, .slice none 0 0] 73)) (w.heap.size + 1) (.int .i64 0) (.slice none 0 0) (.slice none 0 0) := by
    have := heap_alloc_new (w.alloc (Obj.cells #[.int .i64 7, .string d.f1.f0, .int .i64 d.f1.f1, .int .i64 d.f1.f2, .slice A4 d.f1.f3.length c4, .string d.f2, .string d.f3, .slice A7 d.f4.length c7, .int .i64 d.f5] 76)) (Obj.cells #[.int .i64 0, .slice none 0 0, .slice none 0 0] 73)
    rw [World.size_alloc] at this
    exact this
  have HW2 := Aside0.mk hw2
  have HV2 := Aside0.mk hv2
  have HC := Aside0.mk hC4
  clear hw2 hv2 hC4
  go_enter Try.func48, Try.ntmps48
  go_wp2_with (go_at_call 44; refine (n44 _ rfl).mono ?_; rintro e w1 ⟨rfl, hb1⟩; obtain ⟨hf0, hg0, hf1, hg1, hf2, hg2, hT⟩ := VarT.facts (blk_stays hb1 HV2.out) (.int .i64 0) (.slice none 0 0) (.slice none 0 0); have HT := Aside0.mk hT; have HB1 := Aside0.mk (below_step HW2.out hb1); clear hb1 hT)
  refine bodyPost_ret (results_told rfl rfl HT.out) rfl ?_
  exact ⟨rfl, set3_keeps HB1.out (by omega) _ _ _⟩
set_option maxHeartbeats 2000000 in
theorem do_nil8 (d : S76) (A4 : Option Addr) (c4 : Nat) (A7 : Option Addr) (c7 : Nat) (hC4 : (Kd.int .u8).C w A4 d.f1.f3.length d.f1.f3) (hc4 : d.f1.f3.length ≤ c4) :
    Calls Try.prog 48 #[.pointer none, .agg #[.int .i64 8, .string d.f1.f0, .int .i64 d.f1.f1, .int .i64 d.f1.f2, .slice A4 d.f1.f3.length c4, .string d.f2, .string d.f3, .slice A7 d.f4.length c7, .int .i64 d.f5]] w fun e w' => e = .returned (.agg #[.int .i64 0, .slice none 0 0, .slice none 0 0]) ∧ Below w.heap.size w w' := by
  have hw2 : Below w.heap.size w ((w.alloc (Obj.cells #[.int .i64 8, .string d.f1.f0, .int .i64 d.f1.f1, .int .i64 d.f1.f2, .slice A4 d.f1.f3.length c4, .string d.f2, .string d.f3, .slice A7 d.f4.length c7, .int .i64 d.f5] 76)).alloc (Obj.cells #[.int .i64 0, .slice none 0 0, .slice none 0 0] 73)) := below_alloc (below_alloc (Below.refl _ _) _) _
  have hv2 : VarT ((w.alloc (Obj.cells #[.int .i64 8, .string d.f1.f0, .int .i64 d.f1.f1, .int .i64 d.f1.f2, .slice A4 d.f1.f3.length c4, .string d.f2, .string d.f3, .slice A7 d.f4.length c7, .int .i64 d.f5] 76)).alloc (Obj.cells #[.int .i64 0, .slice none 0 0, .slice none 0 0] 73)) (w.heap.size + 1) (.int .i64 0) (.slice none 0 0) (.slice none 0 0) := by
    have := heap_alloc_new (w.alloc (Obj.cells #[.int .i64 8, .string d.f1.f0, .int .i64 d.f1.f1, .int .i64 d.f1.f2, .slice A4 d.f1.f3.length c4, .string d.f2, .string d.f3, .slice A7 d.f4.length c7, .int .i64 d.f5] 76)) (Obj.cells #[.int .i64 0, .slice none 0 0, .slice none 0 0] 73)
    rw [World.size_alloc] at this
    exact this
  have HW2 := Aside0.mk hw2
  have HV2 := Aside0.mk hv2
  have HC := Aside0.mk hC4
  clear hw2 hv2 hC4
  go_enter Try.func48, Try.ntmps48
  go_wp2_with (go_at_call 40; refine (n40 _ _).mono ?_; rintro e w1 ⟨rfl, hb1⟩; obtain ⟨hf0, hg0, hf1, hg1, hf2, hg2, hT⟩ := VarT.facts (blk_stays hb1 HV2.out) (.int .i64 0) (.slice none 0 0) (.slice none 0 0); have HT := Aside0.mk hT; have HB1 := Aside0.mk (below_step HW2.out hb1); clear hb1 hT)
  refine bodyPost_ret (results_told rfl rfl HT.out) rfl ?_
  exact ⟨rfl, set3_keeps HB1.out (by omega) _ _ _⟩
end
end Go.Proofs.Ytcgeioingikeeaa.P
namespace Go.Proofs.Ytcgeioingikeeaa.P
open Go.RowKit Go.Proofs.YtcgeioingikeeaaW.PrintWords Go.Proofs.YtcgeioingikeeaaW.PrintLast Go.Proofs.YtcgeioingikeeaaW.PrintMore
set_option linter.unusedVariables false
set_option linter.unusedSimpArgs false
section
variable {B g : Nat} {w : World}
def ax : S31 := ⟨⟨#[97]⟩, 1, 0, [120, 121]⟩
def ay : S31 := ⟨⟨#[97]⟩, 2, 0, [122]⟩
def fx : S38 := ⟨⟨#[97]⟩, [120, 121]⟩
def sA : SSt := ⟨[], [], 100, 0, [], 0, false, 0⟩
def sB : SSt := ⟨[], [ax], 100, 1, [], 0, false, 2⟩
def sC : SSt := ⟨[fx], [], 100, 2, [], 0, false, 2⟩
def sD : SSt := ⟨[fx], [ay], 100, 3, [], 0, false, 3⟩
def sE : SSt := ⟨[fx], [], 100, 0, [], 0, false, 3⟩
def sF : SSt := ⟨[fx], [], 100, 1, [], 0, false, 3⟩
theorem newA : newD 100 = sA := rfl
theorem filesA : filesOf sA = [] := rfl
theorem doTA : doT [] ax (-1) = ([fx], 0) := by
  simp [doT, doRes, keptOf, frmOf, oldOf, putL, insertAt, overlay, ax, fx, named, Lib.toList_data, ByteArray.size]
theorem filesB : filesOf sB = [fx] := by
  show dn [] ax (-1) = [fx]
  unfold dn; rw [doTA]; rfl
theorem filesC : filesOf sC = [fx] := rfl
theorem doTC : doT [fx] ay (-1) = ([⟨⟨#[97]⟩, [120, 121, 122]⟩], 0) := by
  simp [doT, doRes, keptOf, frmOf, oldOf, putL, insertAt, overlay, ay, fx, named, Lib.toList_data, ByteArray.size, Op.bytesLess]
theorem doTE : doT [fx] ay 0 = ([fx], 0) := by
  simp [doT, doRes, keptOf, frmOf, oldOf, putL, insertAt, overlay, ay, fx, named, Lib.toList_data, ByteArray.size, Op.bytesLess]
theorem askA (s : SSt) (hd : s.down = false) (hf : s.fails = []) (hc : s.crash = 0) (hl : 0 ≤ s.calls) : asked s = ({ s with calls := s.calls + 1 }, 0) := by
  unfold asked
  rw [if_neg (by simp [hd]), if_neg (by omega), if_neg (by simp [hf])]
theorem av1 : doR sA ax = (sB, 0) := by
  have h : asked sA = ({ sA with calls := 1 }, 0) := askA sA rfl rfl rfl (by decide)
  have hfi : filesOf { sA with calls := 1 } = [] := rfl
  have hE : doE { sA with calls := 1 } ax = 0 := by
    unfold doE
    rw [hfi, doTA]
    simp [ax, fx, sA, sizeF, sumW, wrap64]
  unfold doR
  rw [h, if_neg (by simp)]
  unfold doB
  rw [if_pos hE, hfi, doTA]
  simp [sB, sA, mx, sizeF, sumW, fx, wrap64]
theorem av2 : syncR sB ⟨#[97]⟩ = (sC, 0) := by
  have h : asked sB = ({ sB with calls := 2 }, 0) := askA sB rfl rfl rfl (by decide)
  have hg : getT (filesOf sB) ⟨#[97]⟩ = ([120, 121], true) := by rw [filesB]; simp [getT, fx, named, Lib.toList_data]
  unfold syncR ofR
  rw [h, if_neg (by simp), hg, if_pos rfl]
  have hd : dn [] ax (-1) = [fx] := by unfold dn; rw [doTA]; rfl
  simp [syncD, sB, sC, ax, othW, ownW, Lib.toList_data, doneL]
  exact hd
theorem av3 : doR sC ay = (sD, 0) := by
  have h : asked sC = ({ sC with calls := 3 }, 0) := askA sC rfl rfl rfl (by decide)
  have hfi : filesOf { sC with calls := 3 } = [fx] := rfl
  have hg : getT [fx] ⟨#[97]⟩ = ([120, 121], true) := by simp [getT, fx, named, Lib.toList_data]
  have hE : doE { sC with calls := 3 } ay = 0 := by
    unfold doE
    rw [hfi, doTC]
    simp [ay, fx, sC, sizeF, sumW, wrap64, getT, named, Lib.toList_data]
  unfold doR
  rw [h, if_neg (by simp)]
  unfold doB
  rw [if_pos hE, hfi, doTC]
  simp [sD, sC, mx, sizeF, sumW, fx, wrap64]
theorem av4 : crashD sD [] = sE := by
  have hd : dn [fx] ay 0 = [fx] := by unfold dn; rw [doTE]; rfl
  have h2 : doneL (keepN []) 0 sD.safe sD.pend = [fx] := hd
  unfold crashD
  rw [h2]
  simp [sD, sE, mx, sizeF, sumW, fx, wrap64]
theorem av5 : readR sE ⟨#[97]⟩ = (sF, 0, [120, 121]) := by
  have h : asked sE = (sF, 0) := askA sE rfl rfl rfl (by decide)
  have hg : getT (filesOf sE) ⟨#[97]⟩ = ([120, 121], true) := by show getT [fx] _ = _; simp [getT, fx, named, Lib.toList_data]
  unfold readR
  rw [h, if_neg (by simp), hg, if_pos rfl]
theorem fitS (s : SSt) (h1 : s.safe = [] ∨ s.safe = [fx]) (h2 : s.pend = [] ∨ s.pend = [ax] ∨ s.pend = [ay]) (h3 : 0 ≤ s.calls) (h4 : s.calls ≤ 1000) : Fit s := by
  refine ⟨?_, ?_, ?_, h3, h4⟩
  · rcases h1 with h | h <;> rcases h2 with h' | h' | h' <;> simp [h, h']
  · rcases h1 with h | h <;> rw [h] <;> intro x hx
    · simp at hx
    · obtain rfl := List.mem_singleton.1 hx; decide
  · rcases h2 with h | h | h <;> rw [h] <;> intro x hx
    · simp at hx
    · obtain rfl := List.mem_singleton.1 hx; decide
    · obtain rfl := List.mem_singleton.1 hx; decide
theorem fitK (s : SSt) (h1 : s.safe = [] ∨ s.safe = [fx]) (h2 : s.pend = [] ∨ s.pend = [ax] ∨ s.pend = [ay]) (hd : s.down = false) (hf : s.fails = []) (hc : s.crash = 0) (h3 : 0 ≤ s.calls) (h4 : s.calls ≤ 10) : Fit (asked s).1 := by
  rw [askA s hd hf hc h3]
  exact fitS _ h1 h2 (by show 0 ≤ s.calls + 1; omega) (by show s.calls + 1 ≤ 1000; omega)
theorem F_marked {b : Nat} {xs : List Int} {fr : Nat × Nat} (hb : w.heap[b]? = some (.cells (nums .u8 xs).toArray 5 fr)) (hl : xs.length ≤ 1000) (hne : b ≠ g) : Kd.F (Kd.int .u8) w (fun k => k ≠ g) (some ⟨b, 0, none⟩) xs.length xs :=
  fun W2 hW => C_marked ((hW b hne (blk_lt hb)).trans hb) (by omega)
theorem aw1 (b : Nat) {fr : Nat × Nat} (h : Rep B g sA w) (hBw : B ≤ w.heap.size) (hb : w.heap[b]? = some (.cells #[.int .u8 120, .int .u8 121] 5 fr)) (hne : b ≠ g) :
    Calls Try.prog 67 #[.pointer (some ⟨g, 0, none⟩), .agg #[.string ⟨#[97]⟩, .int .i64 1, .int .i64 0, .slice (some ⟨b, 0, none⟩) 2 2]] w fun e w' => e = .returned (.int .i64 0) ∧ Rep B g sB w' ∧ Below B w w' := by
  have := do_calls ax (some ⟨b, 0, none⟩) 2 h (fitS sA (.inl rfl) (.inl rfl) (by decide) (by decide)) (fitK sA (.inl rfl) (.inl rfl) rfl rfl rfl (by decide) (by decide)) hBw (by decide) (F_marked (xs := [120, 121]) hb (by decide) hne) (by decide)
  rw [av1] at this
  exact this
theorem aw2 (h : Rep B g sB w) (hBw : B ≤ w.heap.size) :
    Calls Try.prog 41 #[.pointer (some ⟨g, 0, none⟩), .string ⟨#[97]⟩] w fun e w' => e = .returned (.int .i64 0) ∧ Rep B g sC w' ∧ Below B w w' := by
  have := sync_calls ⟨#[97]⟩ h (fitS sB (.inl rfl) (.inr (.inl rfl)) (by decide) (by decide)) (fitK sB (.inl rfl) (.inr (.inl rfl)) rfl rfl rfl (by decide) (by decide)) hBw
  rw [av2] at this
  exact this
theorem aw3 (b : Nat) {fr : Nat × Nat} (h : Rep B g sC w) (hBw : B ≤ w.heap.size) (hb : w.heap[b]? = some (.cells #[.int .u8 122] 5 fr)) (hne : b ≠ g) :
    Calls Try.prog 67 #[.pointer (some ⟨g, 0, none⟩), .agg #[.string ⟨#[97]⟩, .int .i64 2, .int .i64 0, .slice (some ⟨b, 0, none⟩) 1 1]] w fun e w' => e = .returned (.int .i64 0) ∧ Rep B g sD w' ∧ Below B w w' := by
  have := do_calls ay (some ⟨b, 0, none⟩) 1 h (fitS sC (.inr rfl) (.inl rfl) (by decide) (by decide)) (fitK sC (.inr rfl) (.inl rfl) rfl rfl rfl (by decide) (by decide)) hBw (by decide) (F_marked (xs := [122]) hb (by decide) hne) (by decide)
  rw [av3] at this
  exact this
theorem aw4 (h : Rep B g sD w) (hBw : B ≤ w.heap.size) :
    Calls Try.prog 44 #[.pointer (some ⟨g, 0, none⟩), .slice none 0 0] w fun e w' => e = .returned (.tuple #[]) ∧ Rep B g sE w' ∧ Below B w w' := by
  have := crash_calls none 0 [] h (fitS sD (.inr rfl) (.inr (.inr rfl)) (by decide) (by decide)) hBw (Kd.C_nil _ _)
  rw [av4] at this
  exact this
theorem aw5 (h : Rep B g sE w) (hBw : B ≤ w.heap.size) :
    Calls Try.prog 68 #[.pointer (some ⟨g, 0, none⟩), .string ⟨#[97]⟩] w fun e w' => ∃ A c, e = .returned (.tuple #[.slice A 2 c, .int .i64 0]) ∧ Kd.R (Kd.int .u8) 5 w' w.heap.size (fun _ => True) (.slice A 2 c) [120, 121] ∧ Rep B g sF w' ∧ Below B w w' := by
  have := read_calls (name := ⟨#[97]⟩) h (fitS sE (.inr rfl) (.inl rfl) (by decide) (by decide)) (fitK sE (.inr rfl) (.inl rfl) rfl rfl rfl (by decide) (by decide)) hBw
  rw [av5] at this
  refine this.mono ?_
  rintro e w1 ⟨v, rfl, hv, hr, hb⟩
  obtain ⟨A, c, rfl⟩ := Kd.R_slice hv
  exact ⟨A, c, rfl, hv, hr, hb⟩
theorem aw6 (h : Rep B g sF w) : Calls Try.prog 54 #[.pointer (some ⟨g, 0, none⟩)] w fun e w' => e = .returned (.int .i64 3) ∧ Below w.heap.size w w' := peak_calls h
theorem aw7 (h : Rep B g sF w) : Calls Try.prog 52 #[.pointer (some ⟨g, 0, none⟩)] w fun e w' => e = .returned (.int .i64 1) ∧ Below w.heap.size w w' := calls_calls h
theorem str2 : (strOfNums [120, 121]).toList = [120, 121] := by simp [strOfNums, Lib.toList_data]
end
set_option maxHeartbeats 8000000 in
set_option maxRecDepth 100000 in
theorem awake18 (w : World) : Calls Try.prog 37 #[] w fun e w' => e = .returned (.bool true) ∧ Below w.heap.size w w' := by
  have kc := fun (w : World) (C : Array Value) (n c : Nat) => Lib.run_convert_bytes_const (P := Try.prog) w 23 5 C n c Try.underlying23 Try.underlying5
  have hstr := str2
  go_enter Try.func37, Try.ntmps37
  go_wp2_with (first
    | (go_at_call 47; refine (new_calls 100 (by decide)).mono ?_; rintro e w1 ⟨rfl, hr1, hb1⟩; rw [newA] at hr1; have hg1 := (show w.heap.size < w1.heap.size by obtain ⟨_, _, _, h⟩ := hr1; exact blk_lt h.blk); have HR1 := Aside0.mk hr1; have HB1 := Aside0.mk hb1; clear hr1 hb1)
    | (go_at_call 67; (with_reducible refine (aw1 (B := w.heap.size) w1.heap.size (HR1.out.below (below_alloc (Below.refl _ _) _)) ?hs1 (heap_alloc_new _ _) ?hn1).mono ?_); (case hs1 => rw [World.size_alloc]; omega); (case hn1 => omega); rintro e w2 ⟨rfl, hr2, hb2⟩; have HB2 := Aside0.mk (belowB_trans (below_alloc HB1.out _) hb2); have hsz2 := HB2.out.size; have HR2 := Aside0.mk hr2; clear hr2 hb2)
    | (go_at_call 41; (with_reducible refine (aw2 (B := w.heap.size) HR2.out hsz2).mono ?_); rintro e w3 ⟨rfl, hr3, hb3⟩; have HB3 := Aside0.mk (belowB_trans HB2.out hb3); have hsz3 := HB3.out.size; have hg3 := (show w.heap.size < w3.heap.size by obtain ⟨_, _, _, h⟩ := hr3; exact blk_lt h.blk); have HR3 := Aside0.mk hr3; clear hr3 hb3)
    | (go_at_call 67; (with_reducible refine (aw3 (B := w.heap.size) w3.heap.size (HR3.out.below (below_alloc (Below.refl _ _) _)) ?hs1 (heap_alloc_new _ _) ?hn1).mono ?_); (case hs1 => rw [World.size_alloc]; omega); (case hn1 => omega); rintro e w4 ⟨rfl, hr4, hb4⟩; have HB4 := Aside0.mk (belowB_trans (below_alloc HB3.out _) hb4); have hsz4 := HB4.out.size; have HR4 := Aside0.mk hr4; clear hr4 hb4)
    | (go_at_call 44; (with_reducible refine (aw4 (B := w.heap.size) HR4.out hsz4).mono ?_); rintro e w5 ⟨rfl, hr5, hb5⟩; have HB5 := Aside0.mk (belowB_trans HB4.out hb5); have hsz5 := HB5.out.size; have HR5 := Aside0.mk hr5; clear hr5 hb5)
    | (go_at_call 68; (with_reducible refine (aw5 (B := w.heap.size) HR5.out hsz5).mono ?_); rintro e w6 ⟨A6, c6, rfl, hv6, hr6, hb6⟩; have HB6 := Aside0.mk (belowB_trans HB5.out hb6); have hcv := own_string (P := Try.prog) Try.underlying23 Try.underlying5 Try.underlying9 (Kd.own_of_R hv6); have HR6 := Aside0.mk hr6; clear hr6 hb6 hv6)
    | (go_at_call 54; (with_reducible refine (aw6 HR6.out).mono ?_); rintro e w7 ⟨rfl, hb7⟩; have HB7 := Aside0.mk (belowB_trans HB6.out (belowB_of HB6.out.size hb7)); have HR7 := Aside0.mk (HR6.out.below hb7); clear hb7)
    | (go_at_call 52; (with_reducible refine (aw7 HR7.out).mono ?_); rintro e w8 ⟨rfl, hb8⟩; have HB8 := Aside0.mk hb8; clear hb8))
  go_ret
  exact ⟨rfl, belowB_trans HB7.out (belowB_of HB7.out.size HB8.out)⟩
end Go.Proofs.Ytcgeioingikeeaa.P
namespace Go.Proofs.Ytcgeioingikeeaa.P
open Go.RowKit Go.Proofs.YtcgeioingikeeaaW.PrintWords Go.Proofs.YtcgeioingikeeaaW.PrintLast Go.Proofs.YtcgeioingikeeaaW.PrintMore
set_option linter.unusedVariables false
set_option linter.unusedSimpArgs false
section
variable {w : World}
def errN (d : S76) : Int := if d.f0 ≤ 6 then 1 else 0
theorem do_nil (d : S76) (A4 : Option Addr) (c4 : Nat) (A7 : Option Addr) (c7 : Nat) (hC4 : (Kd.int .u8).C w A4 d.f1.f3.length d.f1.f3) (hc4 : d.f1.f3.length ≤ c4) (h1 : 1 ≤ d.f0) (h8 : d.f0 ≤ 8) :
    Calls Try.prog 48 #[.pointer none, .agg #[.int .i64 d.f0, .string d.f1.f0, .int .i64 d.f1.f1, .int .i64 d.f1.f2, .slice A4 d.f1.f3.length c4, .string d.f2, .string d.f3, .slice A7 d.f4.length c7, .int .i64 d.f5]] w fun e w' => e = .returned (.agg #[.int .i64 (errN d), .slice none 0 0, .slice none 0 0]) ∧ Below w.heap.size w w' := by
  have h : d.f0 = 1 ∨ d.f0 = 2 ∨ d.f0 = 3 ∨ d.f0 = 4 ∨ d.f0 = 5 ∨ d.f0 = 6 ∨ d.f0 = 7 ∨ d.f0 = 8 := by omega
  unfold errN
  rcases h with h | h | h | h | h | h | h | h <;> rw [h]
  · exact do_nil1 d A4 c4 A7 c7 hC4 hc4
  · exact do_nil2 d A4 c4 A7 c7 hC4 hc4
  · exact do_nil3 d A4 c4 A7 c7 hC4 hc4
  · exact do_nil4 d A4 c4 A7 c7 hC4 hc4
  · exact do_nil5 d A4 c4 A7 c7 hC4 hc4
  · exact do_nil6 d A4 c4 A7 c7 hC4 hc4
  · exact do_nil7 d A4 c4 A7 c7 hC4 hc4
  · exact do_nil8 d A4 c4 A7 c7 hC4 hc4
/-- One deed, in a row of its own. -/
theorem C_deed {b : Nat} {d : S76} {A4 : Option Addr} {c4 : Nat} {A7 : Option Addr} {c7 : Nat} {fr : Nat × Nat} (hb : w.heap[b]? = some (.cells #[.int .i64 d.f0, .string d.f1.f0, .int .i64 d.f1.f1, .int .i64 d.f1.f2, .slice A4 d.f1.f3.length c4, .string d.f2, .string d.f3, .slice A7 d.f4.length c7, .int .i64 d.f5] 76 fr))
    (hC4 : (Kd.int .u8).C w A4 d.f1.f3.length d.f1.f3) (hc4 : d.f1.f3.length ≤ c4) (hC7 : (Kd.int .i64).C w A7 d.f4.length d.f4) (hc7 : d.f4.length ≤ c7) : Kd.C k76 w (some ⟨b, 0, none⟩) [d].length [d] := by
  refine ⟨rfl, by simp, fun _ => ⟨⟨b, 0, none⟩, rfl, fun j p hj => ?_⟩⟩
  have hj0 : j = 0 := by
    rcases Nat.eq_zero_or_pos j with h | h
    · exact h
    · rw [List.getElem?_eq_none (by simp; omega)] at hj; cases hj
  subst hj0
  obtain rfl : d = p := by simpa using hj
  refine ⟨_, rfl, k76_mk w d hc4 hC4 hc7 hC7, fun i u hu => ?_⟩
  rw [Nat.zero_mul, Nat.zero_add, add_plain, cell_of_row w b i _ 76 fr hb]
  simpa using hu
/-- A variable that holds a deed. -/
def VarD (w : World) (b : Nat) (d : S76) (A4 : Option Addr) (c4 : Nat) (A7 : Option Addr) (c7 : Nat) : Prop := w.heap[b]? = some (.cells #[.int .i64 d.f0, .string d.f1.f0, .int .i64 d.f1.f1, .int .i64 d.f1.f2, .slice A4 d.f1.f3.length c4, .string d.f2, .string d.f3, .slice A7 d.f4.length c7, .int .i64 d.f5] 76 (0, 0))
theorem VarD.cell {b : Nat} {d : S76} {A4 : Option Addr} {c4 : Nat} {A7 : Option Addr} {c7 : Nat} (h : VarD w b d A4 c4 A7 c7) : w.cell? ⟨b, 0, none⟩ = some (.int .i64 d.f0) ∧ w.cell? ⟨b, 1, none⟩ = some (.string d.f1.f0) ∧ w.cell? ⟨b, 2, none⟩ = some (.int .i64 d.f1.f1) ∧ w.cell? ⟨b, 3, none⟩ = some (.int .i64 d.f1.f2) ∧ w.cell? ⟨b, 4, none⟩ = some (.slice A4 d.f1.f3.length c4) ∧ w.cell? ⟨b, 5, none⟩ = some (.string d.f2) ∧ w.cell? ⟨b, 6, none⟩ = some (.string d.f3) ∧ w.cell? ⟨b, 7, none⟩ = some (.slice A7 d.f4.length c7) ∧ w.cell? ⟨b, 8, none⟩ = some (.int .i64 d.f5) := by
  refine ⟨?_, ?_, ?_, ?_, ?_, ?_, ?_, ?_, ?_⟩ <;> (rw [cell_of_row w b _ _ 76 (0, 0) h]; rfl)
theorem VarD.below {w1 : World} {b : Nat} {d : S76} {A4 : Option Addr} {c4 : Nat} {A7 : Option Addr} {c7 : Nat} (h : VarD w b d A4 c4 A7 c7) (hb : Below w.heap.size w w1) : VarD w1 b d A4 c4 A7 c7 := blk_stays hb h
theorem few1 (d : S76) : ∃ k r, gambrelref18_Few.f k [d] = some r ∧ (r = true → 1 ≤ d.f0 ∧ d.f0 ≤ 8) := by
  refine ⟨5, ?_⟩
  have h1 : wrap64 (0 + 1) = 1 := by simp [wrap64]
  have hd : rd_T76 [d] 0 = d := rfl
  have hl : (([d] : List S76).length : Int) = 1 := rfl
  unfold gambrelref18_Few.f
  rw [gambrelref18_Few.l0, hl, if_pos (by omega), show decide ((0 : Int) < 21) = true from rfl, gambrelref18_Few.j1, hl, if_pos rfl, if_pos (by omega), if_pos (by omega), hd]
  split
  · exact ⟨false, rfl, by intro h; cases h⟩
  split
  · exact ⟨false, rfl, by intro h; cases h⟩
  split
  · exact ⟨false, rfl, by intro h; cases h⟩
  split
  · exact ⟨false, rfl, by intro h; cases h⟩
  split
  · exact ⟨false, rfl, by intro h; cases h⟩
  split
  · exact ⟨false, rfl, by intro h; cases h⟩
  split
  · exact ⟨false, rfl, by intro h; cases h⟩
  rw [h1, gambrelref18_Few.l0, hl, if_neg (by omega), gambrelref18_Few.j1, hl, if_neg (by simp)]
  exact ⟨true, rfl, fun _ => by omega⟩
theorem few_at {b : Nat} {d : S76} {A4 : Option Addr} {c4 : Nat} {A7 : Option Addr} {c7 : Nat} {fr : Nat × Nat} {kf : Nat} {r : Bool} (hb : w.heap[b]? = some (.cells #[.int .i64 d.f0, .string d.f1.f0, .int .i64 d.f1.f1, .int .i64 d.f1.f2, .slice A4 d.f1.f3.length c4, .string d.f2, .string d.f3, .slice A7 d.f4.length c7, .int .i64 d.f5] 76 fr))
    (hC4 : (Kd.int .u8).C w A4 d.f1.f3.length d.f1.f3) (hc4 : d.f1.f3.length ≤ c4) (hC7 : (Kd.int .i64).C w A7 d.f4.length d.f4) (hc7 : d.f4.length ≤ c7) (hk : gambrelref18_Few.f kf [d] = some r) : Calls Try.prog 38 #[.slice (some ⟨b, 0, none⟩) 1 1] w fun e w' => e = .returned (.bool r) ∧ Below w.heap.size w w' :=
  gambrelref18_Few.calls kf (some ⟨b, 0, none⟩) 1 [d] r w (C_deed hb hC4 hc4 hC7 hc7) (Nat.le_refl 1) hk
set_option maxHeartbeats 8000000 in
set_option maxRecDepth 100000 in
theorem nobody_calls (d : S76) (A4 : Option Addr) (c4 : Nat) (A7 : Option Addr) (c7 : Nat) (q : Int) (hC4 : (Kd.int .u8).C w A4 d.f1.f3.length d.f1.f3) (hc4 : d.f1.f3.length ≤ c4) (hC7 : (Kd.int .i64).C w A7 d.f4.length d.f4) (hc7 : d.f4.length ≤ c7) (hq0 : 0 ≤ q) (hq1 : q ≤ 65535) :
    Calls Try.prog 13 #[.agg #[.int .i64 d.f0, .string d.f1.f0, .int .i64 d.f1.f1, .int .i64 d.f1.f2, .slice A4 d.f1.f3.length c4, .string d.f2, .string d.f3, .slice A7 d.f4.length c7, .int .i64 d.f5], .int .u16 q] w fun e w' => e = .returned (.bool true) ∧ Below w.heap.size w w' := by
  have hw1 : Below w.heap.size w (w.alloc (Obj.cells #[.int .i64 d.f0, .string d.f1.f0, .int .i64 d.f1.f1, .int .i64 d.f1.f2, .slice A4 d.f1.f3.length c4, .string d.f2, .string d.f3, .slice A7 d.f4.length c7, .int .i64 d.f5] 76)) := below_alloc (Below.refl _ _) _
  have hd1 : VarD (w.alloc (Obj.cells #[.int .i64 d.f0, .string d.f1.f0, .int .i64 d.f1.f1, .int .i64 d.f1.f2, .slice A4 d.f1.f3.length c4, .string d.f2, .string d.f3, .slice A7 d.f4.length c7, .int .i64 d.f5] 76)) w.heap.size d A4 c4 A7 c7 := heap_alloc_new _ _
  have HW1 := Aside0.mk hw1
  have HD1 := Aside0.mk hd1
  have HC4 := Aside0.mk hC4
  have HC7 := Aside0.mk hC7
  obtain ⟨kf, r, hkf, hr⟩ := few1 d
  have HKF := Aside0.mk hkf
  have HR := Aside0.mk hr
  clear hw1 hd1 hC4 hC7 hkf hr
  cases r
  · go_enter Try.func13, Try.ntmps13
    go_wp2_with (first
      | (go_at_call 37; refine (awake18 _).mono ?_; rintro e w2 ⟨rfl, hb2⟩; have HB2 := Aside0.mk (below_step HW1.out hb2); have HD2 := Aside0.mk (HD1.out.below hb2); obtain ⟨y0, y1, y2, y3, y4, y5, y6, y7, y8⟩ := HD2.out.cell; clear hb2)
      | (go_at_call 38; refine (few_at (heap_alloc_new w2 _) (Kd.C_below HC4.out (below_alloc HB2.out _)) hc4 (Kd.C_below HC7.out (below_alloc HB2.out _)) hc7 HKF.out).mono ?_; rintro e w3 ⟨rfl, hb3⟩; have HB3 := Aside0.mk (below_step (below_alloc HB2.out _) hb3); clear hb3))
    go_ret
    exact ⟨rfl, HB3.out⟩
  · obtain ⟨h1, h8⟩ := HR.out rfl
    obtain ⟨x, hx⟩ : ∃ x, errN d = x := ⟨_, rfl⟩
    have hq2 : wrap64 (-1 - q) < 0 := by unfold wrap64; omega
    by_cases h6 : d.f0 ≤ 6
    · have hx1 : x = 1 := by rw [← hx]; unfold errN; rw [if_pos h6]
      subst hx1
      have HX := Aside0.mk hx
      clear hx
      go_enter Try.func13, Try.ntmps13
      go_wp2_with (first
        | (go_at_call 37; refine (awake18 _).mono ?_; rintro e w2 ⟨rfl, hb2⟩; have HB2 := Aside0.mk (below_step HW1.out hb2); have HD2 := Aside0.mk (HD1.out.below hb2); obtain ⟨y0, y1, y2, y3, y4, y5, y6, y7, y8⟩ := HD2.out.cell; clear hb2)
        | (go_at_call 38; refine (few_at (heap_alloc_new w2 _) (Kd.C_below HC4.out (below_alloc HB2.out _)) hc4 (Kd.C_below HC7.out (below_alloc HB2.out _)) hc7 HKF.out).mono ?_; rintro e w3 ⟨rfl, hb3⟩; have HB3 := Aside0.mk (below_step (below_alloc HB2.out _) hb3); have HD3 := Aside0.mk ((HD2.out.below (below_alloc (Below.refl _ _) _)).below hb3); clear y0 y1 y2 y3 y4 y5 y6 y7 y8; obtain ⟨y0, y1, y2, y3, y4, y5, y6, y7, y8⟩ := HD3.out.cell; clear hb3)
        | (go_at_call 48; refine (do_nil d A4 c4 A7 c7 (Kd.C_below HC4.out HB3.out) hc4 h1 h8).mono ?_; rw [HX.out]; rintro e w4 ⟨rfl, hb4⟩; have HB4 := Aside0.mk (below_step HB3.out hb4); have HD4 := Aside0.mk (HD3.out.below hb4); clear y0 y1 y2 y3 y4 y5 y6 y7 y8; have z0 := (HD4.out.below (below_alloc (Below.refl _ _) (Obj.cells #[.int .i64 1, .slice none 0 0, .slice none 0 0] 73))).cell.1; clear hb4)
        | (go_at_call 42; refine (n42).mono ?_; rintro e w5 ⟨rfl, hb5⟩; have HB5 := Aside0.mk (below_step (below_alloc HB4.out _) hb5); clear hb5)
        | (go_at_call 45; refine (n45).mono ?_; rintro e w6 ⟨rfl, hb6⟩; have HB6 := Aside0.mk (below_step HB5.out hb6); clear hb6)
        | (go_at_call 46; refine (n46).mono ?_; rintro e w7 ⟨rfl, hb7⟩; have HB7 := Aside0.mk (below_step HB6.out hb7); clear hb7)
        | (go_at_call 52; refine (n52).mono ?_; rintro e w8 ⟨rfl, hb8⟩; have HB8 := Aside0.mk (below_step HB7.out hb8); clear hb8)
        | (go_at_call 54; refine (n54).mono ?_; rintro e w9 ⟨rfl, hb9⟩; have HB9 := Aside0.mk (below_step HB8.out hb9); clear hb9)
        | (go_at_call 53; refine (n53).mono ?_; rintro e w10 ⟨rfl, hb10⟩; have HB10 := Aside0.mk (below_step HB9.out hb10); clear hb10)
        | (go_at_call 47; refine (new_none _ (by first | exact hq2 | omega)).mono ?_; rintro e w11 ⟨rfl, hb11⟩; have HB11 := Aside0.mk (below_step HB10.out hb11); clear hb11))
      go_ret
      exact ⟨rfl, HB11.out⟩
    · have hx1 : x = 0 := by rw [← hx]; unfold errN; rw [if_neg h6]
      subst hx1
      have HX := Aside0.mk hx
      clear hx
      go_enter Try.func13, Try.ntmps13
      go_wp2_with (first
        | (go_at_call 37; refine (awake18 _).mono ?_; rintro e w2 ⟨rfl, hb2⟩; have HB2 := Aside0.mk (below_step HW1.out hb2); have HD2 := Aside0.mk (HD1.out.below hb2); obtain ⟨y0, y1, y2, y3, y4, y5, y6, y7, y8⟩ := HD2.out.cell; clear hb2)
        | (go_at_call 38; refine (few_at (heap_alloc_new w2 _) (Kd.C_below HC4.out (below_alloc HB2.out _)) hc4 (Kd.C_below HC7.out (below_alloc HB2.out _)) hc7 HKF.out).mono ?_; rintro e w3 ⟨rfl, hb3⟩; have HB3 := Aside0.mk (below_step (below_alloc HB2.out _) hb3); have HD3 := Aside0.mk ((HD2.out.below (below_alloc (Below.refl _ _) _)).below hb3); clear y0 y1 y2 y3 y4 y5 y6 y7 y8; obtain ⟨y0, y1, y2, y3, y4, y5, y6, y7, y8⟩ := HD3.out.cell; clear hb3)
        | (go_at_call 48; refine (do_nil d A4 c4 A7 c7 (Kd.C_below HC4.out HB3.out) hc4 h1 h8).mono ?_; rw [HX.out]; rintro e w4 ⟨rfl, hb4⟩; have HB4 := Aside0.mk (below_step HB3.out hb4); have HD4 := Aside0.mk (HD3.out.below hb4); clear y0 y1 y2 y3 y4 y5 y6 y7 y8; have z0 := (HD4.out.below (below_alloc (Below.refl _ _) (Obj.cells #[.int .i64 0, .slice none 0 0, .slice none 0 0] 73))).cell.1; clear hb4)
        | (go_at_call 42; refine (n42).mono ?_; rintro e w5 ⟨rfl, hb5⟩; have HB5 := Aside0.mk (below_step (below_alloc HB4.out _) hb5); clear hb5)
        | (go_at_call 45; refine (n45).mono ?_; rintro e w6 ⟨rfl, hb6⟩; have HB6 := Aside0.mk (below_step HB5.out hb6); clear hb6)
        | (go_at_call 46; refine (n46).mono ?_; rintro e w7 ⟨rfl, hb7⟩; have HB7 := Aside0.mk (below_step HB6.out hb7); clear hb7)
        | (go_at_call 52; refine (n52).mono ?_; rintro e w8 ⟨rfl, hb8⟩; have HB8 := Aside0.mk (below_step HB7.out hb8); clear hb8)
        | (go_at_call 54; refine (n54).mono ?_; rintro e w9 ⟨rfl, hb9⟩; have HB9 := Aside0.mk (below_step HB8.out hb9); clear hb9)
        | (go_at_call 53; refine (n53).mono ?_; rintro e w10 ⟨rfl, hb10⟩; have HB10 := Aside0.mk (below_step HB9.out hb10); clear hb10)
        | (go_at_call 47; refine (new_none _ (by first | exact hq2 | omega)).mono ?_; rintro e w11 ⟨rfl, hb11⟩; have HB11 := Aside0.mk (below_step HB10.out hb11); clear hb11))
      go_ret
      exact ⟨rfl, HB11.out⟩
end
end Go.Proofs.Ytcgeioingikeeaa.P
