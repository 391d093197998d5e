/- The iterator of layout.laid: what it hands to its caller's rounds. -/
import Derived.RangeFuncNested
import Derived.RangeFuncBound
import Derived.RangeFuncCalls
import Derived.RangeFuncLeaves
import Derived.Shelf.Abstract
import Derived.Shelf.RegionOpen
import Derived.OwnWalkIn
import Derived.TacticsInMore
import Derived.LoopNIn
import Derived.LoopIn
import Derived.Test.YtibcgallhldnnaaG0
import Derived.Test.YtibcgallhldnnaaC1
namespace Go.Proofs.Ytibcgallhldnnaa.P
open Go.RowKit Go.Shelf Go.Proofs.YtibcgallhldnnaaW.PrintWords Go.Proofs.YtibcgallhldnnaaW.PrintLast Go.Proofs.YtibcgallhldnnaaW.PrintMore
set_option linter.unusedVariables false
set_option linter.unusedSimpArgs false
attribute [local go_sem] Oper.semAt_some

/-- Whatever cells lie from N₁ on lie as they lay. -/
def KeepsCells (N₁ : Nat) (W W' : World) : Prop := ∀ k cs t, N₁ ≤ k → W.heap[k]? = some (.cells cs t (0, 0)) → W'.heap[k]? = some (.cells cs t (0, 0))
theorem keepsCells_t {N₁ : Nat} {A B C : World} (h : KeepsCells N₁ A B) (k : KeepsCells N₁ B C) : KeepsCells N₁ A C := fun i cs t hi hc => k i cs t hi (h i cs t hi hc)
theorem keepsCells_b {N₁ : Nat} (W : World) (l : Nat) (o o' : Obj) (h : W.heap[l]? = some o) (hc : o.isCells = false) : KeepsCells N₁ W (W.putObj l o') := fun k cs t hk hcs => by
  refine (World.putObj_heap_other (fun e => ?_)).trans hcs
  subst e
  rw [h] at hcs
  cases hcs
  cases hc

theorem under75 : Try.prog.underlying 75 = some (.array 4 5) := by kernel_rfl
theorem wrap4 : IntKind.i64.wrap 4 = 4 := by decide
theorem wrap44 : IntKind.i64.wrap (4 - 4) = 0 := by decide
theorem wrap0 : IntKind.i64.wrap 0 = 0 := by decide
theorem size5 (w : World) : (sizeOf 5).run Try.prog w = .ok 1 w := by
  obtain ⟨i0, hi, hz⟩ := Option.map_eq_some_iff.1 info5
  simp only [Prod.mk.injEq] at hz
  simp [sizeOf, typeInfo, hi, hz.2.1, Result.andThen]
theorem slice75_4 (B : Nat) (w : World) : (Instr.sliceAt 75 (.pointer (some ⟨B, 0, none⟩)) (some (.int .i64 4)) none none).run Try.prog w = .ok (.slice (some ⟨B, 0, none⟩) 0 0) w := by
  have h := run_sliceAt_array_l (P := Try.prog) w 75 ⟨B, 0, none⟩ under75 .i64 4 (by decide) (by decide)
  rw [h, show Try.prog.elem 75 = 5 from by kernel_rfl, size5, show Try.prog.arrayLen 75 = 4 from by kernel_rfl]
  rfl
theorem slice75_0 (B : Nat) (w : World) : (Instr.sliceAt 75 (.pointer (some ⟨B, 0, none⟩)) (some (.int .i64 0)) none none).run Try.prog w = .ok (.slice (some ⟨B, 0, none⟩) 4 4) w := by
  have h := run_sliceAt_array_l (P := Try.prog) w 75 ⟨B, 0, none⟩ under75 .i64 0 (by decide) (by decide)
  rw [h, show Try.prog.elem 75 = 5 from by kernel_rfl, size5, show Try.prog.arrayLen 75 = 4 from by kernel_rfl]
  rfl
attribute [local go_sem] wrap4 wrap44 wrap0 slice75_4 slice75_0
theorem C_two (W : World) (B : Nat) (A1 A2 : Option Addr) (c1 c2 : Nat) (l1 l2 : List Int) (h1 : W.cell? ⟨B, 0, none⟩ = some (.slice A1 l1.length c1)) (h2 : W.cell? ⟨B, 1, none⟩ = some (.slice A2 l2.length c2))
    (k1 : l1.length ≤ c1) (k2 : l2.length ≤ c2) (r1 : Kd.C (Kd.int .u8) W A1 l1.length l1) (r2 : Kd.C (Kd.int .u8) W A2 l2.length l2) : Kd.C (Kd.slice 5 (Kd.int .u8)) W (some ⟨B, 0, none⟩) [l1, l2].length [l1, l2] := by
  refine ⟨rfl, by simp, fun _ => ⟨_, rfl, fun j p hj => ?_⟩⟩
  match j, hj with
  | 0, hj =>
    cases hj
    refine ⟨_, rfl, ⟨A1, c1, rfl, k1, r1⟩, fun i u hu => ?_⟩
    match i, hu with
    | 0, hu => cases hu; exact h1
  | 1, hj =>
    cases hj
    refine ⟨_, rfl, ⟨A2, c2, rfl, k2, r2⟩, fun i u hu => ?_⟩
    match i, hu with
    | 0, hu => cases hu; exact h2
theorem C_none_at (W : World) (A : Option Addr) : Kd.C (Kd.int .u8) W A ([] : List Int).length [] := ⟨rfl, by simp, fun h => absurd h (Nat.lt_irrefl 0)⟩
theorem concat_two {n : Nat} (f bs xs : List Int) (hx : f ++ bs = xs) (W : World) (B : Nat) (A1 A2 : Option Addr) (c1 c2 : Nat) (h1 : W.cell? ⟨B, 0, none⟩ = some (.slice A1 f.length c1)) (h2 : W.cell? ⟨B, 1, none⟩ = some (.slice A2 bs.length c2))
    (k1 : f.length ≤ c1) (k2 : bs.length ≤ c2) (r1 : Kd.C (Kd.int .u8) W A1 f.length f) (r2 : Kd.C (Kd.int .u8) W A2 bs.length bs) (hl : xs.length ≤ 549755813888) :
    CallsIn Fence.wide n Try.prog 29 #[.slice (some ⟨B, 0, none⟩) 2 2] W fun e W' => ∃ (ao : Option Addr) (co : Nat), e = .returned (.slice ao xs.length co) ∧ Kd.R (Kd.int .u8) 5 W' W.heap.size (fun _ => True) (.slice ao xs.length co) xs ∧ Below W.heap.size W W' := by
  refine callsIn_wide.2 ((concat_calls (some ⟨B, 0, none⟩) 2 [f, bs] W (C_two W B A1 A2 c1 c2 f bs h1 h2 k1 k2 r1 r2) (Nat.le_refl _) (by simp) (by rw [← hx] at hl; simpa using hl)).mono ?_)
  rintro e W' ⟨v, rfl, hR, hb⟩
  have e1 : [f, bs].flatten = xs := by rw [← hx]; simp
  rw [e1] at hR
  obtain ⟨ao, co, rfl⟩ := Kd.R_slice hR
  exact ⟨ao, co, rfl, hR, hb⟩

abbrev lencs (xs : List Int) (i : Fin xs.length) : Array Value := #[.int .i64 ((i.1 : Nat) : Int), .int .u8 xs[i.1]]
def pres (n k : Nat) : List (Fin n) := (List.finRange n).take k
theorem pres_succ {n k : Nat} (h : k < n) : pres n (k + 1) = pres n k ++ [⟨k, h⟩] := by
  unfold pres
  rw [List.take_succ_eq_append_getElem (by simpa using h)]
  simp
theorem pres_length {n k : Nat} (h : k ≤ n) : (pres n k).length = k := by simp [pres, h]
theorem pres_all (n : Nat) : pres n n = List.finRange n := by unfold pres; exact List.take_of_length_le (by simp)

theorem row_kept {N₁ base co : Nat} {W2 wr : World} {ao : Option Addr} {xs : List Int} (hR : Kd.R (Kd.int .u8) 5 W2 base (fun _ => True) (.slice ao xs.length co) xs) (hN : N₁ ≤ base) (hk : KeepsCells N₁ W2 wr) (k : Nat) (h : k < xs.length) :
    ∃ g, ao = some ⟨g, 0, none⟩ ∧ wr.cell? ⟨g, k, none⟩ = some (.int .u8 xs[k]) := by
  obtain ⟨_, inner, ⟨hl, hform⟩, hreps⟩ := hR
  rcases hform with ⟨_, hz⟩ | ⟨g, cap, cur, hv, hg, hh, h3, h4, h5, h6⟩
  · omega
  · injection hv with e1 e2 e3
    refine ⟨g, e1, ?_⟩
    have hb := hk g cur 5 (by omega) hh
    rw [blk_cell hb k]
    have h7 := hreps.2 k xs[k] (List.getElem?_eq_getElem h)
    have h8 : (inner.drop (k * 1)).take 1 = [Value.int .u8 xs[k]] := h7
    have h9 : inner[k]? = some (Value.int .u8 xs[k]) := by
      have := congrArg (fun q => q[0]?) h8
      simpa [List.getElem?_take, List.getElem?_drop] using this
    rw [← h6, List.getElem?_take] at h9
    split at h9
    · simpa using h9
    · cases h9

def head4 (n : Nat) : List Int := [(n : Int) / 256 / 256 / 256, (n : Int) / 256 / 256, (n : Int) / 256 % 256, (n : Int) % 256]
theorem C_four (W : World) (B : Nat) (a b c d : Int) (h : W.heap[B]? = some (.cells #[.int .u8 a, .int .u8 b, .int .u8 c, .int .u8 d] 75 (0, 0))) : Kd.C (Kd.int .u8) W (some ⟨B, 0, none⟩) 4 [a, b, c, d] := by
  refine ⟨rfl, by decide, fun _ => ⟨_, rfl, fun j p hj => ⟨[.int .u8 p], rfl, rfl, fun i u hu => ?_⟩⟩⟩
  match i, hu with
  | 0, hu =>
    cases hu
    match j, hj with
    | 0, hj => cases hj; exact blk_cell h 0
    | 1, hj => cases hj; exact blk_cell h 1
    | 2, hj => cases hj; exact blk_cell h 2
    | 3, hj => cases hj; exact blk_cell h 3
set_option maxRecDepth 100000 in
set_option maxHeartbeats 4000000 in
theorem laid1_in0 (n : Nat) (hn : 1 ≤ n) (l Ba Bb N₁ : Nat) (A : Option Addr) (c : Nat) (bs : List Int) (J Jx : List (Fin bs.length) → World → Prop)
    (hY : ∀ pre x W, J pre W → pre.length < bs.length → YieldAt Fence.wide (n - 1) Try.prog l (lencs bs x) W fun e W' =>
      (e = .returned (.bool true) ∧ J (pre ++ [x]) W' ∧ KeepsCells N₁ W W') ∨ (e = .returned (.bool false) ∧ Jx (pre ++ [x]) W'))
    (W : World) (hN : N₁ ≤ W.heap.size) (hJ : AbidesFrom W.heap.size J) (hBa : W.cell? ⟨Ba, 0, none⟩ = some (.int .i64 0)) (hBb : W.cell? ⟨Bb, 0, none⟩ = some (.slice A bs.length c)) (hc : Kd.C (Kd.int .u8) W A bs.length bs) (hcap : bs.length ≤ c) (hl : bs.length ≤ 1000000) (h0 : J [] W) :
    CallsIn Fence.wide n Try.prog 35 #[.func (.yield l) #[] #[], .pointer (some ⟨Bb, 0, none⟩), .pointer (some ⟨Ba, 0, none⟩)] W fun e W' => (∃ v, e = .returned v) ∧
      ((∃ ys, ys = List.finRange bs.length ∧ J ys W') ∨ (∃ pre, True ∧ Jx pre W')) := by
  refine callsIn_of_wp Try.func35 rfl trivial ?_ rfl
  simp only [Try.ntmps35, List.size_toArray, List.length_cons, List.length_nil, Nat.reduceAdd, Nat.reduceSub, Array.replicate_succ, Array.replicate_zero, List.push_toArray, List.append_toArray, List.nil_append, List.cons_append]
  gi_wp2
  obtain ⟨B1, hB1⟩ : ∃ o, o = Obj.cells #[Value.int IntKind.u8 (↑bs.length / 256 / 256 / 256), Value.int IntKind.u8 (↑bs.length / 256 / 256), Value.int IntKind.u8 (↑bs.length / 256 % 256), Value.int IntKind.u8 (↑bs.length % 256)] 75 := ⟨_, rfl⟩
  rw [← hB1]
  have hBa1 := later_cell (o := B1) hBa
  have hBb1 := later_cell (o := B1) hBb
  have hc1 := Kd.C_below hc (below_alloc (Below.refl _ _) B1)
  have hsz : (W.alloc B1).heap.size = W.heap.size + 1 := World.size_alloc _ _
  have hb1 : Below W.heap.size W (W.alloc B1) := below_alloc (Below.refl _ _) B1
  obtain ⟨W1, hW1⟩ : ∃ W1, W1 = W.alloc B1 := ⟨_, rfl⟩
  rw [← hW1] at hBa1 hBb1 hc1 hsz hb1
  rw [← hW1]
  have HB1 := Aside0.mk hB1
  have HW1 := Aside0.mk hW1
  clear hB1 hW1
  have hBa2 : W1.drew.cell? ⟨Ba, 0, none⟩ = _ := hBa1
  have hBb2 : W1.drew.cell? ⟨Bb, 0, none⟩ = _ := hBb1
  have hmix : Try.prog.follows .mixedOrders = true := by kernel_rfl
  gi_region_with (refine ⟨trivial, ?_⟩; refine (concat_two [] bs bs rfl _ (W.heap.size + 1) (some ⟨W.heap.size, 0, none⟩) A 0 c ?h1 ?h2 (Nat.le_refl _) hcap (C_none_at _ _) ?r2 (by omega)).mono ?_; (case h1 => have q := blk_cell (heap_alloc_new W1 (.cells #[.slice (some ⟨W.heap.size, 0, none⟩) 0 0, .slice A bs.length c] 24)) 0; rw [hsz] at q; exact q); (case h2 => have q := blk_cell (heap_alloc_new W1 (.cells #[.slice (some ⟨W.heap.size, 0, none⟩) 0 0, .slice A bs.length c] 24)) 1; rw [hsz] at q; exact q); (case r2 => exact Kd.C_below hc1 (below_drew (below_alloc (Below.refl _ _) _))); rintro e W2 ⟨ao, co, rfl, hR, hb⟩; have HR := Aside0.mk hR; have HBB := Aside0.mk (below_step (below_step hb1 (below_drew (below_alloc (Below.refl _ _) _))) hb); clear hR hb)
  all_goals
    gi_wp2
    gi_loopw [32] (fun i wr => ∃ k : Nat, k ≤ bs.length ∧ i = .int .i64 k ∧ J (pres bs.length k) wr ∧ Aside0 (KeepsCells N₁ W2 wr))
      (fun i _ => bs.length - (intOf i).toNat)
    case atStart =>
      exact ⟨0, Nat.zero_le _, rfl, hJ _ W W2 none h0 ⟨HBB.out.os, HBB.out.tape, HBB.out.output, HBB.out.size, fun k hk _ => HBB.out.block k hk⟩ (fun r e => by cases e), ⟨fun _ _ _ _ h => h⟩⟩
    case round =>
      obtain ⟨k, hk, rfl, hJs, hnx⟩ := hrel
      by_cases hlt : k < bs.length
      · obtain ⟨g, rfl, hcell⟩ := row_kept HR.out (Nat.le_trans hN (by simp; omega)) hnx.out k hlt
        obtain ⟨fn, tmps, assign, body, hy, hR⟩ := hY _ ⟨k, hlt⟩ wr hJs (by rw [pres_length hk]; exact hlt)
        dsimp only [lencs] at hy
        gi_wp2
        refine hR.mono ?_
        rintro e W3 (⟨rfl, hJ3, hk3⟩ | ⟨rfl, hJx3⟩)
        · gi_wp2
          go_roundw
          case rel => exact ⟨k + 1, by omega, by simp, by rw [pres_succ hlt]; exact hJ3, ⟨keepsCells_t hnx.out hk3⟩⟩
          case measure => simp [intOf]; omega
        · gi_wp2
          refine bodyPost_ret (results_none rfl _ _ _) rfl ?_
          exact ⟨⟨_, rfl⟩, .inr ⟨_, trivial, hJx3⟩⟩
      · obtain rfl : k = bs.length := by omega
        gi_wp2
        go_end0
        exact ⟨⟨_, rfl⟩, .inl ⟨_, pres_all _, hJs⟩⟩
set_option maxRecDepth 100000 in
set_option maxHeartbeats 4000000 in
theorem laid1_in4 (n : Nat) (hn : 1 ≤ n) (l Ba Bb N₁ : Nat) (A : Option Addr) (c : Nat) (bs xs : List Int) (hx : Aside0 (head4 bs.length ++ bs = xs)) (J Jx : List (Fin xs.length) → World → Prop)
    (hY : ∀ pre x W, J pre W → pre.length < xs.length → YieldAt Fence.wide (n - 1) Try.prog l (lencs xs x) W fun e W' =>
      (e = .returned (.bool true) ∧ J (pre ++ [x]) W' ∧ KeepsCells N₁ W W') ∨ (e = .returned (.bool false) ∧ Jx (pre ++ [x]) W'))
    (W : World) (hN : N₁ ≤ W.heap.size) (hJ : AbidesFrom W.heap.size J) (hBa : W.cell? ⟨Ba, 0, none⟩ = some (.int .i64 4)) (hBb : W.cell? ⟨Bb, 0, none⟩ = some (.slice A bs.length c)) (hc : Kd.C (Kd.int .u8) W A bs.length bs) (hcap : bs.length ≤ c) (hl : bs.length ≤ 1000000) (hlx : xs.length ≤ 1000004) (h0 : J [] W) :
    CallsIn Fence.wide n Try.prog 35 #[.func (.yield l) #[] #[], .pointer (some ⟨Bb, 0, none⟩), .pointer (some ⟨Ba, 0, none⟩)] W fun e W' => (∃ v, e = .returned v) ∧
      ((∃ ys, ys = List.finRange xs.length ∧ J ys W') ∨ (∃ pre, True ∧ Jx pre W')) := by
  refine callsIn_of_wp Try.func35 rfl trivial ?_ rfl
  simp only [Try.ntmps35, List.size_toArray, List.length_cons, List.length_nil, Nat.reduceAdd, Nat.reduceSub, Array.replicate_succ, Array.replicate_zero, List.push_toArray, List.append_toArray, List.nil_append, List.cons_append]
  gi_wp2
  obtain ⟨B1, hB1⟩ : ∃ o, o = Obj.cells #[Value.int IntKind.u8 (↑bs.length / 256 / 256 / 256), Value.int IntKind.u8 (↑bs.length / 256 / 256), Value.int IntKind.u8 (↑bs.length / 256 % 256), Value.int IntKind.u8 (↑bs.length % 256)] 75 := ⟨_, rfl⟩
  rw [← hB1]
  have hBa1 := later_cell (o := B1) hBa
  have hBb1 := later_cell (o := B1) hBb
  have hc1 := Kd.C_below hc (below_alloc (Below.refl _ _) B1)
  have hsz : (W.alloc B1).heap.size = W.heap.size + 1 := World.size_alloc _ _
  have hb1 : Below W.heap.size W (W.alloc B1) := below_alloc (Below.refl _ _) B1
  obtain ⟨W1, hW1⟩ : ∃ W1, W1 = W.alloc B1 := ⟨_, rfl⟩
  rw [← hW1] at hBa1 hBb1 hc1 hsz hb1
  rw [← hW1]
  have HB4 : Aside0 (W1.heap[W.heap.size]? = some (.cells #[.int .u8 ((bs.length : Int) / 256 / 256 / 256), .int .u8 ((bs.length : Int) / 256 / 256), .int .u8 ((bs.length : Int) / 256 % 256), .int .u8 ((bs.length : Int) % 256)] 75 (0, 0))) := ⟨by rw [hW1, hB1]; exact heap_alloc_new _ _⟩
  have HB1 := Aside0.mk hB1
  have HW1 := Aside0.mk hW1
  clear hB1 hW1
  have hBa2 : W1.drew.cell? ⟨Ba, 0, none⟩ = _ := hBa1
  have hBb2 : W1.drew.cell? ⟨Bb, 0, none⟩ = _ := hBb1
  have hmix : Try.prog.follows .mixedOrders = true := by kernel_rfl
  gi_region_with (refine ⟨trivial, ?_⟩; refine (concat_two (head4 bs.length) bs xs hx.out _ (W.heap.size + 1) (some ⟨W.heap.size, 0, none⟩) A 4 c ?h1 ?h2 (Nat.le_refl _) hcap ?r1 ?r2 (by omega)).mono ?_; (case h1 => have q := blk_cell (heap_alloc_new W1 (.cells #[.slice (some ⟨W.heap.size, 0, none⟩) 4 4, .slice A bs.length c] 24)) 0; rw [hsz] at q; exact q); (case h2 => have q := blk_cell (heap_alloc_new W1 (.cells #[.slice (some ⟨W.heap.size, 0, none⟩) 4 4, .slice A bs.length c] 24)) 1; rw [hsz] at q; exact q); (case r1 => exact C_four _ _ _ _ _ _ (blk_drew (blk_alloc HB4.out _))); (case r2 => exact Kd.C_below hc1 (below_drew (below_alloc (Below.refl _ _) _))); rintro e W2 ⟨ao, co, rfl, hR, hb⟩; have HR := Aside0.mk hR; have HBB := Aside0.mk (below_step (below_step hb1 (below_drew (below_alloc (Below.refl _ _) _))) hb); clear hR hb)
  all_goals
    gi_wp2
    gi_loopw [32] (fun i wr => ∃ k : Nat, k ≤ xs.length ∧ i = .int .i64 k ∧ J (pres xs.length k) wr ∧ Aside0 (KeepsCells N₁ W2 wr))
      (fun i _ => xs.length - (intOf i).toNat)
    case atStart =>
      exact ⟨0, Nat.zero_le _, rfl, hJ _ W W2 none h0 ⟨HBB.out.os, HBB.out.tape, HBB.out.output, HBB.out.size, fun k hk _ => HBB.out.block k hk⟩ (fun r e => by cases e), ⟨fun _ _ _ _ h => h⟩⟩
    case round =>
      obtain ⟨k, hk, rfl, hJs, hnx⟩ := hrel
      by_cases hlt : k < xs.length
      · obtain ⟨g, rfl, hcell⟩ := row_kept HR.out (Nat.le_trans hN (by simp; omega)) hnx.out k hlt
        obtain ⟨fn, tmps, assign, body, hy, hR⟩ := hY _ ⟨k, hlt⟩ wr hJs (by rw [pres_length hk]; exact hlt)
        dsimp only [lencs] at hy
        gi_wp2
        refine hR.mono ?_
        rintro e W3 (⟨rfl, hJ3, hk3⟩ | ⟨rfl, hJx3⟩)
        · gi_wp2
          go_roundw
          case rel => exact ⟨k + 1, by omega, by simp, by rw [pres_succ hlt]; exact hJ3, ⟨keepsCells_t hnx.out hk3⟩⟩
          case measure => simp [intOf]; omega
        · gi_wp2
          refine bodyPost_ret (results_none rfl _ _ _) rfl ?_
          exact ⟨⟨_, rfl⟩, .inr ⟨_, trivial, hJx3⟩⟩
      · obtain rfl : k = xs.length := by omega
        gi_wp2
        go_end0
        exact ⟨⟨_, rfl⟩, .inl ⟨_, pres_all _, hJs⟩⟩

/-- What is laid of bytes. -/
def layOf (ah : Int) (bs : List Int) : List Int := if ah = 4 then head4 bs.length ++ bs else bs

theorem laid_stops (n : Nat) (hn : 1 ≤ n) (Ba Bb : Nat) (ah : Int) (hah : ah = 0 ∨ ah = 4) (A : Option Addr) (c : Nat) (bs xs : List Int) (hx : layOf ah bs = xs) (w : World) (ha : Ba < w.heap.size) (hb : Bb < w.heap.size)
    (hBa : w.cell? ⟨Ba, 0, none⟩ = some (.int .i64 ah)) (hBb : w.cell? ⟨Bb, 0, none⟩ = some (.slice A bs.length c)) (hc : Kd.C (Kd.int .u8) w A bs.length bs) (hcap : bs.length ≤ c) (hl : bs.length ≤ 1000000) :
    SeqStopsK Fence.wide n Try.prog 35 #[.pointer (some ⟨Bb, 0, none⟩), .pointer (some ⟨Ba, 0, none⟩)] (lencs xs) (KeepsCells w.heap.size) (fun ys => ys = List.finRange xs.length) (fun _ => True) xs.length w := fun l J Jx W hW hJ _ hY h0 => by
  have hBa' := (hW.cell (p := ⟨Ba, 0, none⟩) ha).trans hBa
  have hBb' := (hW.cell (p := ⟨Bb, 0, none⟩) hb).trans hBb
  have hc' := Kd.C_below hc hW
  unfold layOf at hx
  rcases hah with rfl | rfl
  · rw [if_neg (by decide)] at hx
    subst hx
    refine (laid1_in0 n hn l Ba Bb w.heap.size A c bs J Jx hY W hW.size hJ hBa' hBb' hc' hcap hl h0).mono ?_
    rintro e W' ⟨he, h | h⟩
    · exact ⟨he, .inl h⟩
    · exact ⟨he, .inr h⟩
  · rw [if_pos rfl] at hx
    refine (laid1_in4 n hn l Ba Bb w.heap.size A c bs xs ⟨hx⟩ J Jx hY W hW.size hJ hBa' hBb' hc' hcap hl (by rw [← hx]; simp [head4]; omega) h0).mono ?_
    rintro e W' ⟨he, h | h⟩
    · exact ⟨he, .inl h⟩
    · exact ⟨he, .inr h⟩
set_option maxHeartbeats 1000000 in
/-- layout.laid boxes its two arguments; the function value leads to them. -/
theorem laid_calls (ah : Int) (A : Option Addr) (len c : Nat) (w : World) :
    Calls Try.prog 25 #[.int .i64 ah, .slice A len c] w fun e w' => e = .returned (.func (.func 35) #[] #[.pointer (some ⟨w.heap.size + 1, 0, none⟩), .pointer (some ⟨w.heap.size, 0, none⟩)]) ∧ w' = (w.alloc (.cells #[.int .i64 ah] 3)).alloc (.cells #[.slice A len c] 24) := by
  go_enter Try.func25, Try.ntmps25
  go_wp2
  go_ret
  exact ⟨rfl, rfl⟩
end Go.Proofs.Ytibcgallhldnnaa.P
