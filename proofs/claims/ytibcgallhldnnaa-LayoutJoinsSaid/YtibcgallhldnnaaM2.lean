/- Plain law: slices.Concat over rows of bytes ends with the rows one behind the other, where they hold at most 2^39 bytes together. slices.Clone over bytes: a row of the call's own that holds the same, for every row of at most a million bytes. A region that draws its order and ends with a store, inside a round of a range over a function: walked in the order of the text. The iterator of layout.laid: what it hands to its caller's rounds. Rows of bytes that lie in blocks one behind the other: how they are made, written, and told as rows of the call's own. layout.Split: the shards of bytes, or why there are none. slices.ContainsFunc with Join's closure, slices.EqualFunc with slices.Equal: what each returns, for every row of rows of bytes. layout.Join: the bytes that shards are of, or why there are none. layout.Join, put together: what it returns, for every row of shards. awake answers true: five bytes in two shards, what a shard has, and the five bytes back. -/
import Derived.Test.YtibcgallhldnnaaPf29
import Derived.Test.YtibcgallhldnnaaP0
import Derived.Lib.SliceRun
import Derived.RangeFuncNested
import Derived.StillTailTactics
import Derived.OrdersIn
import Derived.TacticsIn
import Derived.RangeFuncBound
import Derived.RangeFuncCalls
import Derived.RangeFuncLeaves
import Derived.Shelf.Abstract
import Derived.Shelf.RegionOpen
import Derived.OwnWalkIn
import Derived.TacticsInMore
import Derived.LoopNIn
import Derived.LoopIn
import Derived.Test.YtibcgallhldnnaaPf10
import Derived.Test.YtibcgallhldnnaaPf22
import Derived.Test.YtibcgallhldnnaaPf32
import Derived.Test.YtibcgallhldnnaaPf30
import Derived.Deep.RegionWith
import Derived.Lib.SlBytesConst
namespace Go.Proofs.Ytibcgallhldnnaa.P
open Go.RowKit Go.Proofs.YtibcgallhldnnaaW.PrintWords Go.Proofs.YtibcgallhldnnaaW.PrintLast Go.Proofs.YtibcgallhldnnaaW.PrintMore
set_option linter.unusedVariables false
set_option linter.unusedSimpArgs false

theorem wrap_is (i : Int) (h0 : -9223372036854775808 ≤ i) (h : i < 9223372036854775808) : wrap64 i = i := by unfold wrap64; omega
theorem wrap_nat (i : Nat) (h : i < 4611686018427387904) : wrap64 ((i : Int) + 1) = ((i + 1 : Nat) : Int) := by unfold wrap64; omega
theorem rd_at (ls : List (List Int)) (i : Nat) (h : i < ls.length) : rd_L6 ls (i : Int) = ls[i] := by
  unfold rd_L6
  rw [Int.toNat_natCast, List.getD_eq_getElem?_getD, List.getElem?_eq_getElem h]; rfl
theorem flat_take (ls : List (List Int)) (i : Nat) (h : i < ls.length) : (ls.take (i + 1)).flatten = (ls.take i).flatten ++ ls[i] := by
  rw [List.take_succ_eq_append_getElem h, List.flatten_append]; simp
theorem flat_le (ls : List (List Int)) (i : Nat) : (ls.take i).flatten.length ≤ ls.flatten.length := by
  have : ls.flatten = (ls.take i).flatten ++ (ls.drop i).flatten := by rw [← List.flatten_append, List.take_append_drop]
  rw [this, List.length_append]; omega
theorem concat_l1 (ls : List (List Int)) (hn : ls.length ≤ 1000000) (hl : ls.flatten.length ≤ 549755813888) : ∀ m i : Nat, i + m = ls.length →
    slices_Concat_byte_byte.l1 (m + 1) (ls.take i).flatten ls (ls.length : Int) (i : Int) = some ls.flatten
  | 0, i, hi => by
    obtain rfl : i = ls.length := by omega
    rw [slices_Concat_byte_byte.l1, if_neg (by omega), List.take_length]
  | m + 1, i, hi => by
    have h : i < ls.length := by omega
    have h1 := flat_le ls (i + 1)
    rw [flat_take ls i h, List.length_append] at h1
    rw [slices_Concat_byte_byte.l1, if_pos (by omega), if_pos (by omega), if_pos (by omega), rd_at ls i h, if_pos (by omega), wrap_nat i (by omega), ← flat_take ls i h]
    exact concat_l1 ls hn hl m (i + 1) (by omega)
theorem concat_l0 (ls : List (List Int)) (hn : ls.length ≤ 1000000) (hl : ls.flatten.length ≤ 549755813888) : ∀ m i : Nat, i + m = ls.length →
    slices_Concat_byte_byte.l0 (m + 1 + (ls.length + 1)) ls (((ls.take i).flatten.length : Nat) : Int) ls (ls.length : Int) (i : Int) = some ls.flatten
  | 0, i, hi => by
    obtain rfl : i = ls.length := by omega
    rw [Nat.zero_add, Nat.add_comm 1, slices_Concat_byte_byte.l0, if_neg (by omega), List.take_length]
    unfold slices_Grow_byte_byte.f
    rw [if_pos rfl, if_pos (by omega), if_pos (by omega)]
    exact concat_l1 ls hn hl ls.length 0 (by omega)
  | m + 1, i, hi => by
    have h : i < ls.length := by omega
    have h1 := flat_le ls (i + 1)
    rw [flat_take ls i h, List.length_append] at h1
    have e : wrap64 ((((ls.take i).flatten.length : Nat) : Int) + ((ls[i]).length : Int)) = (((ls.take (i + 1)).flatten.length : Nat) : Int) := by
      rw [wrap_is _ (by omega) (by omega), flat_take ls i h, List.length_append]; omega
    rw [show m + 1 + 1 + (ls.length + 1) = (m + 1 + (ls.length + 1)) + 1 from by omega, slices_Concat_byte_byte.l0, if_pos (by omega), if_pos (by omega), if_pos (by omega), rd_at ls i h, e, if_neg (by omega), wrap_nat i (by omega)]
    exact concat_l0 ls hn hl m (i + 1) (by omega)
theorem concat_all (ls : List (List Int)) (hn : ls.length ≤ 1000000) (hl : ls.flatten.length ≤ 549755813888) : ∃ k, slices_Concat_byte_byte.f k ls = some ls.flatten :=
  ⟨ls.length + 1 + (ls.length + 1), concat_l0 ls hn hl ls.length 0 (by omega)⟩

/-- Concat's contract with no number of steps. -/
theorem concat_calls (A0 : Option Addr) (c0 : Nat) (l0 : List (List Int)) (w : World) (hr0 : Kd.C (Kd.slice 5 (Kd.int .u8)) w A0 l0.length l0) (hc0 : l0.length ≤ c0) (hn : l0.length ≤ 1000000) (hl : l0.flatten.length ≤ 549755813888) :
    Calls Try.prog 29 #[.slice A0 l0.length c0] w fun e w' => ∃ v0_ : Value, e = .returned (v0_) ∧ Kd.R (Kd.int .u8) 5 w' w.heap.size (fun _ => True) v0_ l0.flatten ∧ Below w.heap.size w w' := by
  obtain ⟨k, hk⟩ := concat_all l0 hn hl
  exact slices_Concat_byte_byte.calls k A0 c0 l0 _ w hr0 hc0 hk
end Go.Proofs.Ytibcgallhldnnaa.P
namespace Go.Proofs.Ytibcgallhldnnaa.P
open Go.RowKit Go.Proofs.YtibcgallhldnnaaW.PrintWords Go.Proofs.YtibcgallhldnnaaW.PrintLast Go.Proofs.YtibcgallhldnnaaW.PrintMore
set_option linter.unusedVariables false
set_option linter.unusedSimpArgs false

theorem row_cells {α : Type} {R : α → List Value → Prop} {size : Nat} {w : World} {A : Option Addr} {n : Nat} {ps : List α} (h : ReadsRow R size w A n ps) (hn : 0 < n) :
    ∃ ad inner, A = some ad ∧ Reps R size ps inner ∧ ∀ j u, inner[j]? = some u → w.cell? (ad.add j) = some u := by
  obtain ⟨ad, e, _⟩ := h.2.2 hn
  subst e
  obtain ⟨inner, hr, hc⟩ := ReadsRow.inner_ h
  exact ⟨ad, inner, rfl, hr, hc⟩
theorem C_none {α : Type} {d : Kd α} {w : World} {n : Nat} {xs : List α} (h : d.C w none n xs) : xs = [] := by
  rcases Nat.eq_zero_or_pos n with h0 | h0
  · exact List.eq_nil_of_length_eq_zero (by rw [h.1]; exact h0)
  · obtain ⟨ad, e, _⟩ := h.2.2 h0
    cases e
theorem later_cell {w : World} {a : Addr} {v : Value} {o : Obj} (h : w.cell? a = some v) : (w.alloc o).cell? a = some v := pw_cell_below (below_alloc (Below.refl _ _) o) h
theorem own_empty (w : World) (e size : Nat) : (w.alloc (.cells #[] e (0, 0))).ownsRow w.heap.size e size (.slice (some ⟨w.heap.size, 0, none⟩) 0 0) 0 [] :=
  ⟨by simp, .inr ⟨w.heap.size, 0, #[], rfl, Nat.le_refl _, heap_alloc_new _ _, Nat.le_refl _, by unfold maxLen; omega, by simp, by simp⟩⟩
/-- An append of nothing. -/
theorem run_append_nothing {P : Program} (w : World) (t ty e : TypeId) {z : Option Value} {size bytes : Nat} (ht : P.underlying t = some (.slice e)) (hi : (P.info? e).map (fun i => (i.zero, i.size, i.bytes)) = some (z, size, bytes)) (A : Option Addr) (n c : Nat) (B : Addr) (d : Nat) (hn : n ≤ c) :
    (Builtin.append_ #[t, t] ty #[.slice A n c, .slice (some B) 0 d]).run P w = .ok (.slice A n c) w := by
  cases hq : P.info? e with
  | none => simp [hq] at hi
  | some i =>
    have hfc := run_firstCells_some (P := P) w i.size 0 B 0 d [] (by simp) (fun j u hu => by simp at hu)
    cases A <;> simp [Builtin.append_, run_underlying ht, sizeOf, typeInfo, hq, Builtin.lenOf, hn, hfc, storeCells]
theorem wpList_append_nothing {P : Program} {w : World} {ops : Array Oper} {rest : List Oper} {o : Oper} {a : Act} {Q : Exit → Act → World → Prop} (hgd : o.guard = none) (s x : Operand) (t : TypeId)
    (ho : o.op = .call { callee := .builtin .append, args := #[s, x], argTypes := #[t, t] }) {e : TypeId} {z : Option Value} {size bytes : Nat} (ht : P.underlying t = some (.slice e)) (hi : (P.info? e).map (fun i => (i.zero, i.size, i.bytes)) = some (z, size, bytes))
    (A : Option Addr) (n c : Nat) (B : Addr) (d : Nat) (hs : a.eval s = .slice A n c) (hx : a.eval x = .slice (some B) 0 d) (h : wpList P ops Q rest (a.put o.dst (.slice A n c)) w) (hn : n ≤ c := by omega) : wpList P ops Q (o :: rest) a w := by
  refine wpList_plain hgd fun K hK => ?_
  have hrun := run_append_nothing (P := P) w t o.type e ht hi A n c B d hn
  unfold Oper.wp
  simp [execOp, ho, resolve, invoke, builtin, hs, hx, hrun, Result.andThen]
  exact hK _ _ h

def slices_Clone_byte_byte.f (l0 : List Int) : Option (List Int) := if l0.length ≤ 1000000 then some l0 else none
set_option maxHeartbeats 2000000 in
theorem slices_Clone_byte_byte.calls (A0 : Option Addr) (c0 : Nat) (l0 : List Int) (r : List Int) (w : World) (hr0 : Kd.C (Kd.int .u8) w A0 l0.length l0) (hc0 : l0.length ≤ c0) (h : slices_Clone_byte_byte.f l0 = some r) :
    Calls Try.prog 33 #[.slice A0 l0.length c0] w fun e w' => ∃ v0_ : Value, e = .returned (v0_) ∧ Kd.R (Kd.int .u8) 5 w' w.heap.size (fun _ => True) v0_ r ∧ Below w.heap.size w w' := by
  unfold slices_Clone_byte_byte.f at h
  by_cases hlen : l0.length ≤ 1000000
  case neg => rw [if_neg hlen] at h; exact absurd h (by simp)
  rw [if_pos hlen] at h
  obtain rfl := Option.some.inj h
  clear h hc0
  have hnil := Lib.run_eql_slice_nil (P := Try.prog)
  cases A0 with
  | none =>
    have h0 := C_none hr0
    subst h0
    go_enter Try.func33, Try.ntmps33
    go_wp2
    go_ret
    exact ⟨_, rfl, Kd.R_nil _ _ _ _ _, Below.refl _ _⟩
  | some a =>
    rcases Nat.eq_zero_or_pos l0.length with h0 | h0
    · obtain rfl := List.eq_nil_of_length_eq_zero h0
      clear h0 hlen hr0
      go_enter Try.func33, Try.ntmps33
      go_wp2_with (at_builtin; refine wpList_append_nothing rfl _ _ 24 rfl Try.underlying24 info5 (some ⟨w.heap.size, 0, none⟩) 0 0 a c0 rfl rfl ?_)
      go_ret
      exact ⟨_, rfl, ⟨fun _ _ => trivial, [], own_empty _ _ _, Reps.none _ _⟩, (Below.refl _ _).alloc (Nat.le_refl _) _⟩
    · obtain ⟨ad, cs, e1, hreps, hcs⟩ := row_cells hr0 h0
      cases e1
      obtain ⟨i0, hi, hz0, hz1, hz2⟩ := info_parts info5
      have hl := hreps.1
      have hone := Kd.reps_one hreps (by decide) (fun _ _ hx u hu => by
        have hx' : _ = [Value.int .u8 _] := hx
        rw [hx', List.mem_singleton] at hu; rw [hu]; rfl)
      have HR := Aside0.mk hreps
      have HC := Aside0.mk hcs
      have HI := Aside0.mk hi
      have HZ0 := Aside0.mk hz0
      have HZ1 := Aside0.mk hz1
      have HZ2 := Aside0.mk hz2
      have HL := Aside0.mk hl
      have H1 := Aside0.mk hone
      clear hreps hcs hi hz0 hz1 hz2 hl hone hr0
      go_enter Try.func33, Try.ntmps33
      go_wp2_with (at_builtin; refine wpList_append_grows _ rfl _ _ 24 rfl 5 i0 _ 1 1 Try.underlying24 HI.out HZ0.out HZ1.out HZ2.out rfl (by decide) (some ⟨w.heap.size, 0, none⟩) 0 0 [] rfl (fun h => by cases h) rfl (fun _ _ j u hu => by simp at hu) a l0.length c0 cs rfl HL.out ?ce H1.out (by omega) (by unfold maxLen; omega) (by omega) ?kk; (case ce => intro j u hu; exact later_cell (HC.out j u hu)); intro v' w1 hown hgrow; have HO := Aside0.mk hown; have HG := Aside0.mk hgrow; clear hown hgrow)
      go_ret
      have hb1 : Below w.heap.size w w1 := (((Below.refl _ _).alloc (Nat.le_refl _) _).grown HG.out (by simp) (fun k hk => by cases hk))
      have hown := HO.out
      rw [Nat.zero_add, List.nil_append] at hown
      exact ⟨_, rfl, ⟨fun _ _ => trivial, cs, own_weaken hown (by simp), HR.out.imp_ fun x c hx => hx⟩, hb1⟩

end Go.Proofs.Ytibcgallhldnnaa.P
namespace Go.Proofs.Ytibcgallhldnnaa.P
open Go
set_option linter.unusedVariables false
set_option linter.unusedSimpArgs false
variable {P : Program} {ops : Array Oper} {Q : Exit → Act → World → Prop} {md : Region.Mode}
theorem rowsIn_wide {n : Nat} {l : Nat} {row : String} {args : Array Value} {w : World} {R : Value → World → Prop} (h : Rows P row args w R) : RowsIn (Fence.wide.inRound l) n P row args w R :=
  fun c cs _ => let ⟨v, w', r, s⟩ := h c cs; ⟨v, w', r, stepsIn_wide.2 s⟩
theorem uponIn_of_plain {l n : Nat} {o : Oper} {a : Act} {K K' : Act → World → Prop} (hK : ∀ a w, K a w → K' a w) : ∀ r : Result Next, o.upon P a K Q r → o.uponIn (Fence.wide.inRound l) n P a K' Q r := by
  intro r h
  match r, h with
  | .ok (.value v) w', h => exact hK _ _ h
  | .ok .skip w', h => exact hK _ _ h
  | .ok (.defer d) w', h => exact hK _ _ h
  | .ok (.enter f args) w', h =>
    refine ⟨(fun e => by cases e), (callsIn_wide (n := n - 1)).2 (Calls.mono h ?_)⟩
    intro e w2 he
    match e, he with
    | .returned v, he => exact hK _ _ he
    | .panicked c, he => exact he
    | .outgrown, he => exact he
  | .ok (.row row args) w', h => exact ⟨(fun e => by cases e), rowsIn_wide (Rows.mono h (fun v w2 he => hK _ _ he))⟩
  | .halt (.panic v) w', h => exact h
theorem wpAnyIn_of_plain {l n : Nat} (hd : ∀ (j : Nat) (o : Oper), ops[j]? = some o → ∀ c, o.op ≠ .defer c) (hlo : ¬ LetsOut Q) :
    ∀ (fuel : Nat) (listed : Array Bool) (a : Act) (w : World), wpAny P md ops Q fuel listed a w → wpAnyIn (Fence.wide.inRound l) n P md ops Q fuel listed a w
  | 0, listed, a, w, h => h
  | fuel + 1, listed, a, w, h => by
    refine ⟨h.1, fun i hi => ?_⟩
    have h1 := h.2 i hi
    unfold wpOp at h1
    unfold wpOpIn
    cases hq : ops[i]? with
    | none => rw [hq] at h1; exact wpAnyIn_of_plain hd hlo fuel _ a w h1
    | some o =>
      rw [hq] at h1
      dsimp only at h1 ⊢
      by_cases hw : Region.wanted o (yielded ops a.tmps) = true
      · rw [if_pos hw] at h1 ⊢
        rcases h1 with h1 | h1
        · refine ⟨fun _ _ => trivial, ?_⟩
          rw [Fence.inRound_round, Oper.semAt_some l a.eval o (hd i o hq)]
          exact uponIn_of_plain (fun a w h => wpAnyIn_of_plain hd hlo fuel _ a w h) _ h1
        · exact absurd h1.2 hlo
      · rw [if_neg hw] at h1 ⊢
        exact ⟨fun _ _ => trivial, wpAnyIn_of_plain hd hlo fuel _ _ w h1⟩
theorem wpIn_round_still_tail {lo N id : Nat} {a : Act} {w : World} {l : List Oper} (n : Nat) (hm : P.follows .mixedOrders = true) (hB : Region.lexTailB .any l.toArray n = true)
    (hdB : (l.all fun o => match o.op with | .defer _ => false | _ => true) = true) (hlo : ¬ LetsOut Q)
    (h : wpStill P l.toArray w.drew (fun a' => wpList P l.toArray Q (l.drop n) a' w.drew) (l.take n) a) : (Code.region id l.toArray true).wpIn (Fence.wide.inRound lo) N P Q a w := by
  have hd : ∀ (j : Nat) (o : Oper), l.toArray[j]? = some o → ∀ c, o.op ≠ .defer c := by
    intro j o hj c e
    have h1 : o ∈ l := by
      rw [List.getElem?_toArray] at hj
      exact List.mem_of_getElem? hj
    have h2 := List.all_eq_true.1 hdB o h1
    rw [e] at h2
    cases h2
  simp only [Region.lexTailB, Bool.and_eq_true, decide_eq_true_eq] at hB
  obtain ⟨⟨⟨⟨hsel, hn⟩, hs⟩, hc⟩, hlex⟩ := hB
  have hn' : n < l.length := by simpa using hn
  have htl : (l.take n).length = n := by simp; omega
  have hdl : (l.drop n).length = l.toArray.size - n := by simp
  have inv0 : HeadInv .any l.toArray n (Array.replicate l.toArray.size false) :=
    ⟨by simp, fun j oj _ hl => (by rw [getD_replicate_false] at hl; cases hl), fun t _ ht => getD_in (by simpa using ht) (getD_replicate_false _ _)⟩
  have H := wpAnyL_lex (md := .any) (g := l.toArray.size - n) hsel hs hc hn (l.take n) 0 _ a (fun j hj => by
    have hj' : j < n := by rw [htl] at hj; exact hj
    simp [hj']) (by simpa using htl) inv0 (by rw [htl]; exact hlex) h
  refine wpIn_region_any hm (wpAnyIn_of_plain hd hlo _ _ _ _ ?_)
  have := wpAny_of_head (Q' := Q) (g := l.toArray.size - n) (fun listed a' hL => by
    have := wpAny_of_seq (md := .any) (Q' := Q) (l.drop n) n listed a' w.drew (fun j => by simp [List.getElem?_drop]) (by rw [hdl]; exact hL.1) hL.2
    rwa [hdl] at this) _ _ _ H
  rw [htl, show n + (l.toArray.size - n) = l.toArray.size by omega] at this
  exact this
end Go.Proofs.Ytibcgallhldnnaa.P
namespace Go.Proofs.Ytibcgallhldnnaa.P
open Go.RowKit Go.Shelf Go.Proofs.YtibcgallhldnnaaW.PrintWords Go.Proofs.YtibcgallhldnnaaW.PrintLast Go.Proofs.YtibcgallhldnnaaW.PrintMore
set_option linter.unusedVariables false
set_option linter.unusedSimpArgs false
attribute [local go_sem] Oper.semAt_some

/-- Whatever cells lie from N₁ on lie as they lay. -/
def KeepsCells (N₁ : Nat) (W W' : World) : Prop := ∀ k cs t, N₁ ≤ k → W.heap[k]? = some (.cells cs t (0, 0)) → W'.heap[k]? = some (.cells cs t (0, 0))
theorem keepsCells_t {N₁ : Nat} {A B C : World} (h : KeepsCells N₁ A B) (k : KeepsCells N₁ B C) : KeepsCells N₁ A C := fun i cs t hi hc => k i cs t hi (h i cs t hi hc)
theorem keepsCells_b {N₁ : Nat} (W : World) (l : Nat) (o o' : Obj) (h : W.heap[l]? = some o) (hc : o.isCells = false) : KeepsCells N₁ W (W.putObj l o') := fun k cs t hk hcs => by
  refine (World.putObj_heap_other (fun e => ?_)).trans hcs
  subst e
  rw [h] at hcs
  cases hcs
  cases hc

theorem under75 : Try.prog.underlying 75 = some (.array 4 5) := by kernel_rfl
theorem wrap4 : IntKind.i64.wrap 4 = 4 := by decide
theorem wrap44 : IntKind.i64.wrap (4 - 4) = 0 := by decide
theorem wrap0 : IntKind.i64.wrap 0 = 0 := by decide
theorem size5 (w : World) : (sizeOf 5).run Try.prog w = .ok 1 w := by
  obtain ⟨i0, hi, hz⟩ := Option.map_eq_some_iff.1 info5
  simp only [Prod.mk.injEq] at hz
  simp [sizeOf, typeInfo, hi, hz.2.1, Result.andThen]
theorem slice75_4 (B : Nat) (w : World) : (Instr.sliceAt 75 (.pointer (some ⟨B, 0, none⟩)) (some (.int .i64 4)) none none).run Try.prog w = .ok (.slice (some ⟨B, 0, none⟩) 0 0) w := by
  have h := run_sliceAt_array_l (P := Try.prog) w 75 ⟨B, 0, none⟩ under75 .i64 4 (by decide) (by decide)
  rw [h, show Try.prog.elem 75 = 5 from by kernel_rfl, size5, show Try.prog.arrayLen 75 = 4 from by kernel_rfl]
  rfl
theorem slice75_0 (B : Nat) (w : World) : (Instr.sliceAt 75 (.pointer (some ⟨B, 0, none⟩)) (some (.int .i64 0)) none none).run Try.prog w = .ok (.slice (some ⟨B, 0, none⟩) 4 4) w := by
  have h := run_sliceAt_array_l (P := Try.prog) w 75 ⟨B, 0, none⟩ under75 .i64 0 (by decide) (by decide)
  rw [h, show Try.prog.elem 75 = 5 from by kernel_rfl, size5, show Try.prog.arrayLen 75 = 4 from by kernel_rfl]
  rfl
attribute [local go_sem] wrap4 wrap44 wrap0 slice75_4 slice75_0
theorem C_two (W : World) (B : Nat) (A1 A2 : Option Addr) (c1 c2 : Nat) (l1 l2 : List Int) (h1 : W.cell? ⟨B, 0, none⟩ = some (.slice A1 l1.length c1)) (h2 : W.cell? ⟨B, 1, none⟩ = some (.slice A2 l2.length c2))
    (k1 : l1.length ≤ c1) (k2 : l2.length ≤ c2) (r1 : Kd.C (Kd.int .u8) W A1 l1.length l1) (r2 : Kd.C (Kd.int .u8) W A2 l2.length l2) : Kd.C (Kd.slice 5 (Kd.int .u8)) W (some ⟨B, 0, none⟩) [l1, l2].length [l1, l2] := by
  refine ⟨rfl, by simp, fun _ => ⟨_, rfl, fun j p hj => ?_⟩⟩
  match j, hj with
  | 0, hj =>
    cases hj
    refine ⟨_, rfl, ⟨A1, c1, rfl, k1, r1⟩, fun i u hu => ?_⟩
    match i, hu with
    | 0, hu => cases hu; exact h1
  | 1, hj =>
    cases hj
    refine ⟨_, rfl, ⟨A2, c2, rfl, k2, r2⟩, fun i u hu => ?_⟩
    match i, hu with
    | 0, hu => cases hu; exact h2
theorem C_none_at (W : World) (A : Option Addr) : Kd.C (Kd.int .u8) W A ([] : List Int).length [] := ⟨rfl, by simp, fun h => absurd h (Nat.lt_irrefl 0)⟩
theorem concat_two {n : Nat} (f bs xs : List Int) (hx : f ++ bs = xs) (W : World) (B : Nat) (A1 A2 : Option Addr) (c1 c2 : Nat) (h1 : W.cell? ⟨B, 0, none⟩ = some (.slice A1 f.length c1)) (h2 : W.cell? ⟨B, 1, none⟩ = some (.slice A2 bs.length c2))
    (k1 : f.length ≤ c1) (k2 : bs.length ≤ c2) (r1 : Kd.C (Kd.int .u8) W A1 f.length f) (r2 : Kd.C (Kd.int .u8) W A2 bs.length bs) (hl : xs.length ≤ 549755813888) :
    CallsIn Fence.wide n Try.prog 29 #[.slice (some ⟨B, 0, none⟩) 2 2] W fun e W' => ∃ (ao : Option Addr) (co : Nat), e = .returned (.slice ao xs.length co) ∧ Kd.R (Kd.int .u8) 5 W' W.heap.size (fun _ => True) (.slice ao xs.length co) xs ∧ Below W.heap.size W W' := by
  refine callsIn_wide.2 ((concat_calls (some ⟨B, 0, none⟩) 2 [f, bs] W (C_two W B A1 A2 c1 c2 f bs h1 h2 k1 k2 r1 r2) (Nat.le_refl _) (by simp) (by rw [← hx] at hl; simpa using hl)).mono ?_)
  rintro e W' ⟨v, rfl, hR, hb⟩
  have e1 : [f, bs].flatten = xs := by rw [← hx]; simp
  rw [e1] at hR
  obtain ⟨ao, co, rfl⟩ := Kd.R_slice hR
  exact ⟨ao, co, rfl, hR, hb⟩

abbrev lencs (xs : List Int) (i : Fin xs.length) : Array Value := #[.int .i64 ((i.1 : Nat) : Int), .int .u8 xs[i.1]]
def pres (n k : Nat) : List (Fin n) := (List.finRange n).take k
theorem pres_succ {n k : Nat} (h : k < n) : pres n (k + 1) = pres n k ++ [⟨k, h⟩] := by
  unfold pres
  rw [List.take_succ_eq_append_getElem (by simpa using h)]
  simp
theorem pres_length {n k : Nat} (h : k ≤ n) : (pres n k).length = k := by simp [pres, h]
theorem pres_all (n : Nat) : pres n n = List.finRange n := by unfold pres; exact List.take_of_length_le (by simp)

theorem row_kept {N₁ base co : Nat} {W2 wr : World} {ao : Option Addr} {xs : List Int} (hR : Kd.R (Kd.int .u8) 5 W2 base (fun _ => True) (.slice ao xs.length co) xs) (hN : N₁ ≤ base) (hk : KeepsCells N₁ W2 wr) (k : Nat) (h : k < xs.length) :
    ∃ g, ao = some ⟨g, 0, none⟩ ∧ wr.cell? ⟨g, k, none⟩ = some (.int .u8 xs[k]) := by
  obtain ⟨_, inner, ⟨hl, hform⟩, hreps⟩ := hR
  rcases hform with ⟨_, hz⟩ | ⟨g, cap, cur, hv, hg, hh, h3, h4, h5, h6⟩
  · omega
  · injection hv with e1 e2 e3
    refine ⟨g, e1, ?_⟩
    have hb := hk g cur 5 (by omega) hh
    rw [blk_cell hb k]
    have h7 := hreps.2 k xs[k] (List.getElem?_eq_getElem h)
    have h8 : (inner.drop (k * 1)).take 1 = [Value.int .u8 xs[k]] := h7
    have h9 : inner[k]? = some (Value.int .u8 xs[k]) := by
      have := congrArg (fun q => q[0]?) h8
      simpa [List.getElem?_take, List.getElem?_drop] using this
    rw [← h6, List.getElem?_take] at h9
    split at h9
    · simpa using h9
    · cases h9

def head4 (n : Nat) : List Int := [(n : Int) / 256 / 256 / 256, (n : Int) / 256 / 256, (n : Int) / 256 % 256, (n : Int) % 256]
theorem C_four (W : World) (B : Nat) (a b c d : Int) (h : W.heap[B]? = some (.cells #[.int .u8 a, .int .u8 b, .int .u8 c, .int .u8 d] 75 (0, 0))) : Kd.C (Kd.int .u8) W (some ⟨B, 0, none⟩) 4 [a, b, c, d] := by
  refine ⟨rfl, by decide, fun _ => ⟨_, rfl, fun j p hj => ⟨[.int .u8 p], rfl, rfl, fun i u hu => ?_⟩⟩⟩
  match i, hu with
  | 0, hu =>
    cases hu
    match j, hj with
    | 0, hj => cases hj; exact blk_cell h 0
    | 1, hj => cases hj; exact blk_cell h 1
    | 2, hj => cases hj; exact blk_cell h 2
    | 3, hj => cases hj; exact blk_cell h 3
set_option maxRecDepth 100000 in
set_option maxHeartbeats 4000000 in
theorem laid1_in0 (n : Nat) (hn : 1 ≤ n) (l Ba Bb N₁ : Nat) (A : Option Addr) (c : Nat) (bs : List Int) (J Jx : List (Fin bs.length) → World → Prop)
    (hY : ∀ pre x W, J pre W → pre.length < bs.length → YieldAt Fence.wide (n - 1) Try.prog l (lencs bs x) W fun e W' =>
      (e = .returned (.bool true) ∧ J (pre ++ [x]) W' ∧ KeepsCells N₁ W W') ∨ (e = .returned (.bool false) ∧ Jx (pre ++ [x]) W'))
    (W : World) (hN : N₁ ≤ W.heap.size) (hJ : AbidesFrom W.heap.size J) (hBa : W.cell? ⟨Ba, 0, none⟩ = some (.int .i64 0)) (hBb : W.cell? ⟨Bb, 0, none⟩ = some (.slice A bs.length c)) (hc : Kd.C (Kd.int .u8) W A bs.length bs) (hcap : bs.length ≤ c) (hl : bs.length ≤ 1000000) (h0 : J [] W) :
    CallsIn Fence.wide n Try.prog 35 #[.func (.yield l) #[] #[], .pointer (some ⟨Bb, 0, none⟩), .pointer (some ⟨Ba, 0, none⟩)] W fun e W' => (∃ v, e = .returned v) ∧
      ((∃ ys, ys = List.finRange bs.length ∧ J ys W') ∨ (∃ pre, True ∧ Jx pre W')) := by
  refine callsIn_of_wp Try.func35 rfl trivial ?_ rfl
  simp only [Try.ntmps35, List.size_toArray, List.length_cons, List.length_nil, Nat.reduceAdd, Nat.reduceSub, Array.replicate_succ, Array.replicate_zero, List.push_toArray, List.append_toArray, List.nil_append, List.cons_append]
  gi_wp2
  obtain ⟨B1, hB1⟩ : ∃ o, o = Obj.cells #[Value.int IntKind.u8 (↑bs.length / 256 / 256 / 256), Value.int IntKind.u8 (↑bs.length / 256 / 256), Value.int IntKind.u8 (↑bs.length / 256 % 256), Value.int IntKind.u8 (↑bs.length % 256)] 75 := ⟨_, rfl⟩
  rw [← hB1]
  have hBa1 := later_cell (o := B1) hBa
  have hBb1 := later_cell (o := B1) hBb
  have hc1 := Kd.C_below hc (below_alloc (Below.refl _ _) B1)
  have hsz : (W.alloc B1).heap.size = W.heap.size + 1 := World.size_alloc _ _
  have hb1 : Below W.heap.size W (W.alloc B1) := below_alloc (Below.refl _ _) B1
  obtain ⟨W1, hW1⟩ : ∃ W1, W1 = W.alloc B1 := ⟨_, rfl⟩
  rw [← hW1] at hBa1 hBb1 hc1 hsz hb1
  rw [← hW1]
  have HB1 := Aside0.mk hB1
  have HW1 := Aside0.mk hW1
  clear hB1 hW1
  have hBa2 : W1.drew.cell? ⟨Ba, 0, none⟩ = _ := hBa1
  have hBb2 : W1.drew.cell? ⟨Bb, 0, none⟩ = _ := hBb1
  have hmix : Try.prog.follows .mixedOrders = true := by kernel_rfl
  gi_region_with (refine ⟨trivial, ?_⟩; refine (concat_two [] bs bs rfl _ (W.heap.size + 1) (some ⟨W.heap.size, 0, none⟩) A 0 c ?h1 ?h2 (Nat.le_refl _) hcap (C_none_at _ _) ?r2 (by omega)).mono ?_; (case h1 => have q := blk_cell (heap_alloc_new W1 (.cells #[.slice (some ⟨W.heap.size, 0, none⟩) 0 0, .slice A bs.length c] 24)) 0; rw [hsz] at q; exact q); (case h2 => have q := blk_cell (heap_alloc_new W1 (.cells #[.slice (some ⟨W.heap.size, 0, none⟩) 0 0, .slice A bs.length c] 24)) 1; rw [hsz] at q; exact q); (case r2 => exact Kd.C_below hc1 (below_drew (below_alloc (Below.refl _ _) _))); rintro e W2 ⟨ao, co, rfl, hR, hb⟩; have HR := Aside0.mk hR; have HBB := Aside0.mk (below_step (below_step hb1 (below_drew (below_alloc (Below.refl _ _) _))) hb); clear hR hb)
  all_goals
    gi_wp2
    gi_loopw [32] (fun i wr => ∃ k : Nat, k ≤ bs.length ∧ i = .int .i64 k ∧ J (pres bs.length k) wr ∧ Aside0 (KeepsCells N₁ W2 wr))
      (fun i _ => bs.length - (intOf i).toNat)
    case atStart =>
      exact ⟨0, Nat.zero_le _, rfl, hJ _ W W2 none h0 ⟨HBB.out.os, HBB.out.tape, HBB.out.output, HBB.out.size, fun k hk _ => HBB.out.block k hk⟩ (fun r e => by cases e), ⟨fun _ _ _ _ h => h⟩⟩
    case round =>
      obtain ⟨k, hk, rfl, hJs, hnx⟩ := hrel
      by_cases hlt : k < bs.length
      · obtain ⟨g, rfl, hcell⟩ := row_kept HR.out (Nat.le_trans hN (by simp; omega)) hnx.out k hlt
        obtain ⟨fn, tmps, assign, body, hy, hR⟩ := hY _ ⟨k, hlt⟩ wr hJs (by rw [pres_length hk]; exact hlt)
        dsimp only [lencs] at hy
        gi_wp2
        refine hR.mono ?_
        rintro e W3 (⟨rfl, hJ3, hk3⟩ | ⟨rfl, hJx3⟩)
        · gi_wp2
          go_roundw
          case rel => exact ⟨k + 1, by omega, by simp, by rw [pres_succ hlt]; exact hJ3, ⟨keepsCells_t hnx.out hk3⟩⟩
          case measure => simp [intOf]; omega
        · gi_wp2
          refine bodyPost_ret (results_none rfl _ _ _) rfl ?_
          exact ⟨⟨_, rfl⟩, .inr ⟨_, trivial, hJx3⟩⟩
      · obtain rfl : k = bs.length := by omega
        gi_wp2
        go_end0
        exact ⟨⟨_, rfl⟩, .inl ⟨_, pres_all _, hJs⟩⟩
set_option maxRecDepth 100000 in
set_option maxHeartbeats 4000000 in
theorem laid1_in4 (n : Nat) (hn : 1 ≤ n) (l Ba Bb N₁ : Nat) (A : Option Addr) (c : Nat) (bs xs : List Int) (hx : Aside0 (head4 bs.length ++ bs = xs)) (J Jx : List (Fin xs.length) → World → Prop)
    (hY : ∀ pre x W, J pre W → pre.length < xs.length → YieldAt Fence.wide (n - 1) Try.prog l (lencs xs x) W fun e W' =>
      (e = .returned (.bool true) ∧ J (pre ++ [x]) W' ∧ KeepsCells N₁ W W') ∨ (e = .returned (.bool false) ∧ Jx (pre ++ [x]) W'))
    (W : World) (hN : N₁ ≤ W.heap.size) (hJ : AbidesFrom W.heap.size J) (hBa : W.cell? ⟨Ba, 0, none⟩ = some (.int .i64 4)) (hBb : W.cell? ⟨Bb, 0, none⟩ = some (.slice A bs.length c)) (hc : Kd.C (Kd.int .u8) W A bs.length bs) (hcap : bs.length ≤ c) (hl : bs.length ≤ 1000000) (hlx : xs.length ≤ 1000004) (h0 : J [] W) :
    CallsIn Fence.wide n Try.prog 35 #[.func (.yield l) #[] #[], .pointer (some ⟨Bb, 0, none⟩), .pointer (some ⟨Ba, 0, none⟩)] W fun e W' => (∃ v, e = .returned v) ∧
      ((∃ ys, ys = List.finRange xs.length ∧ J ys W') ∨ (∃ pre, True ∧ Jx pre W')) := by
  refine callsIn_of_wp Try.func35 rfl trivial ?_ rfl
  simp only [Try.ntmps35, List.size_toArray, List.length_cons, List.length_nil, Nat.reduceAdd, Nat.reduceSub, Array.replicate_succ, Array.replicate_zero, List.push_toArray, List.append_toArray, List.nil_append, List.cons_append]
  gi_wp2
  obtain ⟨B1, hB1⟩ : ∃ o, o = Obj.cells #[Value.int IntKind.u8 (↑bs.length / 256 / 256 / 256), Value.int IntKind.u8 (↑bs.length / 256 / 256), Value.int IntKind.u8 (↑bs.length / 256 % 256), Value.int IntKind.u8 (↑bs.length % 256)] 75 := ⟨_, rfl⟩
  rw [← hB1]
  have hBa1 := later_cell (o := B1) hBa
  have hBb1 := later_cell (o := B1) hBb
  have hc1 := Kd.C_below hc (below_alloc (Below.refl _ _) B1)
  have hsz : (W.alloc B1).heap.size = W.heap.size + 1 := World.size_alloc _ _
  have hb1 : Below W.heap.size W (W.alloc B1) := below_alloc (Below.refl _ _) B1
  obtain ⟨W1, hW1⟩ : ∃ W1, W1 = W.alloc B1 := ⟨_, rfl⟩
  rw [← hW1] at hBa1 hBb1 hc1 hsz hb1
  rw [← hW1]
  have HB4 : Aside0 (W1.heap[W.heap.size]? = some (.cells #[.int .u8 ((bs.length : Int) / 256 / 256 / 256), .int .u8 ((bs.length : Int) / 256 / 256), .int .u8 ((bs.length : Int) / 256 % 256), .int .u8 ((bs.length : Int) % 256)] 75 (0, 0))) := ⟨by rw [hW1, hB1]; exact heap_alloc_new _ _⟩
  have HB1 := Aside0.mk hB1
  have HW1 := Aside0.mk hW1
  clear hB1 hW1
  have hBa2 : W1.drew.cell? ⟨Ba, 0, none⟩ = _ := hBa1
  have hBb2 : W1.drew.cell? ⟨Bb, 0, none⟩ = _ := hBb1
  have hmix : Try.prog.follows .mixedOrders = true := by kernel_rfl
  gi_region_with (refine ⟨trivial, ?_⟩; refine (concat_two (head4 bs.length) bs xs hx.out _ (W.heap.size + 1) (some ⟨W.heap.size, 0, none⟩) A 4 c ?h1 ?h2 (Nat.le_refl _) hcap ?r1 ?r2 (by omega)).mono ?_; (case h1 => have q := blk_cell (heap_alloc_new W1 (.cells #[.slice (some ⟨W.heap.size, 0, none⟩) 4 4, .slice A bs.length c] 24)) 0; rw [hsz] at q; exact q); (case h2 => have q := blk_cell (heap_alloc_new W1 (.cells #[.slice (some ⟨W.heap.size, 0, none⟩) 4 4, .slice A bs.length c] 24)) 1; rw [hsz] at q; exact q); (case r1 => exact C_four _ _ _ _ _ _ (blk_drew (blk_alloc HB4.out _))); (case r2 => exact Kd.C_below hc1 (below_drew (below_alloc (Below.refl _ _) _))); rintro e W2 ⟨ao, co, rfl, hR, hb⟩; have HR := Aside0.mk hR; have HBB := Aside0.mk (below_step (below_step hb1 (below_drew (below_alloc (Below.refl _ _) _))) hb); clear hR hb)
  all_goals
    gi_wp2
    gi_loopw [32] (fun i wr => ∃ k : Nat, k ≤ xs.length ∧ i = .int .i64 k ∧ J (pres xs.length k) wr ∧ Aside0 (KeepsCells N₁ W2 wr))
      (fun i _ => xs.length - (intOf i).toNat)
    case atStart =>
      exact ⟨0, Nat.zero_le _, rfl, hJ _ W W2 none h0 ⟨HBB.out.os, HBB.out.tape, HBB.out.output, HBB.out.size, fun k hk _ => HBB.out.block k hk⟩ (fun r e => by cases e), ⟨fun _ _ _ _ h => h⟩⟩
    case round =>
      obtain ⟨k, hk, rfl, hJs, hnx⟩ := hrel
      by_cases hlt : k < xs.length
      · obtain ⟨g, rfl, hcell⟩ := row_kept HR.out (Nat.le_trans hN (by simp; omega)) hnx.out k hlt
        obtain ⟨fn, tmps, assign, body, hy, hR⟩ := hY _ ⟨k, hlt⟩ wr hJs (by rw [pres_length hk]; exact hlt)
        dsimp only [lencs] at hy
        gi_wp2
        refine hR.mono ?_
        rintro e W3 (⟨rfl, hJ3, hk3⟩ | ⟨rfl, hJx3⟩)
        · gi_wp2
          go_roundw
          case rel => exact ⟨k + 1, by omega, by simp, by rw [pres_succ hlt]; exact hJ3, ⟨keepsCells_t hnx.out hk3⟩⟩
          case measure => simp [intOf]; omega
        · gi_wp2
          refine bodyPost_ret (results_none rfl _ _ _) rfl ?_
          exact ⟨⟨_, rfl⟩, .inr ⟨_, trivial, hJx3⟩⟩
      · obtain rfl : k = xs.length := by omega
        gi_wp2
        go_end0
        exact ⟨⟨_, rfl⟩, .inl ⟨_, pres_all _, hJs⟩⟩

/-- What is laid of bytes. -/
def layOf (ah : Int) (bs : List Int) : List Int := if ah = 4 then head4 bs.length ++ bs else bs

theorem laid_stops (n : Nat) (hn : 1 ≤ n) (Ba Bb : Nat) (ah : Int) (hah : ah = 0 ∨ ah = 4) (A : Option Addr) (c : Nat) (bs xs : List Int) (hx : layOf ah bs = xs) (w : World) (ha : Ba < w.heap.size) (hb : Bb < w.heap.size)
    (hBa : w.cell? ⟨Ba, 0, none⟩ = some (.int .i64 ah)) (hBb : w.cell? ⟨Bb, 0, none⟩ = some (.slice A bs.length c)) (hc : Kd.C (Kd.int .u8) w A bs.length bs) (hcap : bs.length ≤ c) (hl : bs.length ≤ 1000000) :
    SeqStopsK Fence.wide n Try.prog 35 #[.pointer (some ⟨Bb, 0, none⟩), .pointer (some ⟨Ba, 0, none⟩)] (lencs xs) (KeepsCells w.heap.size) (fun ys => ys = List.finRange xs.length) (fun _ => True) xs.length w := fun l J Jx W hW hJ _ hY h0 => by
  have hBa' := (hW.cell (p := ⟨Ba, 0, none⟩) ha).trans hBa
  have hBb' := (hW.cell (p := ⟨Bb, 0, none⟩) hb).trans hBb
  have hc' := Kd.C_below hc hW
  unfold layOf at hx
  rcases hah with rfl | rfl
  · rw [if_neg (by decide)] at hx
    subst hx
    refine (laid1_in0 n hn l Ba Bb w.heap.size A c bs J Jx hY W hW.size hJ hBa' hBb' hc' hcap hl h0).mono ?_
    rintro e W' ⟨he, h | h⟩
    · exact ⟨he, .inl h⟩
    · exact ⟨he, .inr h⟩
  · rw [if_pos rfl] at hx
    refine (laid1_in4 n hn l Ba Bb w.heap.size A c bs xs ⟨hx⟩ J Jx hY W hW.size hJ hBa' hBb' hc' hcap hl (by rw [← hx]; simp [head4]; omega) h0).mono ?_
    rintro e W' ⟨he, h | h⟩
    · exact ⟨he, .inl h⟩
    · exact ⟨he, .inr h⟩
set_option maxHeartbeats 1000000 in
/-- layout.laid boxes its two arguments; the function value leads to them. -/
theorem laid_calls (ah : Int) (A : Option Addr) (len c : Nat) (w : World) :
    Calls Try.prog 25 #[.int .i64 ah, .slice A len c] w fun e w' => e = .returned (.func (.func 35) #[] #[.pointer (some ⟨w.heap.size + 1, 0, none⟩), .pointer (some ⟨w.heap.size, 0, none⟩)]) ∧ w' = (w.alloc (.cells #[.int .i64 ah] 3)).alloc (.cells #[.slice A len c] 24) := by
  go_enter Try.func25, Try.ntmps25
  go_wp2
  go_ret
  exact ⟨rfl, rfl⟩
end Go.Proofs.Ytibcgallhldnnaa.P
namespace Go.Proofs.Ytibcgallhldnnaa.P
open Go.RowKit Go.Proofs.YtibcgallhldnnaaW.PrintWords Go.Proofs.YtibcgallhldnnaaW.PrintLast Go.Proofs.YtibcgallhldnnaaW.PrintMore
set_option linter.unusedVariables false
set_option linter.unusedSimpArgs false

def bytesArr (l : List Int) : Array Value := (l.map (Value.int .u8)).toArray
def ptrs (B size k K : Nat) : Array Value := ((List.range k).map (fun j => Value.slice (some ⟨B + j, 0, none⟩) size size) ++ List.replicate (K - k) (Value.slice none 0 0)).toArray
theorem ptrs_zero (B size K : Nat) : madeCells #[.slice none 0 0] K = ptrs B size 0 K := by
  apply Array.ext'
  rw [toList_madeCells_one]
  simp [ptrs]
theorem ptrs_size (B size k K : Nat) (h : k ≤ K) : (ptrs B size k K).size = K := by simp [ptrs]; omega
theorem ptrs_get (B size k K j : Nat) (h : j < k) : (ptrs B size k K)[j]? = some (.slice (some ⟨B + j, 0, none⟩) size size) := by
  simp only [ptrs, List.getElem?_toArray]
  rw [List.getElem?_append_left (by simpa using h)]
  simp [h]
theorem ptrs_get_nil (B size k K : Nat) (h : k < K) : (ptrs B size k K)[k]? = some (.slice none 0 0) := by
  simp only [ptrs, List.getElem?_toArray]
  rw [List.getElem?_append_right (by simp)]
  simp only [List.length_map, List.length_range, Nat.sub_self, List.getElem?_replicate]
  rw [if_pos (by omega)]
theorem ptrs_set (B size k K : Nat) (h : k < K) : (ptrs B size k K).setIfInBounds k (.slice (some ⟨B + k, 0, none⟩) size size) = ptrs B size (k + 1) K := by
  apply Array.ext'
  simp only [ptrs, Array.toList_setIfInBounds]
  rw [List.set_append_right _ _ (by simp), List.range_succ, List.map_append]
  simp only [List.length_map, List.length_range, Nat.sub_self]
  obtain ⟨m, hm⟩ : ∃ m, K - k = m + 1 := ⟨K - k - 1, by omega⟩
  rw [hm, show K - (k + 1) = m from by omega, List.replicate_succ]
  simp
theorem made_bytes (n : Nat) : madeCells #[.int .u8 0] n = bytesArr (List.replicate n 0) := by
  apply Array.ext'
  rw [toList_madeCells_one]
  simp [bytesArr]
theorem bytesArr_set (l : List Int) (r : Nat) (v : Int) : (bytesArr l).setIfInBounds r (.int .u8 v) = bytesArr (l.set r v) := by
  apply Array.ext'
  simp [bytesArr, List.map_set]
theorem bytesArr_get (l : List Int) (r : Nat) (h : r < l.length) : (bytesArr l)[r]? = some (.int .u8 l[r]) := by
  simp [bytesArr, h]
theorem bytesArr_size (l : List Int) : (bytesArr l).size = l.length := by simp [bytesArr]

def rowAt (fl : List Int) (size j : Nat) : List Int := (fl.drop (j * size)).take size
theorem rowAt_length (fl : List Int) (size j K : Nat) (h : fl.length = K * size) (hj : j < K) : (rowAt fl size j).length = size := by
  have : (j + 1) * size ≤ K * size := Nat.mul_le_mul_right _ hj
  rw [Nat.add_mul, Nat.one_mul] at this
  simp only [rowAt, List.length_take, List.length_drop]; omega
theorem rowAt_set (fl : List Int) (size i j : Nat) (v : Int) (hs : 0 < size) : rowAt (fl.set i v) size j = if j = i / size then (rowAt fl size j).set (i % size) v else rowAt fl size j := by
  have hd : i / size * size + i % size = i := Nat.div_add_mod' i size
  have hm := Nat.mod_lt i hs
  unfold rowAt
  by_cases h : j = i / size
  · rw [if_pos h, List.drop_set, if_neg (by rw [h]; omega), List.take_set]
    rw [show i - j * size = i % size from by rw [h]; omega]
  · rw [if_neg h, List.drop_set]
    by_cases h1 : i < j * size
    · rw [if_pos h1]
    · rw [if_neg h1, List.take_set]
      have h2 : (j + 1) ≤ i / size := by
        have := (Nat.le_div_iff_mul_le hs).2 (Nat.le_of_not_lt h1)
        omega
      have h3 := Nat.mul_le_mul_right size h2
      rw [Nat.add_mul, Nat.one_mul] at h3
      rw [List.set_eq_of_length_le]
      simp only [List.length_take, List.length_drop]; omega

def fillL (N : Nat) (xs : List Int) (pre : List (Fin xs.length)) : List Int := pre.foldl (fun fl i => fl.set i.1 xs[i.1]) (List.replicate N 0)
theorem fill_snoc (N : Nat) (xs : List Int) (pre : List (Fin xs.length)) (i : Fin xs.length) : fillL N xs (pre ++ [i]) = (fillL N xs pre).set i.1 xs[i.1] := by simp [fillL]
theorem fold_set_length (xs : List Int) : ∀ (pre : List (Fin xs.length)) (l : List Int), (pre.foldl (fun fl i => fl.set i.1 xs[i.1]) l).length = l.length
  | [], l => rfl
  | i :: pre, l => by rw [List.foldl_cons, fold_set_length xs pre, List.length_set]
theorem fill_length (N : Nat) (xs : List Int) (pre : List (Fin xs.length)) : (fillL N xs pre).length = N := by
  unfold fillL
  rw [fold_set_length, List.length_replicate]
theorem fill_pres (N : Nat) (xs : List Int) (h : xs.length ≤ N) : ∀ k, k ≤ xs.length → fillL N xs (pres xs.length k) = xs.take k ++ List.replicate (N - k) 0
  | 0, _ => by simp [fillL, pres]
  | k + 1, hk => by
    rw [pres_succ (by omega), fill_snoc, fill_pres N xs h k (by omega)]
    show (xs.take k ++ List.replicate (N - k) 0).set k xs[k] = _
    rw [List.set_append_right _ _ (by simp; omega), List.take_succ_eq_append_getElem (by omega)]
    simp only [List.length_take]
    rw [show k - min k xs.length = 0 from by omega]
    obtain ⟨m, hm⟩ : ∃ m, N - k = m + 1 := ⟨N - k - 1, by omega⟩
    rw [hm, show N - (k + 1) = m from by omega, List.replicate_succ, List.set_cons_zero, List.append_assoc]
    rfl
theorem fill_all (N : Nat) (xs : List Int) (h : xs.length ≤ N) : fillL N xs (List.finRange xs.length) = xs ++ List.replicate (N - xs.length) 0 := by
  rw [← pres_all, fill_pres N xs h _ (Nat.le_refl _), List.take_length]

theorem S_of_blocks (W : World) (base G B size K : Nat) (rows : Nat → List Int) (hG : W.heap[G]? = some (.cells (ptrs B size K K) 24 (0, 0))) (hr : ∀ j, j < K → W.heap[B + j]? = some (.cells (bytesArr (rows j)) 5 (0, 0)))
    (hl : ∀ j, j < K → (rows j).length = size) (h1 : base ≤ G) (h2 : base ≤ B) (h3 : G < B) (hK : K ≤ 1000000) (hsz : size ≤ 1000000) :
    Kd.S (Kd.slice 5 (Kd.int .u8)) 24 W base (fun _ => True) (.slice (some ⟨G, 0, none⟩) K K) ((List.range K).map rows) := by
  refine ⟨fun k => k - B, fun _ _ => trivial, (ptrs B size K K).toList, ⟨?_, .inr ⟨G, K, ptrs B size K K, ?_, h1, hG, by simp, by unfold maxLen; omega, ?_, ?_⟩⟩, ?_, ?_⟩
  · simp [ptrs, Kd.tag, Kd.slice]
  · simp
  · rw [ptrs_size _ _ _ _ (Nat.le_refl _)]; exact (Nat.mul_one _).symm
  · rw [List.take_of_length_le]
    simp [ptrs, Kd.tag, Kd.slice]
  · simp [ptrs, Kd.tag, Kd.slice]
  · intro j p hp
    rw [List.getElem?_zipIdx] at hp
    have hj : j < K := by
      rcases Nat.lt_or_ge j K with h | h
      · exact h
      · rw [List.getElem?_eq_none (by simpa using h)] at hp; cases hp
    rw [List.getElem?_map, List.getElem?_range hj] at hp
    simp only [Option.map_some, Option.some.injEq, Nat.zero_add] at hp
    subst hp
    have hc : ((ptrs B size K K).toList.drop (j * 1)).take 1 = [Value.slice (some ⟨B + j, 0, none⟩) size size] := by
      have h4 := ptrs_get B size K K j hj
      have h5 : j < (ptrs B size K K).toList.length := by rw [Array.length_toList, ptrs_size _ _ _ _ (Nat.le_refl _)]; exact hj
      rw [Nat.mul_one, List.drop_eq_getElem_cons h5]
      simp only [List.take_succ_cons, List.take_zero, List.cons.injEq, and_true]
      have h6 : (ptrs B size K K).toList[j]? = some (.slice (some ⟨B + j, 0, none⟩) size size) := by rw [Array.getElem?_toList]; exact h4
      rw [List.getElem?_eq_getElem h5] at h6
      exact Option.some.inj h6
    show Kd.M (Kd.slice 5 (Kd.int .u8)) W base _ (rows j) (((ptrs B size K K).toList.drop (j * 1)).take 1)
    rw [hc]
    refine ⟨_, rfl, fun k hk => ?_, (bytesArr (rows j)).toList, ⟨?_, .inr ⟨B + j, size, bytesArr (rows j), ?_, by omega, hr j hj, ?_, by unfold maxLen; omega, ?_, ?_⟩⟩, ?_⟩
    · simp only [Value.ownBlock, Option.some.injEq] at hk
      subst hk
      refine ⟨⟨trivial, ?_⟩, by simp⟩
      simp only [Value.ownBlock, ne_eq, Option.some.injEq]; omega
    · simp [bytesArr, Kd.int, Kd.scalar]
    · rw [hl j hj]
    · rw [hl j hj]; exact Nat.le_refl _
    · rw [bytesArr_size, hl j hj]; exact (Nat.mul_one _).symm
    · rw [List.take_of_length_le]
      simp [bytesArr, Kd.int, Kd.scalar]
    · refine ⟨by simp [bytesArr, Kd.int, Kd.scalar], fun i p hp => ?_⟩
      obtain ⟨hi, e⟩ := List.getElem?_eq_some_iff.1 hp
      have h5 : i < (bytesArr (rows j)).toList.length := by simpa [bytesArr] using hi
      show ((bytesArr (rows j)).toList.drop (i * 1)).take 1 = [Value.int .u8 p]
      rw [Nat.mul_one, List.drop_eq_getElem_cons h5]
      simp only [List.take_succ_cons, List.take_zero, List.cons.injEq, and_true]
      simp [bytesArr, e]
end Go.Proofs.Ytibcgallhldnnaa.P
namespace Go.Proofs.Ytibcgallhldnnaa.P
open Go.RowKit Go.Shelf Go.Proofs.YtibcgallhldnnaaW.PrintWords Go.Proofs.YtibcgallhldnnaaW.PrintLast Go.Proofs.YtibcgallhldnnaaW.PrintMore
set_option linter.unusedVariables false
set_option linter.unusedSimpArgs false
attribute [local go_sem] Oper.semAt_some

def splitL (K size : Nat) (xs : List Int) : List (List Int) := (List.range K).map (rowAt (xs ++ List.replicate (K * size - xs.length) 0) size)
def layout_Split.f (a0_0 a0_1 a0_2 : Int) (l1 : List Int) : Option (List (List Int) × Int) :=
  (layout_Size.f 9 a0_0 a0_1 a0_2 (l1.length : Int)).bind fun s => if s.2 = 0 then (layout_rule.f a0_0 a0_1 a0_2).bind fun r =>
    if (r.2 = 0 ∨ r.2 = 4) ∧ l1.length ≤ 4096 ∧ 1 ≤ s.1 ∧ s.1 ≤ 10000 ∧ 1 ≤ a0_1 ∧ a0_1 ≤ 8 ∧ ((layOf r.2 l1).length : Int) ≤ a0_1 * s.1 then some (splitL a0_1.toNat s.1.toNat (layOf r.2 l1), 0) else none
  else some ([], s.2)

/-- k of the K rows are made: boxes, pointers, rows of zeros. -/
structure Rows0 (w : World) (a0 a2 : Int) (S K size k : Nat) (W : World) : Prop where
  x : W.heap[w.heap.size]? = some (.cells #[.int .i64 a0, .int .i64 (K : Int), .int .i64 a2] 23 (0, 0))
  s : W.heap[S]? = some (.cells #[.int .i64 (size : Int)] 3 (0, 0))
  g : W.heap[S + 1]? = some (.cells (ptrs (S + 3) size k K) 24 (0, 0))
  l : W.heap[S + 1 + 1]? = some (.cells #[.slice (some ⟨S + 1, 0, none⟩) K K] 31 (0, 0))
  rows : ∀ j, j < k → W.heap[S + 3 + j]? = some (.cells (bytesArr (List.replicate size 0)) 5 (0, 0))
  len : W.heap.size = S + 3 + k
  below : Below w.heap.size w W
theorem Rows0.start {w w1 : World} {a0 a2 : Int} {K size : Nat} (hx : w1.heap[w.heap.size]? = some (.cells #[.int .i64 a0, .int .i64 (K : Int), .int .i64 a2] 23 (0, 0))) (hb : Below w.heap.size w w1) :
    Rows0 w a0 a2 w1.heap.size K size 0 (((w1.alloc (Obj.cells #[Value.int IntKind.i64 ↑size] 3)).alloc (Obj.cells (madeCells #[Value.slice none 0 0] K) 24)).alloc (Obj.cells #[Value.slice (some { block := w1.heap.size + 1, off := 0 }) K K] 31)) := by
  refine ⟨blk_alloc (blk_alloc (blk_alloc hx _) _) _, blk_alloc (blk_alloc (heap_alloc_new _ _) _) _, ?_, ?_, fun j hj => absurd hj (Nat.not_lt_zero _), by simp, below_alloc (below_alloc (below_alloc hb _) _) _⟩
  · have := heap_alloc_new (w1.alloc (Obj.cells #[Value.int IntKind.i64 ↑size] 3)) (Obj.cells (madeCells #[Value.slice none 0 0] K) 24)
    rw [World.size_alloc, ptrs_zero (w1.heap.size + 3) size K] at this
    rw [ptrs_zero (w1.heap.size + 3) size K]
    exact blk_alloc this _
  · have := heap_alloc_new ((w1.alloc (Obj.cells #[Value.int IntKind.i64 ↑size] 3)).alloc (Obj.cells (madeCells #[Value.slice none 0 0] K) 24)) (Obj.cells #[Value.slice (some { block := w1.heap.size + 1, off := 0 }) K K] 31)
    rw [World.size_alloc, World.size_alloc] at this
    exact this
theorem Rows0.step {w W : World} {a0 a2 : Int} {S K size k : Nat} (h : Rows0 w a0 a2 S K size k W) (hk : k < K) (hS : w.heap.size < S) :
    Rows0 w a0 a2 S K size (k + 1) ((W.alloc (.cells (madeCells #[.int .u8 0] size) 5)).setCell ⟨S + 1, k, none⟩ (.slice (some ⟨W.heap.size, 0, none⟩) size size)) := by
  have hn := heap_alloc_new W (.cells (madeCells #[.int .u8 0] size) 5)
  rw [made_bytes] at hn ⊢
  have hl := h.len
  refine ⟨blk_far (blk_alloc h.x _) (by simp; omega) _, blk_far (blk_alloc h.s _) (by simp) _, ?_, blk_far (blk_alloc h.l _) (by simp) _, fun j hj => ?_, by simp; omega, below_set (below_alloc h.below _) (by omega)⟩
  · have := blk_set (blk_alloc h.g (.cells (bytesArr (List.replicate size 0)) 5)) k (.slice (some ⟨W.heap.size, 0, none⟩) size size)
    rw [hl, ptrs_set _ _ _ _ hk] at this
    rw [hl]
    exact this
  · refine blk_far ?_ (by simp; omega) _
    by_cases e : j = k
    · subst e; rw [← hl]; exact hn
    · exact blk_alloc (h.rows j (by omega)) _
theorem Rows0.drew {w W : World} {a0 a2 : Int} {S K size k : Nat} (h : Rows0 w a0 a2 S K size k W) : Rows0 w a0 a2 S K size k W.drew := ⟨h.x, h.s, h.g, h.l, h.rows, h.len, below_drew h.below⟩
theorem Rows0.later {w W W' : World} {a0 a2 : Int} {S K size k : Nat} (h : Rows0 w a0 a2 S K size k W) : Rows0 w a0 a2 S K size k W := h

/-- The K rows hold fl, cut; the boxes and pointers lie as they were made. -/
structure RowsAt (w : World) (S K size : Nat) (fl : List Int) (W : World) : Prop where
  s : W.heap[S]? = some (.cells #[.int .i64 (size : Int)] 3 (0, 0))
  g : W.heap[S + 1]? = some (.cells (ptrs (S + 3) size K K) 24 (0, 0))
  l : W.heap[S + 1 + 1]? = some (.cells #[.slice (some ⟨S + 1, 0, none⟩) K K] 31 (0, 0))
  rows : ∀ j, j < K → W.heap[S + 3 + j]? = some (.cells (bytesArr (rowAt fl size j)) 5 (0, 0))
  below : Below w.heap.size w W
theorem rowAt_zero (K size j : Nat) (h : j < K) : rowAt (List.replicate (K * size) 0) size j = List.replicate size 0 := by
  have := Nat.mul_le_mul_right size (show j + 1 ≤ K from h)
  rw [Nat.add_mul, Nat.one_mul] at this
  unfold rowAt
  rw [List.drop_replicate, List.take_replicate, Nat.min_eq_left (by omega)]
theorem Rows0.at_ {w W W' : World} {a0 a2 : Int} {S K size : Nat} (h : Rows0 w a0 a2 S K size K W) (hb : Below W.heap.size W W') : RowsAt w S K size (List.replicate (K * size) 0) W' :=
  ⟨blk_below h.s hb, blk_below h.g hb, blk_below h.l hb, fun j hj => by rw [rowAt_zero K size j hj]; exact blk_below (h.rows j hj) hb, below_step h.below hb⟩
theorem cells_grown {W W' : World} {row : Option Nat} {k : Nat} {cs : Array Value} {t : TypeId} (h : W.heap[k]? = some (.cells cs t (0, 0))) (hg : W.grownBy W' row) (hr : ∀ r, row = some r → ∃ o : Obj, W.heap[r]? = some o ∧ o.isCells = false) : W'.heap[k]? = some (.cells cs t (0, 0)) := by
  refine (hg.block k (blk_lt h) (fun e => ?_)).trans h
  obtain ⟨o, ho, hc⟩ := hr k e.symm
  rw [h] at ho
  cases ho
  cases hc
theorem RowsAt.grown {w W W' : World} {S K size B : Nat} {fl : List Int} {row : Option Nat} (h : RowsAt w S K size fl W) (hB : w.heap.size ≤ B) (hg : W.grownBy W' row) (hr : ∀ r, row = some r → B ≤ r ∧ ∃ o : Obj, W.heap[r]? = some o ∧ o.isCells = false) : RowsAt w S K size fl W' := by
  have hr' : ∀ r, row = some r → ∃ o : Obj, W.heap[r]? = some o ∧ o.isCells = false := fun r e => (hr r e).2
  exact ⟨cells_grown h.s hg hr', cells_grown h.g hg hr', cells_grown h.l hg hr', fun j hj => cells_grown (h.rows j hj) hg hr', h.below.grown hg h.below.size (fun k e => Nat.le_trans hB (hr k e).1)⟩
theorem RowsAt.set {w W : World} {S K size : Nat} {fl : List Int} (h : RowsAt w S K size fl W) (hS : w.heap.size < S) (hs : 0 < size) (i : Nat) (v : Int) (q r : Nat) (hq : i / size = q) (hr : i % size = r) (hK : q < K) :
    RowsAt w S K size (fl.set i v) (W.setCell ⟨S + 3 + q, r, none⟩ (.int .u8 v)) := by
  refine ⟨blk_far h.s (show S ≠ S + 3 + q by omega) _, blk_far h.g (show S + 1 ≠ S + 3 + q by omega) _, blk_far h.l (show S + 1 + 1 ≠ S + 3 + q by omega) _, fun j hj => ?_, below_set h.below (by omega)⟩
  rw [rowAt_set _ _ _ _ _ hs, hq, hr]
  by_cases e : j = q
  · subst e
    rw [if_pos rfl, ← bytesArr_set]
    exact blk_set (h.rows _ hj) _ _
  · rw [if_neg e]
    exact blk_far (h.rows j hj) (show S + 3 + j ≠ S + 3 + q by omega) _
theorem RowsAt.drew {w W : World} {S K size : Nat} {fl : List Int} (h : RowsAt w S K size fl W) : RowsAt w S K size fl W.drew := ⟨h.s, h.g, h.l, h.rows, below_drew h.below⟩

set_option maxRecDepth 100000 in
set_option maxHeartbeats 8000000 in
theorem split_walk (a0 a1 a2 : Int) (K size : Nat) (unit ah : Int) (A1 : Option Addr) (c1 : Nat) (l1 xs : List Int) (w : World) (hr1 : Kd.C (Kd.int .u8) w A1 l1.length l1) (hc1 : l1.length ≤ c1) (ha1 : a1 = K)
    (hS : layout_Size.f 9 a0 a1 a2 (l1.length : Int) = some ((size : Int), 0)) (hR : layout_rule.f a0 a1 a2 = some (unit, ah)) (hah : ah = 0 ∨ ah = 4) (hx : Aside0 (layOf ah l1 = xs)) (hl : l1.length ≤ 4096) (hs1 : 1 ≤ size) (hs2 : size ≤ 10000) (hK1 : 1 ≤ K) (hK2 : K ≤ 8) (hxl : xs.length ≤ K * size) :
    CallsIn Fence.wide 6 Try.prog 12 #[.agg #[.int .i64 a0, .int .i64 a1, .int .i64 a2], .slice A1 l1.length c1] w fun e w' => ∃ v0_ : Value, e = .returned (.tuple #[v0_, .int .i64 0]) ∧ Kd.S (Kd.slice 5 (Kd.int .u8)) 24 w' w.heap.size (fun _ => True) v0_ (splitL K size xs) ∧ Below w.heap.size w w' := by
  subst ha1
  have hcS := fun w => layout_Size.calls 9 a0 K a2 l1.length size 0 w hS
  have hcR := fun w => layout_rule.calls a0 K a2 unit ah w hR
  have hmk := run_make_row' (P := Try.prog) 31 24 (.slice none 0 0) 24 Try.underlying31 info24 rfl .i64 .i64 K (by omega) (by omega)
  refine callsIn_of_wp_marks Try.func12 rfl trivial ?_ rfl
  simp only [Try.ntmps12, List.size_toArray, List.length_cons, List.length_nil, Nat.reduceAdd, Nat.reduceSub, Array.replicate_succ, Array.replicate_zero, List.push_toArray, List.append_toArray, List.nil_append, List.cons_append]
  gi_wp2_with (refine ⟨trivial, ?_⟩; refine (callsIn_wide.2 (hcS _)).mono ?_; rintro e w1 ⟨rfl, hb1⟩; have HX : Aside0 (w1.heap[w.heap.size]? = some (.cells #[.int .i64 a0, .int .i64 K, .int .i64 a2] 23 (0, 0))) := ⟨(hb1.block _ (by simp)).trans (heap_alloc_new _ _)⟩; have hx1 : ∀ o, (w1.alloc o).cell? ⟨w.heap.size, 1, none⟩ = some (.int .i64 K) := (fun o => blk_cell (blk_alloc HX.out o) 1); have HB1 := Aside0.mk (below_step (below_alloc (Below.refl _ _) _) hb1); clear hb1)
  have hmk2 := run_make_row' (P := Try.prog) 24 5 (.int .u8 0) 1 Try.underlying24 info5 rfl .i64 .i64 size (by omega) (by omega)
  have hSw : w.heap.size < w1.heap.size := blk_lt HX.out
  gi_loopw [29] (fun i wr => ∃ k : Nat, k ≤ K ∧ i = .int .i64 k ∧ Aside0 (Rows0 w a0 a2 w1.heap.size K size k wr))
    (fun i _ => K - (intOf i).toNat)
  case atStart => exact ⟨0, Nat.zero_le _, rfl, ⟨Rows0.start HX.out HB1.out⟩⟩
  case round =>
    obtain ⟨k, hk, rfl, HR⟩ := hrel
    by_cases hlt : k < K
    · have hl0 := blk_cell HR.out.l 0
      have hs0 := blk_cell HR.out.s 0
      have hl1 := blk_cell (blk_drew HR.out.l) 0
      have hs1' := blk_cell (blk_drew HR.out.s) 0
      have hg1 : ∀ o, (wr.alloc o).cell? ⟨w1.heap.size + 1, k, none⟩ = some (.slice none 0 0) := fun o => (blk_cell (blk_alloc HR.out.g o) k).trans (ptrs_get_nil _ _ _ _ hlt)
      have hf1 : ∀ o, (wr.alloc o).frozen? ⟨w1.heap.size + 1, k, none⟩ = false := fun o => blk_frozen (blk_alloc HR.out.g o) k
      have hg2 : ∀ o, (wr.alloc o).drew.cell? ⟨w1.heap.size + 1, k, none⟩ = some (.slice none 0 0) := hg1
      have hf2 : ∀ o, (wr.alloc o).drew.frozen? ⟨w1.heap.size + 1, k, none⟩ = false := hf1
      have hl2 : ∀ o, (wr.alloc o).cell? ⟨w1.heap.size + 1 + 1, 0, none⟩ = some (.slice (some ⟨w1.heap.size + 1, 0, none⟩) K K) := fun o => blk_cell (blk_alloc HR.out.l o) 0
      have hl3 : ∀ o, (wr.alloc o).drew.cell? ⟨w1.heap.size + 1 + 1, 0, none⟩ = some (.slice (some ⟨w1.heap.size + 1, 0, none⟩) K K) := hl2
      have hg0 := (blk_cell HR.out.g k).trans (ptrs_get_nil _ _ _ _ hlt)
      have hf0 := blk_frozen HR.out.g k
      have hlen := HR.out.len
      gi_wp2
      gi_region
      gi_wp2
      go_roundw
      case rel => exact ⟨k + 1, by omega, by simp, ⟨by have := (HR.out.step hlt hSw).drew; rw [HR.out.len] at this; exact this⟩⟩
      case measure => simp [intOf]; omega
    · obtain rfl : k = K := by omega
      have hx0 := (blk_cell HR.out.x 0).trans (show _ = some (Value.int .i64 a0) from rfl)
      have hx1 := (blk_cell HR.out.x 1).trans (show _ = some (Value.int .i64 k) from rfl)
      have hx2 := (blk_cell HR.out.x 2).trans (show _ = some (Value.int .i64 a2) from rfl)
      gi_wp2_with (refine ⟨trivial, ?_⟩; first
        | (refine (callsIn_wide.2 (hcR _)).mono ?_; rintro e w2 ⟨rfl, hb2⟩; have HB2 := Aside0.mk hb2; clear hb2)
        | (refine (callsIn_wide.2 (laid_calls _ _ _ _ _)).mono ?_; rintro e w3 ⟨rfl, rfl⟩))
      have hB3 : Below wr.heap.size wr ((w2.alloc (Obj.cells #[Value.int IntKind.i64 ah] 3)).alloc (Obj.cells #[Value.slice A1 l1.length c1] 24)) := below_alloc (below_alloc HB2.out _) _
      have hA := HR.out.at_ hB3
      have hc3 := Kd.C_below hr1 hA.below
      have hBa : ((w2.alloc (Obj.cells #[Value.int IntKind.i64 ah] 3)).alloc (Obj.cells #[Value.slice A1 l1.length c1] 24)).cell? ⟨w2.heap.size, 0, none⟩ = some (.int .i64 ah) := blk_cell (blk_alloc (heap_alloc_new _ _) _) 0
      have hBb : ((w2.alloc (Obj.cells #[Value.int IntKind.i64 ah] 3)).alloc (Obj.cells #[Value.slice A1 l1.length c1] 24)).cell? ⟨w2.heap.size + 1, 0, none⟩ = some (.slice A1 l1.length c1) := by
        have := blk_cell (heap_alloc_new (w2.alloc (Obj.cells #[Value.int IntKind.i64 ah] 3)) (Obj.cells #[Value.slice A1 l1.length c1] 24)) 0
        rw [World.size_alloc] at this
        exact this
      have hsz3 : ((w2.alloc (Obj.cells #[Value.int IntKind.i64 ah] 3)).alloc (Obj.cells #[Value.slice A1 l1.length c1] 24)).heap.size = w2.heap.size + 2 := by simp
      have hlt2 : w1.heap.size + 3 + k ≤ w2.heap.size := by have := HR.out.len; have := HB2.out.size; omega
      obtain ⟨W3, hW3⟩ : ∃ W3, W3 = (w2.alloc (Obj.cells #[Value.int IntKind.i64 ah] 3)).alloc (Obj.cells #[Value.slice A1 l1.length c1] 24) := ⟨_, rfl⟩
      rw [← hW3] at hB3 hA hc3 hBa hBb hsz3 ⊢
      have HW3 := Aside0.mk hW3
      have HA := Aside0.mk hA
      clear hW3 hA hB3
      refine wpIn_rangeFunc_ownF rfl (by omega) (gf := 35) (lb := #[.pointer (some ⟨w2.heap.size + 1, 0, none⟩), .pointer (some ⟨w2.heap.size, 0, none⟩)]) rfl trivial (enters_of Try.func35 (by kernel_rfl) rfl)
        (laid_stops 5 (by omega) w2.heap.size (w2.heap.size + 1) ah hah A1 c1 l1 xs hx.out W3 (by omega) (by omega) hBa hBb hc3 hc1 (by omega)) (fun h k => keepsCells_t h k) (fun W l o o' _ h hc _ => keepsCells_b W l o o' h hc) (Below.refl _ _) (fun _ => rfl)
        (fun pre W => RowsAt w w1.heap.size k size (fillL (k * size) xs pre) W) (fun _ _ _ => False)
        (fun s A B row hs hg hr => hs.grown (by omega) hg hr) (fun _ _ _ _ _ hs _ _ => hs) HA.out
        (fun x => { tmps := #[Value.agg #[Value.int IntKind.i64 a0, Value.int IntKind.i64 (k : Int), Value.int IntKind.i64 a2], Value.slice A1 l1.length c1, Value.pointer (some { block := w.heap.size, off := 0 }), undef, Value.slice none 0 0, Value.int IntKind.i64 0, Value.pointer (some { block := w1.heap.size, off := 0 }), Value.int IntKind.i64 0, Value.pointer (some { block := w1.heap.size + 1 + 1, off := 0 }), u9, Value.int IntKind.i64 unit, Value.int IntKind.i64 ah, .int .i64 ((x.1 : Nat) : Int), .int .u8 xs[x.1], Value.tuple #[Value.int IntKind.i64 (size : Int), Value.int IntKind.i64 0], Value.agg #[Value.int IntKind.i64 a0, Value.int IntKind.i64 (k : Int), Value.int IntKind.i64 a2], Value.slice A1 l1.length c1, Value.int IntKind.i64 (l1.length : Int), Value.tuple #[Value.int IntKind.i64 (size : Int), Value.int IntKind.i64 0], Value.int IntKind.i64 (size : Int), Value.int IntKind.i64 0, Value.int IntKind.i64 0, Value.bool false, undef, Value.pointer (some { block := w.heap.size, off := 1 }), Value.int IntKind.i64 (k : Int), Value.slice (some { block := w1.heap.size + 1, off := 0 }) k k, Value.slice (some { block := w1.heap.size + 1, off := 0 }) k k, Value.int IntKind.i64 (k : Int), Value.int IntKind.i64 (k : Int), Value.bool false, u31, u32, u33, u34, u35, u36, u37, Value.tuple #[Value.int IntKind.i64 unit, Value.int IntKind.i64 ah], Value.agg #[Value.int IntKind.i64 a0, Value.int IntKind.i64 (k : Int), Value.int IntKind.i64 a2], Value.tuple #[Value.int IntKind.i64 unit, Value.int IntKind.i64 ah], Value.int IntKind.i64 unit, Value.int IntKind.i64 ah, Value.int IntKind.i64 ah, Value.slice A1 l1.length c1, Value.func (Fn.func 35) #[] #[Value.pointer (some { block := w2.heap.size + 1, off := 0 }), Value.pointer (some { block := w2.heap.size, off := 0 })], .int .i64 ((x.1 : Nat) : Int), .int .u8 xs[x.1], undef, undef, undef, undef, undef, undef, undef, undef, undef, undef, undef, undef], defers := [] }) ?assign ?body ?done ?stop
      case assign =>
        intro l x W K hK
        gi_wp2
        exact hK
      case body =>
        rintro l pre x W hI _
        have hxK : x.1 / size < k := (Nat.div_lt_iff_lt_mul hs1).2 (by have := x.2; omega)
        have hrm : x.1 % size < size := Nat.mod_lt _ hs1
        have e1 : ((x.1 : Nat) : Int) / (size : Int) = ((x.1 / size : Nat) : Int) := by simp
        have e2 : ((x.1 : Nat) : Int) % (size : Int) = ((x.1 % size : Nat) : Int) := by simp
        have e3 : Int.tmod ((x.1 : Nat) : Int) (size : Int) = ((x.1 % size : Nat) : Int) := by rw [Int.tmod_eq_emod_of_nonneg (by omega)]; exact e2
        have hzs : ¬ size = 0 := by omega
        obtain ⟨q, hq⟩ : ∃ q, x.1 / size = q := ⟨_, rfl⟩
        obtain ⟨r, hr⟩ : ∃ r, x.1 % size = r := ⟨_, rfl⟩
        rw [hq] at hxK e1
        rw [hr] at hrm e2 e3
        have hqi : (q : Int) < (k : Int) := by omega
        have hri : (r : Int) < (size : Int) := by omega
        have e5 : IntKind.i64.wrap (q : Int) = (q : Int) := by rw [IntKind.wrap_i64]; omega
        have e6 : IntKind.i64.wrap (r : Int) = (r : Int) := by rw [IntKind.wrap_i64]; omega
        have hzn : ¬ (size : Int) = 0 := by omega
        have hI' := Aside0.mk hI
        have hrl : (rowAt (fillL (k * size) xs pre) size q).length = size := rowAt_length _ _ _ k (fill_length _ _ _) hxK
        have hs0 := (blk_cell hI.s 0).trans (show _ = some (Value.int .i64 (size : Int)) from rfl)
        have hl0 := (blk_cell hI.l 0).trans (show _ = some (Value.slice (some ⟨w1.heap.size + 1, 0, none⟩) k k) from rfl)
        have hg0 := (blk_cell hI.g q).trans (ptrs_get _ _ _ _ _ hxK)
        have hr0 := (blk_cell (hI.rows q hxK) r).trans (bytesArr_get _ r (by omega))
        have hf0 := blk_frozen (hI.rows q hxK) r
        have hs1' : W.drew.cell? ⟨w1.heap.size, 0, none⟩ = _ := hs0
        have hl1 : W.drew.cell? ⟨w1.heap.size + 1 + 1, 0, none⟩ = _ := hl0
        have hg1 : W.drew.cell? ⟨w1.heap.size + 1, q, none⟩ = _ := hg0
        have hr1' : W.drew.cell? ⟨w1.heap.size + 3 + q, r, none⟩ = _ := hr0
        have hf1 : W.drew.frozen? ⟨w1.heap.size + 3 + q, r, none⟩ = false := hf0
        have hB5 := Aside0.mk (And.intro hq hr)
        clear hI hq hr
        gi_wp2
        refine wpIn_round_still_tail 11 (by kernel_rfl) (by kernel_rfl) (by kernel_rfl) (by rintro ⟨a, w, h⟩; exact h) ?_
        simp only [List.take_succ_cons, List.take_zero, List.drop_succ_cons, List.drop_zero]
        repeat still_step
        try refine wpStill_nil ?_
        go_wp2
        refine ⟨(KeepsOthers.setCell _ _ _).trans (KeepsOthers.drew _), fun k' cs t hk hc => ?_, ?_⟩
        · exact blk_far hc (show k' ≠ w1.heap.size + 3 + q by omega) _
        · show RowsAt w w1.heap.size k size (fillL (k * size) xs (pre ++ [x])) _
          rw [fill_snoc]
          exact (hI'.out.set hSw hs1 x.1 xs[x.1] q r hB5.out.1 hB5.out.2 hxK).drew
      case done =>
        rintro D ys W hD rfl hI hK
        have hl0 := (blk_cell hI.l 0).trans (show _ = some (Value.slice (some ⟨w1.heap.size + 1, 0, none⟩) k k) from rfl)
        have hI' := Aside0.mk hI
        clear hI
        gi_wp2
        have hI2 : RowsAt w w1.heap.size k size (fillL (k * size) xs (List.finRange xs.length)) (W.putObj D (.deferred none)) :=
          hI'.out.grown (B := W3.heap.size) (by omega) (grownBy_putObj' W D _) (fun r e => by cases e; exact ⟨hD, _, hK, rfl⟩)
        refine ⟨by simp, .inl ⟨_, _, rfl, run_takeDeferred hK, ?_⟩⟩
        refine ⟨_, results_tmp2 rfl _ _ _, _, rfl, ?_, hI2.below⟩
        have h := S_of_blocks (W.putObj D (.deferred none)) w.heap.size (w1.heap.size + 1) (w1.heap.size + 3) size k (rowAt (fillL (k * size) xs (List.finRange xs.length)) size) hI2.g hI2.rows
          (fun j hj => rowAt_length _ _ _ k (fill_length _ _ _) hj) (by omega) (by omega) (by omega) (by omega) (by omega)
        rw [fill_all _ _ hxl] at h
        exact h
      case stop =>
        rintro D c pre W _ _ h _
        exact h.elim

set_option maxRecDepth 100000 in
set_option maxHeartbeats 4000000 in
theorem split_none (a0 a1 a2 : Int) (A1 : Option Addr) (c1 : Nat) (l1 : List Int) (s e0 : Int) (w : World) (hS : layout_Size.f 9 a0 a1 a2 (l1.length : Int) = some (s, e0)) (he : ¬ e0 = 0) :
    Calls Try.prog 12 #[.agg #[.int .i64 a0, .int .i64 a1, .int .i64 a2], .slice A1 l1.length c1] w fun e w' => e = .returned (.tuple #[.slice none 0 0, .int .i64 e0]) ∧ Below w.heap.size w w' := by
  have hcS := fun w => layout_Size.calls 9 a0 a1 a2 l1.length s e0 w hS
  have hb1 : (e0 == 0) = false := beq_eq_false_iff_ne.mpr he
  have hb2 : (e0 != 0) = true := bne_iff_ne.mpr he
  go_enter Try.func12, Try.ntmps12
  go_wp2_with (go_at_call 10; refine (hcS _).mono ?_; rintro e w1 ⟨rfl, hb1⟩; have HB1 := Aside0.mk (below_step (below_alloc (Below.refl w.heap.size w) _) hb1); clear hb1)
  refine ⟨by simp, _, results_tmp2 rfl _ _ _, rfl, below_alloc HB1.out _⟩

theorem layout_Split.calls (a0_0 : Int) (a0_1 : Int) (a0_2 : Int) (A1 : Option Addr) (c1 : Nat) (l1 : List Int) (r1 : List (List Int)) (r2 : Int) (w : World) (hr1 : Kd.C (Kd.int .u8) w A1 l1.length l1) (hc1 : l1.length ≤ c1) (h : layout_Split.f a0_0 a0_1 a0_2 l1 = some (r1, r2)) :
    Calls Try.prog 12 #[.agg #[.int .i64 a0_0, .int .i64 a0_1, .int .i64 a0_2], .slice A1 l1.length c1] w fun e w' => ∃ v0_ : Value, e = .returned (.tuple #[v0_, .int .i64 r2]) ∧ Kd.S (Kd.slice 5 (Kd.int .u8)) 24 w' w.heap.size (fun _ => True) v0_ r1 ∧ Below w.heap.size w w' := by
  unfold layout_Split.f at h
  obtain ⟨⟨s, e0⟩, hS, h⟩ := Option.bind_eq_some_iff.mp h
  dsimp only at h
  by_cases he : e0 = 0
  · subst he
    rw [if_pos rfl] at h
    obtain ⟨⟨unit, ah⟩, hR, h⟩ := Option.bind_eq_some_iff.mp h
    dsimp only at h
    by_cases hg : (ah = 0 ∨ ah = 4) ∧ l1.length ≤ 4096 ∧ 1 ≤ s ∧ s ≤ 10000 ∧ 1 ≤ a0_1 ∧ a0_1 ≤ 8 ∧ ((layOf ah l1).length : Int) ≤ a0_1 * s
    · rw [if_pos hg] at h
      obtain ⟨h1, h2, h3, h4, h5, h6, h7⟩ := hg
      simp only [Option.some.injEq, Prod.mk.injEq] at h
      obtain ⟨rfl, rfl⟩ := h
      obtain ⟨size, rfl⟩ := Int.eq_ofNat_of_zero_le (show 0 ≤ s by omega)
      obtain ⟨K, rfl⟩ := Int.eq_ofNat_of_zero_le (show 0 ≤ a0_1 by omega)
      simp only [Int.toNat_natCast]
      exact callsIn_wide.1 (split_walk a0_0 K a0_2 K size unit ah A1 c1 l1 (layOf ah l1) w hr1 hc1 rfl hS hR h1 ⟨rfl⟩ h2 (by omega) (by omega) (by omega) (by omega) (by rw [← Int.natCast_mul] at h7; omega))
    · rw [if_neg hg] at h
      exact absurd h (by simp)
  · rw [if_neg he] at h
    simp only [Option.some.injEq, Prod.mk.injEq] at h
    obtain ⟨rfl, rfl⟩ := h
    refine (split_none a0_0 a0_1 a0_2 A1 c1 l1 s e0 w hS he).mono ?_
    rintro e w' ⟨rfl, hb⟩
    exact ⟨_, rfl, Kd.S_nil _ _ _ _ _, hb⟩
end Go.Proofs.Ytibcgallhldnnaa.P
namespace Go.Proofs.Ytibcgallhldnnaa.P
open Go.RowKit Go.Proofs.YtibcgallhldnnaaW.PrintWords Go.Proofs.YtibcgallhldnnaaW.PrintLast Go.Proofs.YtibcgallhldnnaaW.PrintMore
set_option linter.unusedVariables false
set_option linter.unusedSimpArgs false

/-- Is this row not as long as the first one? -/
def odd (l : List (List Int)) (x : List Int) : Bool := ((x.length : Int) != ((rd_L6 l 0).length : Int))
set_option maxHeartbeats 1000000 in
theorem odd_is (D : Nat) (A0 B : Option Addr) (c0 m cb : Nat) (l0 : List (List Int)) (w : World) (hD : w.cell? ⟨D, 0, none⟩ = some (.slice A0 l0.length c0)) (hC : Kd.C (Kd.slice 5 (Kd.int .u8)) w A0 l0.length l0) (hl : 0 < l0.length) :
    Calls Try.prog 28 #[.slice B m cb, .pointer (some ⟨D, 0, none⟩)] w fun e w' => e = .returned (.bool ((m : Int) != ((rd_L6 l0 0).length : Int))) ∧ Below w.heap.size w w' := by
  obtain ⟨ad, A1, c1, e1, hx0, _, _⟩ := at_L6 hC 0 (by omega) (by omega)
  cases e1
  have hl' : (0 : Int) < (l0.length : Int) := by omega
  simp only [show (0 : Int).toNat = 0 from rfl, Nat.reduceMul, Nat.reduceEqDiff, Go.Addr.add, ↓reduceIte] at hx0
  go_enter Try.func28, Try.ntmps28
  go_wp2
  go_ret
  exact ⟨rfl, Below.refl _ _⟩

def idxL (p : List Int → Bool) (l : List (List Int)) : Int := match l.findIdx? p with | some i => (i : Int) | none => -1
theorem idxL_at {p : List Int → Bool} {l : List (List Int)} (i : Nat) (hi : i < l.length) (hp : p (rd_L6 l i) = true) (hn : ∀ j : Nat, j < i → p (rd_L6 l j) = false) : idxL p l = i := by
  have : l.findIdx? p = some i := by
    rw [List.findIdx?_eq_some_iff_getElem]
    refine ⟨hi, by rw [rd_at l i hi] at hp; exact hp, fun j hj => ?_⟩
    have := hn j hj
    rw [rd_at l j (by omega)] at this
    simp [this]
  unfold idxL; rw [this]
theorem all_upto {p : List Int → Bool} {l : List (List Int)} {i : Nat} (hn : ∀ j : Nat, j < i → p (rd_L6 l j) = false) (h : p (rd_L6 l i) = false) : ∀ j : Nat, j < i + 1 → p (rd_L6 l j) = false := by
  intro j hj
  rcases Nat.lt_or_ge j i with h1 | h1
  · exact hn j h1
  · obtain rfl : j = i := by omega
    exact h
theorem idxL_none {p : List Int → Bool} {l : List (List Int)} (hn : ∀ j : Nat, j < l.length → p (rd_L6 l j) = false) : idxL p l = -1 := by
  have : l.findIdx? p = none := by
    rw [List.findIdx?_eq_none_iff]
    intro x hx
    obtain ⟨j, hj, rfl⟩ := List.mem_iff_getElem.1 hx
    have := hn j hj
    rwa [rd_at l j hj] at this
  unfold idxL; rw [this]
theorem idxL_any (p : List Int → Bool) (l : List (List Int)) : decide (0 ≤ idxL p l) = l.any p := by
  unfold idxL
  cases h : l.findIdx? p with
  | none =>
    rw [List.findIdx?_eq_none_iff] at h
    have : l.any p = false := by
      rw [List.any_eq_false]
      intro x hx
      rw [h x hx]; simp
    rw [this]; rfl
  | some i =>
    rw [List.findIdx?_eq_some_iff_getElem] at h
    obtain ⟨hi, hp, _⟩ := h
    have : l.any p = true := List.any_eq_true.2 ⟨_, List.getElem_mem hi, hp⟩
    rw [this]; simp

set_option maxHeartbeats 2000000 in
theorem indexFunc_is (D : Nat) (A0 : Option Addr) (c0 : Nat) (l0 : List (List Int)) (w : World) (hD : w.cell? ⟨D, 0, none⟩ = some (.slice A0 l0.length c0)) (hr0 : Kd.C (Kd.slice 5 (Kd.int .u8)) w A0 l0.length l0) (hDl : D < w.heap.size) :
    Calls Try.prog 36 #[.slice A0 l0.length c0, .func (.func 28) #[] #[.pointer (some ⟨D, 0, none⟩)]] w fun e w' => e = .returned (.int .i64 (idxL (odd l0) l0)) ∧ Below w.heap.size w w' := by
  have HR := Aside0.mk hr0
  have HD := Aside0.mk hD
  have hmax := Kd.C_max hr0
  clear hr0 hD
  go_enter Try.func36, Try.ntmps36
  go_wp2
  go_loopg [8] l0.length (fun kq v8 w' => ∃ i : Nat, v8 = .int .i64 i ∧ i + kq = l0.length ∧ Aside0 (∀ j : Nat, j < i → odd l0 (rd_L6 l0 j) = false) ∧ Aside0 (Below w.heap.size w w'))
  case atStart => exact ⟨0, rfl, by omega, ⟨fun j hj => absurd hj (by omega)⟩, ⟨Below.refl _ _⟩⟩
  case round =>
    obtain ⟨i, rfl, hi, HN, HB⟩ := hrel
    by_cases hlt : i < l0.length
    · obtain ⟨ad, A1, c1, e1, hx0, hx1, _⟩ := at_L6 (Kd.C_below HR.out HB.out) (i : Int) (by omega) (by omega)
      cases e1
      rw [Int.toNat_natCast] at hx0
      obtain ⟨x, hxe⟩ : ∃ x, rd_L6 l0 (i : Int) = x := ⟨_, rfl⟩
      rw [hxe] at hx0 hx1
      have HX := Aside0.mk hxe
      clear hxe
      obtain ⟨k1, rfl⟩ : ∃ k1, gk = k1 + 1 := ⟨gk - 1, by omega⟩
      have hc := fun w' (hb : Below w.heap.size w w') => odd_is D (some ad) A1 c0 x.length c1 l0 w' ((hb.cell (p := ⟨D, 0, none⟩) hDl).trans HD.out) (Kd.C_below HR.out hb) (by omega)
      cases hp : odd l0 x
      · have HP := Aside0.mk hp
        have hp' : ((x.length : Int) != ((rd_L6 l0 0).length : Int)) = false := hp
        clear hp
        go_wp2_with (go_at_call 28; refine (hc _ HB.out).mono ?_; rintro e w1 ⟨rfl, hb⟩; have HB1 := Aside0.mk (below_step HB.out hb); clear hb HB; rw [hp'])
        go_roundg k1
        case measure => omega
        case rel => exact ⟨i + 1, by go_num, by omega, ⟨all_upto HN.out (by rw [HX.out]; exact HP.out)⟩, HB1⟩
      · have HP := Aside0.mk hp
        have hp' : ((x.length : Int) != ((rd_L6 l0 0).length : Int)) = true := hp
        clear hp
        go_wp2_with (go_at_call 28; refine (hc _ HB.out).mono ?_; rintro e w1 ⟨rfl, hb⟩; have HB1 := Aside0.mk (below_step HB.out hb); clear hb HB; rw [hp'])
        go_ret
        exact ⟨by rw [idxL_at i hlt (by rw [HX.out]; exact HP.out) HN.out]; rfl, HB1.out⟩
    · have hge : l0.length ≤ i := by omega
      clear hlt
      go_wp2
      go_ret
      exact ⟨by rw [idxL_none (by intro j hj; exact HN.out j (by omega))]; rfl, HB.out⟩

set_option maxHeartbeats 2000000 in
theorem containsFunc_is (D : Nat) (A0 : Option Addr) (c0 : Nat) (l0 : List (List Int)) (w : World) (hD : w.cell? ⟨D, 0, none⟩ = some (.slice A0 l0.length c0)) (hr0 : Kd.C (Kd.slice 5 (Kd.int .u8)) w A0 l0.length l0) (hDl : D < w.heap.size) :
    Calls Try.prog 27 #[.slice A0 l0.length c0, .func (.func 28) #[] #[.pointer (some ⟨D, 0, none⟩)]] w fun e w' => e = .returned (.bool (l0.any (odd l0))) ∧ Below w.heap.size w w' := by
  have hc := indexFunc_is D A0 c0 l0 w hD hr0 hDl
  rw [← idxL_any]
  obtain ⟨r, hr⟩ : ∃ r, idxL (odd l0) l0 = r := ⟨_, rfl⟩
  rw [hr] at hc ⊢
  clear hr0 hD
  go_enter Try.func27, Try.ntmps27
  go_wp2_with (go_at_call 36; refine hc.mono ?_; rintro e w1 ⟨rfl, hb⟩; have HB1 := Aside0.mk hb; clear hb)
  go_ret
  exact ⟨rfl, HB1.out⟩

theorem rdi (xs : List Int) (i : Nat) (h : i < xs.length) : rd xs (i : Int) = xs[i] := by
  unfold rd
  rw [Int.toNat_natCast, List.getD_eq_getElem?_getD, List.getElem?_eq_getElem h]; rfl
theorem equal_l (a b : List Int) (hl : a.length = b.length) (hb : a.length < 4611686018427387904) : ∀ m i : Nat, i + m = a.length → (∀ j : Nat, j < i → rd a j = rd b j) → slices_Equal_byte_byte.l0 (m + 1) a b (a.length : Int) (i : Int) = some (decide (a = b))
  | 0, i, hi, hs => by
    obtain rfl : i = a.length := by omega
    rw [slices_Equal_byte_byte.l0, if_neg (by omega)]
    have : a = b := by
      apply List.ext_getElem hl
      intro j h1 h2
      have := hs j h1
      rwa [rdi a j h1, rdi b j h2] at this
    rw [decide_eq_true this]
  | m + 1, i, hi, hs => by
    have h : i < a.length := by omega
    rw [slices_Equal_byte_byte.l0, if_pos (by omega), if_pos (by omega), if_pos (by omega), if_pos (by omega)]
    by_cases e : rd a (i : Int) = rd b (i : Int)
    · rw [if_pos e, wrap_nat i (by omega)]
      exact equal_l a b hl hb m (i + 1) (by omega) (fun j hj => by
        rcases Nat.lt_or_ge j i with h1 | h1
        · exact hs j h1
        · obtain rfl : j = i := by omega
          exact e)
    · rw [if_neg e]
      have : ¬ a = b := fun h => e (by rw [h])
      rw [decide_eq_false this]
theorem equal_all (a b : List Int) (hb : a.length < 4611686018427387904) : ∃ k, slices_Equal_byte_byte.f k a b = some (decide (a = b)) := by
  by_cases hl : a.length = b.length
  · refine ⟨a.length + 1, ?_⟩
    unfold slices_Equal_byte_byte.f
    rw [if_pos (by omega)]
    exact equal_l a b hl hb a.length 0 (by omega) (fun j hj => absurd hj (by omega))
  · refine ⟨0, ?_⟩
    unfold slices_Equal_byte_byte.f
    rw [if_neg (by omega)]
    have : ¬ a = b := fun h => hl (by rw [h])
    rw [decide_eq_false this]
theorem equal_calls (A0 : Option Addr) (c0 : Nat) (l0 : List Int) (A1 : Option Addr) (c1 : Nat) (l1 : List Int) (w : World) (hr0 : Kd.C (Kd.int .u8) w A0 l0.length l0) (hc0 : l0.length ≤ c0) (hr1 : Kd.C (Kd.int .u8) w A1 l1.length l1) (hc1 : l1.length ≤ c1) (hb : l0.length < 4611686018427387904) :
    Calls Try.prog 32 #[.slice A0 l0.length c0, .slice A1 l1.length c1] w fun e w' => e = .returned (.bool (decide (l0 = l1))) ∧ Below w.heap.size w w' := by
  obtain ⟨k, hk⟩ := equal_all l0 l1 hb
  refine (slices_Equal_byte_byte.calls k A0 c0 l0 A1 c1 l1 _ w hr0 hc0 hr1 hc1 hk).mono ?_
  rintro e w' ⟨rfl, hd⟩
  exact ⟨rfl, Drawn0.below hd⟩

theorem eq_of_all {a b : List (List Int)} (hl : a.length = b.length) (h : ∀ j : Nat, j < a.length → rd_L6 a j = rd_L6 b j) : a = b := by
  apply List.ext_getElem hl
  intro j h1 h2
  have := h j h1
  rwa [rd_at a j h1, rd_at b j h2] at this
set_option maxHeartbeats 4000000 in
theorem equalFunc_is (A0 : Option Addr) (c0 : Nat) (l0 : List (List Int)) (A1 : Option Addr) (c1 : Nat) (l1 : List (List Int)) (w : World) (hr0 : Kd.C (Kd.slice 5 (Kd.int .u8)) w A0 l0.length l0) (hr1 : Kd.C (Kd.slice 5 (Kd.int .u8)) w A1 l1.length l1) (hs : ∀ x ∈ l0, x.length ≤ 4294967296) :
    Calls Try.prog 31 #[.slice A0 l0.length c0, .slice A1 l1.length c1, .func (.func 32) #[] #[]] w fun e w' => e = .returned (.bool (decide (l0 = l1))) ∧ Below w.heap.size w w' := by
  have hmax := Kd.C_max hr0
  by_cases hl : l0.length = l1.length
  · have HR := Aside0.mk hr0
    have HR1 := Aside0.mk hr1
    have HS := Aside0.mk hs
    have HL := Aside0.mk hl
    have hl2 : ((l0.length : Int) != (l1.length : Int)) = false := by rw [hl]; simp
    clear hr0 hr1 hs hl
    go_enter Try.func31, Try.ntmps31
    go_wp2
    go_loopg [17] l0.length (fun kq v17 w' => ∃ i : Nat, v17 = .int .i64 i ∧ i + kq = l0.length ∧ Aside0 (∀ j : Nat, j < i → rd_L6 l0 j = rd_L6 l1 j) ∧ Aside0 (Below w.heap.size w w'))
    case atStart => exact ⟨0, rfl, by omega, ⟨fun j hj => absurd hj (by omega)⟩, ⟨Below.refl _ _⟩⟩
    case round =>
      obtain ⟨i, rfl, hi, HN, HB⟩ := hrel
      by_cases hlt : i < l0.length
      · have hlt1 : i < l1.length := by have := HL.out; omega
        obtain ⟨ad, B0, d0, e0, hx0, hx1, hx2⟩ := at_L6 (Kd.C_below HR.out HB.out) (i : Int) (by omega) (by omega)
        obtain ⟨ae, B1, d1, e1, hy0, hy1, hy2⟩ := at_L6 (Kd.C_below HR1.out HB.out) (i : Int) (by omega) (by omega)
        cases e0
        cases e1
        rw [Int.toNat_natCast] at hx0 hy0
        have hlen : (rd_L6 l0 (i : Int)).length ≤ 4294967296 := by
          rw [rd_at l0 i hlt]; exact HS.out _ (List.getElem_mem hlt)
        have HX2 := Aside0.mk hx2
        have HY2 := Aside0.mk hy2
        obtain ⟨x, hxe⟩ : ∃ x, rd_L6 l0 (i : Int) = x := ⟨_, rfl⟩
        obtain ⟨y, hye⟩ : ∃ y, rd_L6 l1 (i : Int) = y := ⟨_, rfl⟩
        rw [hxe] at hx0 hx1 hlen HX2
        rw [hye] at hy0 hy1 HY2
        clear hx2 hy2
        have HXE := Aside0.mk hxe
        have HYE := Aside0.mk hye
        clear hxe hye
        obtain ⟨k1, rfl⟩ : ∃ k1, gk = k1 + 1 := ⟨gk - 1, by omega⟩
        by_cases hp : x = y
        · have HP := Aside0.mk hp
          have hp' : decide (x = y) = true := decide_eq_true hp
          clear hp
          go_wp2_with (go_at_call 32; refine (equal_calls B0 d0 x B1 d1 y _ HX2.out hx1 HY2.out hy1 (by omega)).mono ?_; rintro e w1 ⟨rfl, hb⟩; have HB1 := Aside0.mk (below_step HB.out hb); clear hb HB; rw [hp'])
          go_roundg k1
          case measure => omega
          case rel => exact ⟨i + 1, by go_num, by omega, ⟨by
            intro j hj
            rcases Nat.lt_or_ge j i with h1 | h1
            · exact HN.out j h1
            · obtain rfl : j = i := by omega
              rw [HXE.out, HYE.out, HP.out]⟩, HB1⟩
        · have HP := Aside0.mk hp
          have hp' : decide (x = y) = false := decide_eq_false hp
          clear hp
          go_wp2_with (go_at_call 32; refine (equal_calls B0 d0 x B1 d1 y _ HX2.out hx1 HY2.out hy1 (by omega)).mono ?_; rintro e w1 ⟨rfl, hb⟩; have HB1 := Aside0.mk (below_step HB.out hb); clear hb HB; rw [hp'])
          go_ret
          exact ⟨by rw [decide_eq_false (fun h => HP.out (by rw [← HXE.out, ← HYE.out, h]))]; rfl, HB1.out⟩
      · have hge : l0.length ≤ i := by omega
        clear hlt
        go_wp2
        go_ret
        exact ⟨by rw [decide_eq_true (eq_of_all HL.out (by intro j hj; exact HN.out j (by omega)))]; rfl, HB.out⟩
  · have hl2 : ((l0.length : Int) != (l1.length : Int)) = true := by simp; omega
    have hne : ¬ l0 = l1 := fun h => hl (by rw [h])
    rw [decide_eq_false hne]
    clear hr0 hr1 hs hne
    go_enter Try.func31, Try.ntmps31
    go_wp2
    go_ret
    exact ⟨rfl, Below.refl _ _⟩
end Go.Proofs.Ytibcgallhldnnaa.P
namespace Go.Proofs.Ytibcgallhldnnaa.P
open Go.RowKit Go.Shelf Go.Proofs.YtibcgallhldnnaaW.PrintWords Go.Proofs.YtibcgallhldnnaaW.PrintLast Go.Proofs.YtibcgallhldnnaaW.PrintMore
set_option linter.unusedVariables false
set_option linter.unusedSimpArgs false

theorem bcut_take (A : Option Addr) (c : Nat) (xs ys : List Int) (m : Int) (hy : xs.take m.toNat = ys) (h0 : 0 ≤ m) (hm : m ≤ (xs.length : Int)) (hc : xs.length ≤ c) :
    (∀ W : World, (Instr.slice 24 (.slice A xs.length c) none (some (.int .i64 m)) none).run Try.prog W = .ok (.slice A ys.length c) W) ∧ (∀ w : World, Kd.C (Kd.int .u8) w A xs.length xs → Kd.C (Kd.int .u8) w A ys.length ys) ∧ ys.length ≤ c := by
  obtain ⟨i0, hi, hz0, hz1, hz2⟩ := info_parts info5
  obtain ⟨h1, h2, h3⟩ := print_take_of (P := Try.prog) (Value.int .u8) (0 : Int) 24 5 .i64 Try.underlying24 hi hz1 A c xs m h0 hm hc
  rw [hy] at h1 h2 h3
  exact ⟨h1, fun w h => Kd.C_of_reads (h2 w (Kd.reads_of_C h)), h3⟩
theorem bcut_drop (A : Option Addr) (c : Nat) (xs ys : List Int) (m : Int) (hy : xs.drop m.toNat = ys) (h0 : 0 ≤ m) (hm : m ≤ (xs.length : Int)) (hc : xs.length ≤ c) :
    ∃ (A' : Option Addr) (c' : Nat), (∀ W : World, (Instr.slice 24 (.slice A xs.length c) (some (.int .i64 m)) none none).run Try.prog W = .ok (.slice A' ys.length c') W) ∧ (∀ w : World, Kd.C (Kd.int .u8) w A xs.length xs → Kd.C (Kd.int .u8) w A' ys.length ys) ∧ ys.length ≤ c' := by
  obtain ⟨i0, hi, hz0, hz1, hz2⟩ := info_parts info5
  obtain ⟨A', h1, h2, h3⟩ := print_drop_of (P := Try.prog) (Value.int .u8) (0 : Int) 24 5 .i64 Try.underlying24 hi hz1 A c xs m h0 hm hc
  rw [hy] at h1 h2 h3
  exact ⟨A', _, h1, fun w h => Kd.C_of_reads (h2 w (Kd.reads_of_C h)), h3⟩

theorem equalFunc_yes (A0 : Option Addr) (c0 : Nat) (l0 : List (List Int)) (A1 : Option Addr) (c1 : Nat) (l1 : List (List Int)) (w : World) (hr0 : Kd.C (Kd.slice 5 (Kd.int .u8)) w A0 l0.length l0) (hr1 : Kd.C (Kd.slice 5 (Kd.int .u8)) w A1 l1.length l1) (hs : ∀ x ∈ l0, x.length ≤ 4294967296) (he : l0 = l1) :
    Calls Try.prog 31 #[.slice A0 l0.length c0, .slice A1 l1.length c1, .func (.func 32) #[] #[]] w fun e w' => e = .returned (.bool true) ∧ Below w.heap.size w w' := by
  have := equalFunc_is A0 c0 l0 A1 c1 l1 w hr0 hr1 hs
  rwa [decide_eq_true he] at this
theorem equalFunc_no (A0 : Option Addr) (c0 : Nat) (l0 : List (List Int)) (A1 : Option Addr) (c1 : Nat) (l1 : List (List Int)) (w : World) (hr0 : Kd.C (Kd.slice 5 (Kd.int .u8)) w A0 l0.length l0) (hr1 : Kd.C (Kd.slice 5 (Kd.int .u8)) w A1 l1.length l1) (hs : ∀ x ∈ l0, x.length ≤ 4294967296) (he : ¬ l0 = l1) :
    Calls Try.prog 31 #[.slice A0 l0.length c0, .slice A1 l1.length c1, .func (.func 32) #[] #[]] w fun e w' => e = .returned (.bool false) ∧ Below w.heap.size w w' := by
  have := equalFunc_is A0 c0 l0 A1 c1 l1 w hr0 hr1 hs
  rwa [decide_eq_false he] at this
theorem row_le : ∀ (l : List (List Int)) (x : List Int), x ∈ l → x.length ≤ l.flatten.length
  | [], x, h => by cases h
  | a :: l, x, h => by
    rw [List.flatten_cons, List.length_append]
    rcases List.mem_cons.1 h with rfl | h
    · omega
    · have := row_le l x h
      omega

set_option maxRecDepth 100000 in
set_option maxHeartbeats 8000000 in
theorem join_form0 (a0 a2 n : Int) (l1 : List (List Int)) (all : List Int) (A1 : Option Addr) (c1 : Nat) (unit ah : Int) (w : World) (hr1 : Kd.C (Kd.slice 5 (Kd.int .u8)) w A1 l1.length l1) (hc1 : l1.length ≤ c1) (h0 : 0 < l1.length) (h8 : l1.length ≤ 8)
    (hall : l1.flatten = all) (hal : all.length ≤ 1000000)
    (hM : profile_May.f a0 (l1.length : Int) a2 = some true) (hodd : l1.any (odd l1) = false) (hR : layout_rule.f a0 (l1.length : Int) a2 = some (unit, ah)) (hu : 0 < unit) (hq0 : ((rd_L6 l1 0).length : Int) = 0) :
    Calls Try.prog 16 #[.agg #[.int .i64 a0, .int .i64 (l1.length : Int), .int .i64 a2], .slice A1 l1.length c1, .int .i64 n] w fun e w' => e = .returned (.tuple #[.slice none 0 0, .int .i64 3]) ∧ Below w.heap.size w w' := by
  obtain ⟨ad, B0, d0, e1, hx, _, _⟩ := at_L6 hr1 0 (by omega) (by omega)
  cases e1
  simp only [show (0 : Int).toNat = 0 from rfl, Nat.reduceMul, Nat.reduceEqDiff, Go.Addr.add, ↓reduceIte] at hx
  have hl0 : (0 : Int) < (l1.length : Int) := by omega
  obtain ⟨q, hq⟩ : ∃ q, q = (rd_L6 l1 0).length := ⟨_, rfl⟩
  rw [← hq] at hx hq0
  have HX : Aside0 (((w.alloc (.cells #[.int .i64 a0, .int .i64 (l1.length : Int), .int .i64 a2] 23)).alloc (.cells #[.slice (some ad) l1.length c1] 31)).heap[w.heap.size]? = some (.cells #[.int .i64 a0, .int .i64 (l1.length : Int), .int .i64 a2] 23 (0, 0))) := ⟨blk_alloc (heap_alloc_new _ _) _⟩
  have HD : Aside0 (((w.alloc (.cells #[.int .i64 a0, .int .i64 (l1.length : Int), .int .i64 a2] 23)).alloc (.cells #[.slice (some ad) l1.length c1] 31)).heap[w.heap.size + 1]? = some (.cells #[.slice (some ad) l1.length c1] 31 (0, 0))) := ⟨by
    have := heap_alloc_new (w.alloc (.cells #[.int .i64 a0, .int .i64 (l1.length : Int), .int .i64 a2] 23)) (.cells #[.slice (some ad) l1.length c1] 31)
    rwa [World.size_alloc] at this⟩
  have HB := Aside0.mk (below_alloc (below_alloc (Below.refl w.heap.size w) (.cells #[.int .i64 a0, .int .i64 (l1.length : Int), .int .i64 a2] 23)) (.cells #[.slice (some ad) l1.length c1] 31))
  have HC := Aside0.mk (Kd.C_below hr1 HB.out)
  have HE := Aside0.mk (pw_cell_below HB.out hx)
  clear hx hr1 hq
  have hcM := fun w => profile_May.calls a0 (l1.length : Int) a2 true w hM
  have hcR := fun w => layout_rule.calls a0 (l1.length : Int) a2 unit ah w hR
  have hu0 : ¬ unit = 0 := by omega
  obtain rfl : q = 0 := by omega
  clear hq0
  go_enter Try.func16, Try.ntmps16
  go_wp2_with (first
    | (go_at_call 21; refine (hcM _).mono ?_; rintro e w1 ⟨rfl, hb⟩; have n0_ := Aside0.mk (blk_below HX.out hb); have n1_ := Aside0.mk (blk_below HD.out hb); have n2_ := Aside0.mk (Kd.C_below HC.out hb); have n3_ := Aside0.mk (below_step HB.out hb); have n4_ := Aside0.mk (pw_cell_below hb HE.out); clear HX HD HC HB HE; have HX := n0_; have HD := n1_; have HC := n2_; have HB := n3_; have HE := n4_; clear n0_ n1_ n2_ n3_ n4_; have hx0 := (blk_cell HX.out 0).trans (show _ = some (Value.int .i64 a0) from rfl); have hx1 := (blk_cell HX.out 1).trans (show _ = some (Value.int .i64 (l1.length : Int)) from rfl); have hx2 := (blk_cell HX.out 2).trans (show _ = some (Value.int .i64 a2) from rfl); have hd0 := (blk_cell HD.out 0).trans (show _ = some (Value.slice (some ad) l1.length c1) from rfl); have he0 := HE.out; clear hb)
    | (go_at_call 27; refine (containsFunc_is _ _ _ l1 _ hd0 HC.out (blk_lt HD.out)).mono ?_; rintro e w2 ⟨rfl, hb⟩; have n0_ := Aside0.mk (blk_below HX.out hb); have n1_ := Aside0.mk (blk_below HD.out hb); have n2_ := Aside0.mk (Kd.C_below HC.out hb); have n3_ := Aside0.mk (below_step HB.out hb); have n4_ := Aside0.mk (pw_cell_below hb HE.out); clear HX HD HC HB HE; have HX := n0_; have HD := n1_; have HC := n2_; have HB := n3_; have HE := n4_; clear n0_ n1_ n2_ n3_ n4_; have hx0 := (blk_cell HX.out 0).trans (show _ = some (Value.int .i64 a0) from rfl); have hx1 := (blk_cell HX.out 1).trans (show _ = some (Value.int .i64 (l1.length : Int)) from rfl); have hx2 := (blk_cell HX.out 2).trans (show _ = some (Value.int .i64 a2) from rfl); have hd0 := (blk_cell HD.out 0).trans (show _ = some (Value.slice (some ad) l1.length c1) from rfl); have he0 := HE.out; clear hb; rw [hodd])
    | (go_at_call 22; refine (hcR _).mono ?_; rintro e w3 ⟨rfl, hb⟩; have n0_ := Aside0.mk (blk_below HX.out hb); have n1_ := Aside0.mk (blk_below HD.out hb); have n2_ := Aside0.mk (Kd.C_below HC.out hb); have n3_ := Aside0.mk (below_step HB.out hb); have n4_ := Aside0.mk (pw_cell_below hb HE.out); clear HX HD HC HB HE; have HX := n0_; have HD := n1_; have HC := n2_; have HB := n3_; have HE := n4_; clear n0_ n1_ n2_ n3_ n4_; have hx0 := (blk_cell HX.out 0).trans (show _ = some (Value.int .i64 a0) from rfl); have hx1 := (blk_cell HX.out 1).trans (show _ = some (Value.int .i64 (l1.length : Int)) from rfl); have hx2 := (blk_cell HX.out 2).trans (show _ = some (Value.int .i64 a2) from rfl); have hd0 := (blk_cell HD.out 0).trans (show _ = some (Value.slice (some ad) l1.length c1) from rfl); have he0 := HE.out; clear hb)
    | (go_at_call 29; refine (concat_calls _ _ l1 _ HC.out hc1 (by omega) (by rw [hall]; omega)).mono ?_; rintro e w4 ⟨v, rfl, hv, hb⟩; have n0_ := Aside0.mk (blk_below HX.out hb); have n1_ := Aside0.mk (blk_below HD.out hb); have n2_ := Aside0.mk (Kd.C_below HC.out hb); have n3_ := Aside0.mk (below_step HB.out hb); have n4_ := Aside0.mk (pw_cell_below hb HE.out); clear HX HD HC HB HE; have HX := n0_; have HD := n1_; have HC := n2_; have HB := n3_; have HE := n4_; clear n0_ n1_ n2_ n3_ n4_; have hx0 := (blk_cell HX.out 0).trans (show _ = some (Value.int .i64 a0) from rfl); have hx1 := (blk_cell HX.out 1).trans (show _ = some (Value.int .i64 (l1.length : Int)) from rfl); have hx2 := (blk_cell HX.out 2).trans (show _ = some (Value.int .i64 a2) from rfl); have hd0 := (blk_cell HD.out 0).trans (show _ = some (Value.slice (some ad) l1.length c1) from rfl); have he0 := HE.out; rw [hall] at hv; obtain ⟨ao, co, rfl⟩ := Kd.R_slice hv; have hcap := (Kd.R_reads' hv).2.1; have HV := Aside0.mk (Kd.R_reads' hv).2.2; clear hv hb; skip))
  exact ⟨by simp, _, results_tmp2 rfl _ _ _, rfl, HB.out⟩
set_option maxRecDepth 100000 in
set_option maxHeartbeats 8000000 in
theorem join_form1 (a0 a2 n : Int) (l1 : List (List Int)) (all : List Int) (A1 : Option Addr) (c1 : Nat) (unit ah : Int) (w : World) (hr1 : Kd.C (Kd.slice 5 (Kd.int .u8)) w A1 l1.length l1) (hc1 : l1.length ≤ c1) (h0 : 0 < l1.length) (h8 : l1.length ≤ 8)
    (hall : l1.flatten = all) (hal : all.length ≤ 1000000)
    (hM : profile_May.f a0 (l1.length : Int) a2 = some true) (hodd : l1.any (odd l1) = false) (hR : layout_rule.f a0 (l1.length : Int) a2 = some (unit, ah)) (hu : 0 < unit) (hq0 : ¬ ((rd_L6 l1 0).length : Int) = 0) (hqm : ¬ Int.tmod ((rd_L6 l1 0).length : Int) unit = 0) :
    Calls Try.prog 16 #[.agg #[.int .i64 a0, .int .i64 (l1.length : Int), .int .i64 a2], .slice A1 l1.length c1, .int .i64 n] w fun e w' => e = .returned (.tuple #[.slice none 0 0, .int .i64 3]) ∧ Below w.heap.size w w' := by
  obtain ⟨ad, B0, d0, e1, hx, _, _⟩ := at_L6 hr1 0 (by omega) (by omega)
  cases e1
  simp only [show (0 : Int).toNat = 0 from rfl, Nat.reduceMul, Nat.reduceEqDiff, Go.Addr.add, ↓reduceIte] at hx
  have hl0 : (0 : Int) < (l1.length : Int) := by omega
  obtain ⟨q, hq⟩ : ∃ q, q = (rd_L6 l1 0).length := ⟨_, rfl⟩
  rw [← hq] at hx hq0 hqm
  have HX : Aside0 (((w.alloc (.cells #[.int .i64 a0, .int .i64 (l1.length : Int), .int .i64 a2] 23)).alloc (.cells #[.slice (some ad) l1.length c1] 31)).heap[w.heap.size]? = some (.cells #[.int .i64 a0, .int .i64 (l1.length : Int), .int .i64 a2] 23 (0, 0))) := ⟨blk_alloc (heap_alloc_new _ _) _⟩
  have HD : Aside0 (((w.alloc (.cells #[.int .i64 a0, .int .i64 (l1.length : Int), .int .i64 a2] 23)).alloc (.cells #[.slice (some ad) l1.length c1] 31)).heap[w.heap.size + 1]? = some (.cells #[.slice (some ad) l1.length c1] 31 (0, 0))) := ⟨by
    have := heap_alloc_new (w.alloc (.cells #[.int .i64 a0, .int .i64 (l1.length : Int), .int .i64 a2] 23)) (.cells #[.slice (some ad) l1.length c1] 31)
    rwa [World.size_alloc] at this⟩
  have HB := Aside0.mk (below_alloc (below_alloc (Below.refl w.heap.size w) (.cells #[.int .i64 a0, .int .i64 (l1.length : Int), .int .i64 a2] 23)) (.cells #[.slice (some ad) l1.length c1] 31))
  have HC := Aside0.mk (Kd.C_below hr1 HB.out)
  have HE := Aside0.mk (pw_cell_below HB.out hx)
  clear hx hr1 hq
  have hcM := fun w => profile_May.calls a0 (l1.length : Int) a2 true w hM
  have hcR := fun w => layout_rule.calls a0 (l1.length : Int) a2 unit ah w hR
  have hu0 : ¬ unit = 0 := by omega
  have hq0b : ((q : Int) == 0) = false := beq_eq_false_iff_ne.mpr hq0
  have hqmb : ((Int.tmod (q : Int) unit) != 0) = true := bne_iff_ne.mpr hqm
  have hqm2 : ¬ (q : Int) % unit = 0 := by rw [← Int.tmod_eq_emod_of_nonneg (by omega)]; exact hqm
  have hqmc : (((q : Int) % unit) != 0) = true := bne_iff_ne.mpr hqm2
  go_enter Try.func16, Try.ntmps16
  go_wp2_with (first
    | (go_at_call 21; refine (hcM _).mono ?_; rintro e w1 ⟨rfl, hb⟩; have n0_ := Aside0.mk (blk_below HX.out hb); have n1_ := Aside0.mk (blk_below HD.out hb); have n2_ := Aside0.mk (Kd.C_below HC.out hb); have n3_ := Aside0.mk (below_step HB.out hb); have n4_ := Aside0.mk (pw_cell_below hb HE.out); clear HX HD HC HB HE; have HX := n0_; have HD := n1_; have HC := n2_; have HB := n3_; have HE := n4_; clear n0_ n1_ n2_ n3_ n4_; have hx0 := (blk_cell HX.out 0).trans (show _ = some (Value.int .i64 a0) from rfl); have hx1 := (blk_cell HX.out 1).trans (show _ = some (Value.int .i64 (l1.length : Int)) from rfl); have hx2 := (blk_cell HX.out 2).trans (show _ = some (Value.int .i64 a2) from rfl); have hd0 := (blk_cell HD.out 0).trans (show _ = some (Value.slice (some ad) l1.length c1) from rfl); have he0 := HE.out; clear hb)
    | (go_at_call 27; refine (containsFunc_is _ _ _ l1 _ hd0 HC.out (blk_lt HD.out)).mono ?_; rintro e w2 ⟨rfl, hb⟩; have n0_ := Aside0.mk (blk_below HX.out hb); have n1_ := Aside0.mk (blk_below HD.out hb); have n2_ := Aside0.mk (Kd.C_below HC.out hb); have n3_ := Aside0.mk (below_step HB.out hb); have n4_ := Aside0.mk (pw_cell_below hb HE.out); clear HX HD HC HB HE; have HX := n0_; have HD := n1_; have HC := n2_; have HB := n3_; have HE := n4_; clear n0_ n1_ n2_ n3_ n4_; have hx0 := (blk_cell HX.out 0).trans (show _ = some (Value.int .i64 a0) from rfl); have hx1 := (blk_cell HX.out 1).trans (show _ = some (Value.int .i64 (l1.length : Int)) from rfl); have hx2 := (blk_cell HX.out 2).trans (show _ = some (Value.int .i64 a2) from rfl); have hd0 := (blk_cell HD.out 0).trans (show _ = some (Value.slice (some ad) l1.length c1) from rfl); have he0 := HE.out; clear hb; rw [hodd])
    | (go_at_call 22; refine (hcR _).mono ?_; rintro e w3 ⟨rfl, hb⟩; have n0_ := Aside0.mk (blk_below HX.out hb); have n1_ := Aside0.mk (blk_below HD.out hb); have n2_ := Aside0.mk (Kd.C_below HC.out hb); have n3_ := Aside0.mk (below_step HB.out hb); have n4_ := Aside0.mk (pw_cell_below hb HE.out); clear HX HD HC HB HE; have HX := n0_; have HD := n1_; have HC := n2_; have HB := n3_; have HE := n4_; clear n0_ n1_ n2_ n3_ n4_; have hx0 := (blk_cell HX.out 0).trans (show _ = some (Value.int .i64 a0) from rfl); have hx1 := (blk_cell HX.out 1).trans (show _ = some (Value.int .i64 (l1.length : Int)) from rfl); have hx2 := (blk_cell HX.out 2).trans (show _ = some (Value.int .i64 a2) from rfl); have hd0 := (blk_cell HD.out 0).trans (show _ = some (Value.slice (some ad) l1.length c1) from rfl); have he0 := HE.out; clear hb)
    | (go_at_call 29; refine (concat_calls _ _ l1 _ HC.out hc1 (by omega) (by rw [hall]; omega)).mono ?_; rintro e w4 ⟨v, rfl, hv, hb⟩; have n0_ := Aside0.mk (blk_below HX.out hb); have n1_ := Aside0.mk (blk_below HD.out hb); have n2_ := Aside0.mk (Kd.C_below HC.out hb); have n3_ := Aside0.mk (below_step HB.out hb); have n4_ := Aside0.mk (pw_cell_below hb HE.out); clear HX HD HC HB HE; have HX := n0_; have HD := n1_; have HC := n2_; have HB := n3_; have HE := n4_; clear n0_ n1_ n2_ n3_ n4_; have hx0 := (blk_cell HX.out 0).trans (show _ = some (Value.int .i64 a0) from rfl); have hx1 := (blk_cell HX.out 1).trans (show _ = some (Value.int .i64 (l1.length : Int)) from rfl); have hx2 := (blk_cell HX.out 2).trans (show _ = some (Value.int .i64 a2) from rfl); have hd0 := (blk_cell HD.out 0).trans (show _ = some (Value.slice (some ad) l1.length c1) from rfl); have he0 := HE.out; rw [hall] at hv; obtain ⟨ao, co, rfl⟩ := Kd.R_slice hv; have hcap := (Kd.R_reads' hv).2.1; have HV := Aside0.mk (Kd.R_reads' hv).2.2; clear hv hb; skip))
  exact ⟨by simp, _, results_tmp2 rfl _ _ _, rfl, HB.out⟩
set_option maxRecDepth 100000 in
set_option maxHeartbeats 8000000 in
theorem join_form2 (a0 a2 n : Int) (l1 : List (List Int)) (all : List Int) (A1 : Option Addr) (c1 : Nat) (unit ah : Int) (w : World) (hr1 : Kd.C (Kd.slice 5 (Kd.int .u8)) w A1 l1.length l1) (hc1 : l1.length ≤ c1) (h0 : 0 < l1.length) (h8 : l1.length ≤ 8)
    (hall : l1.flatten = all) (hal : all.length ≤ 1000000)
    (hM : profile_May.f a0 (l1.length : Int) a2 = some true) (hodd : l1.any (odd l1) = false) (hR : layout_rule.f a0 (l1.length : Int) a2 = some (unit, ah)) (hu : 0 < unit) (hq0 : ¬ ((rd_L6 l1 0).length : Int) = 0) (hqm : Int.tmod ((rd_L6 l1 0).length : Int) unit = 0) (hah2 : (all.length : Int) < ah) :
    Calls Try.prog 16 #[.agg #[.int .i64 a0, .int .i64 (l1.length : Int), .int .i64 a2], .slice A1 l1.length c1, .int .i64 n] w fun e w' => e = .returned (.tuple #[.slice none 0 0, .int .i64 3]) ∧ Below w.heap.size w w' := by
  obtain ⟨ad, B0, d0, e1, hx, _, _⟩ := at_L6 hr1 0 (by omega) (by omega)
  cases e1
  simp only [show (0 : Int).toNat = 0 from rfl, Nat.reduceMul, Nat.reduceEqDiff, Go.Addr.add, ↓reduceIte] at hx
  have hl0 : (0 : Int) < (l1.length : Int) := by omega
  obtain ⟨q, hq⟩ : ∃ q, q = (rd_L6 l1 0).length := ⟨_, rfl⟩
  rw [← hq] at hx hq0 hqm
  have HX : Aside0 (((w.alloc (.cells #[.int .i64 a0, .int .i64 (l1.length : Int), .int .i64 a2] 23)).alloc (.cells #[.slice (some ad) l1.length c1] 31)).heap[w.heap.size]? = some (.cells #[.int .i64 a0, .int .i64 (l1.length : Int), .int .i64 a2] 23 (0, 0))) := ⟨blk_alloc (heap_alloc_new _ _) _⟩
  have HD : Aside0 (((w.alloc (.cells #[.int .i64 a0, .int .i64 (l1.length : Int), .int .i64 a2] 23)).alloc (.cells #[.slice (some ad) l1.length c1] 31)).heap[w.heap.size + 1]? = some (.cells #[.slice (some ad) l1.length c1] 31 (0, 0))) := ⟨by
    have := heap_alloc_new (w.alloc (.cells #[.int .i64 a0, .int .i64 (l1.length : Int), .int .i64 a2] 23)) (.cells #[.slice (some ad) l1.length c1] 31)
    rwa [World.size_alloc] at this⟩
  have HB := Aside0.mk (below_alloc (below_alloc (Below.refl w.heap.size w) (.cells #[.int .i64 a0, .int .i64 (l1.length : Int), .int .i64 a2] 23)) (.cells #[.slice (some ad) l1.length c1] 31))
  have HC := Aside0.mk (Kd.C_below hr1 HB.out)
  have HE := Aside0.mk (pw_cell_below HB.out hx)
  clear hx hr1 hq
  have hcM := fun w => profile_May.calls a0 (l1.length : Int) a2 true w hM
  have hcR := fun w => layout_rule.calls a0 (l1.length : Int) a2 unit ah w hR
  have hu0 : ¬ unit = 0 := by omega
  have hq0b : ((q : Int) == 0) = false := beq_eq_false_iff_ne.mpr hq0
  have hah3 : decide ((all.length : Int) < ah) = true := decide_eq_true hah2
  go_enter Try.func16, Try.ntmps16
  go_wp2_with (first
    | (go_at_call 21; refine (hcM _).mono ?_; rintro e w1 ⟨rfl, hb⟩; have n0_ := Aside0.mk (blk_below HX.out hb); have n1_ := Aside0.mk (blk_below HD.out hb); have n2_ := Aside0.mk (Kd.C_below HC.out hb); have n3_ := Aside0.mk (below_step HB.out hb); have n4_ := Aside0.mk (pw_cell_below hb HE.out); clear HX HD HC HB HE; have HX := n0_; have HD := n1_; have HC := n2_; have HB := n3_; have HE := n4_; clear n0_ n1_ n2_ n3_ n4_; have hx0 := (blk_cell HX.out 0).trans (show _ = some (Value.int .i64 a0) from rfl); have hx1 := (blk_cell HX.out 1).trans (show _ = some (Value.int .i64 (l1.length : Int)) from rfl); have hx2 := (blk_cell HX.out 2).trans (show _ = some (Value.int .i64 a2) from rfl); have hd0 := (blk_cell HD.out 0).trans (show _ = some (Value.slice (some ad) l1.length c1) from rfl); have he0 := HE.out; clear hb)
    | (go_at_call 27; refine (containsFunc_is _ _ _ l1 _ hd0 HC.out (blk_lt HD.out)).mono ?_; rintro e w2 ⟨rfl, hb⟩; have n0_ := Aside0.mk (blk_below HX.out hb); have n1_ := Aside0.mk (blk_below HD.out hb); have n2_ := Aside0.mk (Kd.C_below HC.out hb); have n3_ := Aside0.mk (below_step HB.out hb); have n4_ := Aside0.mk (pw_cell_below hb HE.out); clear HX HD HC HB HE; have HX := n0_; have HD := n1_; have HC := n2_; have HB := n3_; have HE := n4_; clear n0_ n1_ n2_ n3_ n4_; have hx0 := (blk_cell HX.out 0).trans (show _ = some (Value.int .i64 a0) from rfl); have hx1 := (blk_cell HX.out 1).trans (show _ = some (Value.int .i64 (l1.length : Int)) from rfl); have hx2 := (blk_cell HX.out 2).trans (show _ = some (Value.int .i64 a2) from rfl); have hd0 := (blk_cell HD.out 0).trans (show _ = some (Value.slice (some ad) l1.length c1) from rfl); have he0 := HE.out; clear hb; rw [hodd])
    | (go_at_call 22; refine (hcR _).mono ?_; rintro e w3 ⟨rfl, hb⟩; have n0_ := Aside0.mk (blk_below HX.out hb); have n1_ := Aside0.mk (blk_below HD.out hb); have n2_ := Aside0.mk (Kd.C_below HC.out hb); have n3_ := Aside0.mk (below_step HB.out hb); have n4_ := Aside0.mk (pw_cell_below hb HE.out); clear HX HD HC HB HE; have HX := n0_; have HD := n1_; have HC := n2_; have HB := n3_; have HE := n4_; clear n0_ n1_ n2_ n3_ n4_; have hx0 := (blk_cell HX.out 0).trans (show _ = some (Value.int .i64 a0) from rfl); have hx1 := (blk_cell HX.out 1).trans (show _ = some (Value.int .i64 (l1.length : Int)) from rfl); have hx2 := (blk_cell HX.out 2).trans (show _ = some (Value.int .i64 a2) from rfl); have hd0 := (blk_cell HD.out 0).trans (show _ = some (Value.slice (some ad) l1.length c1) from rfl); have he0 := HE.out; clear hb)
    | (go_at_call 29; refine (concat_calls _ _ l1 _ HC.out hc1 (by omega) (by rw [hall]; omega)).mono ?_; rintro e w4 ⟨v, rfl, hv, hb⟩; have n0_ := Aside0.mk (blk_below HX.out hb); have n1_ := Aside0.mk (blk_below HD.out hb); have n2_ := Aside0.mk (Kd.C_below HC.out hb); have n3_ := Aside0.mk (below_step HB.out hb); have n4_ := Aside0.mk (pw_cell_below hb HE.out); clear HX HD HC HB HE; have HX := n0_; have HD := n1_; have HC := n2_; have HB := n3_; have HE := n4_; clear n0_ n1_ n2_ n3_ n4_; have hx0 := (blk_cell HX.out 0).trans (show _ = some (Value.int .i64 a0) from rfl); have hx1 := (blk_cell HX.out 1).trans (show _ = some (Value.int .i64 (l1.length : Int)) from rfl); have hx2 := (blk_cell HX.out 2).trans (show _ = some (Value.int .i64 a2) from rfl); have hd0 := (blk_cell HD.out 0).trans (show _ = some (Value.slice (some ad) l1.length c1) from rfl); have he0 := HE.out; rw [hall] at hv; obtain ⟨ao, co, rfl⟩ := Kd.R_slice hv; have hcap := (Kd.R_reads' hv).2.1; have HV := Aside0.mk (Kd.R_reads' hv).2.2; clear hv hb; skip))
  exact ⟨by simp, _, results_tmp2 rfl _ _ _, rfl, HB.out⟩
set_option maxRecDepth 100000 in
set_option maxHeartbeats 8000000 in
theorem join_range0t (a0 a2 n : Int) (l1 : List (List Int)) (all : List Int) (A1 : Option Addr) (c1 : Nat) (unit ah : Int) (n1 : Int) (hd rest : List Int) (w : World) (hr1 : Kd.C (Kd.slice 5 (Kd.int .u8)) w A1 l1.length l1) (hc1 : l1.length ≤ c1) (h0 : 0 < l1.length) (h8 : l1.length ≤ 8)
    (hall : l1.flatten = all) (hal : all.length ≤ 1000000)
    (hM : profile_May.f a0 (l1.length : Int) a2 = some true) (hodd : l1.any (odd l1) = false) (hR : layout_rule.f a0 (l1.length : Int) a2 = some (unit, ah)) (hu : 0 < unit) (hq0 : ¬ ((rd_L6 l1 0).length : Int) = 0) (hqm : Int.tmod ((rd_L6 l1 0).length : Int) unit = 0) (hah : 0 < ah) (hah2 : ah ≤ (all.length : Int)) (hhd : all.take ah.toNat = hd) (hT : layout_told.f 9 hd = some n1) (hrest : all.drop ah.toNat = rest) (hn0 : n1 < 0) :
    Calls Try.prog 16 #[.agg #[.int .i64 a0, .int .i64 (l1.length : Int), .int .i64 a2], .slice A1 l1.length c1, .int .i64 n] w fun e w' => e = .returned (.tuple #[.slice none 0 0, .int .i64 3]) ∧ Below w.heap.size w w' := by
  obtain ⟨ad, B0, d0, e1, hx, _, _⟩ := at_L6 hr1 0 (by omega) (by omega)
  cases e1
  simp only [show (0 : Int).toNat = 0 from rfl, Nat.reduceMul, Nat.reduceEqDiff, Go.Addr.add, ↓reduceIte] at hx
  have hl0 : (0 : Int) < (l1.length : Int) := by omega
  obtain ⟨q, hq⟩ : ∃ q, q = (rd_L6 l1 0).length := ⟨_, rfl⟩
  rw [← hq] at hx hq0 hqm
  have HX : Aside0 (((w.alloc (.cells #[.int .i64 a0, .int .i64 (l1.length : Int), .int .i64 a2] 23)).alloc (.cells #[.slice (some ad) l1.length c1] 31)).heap[w.heap.size]? = some (.cells #[.int .i64 a0, .int .i64 (l1.length : Int), .int .i64 a2] 23 (0, 0))) := ⟨blk_alloc (heap_alloc_new _ _) _⟩
  have HD : Aside0 (((w.alloc (.cells #[.int .i64 a0, .int .i64 (l1.length : Int), .int .i64 a2] 23)).alloc (.cells #[.slice (some ad) l1.length c1] 31)).heap[w.heap.size + 1]? = some (.cells #[.slice (some ad) l1.length c1] 31 (0, 0))) := ⟨by
    have := heap_alloc_new (w.alloc (.cells #[.int .i64 a0, .int .i64 (l1.length : Int), .int .i64 a2] 23)) (.cells #[.slice (some ad) l1.length c1] 31)
    rwa [World.size_alloc] at this⟩
  have HB := Aside0.mk (below_alloc (below_alloc (Below.refl w.heap.size w) (.cells #[.int .i64 a0, .int .i64 (l1.length : Int), .int .i64 a2] 23)) (.cells #[.slice (some ad) l1.length c1] 31))
  have HC := Aside0.mk (Kd.C_below hr1 HB.out)
  have HE := Aside0.mk (pw_cell_below HB.out hx)
  clear hx hr1 hq
  have hcM := fun w => profile_May.calls a0 (l1.length : Int) a2 true w hM
  have hcR := fun w => layout_rule.calls a0 (l1.length : Int) a2 unit ah w hR
  have hu0 : ¬ unit = 0 := by omega
  have hq0b : ((q : Int) == 0) = false := beq_eq_false_iff_ne.mpr hq0
  go_enter Try.func16, Try.ntmps16
  go_wp2_with (first
    | (go_at_call 21; refine (hcM _).mono ?_; rintro e w1 ⟨rfl, hb⟩; have n0_ := Aside0.mk (blk_below HX.out hb); have n1_ := Aside0.mk (blk_below HD.out hb); have n2_ := Aside0.mk (Kd.C_below HC.out hb); have n3_ := Aside0.mk (below_step HB.out hb); have n4_ := Aside0.mk (pw_cell_below hb HE.out); clear HX HD HC HB HE; have HX := n0_; have HD := n1_; have HC := n2_; have HB := n3_; have HE := n4_; clear n0_ n1_ n2_ n3_ n4_; have hx0 := (blk_cell HX.out 0).trans (show _ = some (Value.int .i64 a0) from rfl); have hx1 := (blk_cell HX.out 1).trans (show _ = some (Value.int .i64 (l1.length : Int)) from rfl); have hx2 := (blk_cell HX.out 2).trans (show _ = some (Value.int .i64 a2) from rfl); have hd0 := (blk_cell HD.out 0).trans (show _ = some (Value.slice (some ad) l1.length c1) from rfl); have he0 := HE.out; clear hb)
    | (go_at_call 27; refine (containsFunc_is _ _ _ l1 _ hd0 HC.out (blk_lt HD.out)).mono ?_; rintro e w2 ⟨rfl, hb⟩; have n0_ := Aside0.mk (blk_below HX.out hb); have n1_ := Aside0.mk (blk_below HD.out hb); have n2_ := Aside0.mk (Kd.C_below HC.out hb); have n3_ := Aside0.mk (below_step HB.out hb); have n4_ := Aside0.mk (pw_cell_below hb HE.out); clear HX HD HC HB HE; have HX := n0_; have HD := n1_; have HC := n2_; have HB := n3_; have HE := n4_; clear n0_ n1_ n2_ n3_ n4_; have hx0 := (blk_cell HX.out 0).trans (show _ = some (Value.int .i64 a0) from rfl); have hx1 := (blk_cell HX.out 1).trans (show _ = some (Value.int .i64 (l1.length : Int)) from rfl); have hx2 := (blk_cell HX.out 2).trans (show _ = some (Value.int .i64 a2) from rfl); have hd0 := (blk_cell HD.out 0).trans (show _ = some (Value.slice (some ad) l1.length c1) from rfl); have he0 := HE.out; clear hb; rw [hodd])
    | (go_at_call 22; refine (hcR _).mono ?_; rintro e w3 ⟨rfl, hb⟩; have n0_ := Aside0.mk (blk_below HX.out hb); have n1_ := Aside0.mk (blk_below HD.out hb); have n2_ := Aside0.mk (Kd.C_below HC.out hb); have n3_ := Aside0.mk (below_step HB.out hb); have n4_ := Aside0.mk (pw_cell_below hb HE.out); clear HX HD HC HB HE; have HX := n0_; have HD := n1_; have HC := n2_; have HB := n3_; have HE := n4_; clear n0_ n1_ n2_ n3_ n4_; have hx0 := (blk_cell HX.out 0).trans (show _ = some (Value.int .i64 a0) from rfl); have hx1 := (blk_cell HX.out 1).trans (show _ = some (Value.int .i64 (l1.length : Int)) from rfl); have hx2 := (blk_cell HX.out 2).trans (show _ = some (Value.int .i64 a2) from rfl); have hd0 := (blk_cell HD.out 0).trans (show _ = some (Value.slice (some ad) l1.length c1) from rfl); have he0 := HE.out; clear hb)
    | (go_at_call 29; refine (concat_calls _ _ l1 _ HC.out hc1 (by omega) (by rw [hall]; omega)).mono ?_; rintro e w4 ⟨v, rfl, hv, hb⟩; have n0_ := Aside0.mk (blk_below HX.out hb); have n1_ := Aside0.mk (blk_below HD.out hb); have n2_ := Aside0.mk (Kd.C_below HC.out hb); have n3_ := Aside0.mk (below_step HB.out hb); have n4_ := Aside0.mk (pw_cell_below hb HE.out); clear HX HD HC HB HE; have HX := n0_; have HD := n1_; have HC := n2_; have HB := n3_; have HE := n4_; clear n0_ n1_ n2_ n3_ n4_; have hx0 := (blk_cell HX.out 0).trans (show _ = some (Value.int .i64 a0) from rfl); have hx1 := (blk_cell HX.out 1).trans (show _ = some (Value.int .i64 (l1.length : Int)) from rfl); have hx2 := (blk_cell HX.out 2).trans (show _ = some (Value.int .i64 a2) from rfl); have hd0 := (blk_cell HD.out 0).trans (show _ = some (Value.slice (some ad) l1.length c1) from rfl); have he0 := HE.out; rw [hall] at hv; obtain ⟨ao, co, rfl⟩ := Kd.R_slice hv; have hcap := (Kd.R_reads' hv).2.1; have HV := Aside0.mk (Kd.R_reads' hv).2.2; clear hv hb; obtain ⟨e59, r59, k59⟩ := bcut_take ao co all hd ah hhd (by omega) hah2 hcap; obtain ⟨A2, c2, e63, r63, k63⟩ := bcut_drop ao co all rest ah hrest (by omega) hah2 hcap; have R59 := Aside0.mk r59; clear r59 r63)
    | (go_at_call 30; refine (layout_told.calls 9 _ _ hd n1 _ (R59.out _ HV.out) k59 hT).mono ?_; rintro e w5 ⟨rfl, hdr⟩; have hb := Drawn0.below hdr; clear hdr; have n0_ := Aside0.mk (blk_below HX.out hb); have n1_ := Aside0.mk (blk_below HD.out hb); have n2_ := Aside0.mk (Kd.C_below HC.out hb); have n3_ := Aside0.mk (below_step HB.out hb); have n4_ := Aside0.mk (pw_cell_below hb HE.out); have n5_ := Aside0.mk (Kd.C_below HV.out hb); clear HV; have HV := n5_; clear n5_; clear HX HD HC HB HE; have HX := n0_; have HD := n1_; have HC := n2_; have HB := n3_; have HE := n4_; clear n0_ n1_ n2_ n3_ n4_; have hx0 := (blk_cell HX.out 0).trans (show _ = some (Value.int .i64 a0) from rfl); have hx1 := (blk_cell HX.out 1).trans (show _ = some (Value.int .i64 (l1.length : Int)) from rfl); have hx2 := (blk_cell HX.out 2).trans (show _ = some (Value.int .i64 a2) from rfl); have hd0 := (blk_cell HD.out 0).trans (show _ = some (Value.slice (some ad) l1.length c1) from rfl); have he0 := HE.out; clear hb))
  exact ⟨by simp, _, results_tmp2 rfl _ _ _, rfl, HB.out⟩
set_option maxRecDepth 100000 in
set_option maxHeartbeats 8000000 in
theorem join_range1t (a0 a2 n : Int) (l1 : List (List Int)) (all : List Int) (A1 : Option Addr) (c1 : Nat) (unit ah : Int) (n1 : Int) (hd rest : List Int) (w : World) (hr1 : Kd.C (Kd.slice 5 (Kd.int .u8)) w A1 l1.length l1) (hc1 : l1.length ≤ c1) (h0 : 0 < l1.length) (h8 : l1.length ≤ 8)
    (hall : l1.flatten = all) (hal : all.length ≤ 1000000)
    (hM : profile_May.f a0 (l1.length : Int) a2 = some true) (hodd : l1.any (odd l1) = false) (hR : layout_rule.f a0 (l1.length : Int) a2 = some (unit, ah)) (hu : 0 < unit) (hq0 : ¬ ((rd_L6 l1 0).length : Int) = 0) (hqm : Int.tmod ((rd_L6 l1 0).length : Int) unit = 0) (hah : 0 < ah) (hah2 : ah ≤ (all.length : Int)) (hhd : all.take ah.toNat = hd) (hT : layout_told.f 9 hd = some n1) (hrest : all.drop ah.toNat = rest) (hn0 : 0 ≤ n1) (hn1 : 4096 < n1) :
    Calls Try.prog 16 #[.agg #[.int .i64 a0, .int .i64 (l1.length : Int), .int .i64 a2], .slice A1 l1.length c1, .int .i64 n] w fun e w' => e = .returned (.tuple #[.slice none 0 0, .int .i64 3]) ∧ Below w.heap.size w w' := by
  obtain ⟨ad, B0, d0, e1, hx, _, _⟩ := at_L6 hr1 0 (by omega) (by omega)
  cases e1
  simp only [show (0 : Int).toNat = 0 from rfl, Nat.reduceMul, Nat.reduceEqDiff, Go.Addr.add, ↓reduceIte] at hx
  have hl0 : (0 : Int) < (l1.length : Int) := by omega
  obtain ⟨q, hq⟩ : ∃ q, q = (rd_L6 l1 0).length := ⟨_, rfl⟩
  rw [← hq] at hx hq0 hqm
  have HX : Aside0 (((w.alloc (.cells #[.int .i64 a0, .int .i64 (l1.length : Int), .int .i64 a2] 23)).alloc (.cells #[.slice (some ad) l1.length c1] 31)).heap[w.heap.size]? = some (.cells #[.int .i64 a0, .int .i64 (l1.length : Int), .int .i64 a2] 23 (0, 0))) := ⟨blk_alloc (heap_alloc_new _ _) _⟩
  have HD : Aside0 (((w.alloc (.cells #[.int .i64 a0, .int .i64 (l1.length : Int), .int .i64 a2] 23)).alloc (.cells #[.slice (some ad) l1.length c1] 31)).heap[w.heap.size + 1]? = some (.cells #[.slice (some ad) l1.length c1] 31 (0, 0))) := ⟨by
    have := heap_alloc_new (w.alloc (.cells #[.int .i64 a0, .int .i64 (l1.length : Int), .int .i64 a2] 23)) (.cells #[.slice (some ad) l1.length c1] 31)
    rwa [World.size_alloc] at this⟩
  have HB := Aside0.mk (below_alloc (below_alloc (Below.refl w.heap.size w) (.cells #[.int .i64 a0, .int .i64 (l1.length : Int), .int .i64 a2] 23)) (.cells #[.slice (some ad) l1.length c1] 31))
  have HC := Aside0.mk (Kd.C_below hr1 HB.out)
  have HE := Aside0.mk (pw_cell_below HB.out hx)
  clear hx hr1 hq
  have hcM := fun w => profile_May.calls a0 (l1.length : Int) a2 true w hM
  have hcR := fun w => layout_rule.calls a0 (l1.length : Int) a2 unit ah w hR
  have hu0 : ¬ unit = 0 := by omega
  have hq0b : ((q : Int) == 0) = false := beq_eq_false_iff_ne.mpr hq0
  go_enter Try.func16, Try.ntmps16
  go_wp2_with (first
    | (go_at_call 21; refine (hcM _).mono ?_; rintro e w1 ⟨rfl, hb⟩; have n0_ := Aside0.mk (blk_below HX.out hb); have n1_ := Aside0.mk (blk_below HD.out hb); have n2_ := Aside0.mk (Kd.C_below HC.out hb); have n3_ := Aside0.mk (below_step HB.out hb); have n4_ := Aside0.mk (pw_cell_below hb HE.out); clear HX HD HC HB HE; have HX := n0_; have HD := n1_; have HC := n2_; have HB := n3_; have HE := n4_; clear n0_ n1_ n2_ n3_ n4_; have hx0 := (blk_cell HX.out 0).trans (show _ = some (Value.int .i64 a0) from rfl); have hx1 := (blk_cell HX.out 1).trans (show _ = some (Value.int .i64 (l1.length : Int)) from rfl); have hx2 := (blk_cell HX.out 2).trans (show _ = some (Value.int .i64 a2) from rfl); have hd0 := (blk_cell HD.out 0).trans (show _ = some (Value.slice (some ad) l1.length c1) from rfl); have he0 := HE.out; clear hb)
    | (go_at_call 27; refine (containsFunc_is _ _ _ l1 _ hd0 HC.out (blk_lt HD.out)).mono ?_; rintro e w2 ⟨rfl, hb⟩; have n0_ := Aside0.mk (blk_below HX.out hb); have n1_ := Aside0.mk (blk_below HD.out hb); have n2_ := Aside0.mk (Kd.C_below HC.out hb); have n3_ := Aside0.mk (below_step HB.out hb); have n4_ := Aside0.mk (pw_cell_below hb HE.out); clear HX HD HC HB HE; have HX := n0_; have HD := n1_; have HC := n2_; have HB := n3_; have HE := n4_; clear n0_ n1_ n2_ n3_ n4_; have hx0 := (blk_cell HX.out 0).trans (show _ = some (Value.int .i64 a0) from rfl); have hx1 := (blk_cell HX.out 1).trans (show _ = some (Value.int .i64 (l1.length : Int)) from rfl); have hx2 := (blk_cell HX.out 2).trans (show _ = some (Value.int .i64 a2) from rfl); have hd0 := (blk_cell HD.out 0).trans (show _ = some (Value.slice (some ad) l1.length c1) from rfl); have he0 := HE.out; clear hb; rw [hodd])
    | (go_at_call 22; refine (hcR _).mono ?_; rintro e w3 ⟨rfl, hb⟩; have n0_ := Aside0.mk (blk_below HX.out hb); have n1_ := Aside0.mk (blk_below HD.out hb); have n2_ := Aside0.mk (Kd.C_below HC.out hb); have n3_ := Aside0.mk (below_step HB.out hb); have n4_ := Aside0.mk (pw_cell_below hb HE.out); clear HX HD HC HB HE; have HX := n0_; have HD := n1_; have HC := n2_; have HB := n3_; have HE := n4_; clear n0_ n1_ n2_ n3_ n4_; have hx0 := (blk_cell HX.out 0).trans (show _ = some (Value.int .i64 a0) from rfl); have hx1 := (blk_cell HX.out 1).trans (show _ = some (Value.int .i64 (l1.length : Int)) from rfl); have hx2 := (blk_cell HX.out 2).trans (show _ = some (Value.int .i64 a2) from rfl); have hd0 := (blk_cell HD.out 0).trans (show _ = some (Value.slice (some ad) l1.length c1) from rfl); have he0 := HE.out; clear hb)
    | (go_at_call 29; refine (concat_calls _ _ l1 _ HC.out hc1 (by omega) (by rw [hall]; omega)).mono ?_; rintro e w4 ⟨v, rfl, hv, hb⟩; have n0_ := Aside0.mk (blk_below HX.out hb); have n1_ := Aside0.mk (blk_below HD.out hb); have n2_ := Aside0.mk (Kd.C_below HC.out hb); have n3_ := Aside0.mk (below_step HB.out hb); have n4_ := Aside0.mk (pw_cell_below hb HE.out); clear HX HD HC HB HE; have HX := n0_; have HD := n1_; have HC := n2_; have HB := n3_; have HE := n4_; clear n0_ n1_ n2_ n3_ n4_; have hx0 := (blk_cell HX.out 0).trans (show _ = some (Value.int .i64 a0) from rfl); have hx1 := (blk_cell HX.out 1).trans (show _ = some (Value.int .i64 (l1.length : Int)) from rfl); have hx2 := (blk_cell HX.out 2).trans (show _ = some (Value.int .i64 a2) from rfl); have hd0 := (blk_cell HD.out 0).trans (show _ = some (Value.slice (some ad) l1.length c1) from rfl); have he0 := HE.out; rw [hall] at hv; obtain ⟨ao, co, rfl⟩ := Kd.R_slice hv; have hcap := (Kd.R_reads' hv).2.1; have HV := Aside0.mk (Kd.R_reads' hv).2.2; clear hv hb; obtain ⟨e59, r59, k59⟩ := bcut_take ao co all hd ah hhd (by omega) hah2 hcap; obtain ⟨A2, c2, e63, r63, k63⟩ := bcut_drop ao co all rest ah hrest (by omega) hah2 hcap; have R59 := Aside0.mk r59; clear r59 r63)
    | (go_at_call 30; refine (layout_told.calls 9 _ _ hd n1 _ (R59.out _ HV.out) k59 hT).mono ?_; rintro e w5 ⟨rfl, hdr⟩; have hb := Drawn0.below hdr; clear hdr; have n0_ := Aside0.mk (blk_below HX.out hb); have n1_ := Aside0.mk (blk_below HD.out hb); have n2_ := Aside0.mk (Kd.C_below HC.out hb); have n3_ := Aside0.mk (below_step HB.out hb); have n4_ := Aside0.mk (pw_cell_below hb HE.out); have n5_ := Aside0.mk (Kd.C_below HV.out hb); clear HV; have HV := n5_; clear n5_; clear HX HD HC HB HE; have HX := n0_; have HD := n1_; have HC := n2_; have HB := n3_; have HE := n4_; clear n0_ n1_ n2_ n3_ n4_; have hx0 := (blk_cell HX.out 0).trans (show _ = some (Value.int .i64 a0) from rfl); have hx1 := (blk_cell HX.out 1).trans (show _ = some (Value.int .i64 (l1.length : Int)) from rfl); have hx2 := (blk_cell HX.out 2).trans (show _ = some (Value.int .i64 a2) from rfl); have hd0 := (blk_cell HD.out 0).trans (show _ = some (Value.slice (some ad) l1.length c1) from rfl); have he0 := HE.out; clear hb))
  exact ⟨by simp, _, results_tmp2 rfl _ _ _, rfl, HB.out⟩
set_option maxRecDepth 100000 in
set_option maxHeartbeats 8000000 in
theorem join_range2t (a0 a2 n : Int) (l1 : List (List Int)) (all : List Int) (A1 : Option Addr) (c1 : Nat) (unit ah : Int) (n1 : Int) (hd rest : List Int) (w : World) (hr1 : Kd.C (Kd.slice 5 (Kd.int .u8)) w A1 l1.length l1) (hc1 : l1.length ≤ c1) (h0 : 0 < l1.length) (h8 : l1.length ≤ 8)
    (hall : l1.flatten = all) (hal : all.length ≤ 1000000)
    (hM : profile_May.f a0 (l1.length : Int) a2 = some true) (hodd : l1.any (odd l1) = false) (hR : layout_rule.f a0 (l1.length : Int) a2 = some (unit, ah)) (hu : 0 < unit) (hq0 : ¬ ((rd_L6 l1 0).length : Int) = 0) (hqm : Int.tmod ((rd_L6 l1 0).length : Int) unit = 0) (hah : 0 < ah) (hah2 : ah ≤ (all.length : Int)) (hhd : all.take ah.toNat = hd) (hT : layout_told.f 9 hd = some n1) (hrest : all.drop ah.toNat = rest) (hn0 : 0 ≤ n1) (hn1 : n1 ≤ 4096) (hn2 : (rest.length : Int) < n1) :
    Calls Try.prog 16 #[.agg #[.int .i64 a0, .int .i64 (l1.length : Int), .int .i64 a2], .slice A1 l1.length c1, .int .i64 n] w fun e w' => e = .returned (.tuple #[.slice none 0 0, .int .i64 3]) ∧ Below w.heap.size w w' := by
  obtain ⟨ad, B0, d0, e1, hx, _, _⟩ := at_L6 hr1 0 (by omega) (by omega)
  cases e1
  simp only [show (0 : Int).toNat = 0 from rfl, Nat.reduceMul, Nat.reduceEqDiff, Go.Addr.add, ↓reduceIte] at hx
  have hl0 : (0 : Int) < (l1.length : Int) := by omega
  obtain ⟨q, hq⟩ : ∃ q, q = (rd_L6 l1 0).length := ⟨_, rfl⟩
  rw [← hq] at hx hq0 hqm
  have HX : Aside0 (((w.alloc (.cells #[.int .i64 a0, .int .i64 (l1.length : Int), .int .i64 a2] 23)).alloc (.cells #[.slice (some ad) l1.length c1] 31)).heap[w.heap.size]? = some (.cells #[.int .i64 a0, .int .i64 (l1.length : Int), .int .i64 a2] 23 (0, 0))) := ⟨blk_alloc (heap_alloc_new _ _) _⟩
  have HD : Aside0 (((w.alloc (.cells #[.int .i64 a0, .int .i64 (l1.length : Int), .int .i64 a2] 23)).alloc (.cells #[.slice (some ad) l1.length c1] 31)).heap[w.heap.size + 1]? = some (.cells #[.slice (some ad) l1.length c1] 31 (0, 0))) := ⟨by
    have := heap_alloc_new (w.alloc (.cells #[.int .i64 a0, .int .i64 (l1.length : Int), .int .i64 a2] 23)) (.cells #[.slice (some ad) l1.length c1] 31)
    rwa [World.size_alloc] at this⟩
  have HB := Aside0.mk (below_alloc (below_alloc (Below.refl w.heap.size w) (.cells #[.int .i64 a0, .int .i64 (l1.length : Int), .int .i64 a2] 23)) (.cells #[.slice (some ad) l1.length c1] 31))
  have HC := Aside0.mk (Kd.C_below hr1 HB.out)
  have HE := Aside0.mk (pw_cell_below HB.out hx)
  clear hx hr1 hq
  have hcM := fun w => profile_May.calls a0 (l1.length : Int) a2 true w hM
  have hcR := fun w => layout_rule.calls a0 (l1.length : Int) a2 unit ah w hR
  have hu0 : ¬ unit = 0 := by omega
  have hq0b : ((q : Int) == 0) = false := beq_eq_false_iff_ne.mpr hq0
  go_enter Try.func16, Try.ntmps16
  go_wp2_with (first
    | (go_at_call 21; refine (hcM _).mono ?_; rintro e w1 ⟨rfl, hb⟩; have n0_ := Aside0.mk (blk_below HX.out hb); have n1_ := Aside0.mk (blk_below HD.out hb); have n2_ := Aside0.mk (Kd.C_below HC.out hb); have n3_ := Aside0.mk (below_step HB.out hb); have n4_ := Aside0.mk (pw_cell_below hb HE.out); clear HX HD HC HB HE; have HX := n0_; have HD := n1_; have HC := n2_; have HB := n3_; have HE := n4_; clear n0_ n1_ n2_ n3_ n4_; have hx0 := (blk_cell HX.out 0).trans (show _ = some (Value.int .i64 a0) from rfl); have hx1 := (blk_cell HX.out 1).trans (show _ = some (Value.int .i64 (l1.length : Int)) from rfl); have hx2 := (blk_cell HX.out 2).trans (show _ = some (Value.int .i64 a2) from rfl); have hd0 := (blk_cell HD.out 0).trans (show _ = some (Value.slice (some ad) l1.length c1) from rfl); have he0 := HE.out; clear hb)
    | (go_at_call 27; refine (containsFunc_is _ _ _ l1 _ hd0 HC.out (blk_lt HD.out)).mono ?_; rintro e w2 ⟨rfl, hb⟩; have n0_ := Aside0.mk (blk_below HX.out hb); have n1_ := Aside0.mk (blk_below HD.out hb); have n2_ := Aside0.mk (Kd.C_below HC.out hb); have n3_ := Aside0.mk (below_step HB.out hb); have n4_ := Aside0.mk (pw_cell_below hb HE.out); clear HX HD HC HB HE; have HX := n0_; have HD := n1_; have HC := n2_; have HB := n3_; have HE := n4_; clear n0_ n1_ n2_ n3_ n4_; have hx0 := (blk_cell HX.out 0).trans (show _ = some (Value.int .i64 a0) from rfl); have hx1 := (blk_cell HX.out 1).trans (show _ = some (Value.int .i64 (l1.length : Int)) from rfl); have hx2 := (blk_cell HX.out 2).trans (show _ = some (Value.int .i64 a2) from rfl); have hd0 := (blk_cell HD.out 0).trans (show _ = some (Value.slice (some ad) l1.length c1) from rfl); have he0 := HE.out; clear hb; rw [hodd])
    | (go_at_call 22; refine (hcR _).mono ?_; rintro e w3 ⟨rfl, hb⟩; have n0_ := Aside0.mk (blk_below HX.out hb); have n1_ := Aside0.mk (blk_below HD.out hb); have n2_ := Aside0.mk (Kd.C_below HC.out hb); have n3_ := Aside0.mk (below_step HB.out hb); have n4_ := Aside0.mk (pw_cell_below hb HE.out); clear HX HD HC HB HE; have HX := n0_; have HD := n1_; have HC := n2_; have HB := n3_; have HE := n4_; clear n0_ n1_ n2_ n3_ n4_; have hx0 := (blk_cell HX.out 0).trans (show _ = some (Value.int .i64 a0) from rfl); have hx1 := (blk_cell HX.out 1).trans (show _ = some (Value.int .i64 (l1.length : Int)) from rfl); have hx2 := (blk_cell HX.out 2).trans (show _ = some (Value.int .i64 a2) from rfl); have hd0 := (blk_cell HD.out 0).trans (show _ = some (Value.slice (some ad) l1.length c1) from rfl); have he0 := HE.out; clear hb)
    | (go_at_call 29; refine (concat_calls _ _ l1 _ HC.out hc1 (by omega) (by rw [hall]; omega)).mono ?_; rintro e w4 ⟨v, rfl, hv, hb⟩; have n0_ := Aside0.mk (blk_below HX.out hb); have n1_ := Aside0.mk (blk_below HD.out hb); have n2_ := Aside0.mk (Kd.C_below HC.out hb); have n3_ := Aside0.mk (below_step HB.out hb); have n4_ := Aside0.mk (pw_cell_below hb HE.out); clear HX HD HC HB HE; have HX := n0_; have HD := n1_; have HC := n2_; have HB := n3_; have HE := n4_; clear n0_ n1_ n2_ n3_ n4_; have hx0 := (blk_cell HX.out 0).trans (show _ = some (Value.int .i64 a0) from rfl); have hx1 := (blk_cell HX.out 1).trans (show _ = some (Value.int .i64 (l1.length : Int)) from rfl); have hx2 := (blk_cell HX.out 2).trans (show _ = some (Value.int .i64 a2) from rfl); have hd0 := (blk_cell HD.out 0).trans (show _ = some (Value.slice (some ad) l1.length c1) from rfl); have he0 := HE.out; rw [hall] at hv; obtain ⟨ao, co, rfl⟩ := Kd.R_slice hv; have hcap := (Kd.R_reads' hv).2.1; have HV := Aside0.mk (Kd.R_reads' hv).2.2; clear hv hb; obtain ⟨e59, r59, k59⟩ := bcut_take ao co all hd ah hhd (by omega) hah2 hcap; obtain ⟨A2, c2, e63, r63, k63⟩ := bcut_drop ao co all rest ah hrest (by omega) hah2 hcap; have R59 := Aside0.mk r59; clear r59 r63)
    | (go_at_call 30; refine (layout_told.calls 9 _ _ hd n1 _ (R59.out _ HV.out) k59 hT).mono ?_; rintro e w5 ⟨rfl, hdr⟩; have hb := Drawn0.below hdr; clear hdr; have n0_ := Aside0.mk (blk_below HX.out hb); have n1_ := Aside0.mk (blk_below HD.out hb); have n2_ := Aside0.mk (Kd.C_below HC.out hb); have n3_ := Aside0.mk (below_step HB.out hb); have n4_ := Aside0.mk (pw_cell_below hb HE.out); have n5_ := Aside0.mk (Kd.C_below HV.out hb); clear HV; have HV := n5_; clear n5_; clear HX HD HC HB HE; have HX := n0_; have HD := n1_; have HC := n2_; have HB := n3_; have HE := n4_; clear n0_ n1_ n2_ n3_ n4_; have hx0 := (blk_cell HX.out 0).trans (show _ = some (Value.int .i64 a0) from rfl); have hx1 := (blk_cell HX.out 1).trans (show _ = some (Value.int .i64 (l1.length : Int)) from rfl); have hx2 := (blk_cell HX.out 2).trans (show _ = some (Value.int .i64 a2) from rfl); have hd0 := (blk_cell HD.out 0).trans (show _ = some (Value.slice (some ad) l1.length c1) from rfl); have he0 := HE.out; clear hb))
  exact ⟨by simp, _, results_tmp2 rfl _ _ _, rfl, HB.out⟩
set_option maxRecDepth 100000 in
set_option maxHeartbeats 8000000 in
theorem join_okt (a0 a2 n : Int) (l1 : List (List Int)) (all : List Int) (A1 : Option Addr) (c1 : Nat) (unit ah : Int) (n1 : Int) (hd rest : List Int) (out : List Int) (w : World) (hr1 : Kd.C (Kd.slice 5 (Kd.int .u8)) w A1 l1.length l1) (hc1 : l1.length ≤ c1) (h0 : 0 < l1.length) (h8 : l1.length ≤ 8)
    (hall : l1.flatten = all) (hal : all.length ≤ 1000000)
    (hM : profile_May.f a0 (l1.length : Int) a2 = some true) (hodd : l1.any (odd l1) = false) (hR : layout_rule.f a0 (l1.length : Int) a2 = some (unit, ah)) (hu : 0 < unit) (hq0 : ¬ ((rd_L6 l1 0).length : Int) = 0) (hqm : Int.tmod ((rd_L6 l1 0).length : Int) unit = 0) (hah : 0 < ah) (hah2 : ah ≤ (all.length : Int)) (hhd : all.take ah.toNat = hd) (hT : layout_told.f 9 hd = some n1) (hrest : all.drop ah.toNat = rest) (hn0 : 0 ≤ n1) (hn1 : n1 ≤ 4096) (hn2 : n1 ≤ (rest.length : Int)) (hout : rest.take n1.toNat = out) (hS : layout_Split.f a0 (l1.length : Int) a2 out = some (l1, 0)) :
    Calls Try.prog 16 #[.agg #[.int .i64 a0, .int .i64 (l1.length : Int), .int .i64 a2], .slice A1 l1.length c1, .int .i64 n] w fun e w' => ∃ v, e = .returned (.tuple #[v, .int .i64 0]) ∧ Kd.R (Kd.int .u8) 5 w' w.heap.size (fun _ => True) v out ∧ Below w.heap.size w w' := by
  obtain ⟨ad, B0, d0, e1, hx, _, _⟩ := at_L6 hr1 0 (by omega) (by omega)
  cases e1
  simp only [show (0 : Int).toNat = 0 from rfl, Nat.reduceMul, Nat.reduceEqDiff, Go.Addr.add, ↓reduceIte] at hx
  have hl0 : (0 : Int) < (l1.length : Int) := by omega
  obtain ⟨q, hq⟩ : ∃ q, q = (rd_L6 l1 0).length := ⟨_, rfl⟩
  rw [← hq] at hx hq0 hqm
  have HX : Aside0 (((w.alloc (.cells #[.int .i64 a0, .int .i64 (l1.length : Int), .int .i64 a2] 23)).alloc (.cells #[.slice (some ad) l1.length c1] 31)).heap[w.heap.size]? = some (.cells #[.int .i64 a0, .int .i64 (l1.length : Int), .int .i64 a2] 23 (0, 0))) := ⟨blk_alloc (heap_alloc_new _ _) _⟩
  have HD : Aside0 (((w.alloc (.cells #[.int .i64 a0, .int .i64 (l1.length : Int), .int .i64 a2] 23)).alloc (.cells #[.slice (some ad) l1.length c1] 31)).heap[w.heap.size + 1]? = some (.cells #[.slice (some ad) l1.length c1] 31 (0, 0))) := ⟨by
    have := heap_alloc_new (w.alloc (.cells #[.int .i64 a0, .int .i64 (l1.length : Int), .int .i64 a2] 23)) (.cells #[.slice (some ad) l1.length c1] 31)
    rwa [World.size_alloc] at this⟩
  have HB := Aside0.mk (below_alloc (below_alloc (Below.refl w.heap.size w) (.cells #[.int .i64 a0, .int .i64 (l1.length : Int), .int .i64 a2] 23)) (.cells #[.slice (some ad) l1.length c1] 31))
  have HC := Aside0.mk (Kd.C_below hr1 HB.out)
  have HE := Aside0.mk (pw_cell_below HB.out hx)
  clear hx hr1 hq
  have hcM := fun w => profile_May.calls a0 (l1.length : Int) a2 true w hM
  have hcR := fun w => layout_rule.calls a0 (l1.length : Int) a2 unit ah w hR
  have hu0 : ¬ unit = 0 := by omega
  have hq0b : ((q : Int) == 0) = false := beq_eq_false_iff_ne.mpr hq0
  have hol : out.length ≤ 4096 := by rw [← hout, List.length_take]; omega
  have hclo : slices_Clone_byte_byte.f out = some out := by unfold slices_Clone_byte_byte.f; rw [if_pos (by omega)]
  have hsm : ∀ x ∈ l1, x.length ≤ 4294967296 := by
    intro x hx
    have := row_le l1 x hx
    rw [hall] at this
    omega
  go_enter Try.func16, Try.ntmps16
  go_wp2_with (first
    | (go_at_call 21; refine (hcM _).mono ?_; rintro e w1 ⟨rfl, hb⟩; have n0_ := Aside0.mk (blk_below HX.out hb); have n1_ := Aside0.mk (blk_below HD.out hb); have n2_ := Aside0.mk (Kd.C_below HC.out hb); have n3_ := Aside0.mk (below_step HB.out hb); have n4_ := Aside0.mk (pw_cell_below hb HE.out); clear HX HD HC HB HE; have HX := n0_; have HD := n1_; have HC := n2_; have HB := n3_; have HE := n4_; clear n0_ n1_ n2_ n3_ n4_; have hx0 := (blk_cell HX.out 0).trans (show _ = some (Value.int .i64 a0) from rfl); have hx1 := (blk_cell HX.out 1).trans (show _ = some (Value.int .i64 (l1.length : Int)) from rfl); have hx2 := (blk_cell HX.out 2).trans (show _ = some (Value.int .i64 a2) from rfl); have hd0 := (blk_cell HD.out 0).trans (show _ = some (Value.slice (some ad) l1.length c1) from rfl); have he0 := HE.out; clear hb)
    | (go_at_call 27; refine (containsFunc_is _ _ _ l1 _ hd0 HC.out (blk_lt HD.out)).mono ?_; rintro e w2 ⟨rfl, hb⟩; have n0_ := Aside0.mk (blk_below HX.out hb); have n1_ := Aside0.mk (blk_below HD.out hb); have n2_ := Aside0.mk (Kd.C_below HC.out hb); have n3_ := Aside0.mk (below_step HB.out hb); have n4_ := Aside0.mk (pw_cell_below hb HE.out); clear HX HD HC HB HE; have HX := n0_; have HD := n1_; have HC := n2_; have HB := n3_; have HE := n4_; clear n0_ n1_ n2_ n3_ n4_; have hx0 := (blk_cell HX.out 0).trans (show _ = some (Value.int .i64 a0) from rfl); have hx1 := (blk_cell HX.out 1).trans (show _ = some (Value.int .i64 (l1.length : Int)) from rfl); have hx2 := (blk_cell HX.out 2).trans (show _ = some (Value.int .i64 a2) from rfl); have hd0 := (blk_cell HD.out 0).trans (show _ = some (Value.slice (some ad) l1.length c1) from rfl); have he0 := HE.out; clear hb; rw [hodd])
    | (go_at_call 22; refine (hcR _).mono ?_; rintro e w3 ⟨rfl, hb⟩; have n0_ := Aside0.mk (blk_below HX.out hb); have n1_ := Aside0.mk (blk_below HD.out hb); have n2_ := Aside0.mk (Kd.C_below HC.out hb); have n3_ := Aside0.mk (below_step HB.out hb); have n4_ := Aside0.mk (pw_cell_below hb HE.out); clear HX HD HC HB HE; have HX := n0_; have HD := n1_; have HC := n2_; have HB := n3_; have HE := n4_; clear n0_ n1_ n2_ n3_ n4_; have hx0 := (blk_cell HX.out 0).trans (show _ = some (Value.int .i64 a0) from rfl); have hx1 := (blk_cell HX.out 1).trans (show _ = some (Value.int .i64 (l1.length : Int)) from rfl); have hx2 := (blk_cell HX.out 2).trans (show _ = some (Value.int .i64 a2) from rfl); have hd0 := (blk_cell HD.out 0).trans (show _ = some (Value.slice (some ad) l1.length c1) from rfl); have he0 := HE.out; clear hb)
    | (go_at_call 29; refine (concat_calls _ _ l1 _ HC.out hc1 (by omega) (by rw [hall]; omega)).mono ?_; rintro e w4 ⟨v, rfl, hv, hb⟩; have n0_ := Aside0.mk (blk_below HX.out hb); have n1_ := Aside0.mk (blk_below HD.out hb); have n2_ := Aside0.mk (Kd.C_below HC.out hb); have n3_ := Aside0.mk (below_step HB.out hb); have n4_ := Aside0.mk (pw_cell_below hb HE.out); clear HX HD HC HB HE; have HX := n0_; have HD := n1_; have HC := n2_; have HB := n3_; have HE := n4_; clear n0_ n1_ n2_ n3_ n4_; have hx0 := (blk_cell HX.out 0).trans (show _ = some (Value.int .i64 a0) from rfl); have hx1 := (blk_cell HX.out 1).trans (show _ = some (Value.int .i64 (l1.length : Int)) from rfl); have hx2 := (blk_cell HX.out 2).trans (show _ = some (Value.int .i64 a2) from rfl); have hd0 := (blk_cell HD.out 0).trans (show _ = some (Value.slice (some ad) l1.length c1) from rfl); have he0 := HE.out; rw [hall] at hv; obtain ⟨ao, co, rfl⟩ := Kd.R_slice hv; have hcap := (Kd.R_reads' hv).2.1; have HV := Aside0.mk (Kd.R_reads' hv).2.2; clear hv hb; obtain ⟨e59, r59, k59⟩ := bcut_take ao co all hd ah hhd (by omega) hah2 hcap; obtain ⟨A2, c2, e63, r63, k63⟩ := bcut_drop ao co all rest ah hrest (by omega) hah2 hcap; obtain ⟨e80, r80, k80⟩ := bcut_take A2 c2 rest out n1 hout hn0 hn2 k63; have R59 := Aside0.mk r59; have R63 := Aside0.mk r63; have R80 := Aside0.mk r80; clear r59 r63 r80)
    | (go_at_call 30; refine (layout_told.calls 9 _ _ hd n1 _ (R59.out _ HV.out) k59 hT).mono ?_; rintro e w5 ⟨rfl, hdr⟩; have hb := Drawn0.below hdr; clear hdr; have n0_ := Aside0.mk (blk_below HX.out hb); have n1_ := Aside0.mk (blk_below HD.out hb); have n2_ := Aside0.mk (Kd.C_below HC.out hb); have n3_ := Aside0.mk (below_step HB.out hb); have n4_ := Aside0.mk (pw_cell_below hb HE.out); have n5_ := Aside0.mk (Kd.C_below HV.out hb); clear HV; have HV := n5_; clear n5_; clear HX HD HC HB HE; have HX := n0_; have HD := n1_; have HC := n2_; have HB := n3_; have HE := n4_; clear n0_ n1_ n2_ n3_ n4_; have hx0 := (blk_cell HX.out 0).trans (show _ = some (Value.int .i64 a0) from rfl); have hx1 := (blk_cell HX.out 1).trans (show _ = some (Value.int .i64 (l1.length : Int)) from rfl); have hx2 := (blk_cell HX.out 2).trans (show _ = some (Value.int .i64 a2) from rfl); have hd0 := (blk_cell HD.out 0).trans (show _ = some (Value.slice (some ad) l1.length c1) from rfl); have he0 := HE.out; clear hb))
  have hx0d : w5.drew.cell? _ = _ := hx0
  have hx1d : w5.drew.cell? _ = _ := hx1
  have hx2d : w5.drew.cell? _ = _ := hx2
  have hcS := layout_Split.calls a0 (l1.length : Int) a2 A2 c2 out l1 0 w5.drew (R80.out _ (R63.out _ (Kd.C_below HV.out (below_drew (Below.refl _ _))))) k80 hS
  go_region_with (go_at_call 12; refine hcS.mono ?_; rintro e w6 ⟨v6, rfl, hs6, hb⟩; replace hb := below_step (below_drew (Below.refl w5.heap.size w5)) hb; have n0_ := Aside0.mk (blk_below HX.out hb); have n1_ := Aside0.mk (blk_below HD.out hb); have n2_ := Aside0.mk (Kd.C_below HC.out hb); have n3_ := Aside0.mk (below_step HB.out hb); have n4_ := Aside0.mk (pw_cell_below hb HE.out); have n5_ := Aside0.mk (Kd.C_below HV.out hb); clear HV; have HV := n5_; clear n5_; clear HX HD HC HB HE; have HX := n0_; have HD := n1_; have HC := n2_; have HB := n3_; have HE := n4_; clear n0_ n1_ n2_ n3_ n4_; have hx0 := (blk_cell HX.out 0).trans (show _ = some (Value.int .i64 a0) from rfl); have hx1 := (blk_cell HX.out 1).trans (show _ = some (Value.int .i64 (l1.length : Int)) from rfl); have hx2 := (blk_cell HX.out 2).trans (show _ = some (Value.int .i64 a2) from rfl); have hd0 := (blk_cell HD.out 0).trans (show _ = some (Value.slice (some ad) l1.length c1) from rfl); have he0 := HE.out; obtain ⟨As, cs, rfl⟩ := Kd.S_slice hs6; have HS6 := Aside0.mk (Kd.S_reads' hs6).2.2; clear hs6 hb)
  all_goals
    go_wp2_with (first | (go_at_call 31; refine (equalFunc_yes _ _ l1 _ _ l1 _ HS6.out HC.out hsm rfl).mono ?_; rintro e w7 ⟨rfl, hb⟩; have n0_ := Aside0.mk (blk_below HX.out hb); have n1_ := Aside0.mk (blk_below HD.out hb); have n2_ := Aside0.mk (Kd.C_below HC.out hb); have n3_ := Aside0.mk (below_step HB.out hb); have n4_ := Aside0.mk (pw_cell_below hb HE.out); have n5_ := Aside0.mk (Kd.C_below HV.out hb); clear HV; have HV := n5_; clear n5_; clear HX HD HC HB HE; have HX := n0_; have HD := n1_; have HC := n2_; have HB := n3_; have HE := n4_; clear n0_ n1_ n2_ n3_ n4_; have hx0 := (blk_cell HX.out 0).trans (show _ = some (Value.int .i64 a0) from rfl); have hx1 := (blk_cell HX.out 1).trans (show _ = some (Value.int .i64 (l1.length : Int)) from rfl); have hx2 := (blk_cell HX.out 2).trans (show _ = some (Value.int .i64 a2) from rfl); have hd0 := (blk_cell HD.out 0).trans (show _ = some (Value.slice (some ad) l1.length c1) from rfl); have he0 := HE.out; clear hb) | (go_at_call 33; refine (slices_Clone_byte_byte.calls _ _ out out _ (R80.out _ (R63.out _ HV.out)) k80 hclo).mono ?_; rintro e w8 ⟨v8, rfl, hv8, hb⟩; have HV8 := Aside0.mk hv8; have HB8 := Aside0.mk (below_step HB.out hb); clear hv8 hb))
    exact ⟨by simp, _, results_tmp2 rfl _ _ _, _, rfl, Kd.R_lower HV8.out HB.out.size, HB8.out⟩
set_option maxRecDepth 100000 in
set_option maxHeartbeats 8000000 in
theorem join_noeqt (a0 a2 n : Int) (l1 : List (List Int)) (all : List Int) (A1 : Option Addr) (c1 : Nat) (unit ah : Int) (n1 : Int) (hd rest : List Int) (out : List Int) (l2 : List (List Int)) (w : World) (hr1 : Kd.C (Kd.slice 5 (Kd.int .u8)) w A1 l1.length l1) (hc1 : l1.length ≤ c1) (h0 : 0 < l1.length) (h8 : l1.length ≤ 8)
    (hall : l1.flatten = all) (hal : all.length ≤ 1000000)
    (hM : profile_May.f a0 (l1.length : Int) a2 = some true) (hodd : l1.any (odd l1) = false) (hR : layout_rule.f a0 (l1.length : Int) a2 = some (unit, ah)) (hu : 0 < unit) (hq0 : ¬ ((rd_L6 l1 0).length : Int) = 0) (hqm : Int.tmod ((rd_L6 l1 0).length : Int) unit = 0) (hah : 0 < ah) (hah2 : ah ≤ (all.length : Int)) (hhd : all.take ah.toNat = hd) (hT : layout_told.f 9 hd = some n1) (hrest : all.drop ah.toNat = rest) (hn0 : 0 ≤ n1) (hn1 : n1 ≤ 4096) (hn2 : n1 ≤ (rest.length : Int)) (hout : rest.take n1.toNat = out) (hS : layout_Split.f a0 (l1.length : Int) a2 out = some (l2, 0)) (hne : ¬ l2 = l1) (hsm : ∀ x ∈ l2, x.length ≤ 4294967296) :
    Calls Try.prog 16 #[.agg #[.int .i64 a0, .int .i64 (l1.length : Int), .int .i64 a2], .slice A1 l1.length c1, .int .i64 n] w fun e w' => e = .returned (.tuple #[.slice none 0 0, .int .i64 3]) ∧ Below w.heap.size w w' := by
  obtain ⟨ad, B0, d0, e1, hx, _, _⟩ := at_L6 hr1 0 (by omega) (by omega)
  cases e1
  simp only [show (0 : Int).toNat = 0 from rfl, Nat.reduceMul, Nat.reduceEqDiff, Go.Addr.add, ↓reduceIte] at hx
  have hl0 : (0 : Int) < (l1.length : Int) := by omega
  obtain ⟨q, hq⟩ : ∃ q, q = (rd_L6 l1 0).length := ⟨_, rfl⟩
  rw [← hq] at hx hq0 hqm
  have HX : Aside0 (((w.alloc (.cells #[.int .i64 a0, .int .i64 (l1.length : Int), .int .i64 a2] 23)).alloc (.cells #[.slice (some ad) l1.length c1] 31)).heap[w.heap.size]? = some (.cells #[.int .i64 a0, .int .i64 (l1.length : Int), .int .i64 a2] 23 (0, 0))) := ⟨blk_alloc (heap_alloc_new _ _) _⟩
  have HD : Aside0 (((w.alloc (.cells #[.int .i64 a0, .int .i64 (l1.length : Int), .int .i64 a2] 23)).alloc (.cells #[.slice (some ad) l1.length c1] 31)).heap[w.heap.size + 1]? = some (.cells #[.slice (some ad) l1.length c1] 31 (0, 0))) := ⟨by
    have := heap_alloc_new (w.alloc (.cells #[.int .i64 a0, .int .i64 (l1.length : Int), .int .i64 a2] 23)) (.cells #[.slice (some ad) l1.length c1] 31)
    rwa [World.size_alloc] at this⟩
  have HB := Aside0.mk (below_alloc (below_alloc (Below.refl w.heap.size w) (.cells #[.int .i64 a0, .int .i64 (l1.length : Int), .int .i64 a2] 23)) (.cells #[.slice (some ad) l1.length c1] 31))
  have HC := Aside0.mk (Kd.C_below hr1 HB.out)
  have HE := Aside0.mk (pw_cell_below HB.out hx)
  clear hx hr1 hq
  have hcM := fun w => profile_May.calls a0 (l1.length : Int) a2 true w hM
  have hcR := fun w => layout_rule.calls a0 (l1.length : Int) a2 unit ah w hR
  have hu0 : ¬ unit = 0 := by omega
  have hq0b : ((q : Int) == 0) = false := beq_eq_false_iff_ne.mpr hq0
  have hol : out.length ≤ 4096 := by rw [← hout, List.length_take]; omega
  have hclo : slices_Clone_byte_byte.f out = some out := by unfold slices_Clone_byte_byte.f; rw [if_pos (by omega)]
  go_enter Try.func16, Try.ntmps16
  go_wp2_with (first
    | (go_at_call 21; refine (hcM _).mono ?_; rintro e w1 ⟨rfl, hb⟩; have n0_ := Aside0.mk (blk_below HX.out hb); have n1_ := Aside0.mk (blk_below HD.out hb); have n2_ := Aside0.mk (Kd.C_below HC.out hb); have n3_ := Aside0.mk (below_step HB.out hb); have n4_ := Aside0.mk (pw_cell_below hb HE.out); clear HX HD HC HB HE; have HX := n0_; have HD := n1_; have HC := n2_; have HB := n3_; have HE := n4_; clear n0_ n1_ n2_ n3_ n4_; have hx0 := (blk_cell HX.out 0).trans (show _ = some (Value.int .i64 a0) from rfl); have hx1 := (blk_cell HX.out 1).trans (show _ = some (Value.int .i64 (l1.length : Int)) from rfl); have hx2 := (blk_cell HX.out 2).trans (show _ = some (Value.int .i64 a2) from rfl); have hd0 := (blk_cell HD.out 0).trans (show _ = some (Value.slice (some ad) l1.length c1) from rfl); have he0 := HE.out; clear hb)
    | (go_at_call 27; refine (containsFunc_is _ _ _ l1 _ hd0 HC.out (blk_lt HD.out)).mono ?_; rintro e w2 ⟨rfl, hb⟩; have n0_ := Aside0.mk (blk_below HX.out hb); have n1_ := Aside0.mk (blk_below HD.out hb); have n2_ := Aside0.mk (Kd.C_below HC.out hb); have n3_ := Aside0.mk (below_step HB.out hb); have n4_ := Aside0.mk (pw_cell_below hb HE.out); clear HX HD HC HB HE; have HX := n0_; have HD := n1_; have HC := n2_; have HB := n3_; have HE := n4_; clear n0_ n1_ n2_ n3_ n4_; have hx0 := (blk_cell HX.out 0).trans (show _ = some (Value.int .i64 a0) from rfl); have hx1 := (blk_cell HX.out 1).trans (show _ = some (Value.int .i64 (l1.length : Int)) from rfl); have hx2 := (blk_cell HX.out 2).trans (show _ = some (Value.int .i64 a2) from rfl); have hd0 := (blk_cell HD.out 0).trans (show _ = some (Value.slice (some ad) l1.length c1) from rfl); have he0 := HE.out; clear hb; rw [hodd])
    | (go_at_call 22; refine (hcR _).mono ?_; rintro e w3 ⟨rfl, hb⟩; have n0_ := Aside0.mk (blk_below HX.out hb); have n1_ := Aside0.mk (blk_below HD.out hb); have n2_ := Aside0.mk (Kd.C_below HC.out hb); have n3_ := Aside0.mk (below_step HB.out hb); have n4_ := Aside0.mk (pw_cell_below hb HE.out); clear HX HD HC HB HE; have HX := n0_; have HD := n1_; have HC := n2_; have HB := n3_; have HE := n4_; clear n0_ n1_ n2_ n3_ n4_; have hx0 := (blk_cell HX.out 0).trans (show _ = some (Value.int .i64 a0) from rfl); have hx1 := (blk_cell HX.out 1).trans (show _ = some (Value.int .i64 (l1.length : Int)) from rfl); have hx2 := (blk_cell HX.out 2).trans (show _ = some (Value.int .i64 a2) from rfl); have hd0 := (blk_cell HD.out 0).trans (show _ = some (Value.slice (some ad) l1.length c1) from rfl); have he0 := HE.out; clear hb)
    | (go_at_call 29; refine (concat_calls _ _ l1 _ HC.out hc1 (by omega) (by rw [hall]; omega)).mono ?_; rintro e w4 ⟨v, rfl, hv, hb⟩; have n0_ := Aside0.mk (blk_below HX.out hb); have n1_ := Aside0.mk (blk_below HD.out hb); have n2_ := Aside0.mk (Kd.C_below HC.out hb); have n3_ := Aside0.mk (below_step HB.out hb); have n4_ := Aside0.mk (pw_cell_below hb HE.out); clear HX HD HC HB HE; have HX := n0_; have HD := n1_; have HC := n2_; have HB := n3_; have HE := n4_; clear n0_ n1_ n2_ n3_ n4_; have hx0 := (blk_cell HX.out 0).trans (show _ = some (Value.int .i64 a0) from rfl); have hx1 := (blk_cell HX.out 1).trans (show _ = some (Value.int .i64 (l1.length : Int)) from rfl); have hx2 := (blk_cell HX.out 2).trans (show _ = some (Value.int .i64 a2) from rfl); have hd0 := (blk_cell HD.out 0).trans (show _ = some (Value.slice (some ad) l1.length c1) from rfl); have he0 := HE.out; rw [hall] at hv; obtain ⟨ao, co, rfl⟩ := Kd.R_slice hv; have hcap := (Kd.R_reads' hv).2.1; have HV := Aside0.mk (Kd.R_reads' hv).2.2; clear hv hb; obtain ⟨e59, r59, k59⟩ := bcut_take ao co all hd ah hhd (by omega) hah2 hcap; obtain ⟨A2, c2, e63, r63, k63⟩ := bcut_drop ao co all rest ah hrest (by omega) hah2 hcap; obtain ⟨e80, r80, k80⟩ := bcut_take A2 c2 rest out n1 hout hn0 hn2 k63; have R59 := Aside0.mk r59; have R63 := Aside0.mk r63; have R80 := Aside0.mk r80; clear r59 r63 r80)
    | (go_at_call 30; refine (layout_told.calls 9 _ _ hd n1 _ (R59.out _ HV.out) k59 hT).mono ?_; rintro e w5 ⟨rfl, hdr⟩; have hb := Drawn0.below hdr; clear hdr; have n0_ := Aside0.mk (blk_below HX.out hb); have n1_ := Aside0.mk (blk_below HD.out hb); have n2_ := Aside0.mk (Kd.C_below HC.out hb); have n3_ := Aside0.mk (below_step HB.out hb); have n4_ := Aside0.mk (pw_cell_below hb HE.out); have n5_ := Aside0.mk (Kd.C_below HV.out hb); clear HV; have HV := n5_; clear n5_; clear HX HD HC HB HE; have HX := n0_; have HD := n1_; have HC := n2_; have HB := n3_; have HE := n4_; clear n0_ n1_ n2_ n3_ n4_; have hx0 := (blk_cell HX.out 0).trans (show _ = some (Value.int .i64 a0) from rfl); have hx1 := (blk_cell HX.out 1).trans (show _ = some (Value.int .i64 (l1.length : Int)) from rfl); have hx2 := (blk_cell HX.out 2).trans (show _ = some (Value.int .i64 a2) from rfl); have hd0 := (blk_cell HD.out 0).trans (show _ = some (Value.slice (some ad) l1.length c1) from rfl); have he0 := HE.out; clear hb))
  have hx0d : w5.drew.cell? _ = _ := hx0
  have hx1d : w5.drew.cell? _ = _ := hx1
  have hx2d : w5.drew.cell? _ = _ := hx2
  have hcS := layout_Split.calls a0 (l1.length : Int) a2 A2 c2 out l2 0 w5.drew (R80.out _ (R63.out _ (Kd.C_below HV.out (below_drew (Below.refl _ _))))) k80 hS
  go_region_with (go_at_call 12; refine hcS.mono ?_; rintro e w6 ⟨v6, rfl, hs6, hb⟩; replace hb := below_step (below_drew (Below.refl w5.heap.size w5)) hb; have n0_ := Aside0.mk (blk_below HX.out hb); have n1_ := Aside0.mk (blk_below HD.out hb); have n2_ := Aside0.mk (Kd.C_below HC.out hb); have n3_ := Aside0.mk (below_step HB.out hb); have n4_ := Aside0.mk (pw_cell_below hb HE.out); have n5_ := Aside0.mk (Kd.C_below HV.out hb); clear HV; have HV := n5_; clear n5_; clear HX HD HC HB HE; have HX := n0_; have HD := n1_; have HC := n2_; have HB := n3_; have HE := n4_; clear n0_ n1_ n2_ n3_ n4_; have hx0 := (blk_cell HX.out 0).trans (show _ = some (Value.int .i64 a0) from rfl); have hx1 := (blk_cell HX.out 1).trans (show _ = some (Value.int .i64 (l1.length : Int)) from rfl); have hx2 := (blk_cell HX.out 2).trans (show _ = some (Value.int .i64 a2) from rfl); have hd0 := (blk_cell HD.out 0).trans (show _ = some (Value.slice (some ad) l1.length c1) from rfl); have he0 := HE.out; obtain ⟨As, cs, rfl⟩ := Kd.S_slice hs6; have HS6 := Aside0.mk (Kd.S_reads' hs6).2.2; clear hs6 hb)
  all_goals
    go_wp2_with (first | (go_at_call 31; refine (equalFunc_no _ _ l2 _ _ l1 _ HS6.out HC.out hsm hne).mono ?_; rintro e w7 ⟨rfl, hb⟩; have n0_ := Aside0.mk (blk_below HX.out hb); have n1_ := Aside0.mk (blk_below HD.out hb); have n2_ := Aside0.mk (Kd.C_below HC.out hb); have n3_ := Aside0.mk (below_step HB.out hb); have n4_ := Aside0.mk (pw_cell_below hb HE.out); have n5_ := Aside0.mk (Kd.C_below HV.out hb); clear HV; have HV := n5_; clear n5_; clear HX HD HC HB HE; have HX := n0_; have HD := n1_; have HC := n2_; have HB := n3_; have HE := n4_; clear n0_ n1_ n2_ n3_ n4_; have hx0 := (blk_cell HX.out 0).trans (show _ = some (Value.int .i64 a0) from rfl); have hx1 := (blk_cell HX.out 1).trans (show _ = some (Value.int .i64 (l1.length : Int)) from rfl); have hx2 := (blk_cell HX.out 2).trans (show _ = some (Value.int .i64 a2) from rfl); have hd0 := (blk_cell HD.out 0).trans (show _ = some (Value.slice (some ad) l1.length c1) from rfl); have he0 := HE.out; clear hb))
    exact ⟨by simp, _, results_tmp2 rfl _ _ _, rfl, HB.out⟩
set_option maxRecDepth 100000 in
set_option maxHeartbeats 8000000 in
theorem join_badt (a0 a2 n : Int) (l1 : List (List Int)) (all : List Int) (A1 : Option Addr) (c1 : Nat) (unit ah : Int) (n1 : Int) (hd rest : List Int) (out : List Int) (l2 : List (List Int)) (e2 : Int) (w : World) (hr1 : Kd.C (Kd.slice 5 (Kd.int .u8)) w A1 l1.length l1) (hc1 : l1.length ≤ c1) (h0 : 0 < l1.length) (h8 : l1.length ≤ 8)
    (hall : l1.flatten = all) (hal : all.length ≤ 1000000)
    (hM : profile_May.f a0 (l1.length : Int) a2 = some true) (hodd : l1.any (odd l1) = false) (hR : layout_rule.f a0 (l1.length : Int) a2 = some (unit, ah)) (hu : 0 < unit) (hq0 : ¬ ((rd_L6 l1 0).length : Int) = 0) (hqm : Int.tmod ((rd_L6 l1 0).length : Int) unit = 0) (hah : 0 < ah) (hah2 : ah ≤ (all.length : Int)) (hhd : all.take ah.toNat = hd) (hT : layout_told.f 9 hd = some n1) (hrest : all.drop ah.toNat = rest) (hn0 : 0 ≤ n1) (hn1 : n1 ≤ 4096) (hn2 : n1 ≤ (rest.length : Int)) (hout : rest.take n1.toNat = out) (hS : layout_Split.f a0 (l1.length : Int) a2 out = some (l2, e2)) (he2 : ¬ e2 = 0) :
    Calls Try.prog 16 #[.agg #[.int .i64 a0, .int .i64 (l1.length : Int), .int .i64 a2], .slice A1 l1.length c1, .int .i64 n] w fun e w' => e = .returned (.tuple #[.slice none 0 0, .int .i64 3]) ∧ Below w.heap.size w w' := by
  obtain ⟨ad, B0, d0, e1, hx, _, _⟩ := at_L6 hr1 0 (by omega) (by omega)
  cases e1
  simp only [show (0 : Int).toNat = 0 from rfl, Nat.reduceMul, Nat.reduceEqDiff, Go.Addr.add, ↓reduceIte] at hx
  have hl0 : (0 : Int) < (l1.length : Int) := by omega
  obtain ⟨q, hq⟩ : ∃ q, q = (rd_L6 l1 0).length := ⟨_, rfl⟩
  rw [← hq] at hx hq0 hqm
  have HX : Aside0 (((w.alloc (.cells #[.int .i64 a0, .int .i64 (l1.length : Int), .int .i64 a2] 23)).alloc (.cells #[.slice (some ad) l1.length c1] 31)).heap[w.heap.size]? = some (.cells #[.int .i64 a0, .int .i64 (l1.length : Int), .int .i64 a2] 23 (0, 0))) := ⟨blk_alloc (heap_alloc_new _ _) _⟩
  have HD : Aside0 (((w.alloc (.cells #[.int .i64 a0, .int .i64 (l1.length : Int), .int .i64 a2] 23)).alloc (.cells #[.slice (some ad) l1.length c1] 31)).heap[w.heap.size + 1]? = some (.cells #[.slice (some ad) l1.length c1] 31 (0, 0))) := ⟨by
    have := heap_alloc_new (w.alloc (.cells #[.int .i64 a0, .int .i64 (l1.length : Int), .int .i64 a2] 23)) (.cells #[.slice (some ad) l1.length c1] 31)
    rwa [World.size_alloc] at this⟩
  have HB := Aside0.mk (below_alloc (below_alloc (Below.refl w.heap.size w) (.cells #[.int .i64 a0, .int .i64 (l1.length : Int), .int .i64 a2] 23)) (.cells #[.slice (some ad) l1.length c1] 31))
  have HC := Aside0.mk (Kd.C_below hr1 HB.out)
  have HE := Aside0.mk (pw_cell_below HB.out hx)
  clear hx hr1 hq
  have hcM := fun w => profile_May.calls a0 (l1.length : Int) a2 true w hM
  have hcR := fun w => layout_rule.calls a0 (l1.length : Int) a2 unit ah w hR
  have hu0 : ¬ unit = 0 := by omega
  have hq0b : ((q : Int) == 0) = false := beq_eq_false_iff_ne.mpr hq0
  have hol : out.length ≤ 4096 := by rw [← hout, List.length_take]; omega
  have hclo : slices_Clone_byte_byte.f out = some out := by unfold slices_Clone_byte_byte.f; rw [if_pos (by omega)]
  have he2b : (e2 != 0) = true := bne_iff_ne.mpr he2
  go_enter Try.func16, Try.ntmps16
  go_wp2_with (first
    | (go_at_call 21; refine (hcM _).mono ?_; rintro e w1 ⟨rfl, hb⟩; have n0_ := Aside0.mk (blk_below HX.out hb); have n1_ := Aside0.mk (blk_below HD.out hb); have n2_ := Aside0.mk (Kd.C_below HC.out hb); have n3_ := Aside0.mk (below_step HB.out hb); have n4_ := Aside0.mk (pw_cell_below hb HE.out); clear HX HD HC HB HE; have HX := n0_; have HD := n1_; have HC := n2_; have HB := n3_; have HE := n4_; clear n0_ n1_ n2_ n3_ n4_; have hx0 := (blk_cell HX.out 0).trans (show _ = some (Value.int .i64 a0) from rfl); have hx1 := (blk_cell HX.out 1).trans (show _ = some (Value.int .i64 (l1.length : Int)) from rfl); have hx2 := (blk_cell HX.out 2).trans (show _ = some (Value.int .i64 a2) from rfl); have hd0 := (blk_cell HD.out 0).trans (show _ = some (Value.slice (some ad) l1.length c1) from rfl); have he0 := HE.out; clear hb)
    | (go_at_call 27; refine (containsFunc_is _ _ _ l1 _ hd0 HC.out (blk_lt HD.out)).mono ?_; rintro e w2 ⟨rfl, hb⟩; have n0_ := Aside0.mk (blk_below HX.out hb); have n1_ := Aside0.mk (blk_below HD.out hb); have n2_ := Aside0.mk (Kd.C_below HC.out hb); have n3_ := Aside0.mk (below_step HB.out hb); have n4_ := Aside0.mk (pw_cell_below hb HE.out); clear HX HD HC HB HE; have HX := n0_; have HD := n1_; have HC := n2_; have HB := n3_; have HE := n4_; clear n0_ n1_ n2_ n3_ n4_; have hx0 := (blk_cell HX.out 0).trans (show _ = some (Value.int .i64 a0) from rfl); have hx1 := (blk_cell HX.out 1).trans (show _ = some (Value.int .i64 (l1.length : Int)) from rfl); have hx2 := (blk_cell HX.out 2).trans (show _ = some (Value.int .i64 a2) from rfl); have hd0 := (blk_cell HD.out 0).trans (show _ = some (Value.slice (some ad) l1.length c1) from rfl); have he0 := HE.out; clear hb; rw [hodd])
    | (go_at_call 22; refine (hcR _).mono ?_; rintro e w3 ⟨rfl, hb⟩; have n0_ := Aside0.mk (blk_below HX.out hb); have n1_ := Aside0.mk (blk_below HD.out hb); have n2_ := Aside0.mk (Kd.C_below HC.out hb); have n3_ := Aside0.mk (below_step HB.out hb); have n4_ := Aside0.mk (pw_cell_below hb HE.out); clear HX HD HC HB HE; have HX := n0_; have HD := n1_; have HC := n2_; have HB := n3_; have HE := n4_; clear n0_ n1_ n2_ n3_ n4_; have hx0 := (blk_cell HX.out 0).trans (show _ = some (Value.int .i64 a0) from rfl); have hx1 := (blk_cell HX.out 1).trans (show _ = some (Value.int .i64 (l1.length : Int)) from rfl); have hx2 := (blk_cell HX.out 2).trans (show _ = some (Value.int .i64 a2) from rfl); have hd0 := (blk_cell HD.out 0).trans (show _ = some (Value.slice (some ad) l1.length c1) from rfl); have he0 := HE.out; clear hb)
    | (go_at_call 29; refine (concat_calls _ _ l1 _ HC.out hc1 (by omega) (by rw [hall]; omega)).mono ?_; rintro e w4 ⟨v, rfl, hv, hb⟩; have n0_ := Aside0.mk (blk_below HX.out hb); have n1_ := Aside0.mk (blk_below HD.out hb); have n2_ := Aside0.mk (Kd.C_below HC.out hb); have n3_ := Aside0.mk (below_step HB.out hb); have n4_ := Aside0.mk (pw_cell_below hb HE.out); clear HX HD HC HB HE; have HX := n0_; have HD := n1_; have HC := n2_; have HB := n3_; have HE := n4_; clear n0_ n1_ n2_ n3_ n4_; have hx0 := (blk_cell HX.out 0).trans (show _ = some (Value.int .i64 a0) from rfl); have hx1 := (blk_cell HX.out 1).trans (show _ = some (Value.int .i64 (l1.length : Int)) from rfl); have hx2 := (blk_cell HX.out 2).trans (show _ = some (Value.int .i64 a2) from rfl); have hd0 := (blk_cell HD.out 0).trans (show _ = some (Value.slice (some ad) l1.length c1) from rfl); have he0 := HE.out; rw [hall] at hv; obtain ⟨ao, co, rfl⟩ := Kd.R_slice hv; have hcap := (Kd.R_reads' hv).2.1; have HV := Aside0.mk (Kd.R_reads' hv).2.2; clear hv hb; obtain ⟨e59, r59, k59⟩ := bcut_take ao co all hd ah hhd (by omega) hah2 hcap; obtain ⟨A2, c2, e63, r63, k63⟩ := bcut_drop ao co all rest ah hrest (by omega) hah2 hcap; obtain ⟨e80, r80, k80⟩ := bcut_take A2 c2 rest out n1 hout hn0 hn2 k63; have R59 := Aside0.mk r59; have R63 := Aside0.mk r63; have R80 := Aside0.mk r80; clear r59 r63 r80)
    | (go_at_call 30; refine (layout_told.calls 9 _ _ hd n1 _ (R59.out _ HV.out) k59 hT).mono ?_; rintro e w5 ⟨rfl, hdr⟩; have hb := Drawn0.below hdr; clear hdr; have n0_ := Aside0.mk (blk_below HX.out hb); have n1_ := Aside0.mk (blk_below HD.out hb); have n2_ := Aside0.mk (Kd.C_below HC.out hb); have n3_ := Aside0.mk (below_step HB.out hb); have n4_ := Aside0.mk (pw_cell_below hb HE.out); have n5_ := Aside0.mk (Kd.C_below HV.out hb); clear HV; have HV := n5_; clear n5_; clear HX HD HC HB HE; have HX := n0_; have HD := n1_; have HC := n2_; have HB := n3_; have HE := n4_; clear n0_ n1_ n2_ n3_ n4_; have hx0 := (blk_cell HX.out 0).trans (show _ = some (Value.int .i64 a0) from rfl); have hx1 := (blk_cell HX.out 1).trans (show _ = some (Value.int .i64 (l1.length : Int)) from rfl); have hx2 := (blk_cell HX.out 2).trans (show _ = some (Value.int .i64 a2) from rfl); have hd0 := (blk_cell HD.out 0).trans (show _ = some (Value.slice (some ad) l1.length c1) from rfl); have he0 := HE.out; clear hb))
  have hx0d : w5.drew.cell? _ = _ := hx0
  have hx1d : w5.drew.cell? _ = _ := hx1
  have hx2d : w5.drew.cell? _ = _ := hx2
  have hcS := layout_Split.calls a0 (l1.length : Int) a2 A2 c2 out l2 e2 w5.drew (R80.out _ (R63.out _ (Kd.C_below HV.out (below_drew (Below.refl _ _))))) k80 hS
  go_region_with (go_at_call 12; refine hcS.mono ?_; rintro e w6 ⟨v6, rfl, hs6, hb⟩; replace hb := below_step (below_drew (Below.refl w5.heap.size w5)) hb; have n0_ := Aside0.mk (blk_below HX.out hb); have n1_ := Aside0.mk (blk_below HD.out hb); have n2_ := Aside0.mk (Kd.C_below HC.out hb); have n3_ := Aside0.mk (below_step HB.out hb); have n4_ := Aside0.mk (pw_cell_below hb HE.out); have n5_ := Aside0.mk (Kd.C_below HV.out hb); clear HV; have HV := n5_; clear n5_; clear HX HD HC HB HE; have HX := n0_; have HD := n1_; have HC := n2_; have HB := n3_; have HE := n4_; clear n0_ n1_ n2_ n3_ n4_; have hx0 := (blk_cell HX.out 0).trans (show _ = some (Value.int .i64 a0) from rfl); have hx1 := (blk_cell HX.out 1).trans (show _ = some (Value.int .i64 (l1.length : Int)) from rfl); have hx2 := (blk_cell HX.out 2).trans (show _ = some (Value.int .i64 a2) from rfl); have hd0 := (blk_cell HD.out 0).trans (show _ = some (Value.slice (some ad) l1.length c1) from rfl); have he0 := HE.out; obtain ⟨As, cs, rfl⟩ := Kd.S_slice hs6; have HS6 := Aside0.mk (Kd.S_reads' hs6).2.2; clear hs6 hb)
  all_goals
    go_wp2
    exact ⟨by simp, _, results_tmp2 rfl _ _ _, rfl, HB.out⟩
set_option maxRecDepth 100000 in
set_option maxHeartbeats 8000000 in
theorem join_range0n (a0 a2 n : Int) (l1 : List (List Int)) (all : List Int) (A1 : Option Addr) (c1 : Nat) (unit ah : Int) (rest : List Int) (w : World) (hr1 : Kd.C (Kd.slice 5 (Kd.int .u8)) w A1 l1.length l1) (hc1 : l1.length ≤ c1) (h0 : 0 < l1.length) (h8 : l1.length ≤ 8)
    (hall : l1.flatten = all) (hal : all.length ≤ 1000000)
    (hM : profile_May.f a0 (l1.length : Int) a2 = some true) (hodd : l1.any (odd l1) = false) (hR : layout_rule.f a0 (l1.length : Int) a2 = some (unit, ah)) (hu : 0 < unit) (hq0 : ¬ ((rd_L6 l1 0).length : Int) = 0) (hqm : Int.tmod ((rd_L6 l1 0).length : Int) unit = 0) (hah : ¬ 0 < ah) (hah0 : 0 ≤ ah) (hrest : all.drop ah.toNat = rest) (hn0 : n < 0) :
    Calls Try.prog 16 #[.agg #[.int .i64 a0, .int .i64 (l1.length : Int), .int .i64 a2], .slice A1 l1.length c1, .int .i64 n] w fun e w' => e = .returned (.tuple #[.slice none 0 0, .int .i64 3]) ∧ Below w.heap.size w w' := by
  obtain ⟨ad, B0, d0, e1, hx, _, _⟩ := at_L6 hr1 0 (by omega) (by omega)
  cases e1
  simp only [show (0 : Int).toNat = 0 from rfl, Nat.reduceMul, Nat.reduceEqDiff, Go.Addr.add, ↓reduceIte] at hx
  have hl0 : (0 : Int) < (l1.length : Int) := by omega
  obtain ⟨q, hq⟩ : ∃ q, q = (rd_L6 l1 0).length := ⟨_, rfl⟩
  rw [← hq] at hx hq0 hqm
  have HX : Aside0 (((w.alloc (.cells #[.int .i64 a0, .int .i64 (l1.length : Int), .int .i64 a2] 23)).alloc (.cells #[.slice (some ad) l1.length c1] 31)).heap[w.heap.size]? = some (.cells #[.int .i64 a0, .int .i64 (l1.length : Int), .int .i64 a2] 23 (0, 0))) := ⟨blk_alloc (heap_alloc_new _ _) _⟩
  have HD : Aside0 (((w.alloc (.cells #[.int .i64 a0, .int .i64 (l1.length : Int), .int .i64 a2] 23)).alloc (.cells #[.slice (some ad) l1.length c1] 31)).heap[w.heap.size + 1]? = some (.cells #[.slice (some ad) l1.length c1] 31 (0, 0))) := ⟨by
    have := heap_alloc_new (w.alloc (.cells #[.int .i64 a0, .int .i64 (l1.length : Int), .int .i64 a2] 23)) (.cells #[.slice (some ad) l1.length c1] 31)
    rwa [World.size_alloc] at this⟩
  have HB := Aside0.mk (below_alloc (below_alloc (Below.refl w.heap.size w) (.cells #[.int .i64 a0, .int .i64 (l1.length : Int), .int .i64 a2] 23)) (.cells #[.slice (some ad) l1.length c1] 31))
  have HC := Aside0.mk (Kd.C_below hr1 HB.out)
  have HE := Aside0.mk (pw_cell_below HB.out hx)
  clear hx hr1 hq
  have hcM := fun w => profile_May.calls a0 (l1.length : Int) a2 true w hM
  have hcR := fun w => layout_rule.calls a0 (l1.length : Int) a2 unit ah w hR
  have hu0 : ¬ unit = 0 := by omega
  have hq0b : ((q : Int) == 0) = false := beq_eq_false_iff_ne.mpr hq0
  go_enter Try.func16, Try.ntmps16
  go_wp2_with (first
    | (go_at_call 21; refine (hcM _).mono ?_; rintro e w1 ⟨rfl, hb⟩; have n0_ := Aside0.mk (blk_below HX.out hb); have n1_ := Aside0.mk (blk_below HD.out hb); have n2_ := Aside0.mk (Kd.C_below HC.out hb); have n3_ := Aside0.mk (below_step HB.out hb); have n4_ := Aside0.mk (pw_cell_below hb HE.out); clear HX HD HC HB HE; have HX := n0_; have HD := n1_; have HC := n2_; have HB := n3_; have HE := n4_; clear n0_ n1_ n2_ n3_ n4_; have hx0 := (blk_cell HX.out 0).trans (show _ = some (Value.int .i64 a0) from rfl); have hx1 := (blk_cell HX.out 1).trans (show _ = some (Value.int .i64 (l1.length : Int)) from rfl); have hx2 := (blk_cell HX.out 2).trans (show _ = some (Value.int .i64 a2) from rfl); have hd0 := (blk_cell HD.out 0).trans (show _ = some (Value.slice (some ad) l1.length c1) from rfl); have he0 := HE.out; clear hb)
    | (go_at_call 27; refine (containsFunc_is _ _ _ l1 _ hd0 HC.out (blk_lt HD.out)).mono ?_; rintro e w2 ⟨rfl, hb⟩; have n0_ := Aside0.mk (blk_below HX.out hb); have n1_ := Aside0.mk (blk_below HD.out hb); have n2_ := Aside0.mk (Kd.C_below HC.out hb); have n3_ := Aside0.mk (below_step HB.out hb); have n4_ := Aside0.mk (pw_cell_below hb HE.out); clear HX HD HC HB HE; have HX := n0_; have HD := n1_; have HC := n2_; have HB := n3_; have HE := n4_; clear n0_ n1_ n2_ n3_ n4_; have hx0 := (blk_cell HX.out 0).trans (show _ = some (Value.int .i64 a0) from rfl); have hx1 := (blk_cell HX.out 1).trans (show _ = some (Value.int .i64 (l1.length : Int)) from rfl); have hx2 := (blk_cell HX.out 2).trans (show _ = some (Value.int .i64 a2) from rfl); have hd0 := (blk_cell HD.out 0).trans (show _ = some (Value.slice (some ad) l1.length c1) from rfl); have he0 := HE.out; clear hb; rw [hodd])
    | (go_at_call 22; refine (hcR _).mono ?_; rintro e w3 ⟨rfl, hb⟩; have n0_ := Aside0.mk (blk_below HX.out hb); have n1_ := Aside0.mk (blk_below HD.out hb); have n2_ := Aside0.mk (Kd.C_below HC.out hb); have n3_ := Aside0.mk (below_step HB.out hb); have n4_ := Aside0.mk (pw_cell_below hb HE.out); clear HX HD HC HB HE; have HX := n0_; have HD := n1_; have HC := n2_; have HB := n3_; have HE := n4_; clear n0_ n1_ n2_ n3_ n4_; have hx0 := (blk_cell HX.out 0).trans (show _ = some (Value.int .i64 a0) from rfl); have hx1 := (blk_cell HX.out 1).trans (show _ = some (Value.int .i64 (l1.length : Int)) from rfl); have hx2 := (blk_cell HX.out 2).trans (show _ = some (Value.int .i64 a2) from rfl); have hd0 := (blk_cell HD.out 0).trans (show _ = some (Value.slice (some ad) l1.length c1) from rfl); have he0 := HE.out; clear hb)
    | (go_at_call 29; refine (concat_calls _ _ l1 _ HC.out hc1 (by omega) (by rw [hall]; omega)).mono ?_; rintro e w4 ⟨v, rfl, hv, hb⟩; have n0_ := Aside0.mk (blk_below HX.out hb); have n1_ := Aside0.mk (blk_below HD.out hb); have n2_ := Aside0.mk (Kd.C_below HC.out hb); have n3_ := Aside0.mk (below_step HB.out hb); have n4_ := Aside0.mk (pw_cell_below hb HE.out); clear HX HD HC HB HE; have HX := n0_; have HD := n1_; have HC := n2_; have HB := n3_; have HE := n4_; clear n0_ n1_ n2_ n3_ n4_; have hx0 := (blk_cell HX.out 0).trans (show _ = some (Value.int .i64 a0) from rfl); have hx1 := (blk_cell HX.out 1).trans (show _ = some (Value.int .i64 (l1.length : Int)) from rfl); have hx2 := (blk_cell HX.out 2).trans (show _ = some (Value.int .i64 a2) from rfl); have hd0 := (blk_cell HD.out 0).trans (show _ = some (Value.slice (some ad) l1.length c1) from rfl); have he0 := HE.out; rw [hall] at hv; obtain ⟨ao, co, rfl⟩ := Kd.R_slice hv; have hcap := (Kd.R_reads' hv).2.1; have HV := Aside0.mk (Kd.R_reads' hv).2.2; clear hv hb; obtain ⟨A2, c2, e63, r63, k63⟩ := bcut_drop ao co all rest ah hrest (by omega) (by omega) hcap; clear r63))
  exact ⟨by simp, _, results_tmp2 rfl _ _ _, rfl, HB.out⟩
set_option maxRecDepth 100000 in
set_option maxHeartbeats 8000000 in
theorem join_range1n (a0 a2 n : Int) (l1 : List (List Int)) (all : List Int) (A1 : Option Addr) (c1 : Nat) (unit ah : Int) (rest : List Int) (w : World) (hr1 : Kd.C (Kd.slice 5 (Kd.int .u8)) w A1 l1.length l1) (hc1 : l1.length ≤ c1) (h0 : 0 < l1.length) (h8 : l1.length ≤ 8)
    (hall : l1.flatten = all) (hal : all.length ≤ 1000000)
    (hM : profile_May.f a0 (l1.length : Int) a2 = some true) (hodd : l1.any (odd l1) = false) (hR : layout_rule.f a0 (l1.length : Int) a2 = some (unit, ah)) (hu : 0 < unit) (hq0 : ¬ ((rd_L6 l1 0).length : Int) = 0) (hqm : Int.tmod ((rd_L6 l1 0).length : Int) unit = 0) (hah : ¬ 0 < ah) (hah0 : 0 ≤ ah) (hrest : all.drop ah.toNat = rest) (hn0 : 0 ≤ n) (hn1 : 4096 < n) :
    Calls Try.prog 16 #[.agg #[.int .i64 a0, .int .i64 (l1.length : Int), .int .i64 a2], .slice A1 l1.length c1, .int .i64 n] w fun e w' => e = .returned (.tuple #[.slice none 0 0, .int .i64 3]) ∧ Below w.heap.size w w' := by
  obtain ⟨ad, B0, d0, e1, hx, _, _⟩ := at_L6 hr1 0 (by omega) (by omega)
  cases e1
  simp only [show (0 : Int).toNat = 0 from rfl, Nat.reduceMul, Nat.reduceEqDiff, Go.Addr.add, ↓reduceIte] at hx
  have hl0 : (0 : Int) < (l1.length : Int) := by omega
  obtain ⟨q, hq⟩ : ∃ q, q = (rd_L6 l1 0).length := ⟨_, rfl⟩
  rw [← hq] at hx hq0 hqm
  have HX : Aside0 (((w.alloc (.cells #[.int .i64 a0, .int .i64 (l1.length : Int), .int .i64 a2] 23)).alloc (.cells #[.slice (some ad) l1.length c1] 31)).heap[w.heap.size]? = some (.cells #[.int .i64 a0, .int .i64 (l1.length : Int), .int .i64 a2] 23 (0, 0))) := ⟨blk_alloc (heap_alloc_new _ _) _⟩
  have HD : Aside0 (((w.alloc (.cells #[.int .i64 a0, .int .i64 (l1.length : Int), .int .i64 a2] 23)).alloc (.cells #[.slice (some ad) l1.length c1] 31)).heap[w.heap.size + 1]? = some (.cells #[.slice (some ad) l1.length c1] 31 (0, 0))) := ⟨by
    have := heap_alloc_new (w.alloc (.cells #[.int .i64 a0, .int .i64 (l1.length : Int), .int .i64 a2] 23)) (.cells #[.slice (some ad) l1.length c1] 31)
    rwa [World.size_alloc] at this⟩
  have HB := Aside0.mk (below_alloc (below_alloc (Below.refl w.heap.size w) (.cells #[.int .i64 a0, .int .i64 (l1.length : Int), .int .i64 a2] 23)) (.cells #[.slice (some ad) l1.length c1] 31))
  have HC := Aside0.mk (Kd.C_below hr1 HB.out)
  have HE := Aside0.mk (pw_cell_below HB.out hx)
  clear hx hr1 hq
  have hcM := fun w => profile_May.calls a0 (l1.length : Int) a2 true w hM
  have hcR := fun w => layout_rule.calls a0 (l1.length : Int) a2 unit ah w hR
  have hu0 : ¬ unit = 0 := by omega
  have hq0b : ((q : Int) == 0) = false := beq_eq_false_iff_ne.mpr hq0
  go_enter Try.func16, Try.ntmps16
  go_wp2_with (first
    | (go_at_call 21; refine (hcM _).mono ?_; rintro e w1 ⟨rfl, hb⟩; have n0_ := Aside0.mk (blk_below HX.out hb); have n1_ := Aside0.mk (blk_below HD.out hb); have n2_ := Aside0.mk (Kd.C_below HC.out hb); have n3_ := Aside0.mk (below_step HB.out hb); have n4_ := Aside0.mk (pw_cell_below hb HE.out); clear HX HD HC HB HE; have HX := n0_; have HD := n1_; have HC := n2_; have HB := n3_; have HE := n4_; clear n0_ n1_ n2_ n3_ n4_; have hx0 := (blk_cell HX.out 0).trans (show _ = some (Value.int .i64 a0) from rfl); have hx1 := (blk_cell HX.out 1).trans (show _ = some (Value.int .i64 (l1.length : Int)) from rfl); have hx2 := (blk_cell HX.out 2).trans (show _ = some (Value.int .i64 a2) from rfl); have hd0 := (blk_cell HD.out 0).trans (show _ = some (Value.slice (some ad) l1.length c1) from rfl); have he0 := HE.out; clear hb)
    | (go_at_call 27; refine (containsFunc_is _ _ _ l1 _ hd0 HC.out (blk_lt HD.out)).mono ?_; rintro e w2 ⟨rfl, hb⟩; have n0_ := Aside0.mk (blk_below HX.out hb); have n1_ := Aside0.mk (blk_below HD.out hb); have n2_ := Aside0.mk (Kd.C_below HC.out hb); have n3_ := Aside0.mk (below_step HB.out hb); have n4_ := Aside0.mk (pw_cell_below hb HE.out); clear HX HD HC HB HE; have HX := n0_; have HD := n1_; have HC := n2_; have HB := n3_; have HE := n4_; clear n0_ n1_ n2_ n3_ n4_; have hx0 := (blk_cell HX.out 0).trans (show _ = some (Value.int .i64 a0) from rfl); have hx1 := (blk_cell HX.out 1).trans (show _ = some (Value.int .i64 (l1.length : Int)) from rfl); have hx2 := (blk_cell HX.out 2).trans (show _ = some (Value.int .i64 a2) from rfl); have hd0 := (blk_cell HD.out 0).trans (show _ = some (Value.slice (some ad) l1.length c1) from rfl); have he0 := HE.out; clear hb; rw [hodd])
    | (go_at_call 22; refine (hcR _).mono ?_; rintro e w3 ⟨rfl, hb⟩; have n0_ := Aside0.mk (blk_below HX.out hb); have n1_ := Aside0.mk (blk_below HD.out hb); have n2_ := Aside0.mk (Kd.C_below HC.out hb); have n3_ := Aside0.mk (below_step HB.out hb); have n4_ := Aside0.mk (pw_cell_below hb HE.out); clear HX HD HC HB HE; have HX := n0_; have HD := n1_; have HC := n2_; have HB := n3_; have HE := n4_; clear n0_ n1_ n2_ n3_ n4_; have hx0 := (blk_cell HX.out 0).trans (show _ = some (Value.int .i64 a0) from rfl); have hx1 := (blk_cell HX.out 1).trans (show _ = some (Value.int .i64 (l1.length : Int)) from rfl); have hx2 := (blk_cell HX.out 2).trans (show _ = some (Value.int .i64 a2) from rfl); have hd0 := (blk_cell HD.out 0).trans (show _ = some (Value.slice (some ad) l1.length c1) from rfl); have he0 := HE.out; clear hb)
    | (go_at_call 29; refine (concat_calls _ _ l1 _ HC.out hc1 (by omega) (by rw [hall]; omega)).mono ?_; rintro e w4 ⟨v, rfl, hv, hb⟩; have n0_ := Aside0.mk (blk_below HX.out hb); have n1_ := Aside0.mk (blk_below HD.out hb); have n2_ := Aside0.mk (Kd.C_below HC.out hb); have n3_ := Aside0.mk (below_step HB.out hb); have n4_ := Aside0.mk (pw_cell_below hb HE.out); clear HX HD HC HB HE; have HX := n0_; have HD := n1_; have HC := n2_; have HB := n3_; have HE := n4_; clear n0_ n1_ n2_ n3_ n4_; have hx0 := (blk_cell HX.out 0).trans (show _ = some (Value.int .i64 a0) from rfl); have hx1 := (blk_cell HX.out 1).trans (show _ = some (Value.int .i64 (l1.length : Int)) from rfl); have hx2 := (blk_cell HX.out 2).trans (show _ = some (Value.int .i64 a2) from rfl); have hd0 := (blk_cell HD.out 0).trans (show _ = some (Value.slice (some ad) l1.length c1) from rfl); have he0 := HE.out; rw [hall] at hv; obtain ⟨ao, co, rfl⟩ := Kd.R_slice hv; have hcap := (Kd.R_reads' hv).2.1; have HV := Aside0.mk (Kd.R_reads' hv).2.2; clear hv hb; obtain ⟨A2, c2, e63, r63, k63⟩ := bcut_drop ao co all rest ah hrest (by omega) (by omega) hcap; clear r63))
  exact ⟨by simp, _, results_tmp2 rfl _ _ _, rfl, HB.out⟩
set_option maxRecDepth 100000 in
set_option maxHeartbeats 8000000 in
theorem join_range2n (a0 a2 n : Int) (l1 : List (List Int)) (all : List Int) (A1 : Option Addr) (c1 : Nat) (unit ah : Int) (rest : List Int) (w : World) (hr1 : Kd.C (Kd.slice 5 (Kd.int .u8)) w A1 l1.length l1) (hc1 : l1.length ≤ c1) (h0 : 0 < l1.length) (h8 : l1.length ≤ 8)
    (hall : l1.flatten = all) (hal : all.length ≤ 1000000)
    (hM : profile_May.f a0 (l1.length : Int) a2 = some true) (hodd : l1.any (odd l1) = false) (hR : layout_rule.f a0 (l1.length : Int) a2 = some (unit, ah)) (hu : 0 < unit) (hq0 : ¬ ((rd_L6 l1 0).length : Int) = 0) (hqm : Int.tmod ((rd_L6 l1 0).length : Int) unit = 0) (hah : ¬ 0 < ah) (hah0 : 0 ≤ ah) (hrest : all.drop ah.toNat = rest) (hn0 : 0 ≤ n) (hn1 : n ≤ 4096) (hn2 : (rest.length : Int) < n) :
    Calls Try.prog 16 #[.agg #[.int .i64 a0, .int .i64 (l1.length : Int), .int .i64 a2], .slice A1 l1.length c1, .int .i64 n] w fun e w' => e = .returned (.tuple #[.slice none 0 0, .int .i64 3]) ∧ Below w.heap.size w w' := by
  obtain ⟨ad, B0, d0, e1, hx, _, _⟩ := at_L6 hr1 0 (by omega) (by omega)
  cases e1
  simp only [show (0 : Int).toNat = 0 from rfl, Nat.reduceMul, Nat.reduceEqDiff, Go.Addr.add, ↓reduceIte] at hx
  have hl0 : (0 : Int) < (l1.length : Int) := by omega
  obtain ⟨q, hq⟩ : ∃ q, q = (rd_L6 l1 0).length := ⟨_, rfl⟩
  rw [← hq] at hx hq0 hqm
  have HX : Aside0 (((w.alloc (.cells #[.int .i64 a0, .int .i64 (l1.length : Int), .int .i64 a2] 23)).alloc (.cells #[.slice (some ad) l1.length c1] 31)).heap[w.heap.size]? = some (.cells #[.int .i64 a0, .int .i64 (l1.length : Int), .int .i64 a2] 23 (0, 0))) := ⟨blk_alloc (heap_alloc_new _ _) _⟩
  have HD : Aside0 (((w.alloc (.cells #[.int .i64 a0, .int .i64 (l1.length : Int), .int .i64 a2] 23)).alloc (.cells #[.slice (some ad) l1.length c1] 31)).heap[w.heap.size + 1]? = some (.cells #[.slice (some ad) l1.length c1] 31 (0, 0))) := ⟨by
    have := heap_alloc_new (w.alloc (.cells #[.int .i64 a0, .int .i64 (l1.length : Int), .int .i64 a2] 23)) (.cells #[.slice (some ad) l1.length c1] 31)
    rwa [World.size_alloc] at this⟩
  have HB := Aside0.mk (below_alloc (below_alloc (Below.refl w.heap.size w) (.cells #[.int .i64 a0, .int .i64 (l1.length : Int), .int .i64 a2] 23)) (.cells #[.slice (some ad) l1.length c1] 31))
  have HC := Aside0.mk (Kd.C_below hr1 HB.out)
  have HE := Aside0.mk (pw_cell_below HB.out hx)
  clear hx hr1 hq
  have hcM := fun w => profile_May.calls a0 (l1.length : Int) a2 true w hM
  have hcR := fun w => layout_rule.calls a0 (l1.length : Int) a2 unit ah w hR
  have hu0 : ¬ unit = 0 := by omega
  have hq0b : ((q : Int) == 0) = false := beq_eq_false_iff_ne.mpr hq0
  go_enter Try.func16, Try.ntmps16
  go_wp2_with (first
    | (go_at_call 21; refine (hcM _).mono ?_; rintro e w1 ⟨rfl, hb⟩; have n0_ := Aside0.mk (blk_below HX.out hb); have n1_ := Aside0.mk (blk_below HD.out hb); have n2_ := Aside0.mk (Kd.C_below HC.out hb); have n3_ := Aside0.mk (below_step HB.out hb); have n4_ := Aside0.mk (pw_cell_below hb HE.out); clear HX HD HC HB HE; have HX := n0_; have HD := n1_; have HC := n2_; have HB := n3_; have HE := n4_; clear n0_ n1_ n2_ n3_ n4_; have hx0 := (blk_cell HX.out 0).trans (show _ = some (Value.int .i64 a0) from rfl); have hx1 := (blk_cell HX.out 1).trans (show _ = some (Value.int .i64 (l1.length : Int)) from rfl); have hx2 := (blk_cell HX.out 2).trans (show _ = some (Value.int .i64 a2) from rfl); have hd0 := (blk_cell HD.out 0).trans (show _ = some (Value.slice (some ad) l1.length c1) from rfl); have he0 := HE.out; clear hb)
    | (go_at_call 27; refine (containsFunc_is _ _ _ l1 _ hd0 HC.out (blk_lt HD.out)).mono ?_; rintro e w2 ⟨rfl, hb⟩; have n0_ := Aside0.mk (blk_below HX.out hb); have n1_ := Aside0.mk (blk_below HD.out hb); have n2_ := Aside0.mk (Kd.C_below HC.out hb); have n3_ := Aside0.mk (below_step HB.out hb); have n4_ := Aside0.mk (pw_cell_below hb HE.out); clear HX HD HC HB HE; have HX := n0_; have HD := n1_; have HC := n2_; have HB := n3_; have HE := n4_; clear n0_ n1_ n2_ n3_ n4_; have hx0 := (blk_cell HX.out 0).trans (show _ = some (Value.int .i64 a0) from rfl); have hx1 := (blk_cell HX.out 1).trans (show _ = some (Value.int .i64 (l1.length : Int)) from rfl); have hx2 := (blk_cell HX.out 2).trans (show _ = some (Value.int .i64 a2) from rfl); have hd0 := (blk_cell HD.out 0).trans (show _ = some (Value.slice (some ad) l1.length c1) from rfl); have he0 := HE.out; clear hb; rw [hodd])
    | (go_at_call 22; refine (hcR _).mono ?_; rintro e w3 ⟨rfl, hb⟩; have n0_ := Aside0.mk (blk_below HX.out hb); have n1_ := Aside0.mk (blk_below HD.out hb); have n2_ := Aside0.mk (Kd.C_below HC.out hb); have n3_ := Aside0.mk (below_step HB.out hb); have n4_ := Aside0.mk (pw_cell_below hb HE.out); clear HX HD HC HB HE; have HX := n0_; have HD := n1_; have HC := n2_; have HB := n3_; have HE := n4_; clear n0_ n1_ n2_ n3_ n4_; have hx0 := (blk_cell HX.out 0).trans (show _ = some (Value.int .i64 a0) from rfl); have hx1 := (blk_cell HX.out 1).trans (show _ = some (Value.int .i64 (l1.length : Int)) from rfl); have hx2 := (blk_cell HX.out 2).trans (show _ = some (Value.int .i64 a2) from rfl); have hd0 := (blk_cell HD.out 0).trans (show _ = some (Value.slice (some ad) l1.length c1) from rfl); have he0 := HE.out; clear hb)
    | (go_at_call 29; refine (concat_calls _ _ l1 _ HC.out hc1 (by omega) (by rw [hall]; omega)).mono ?_; rintro e w4 ⟨v, rfl, hv, hb⟩; have n0_ := Aside0.mk (blk_below HX.out hb); have n1_ := Aside0.mk (blk_below HD.out hb); have n2_ := Aside0.mk (Kd.C_below HC.out hb); have n3_ := Aside0.mk (below_step HB.out hb); have n4_ := Aside0.mk (pw_cell_below hb HE.out); clear HX HD HC HB HE; have HX := n0_; have HD := n1_; have HC := n2_; have HB := n3_; have HE := n4_; clear n0_ n1_ n2_ n3_ n4_; have hx0 := (blk_cell HX.out 0).trans (show _ = some (Value.int .i64 a0) from rfl); have hx1 := (blk_cell HX.out 1).trans (show _ = some (Value.int .i64 (l1.length : Int)) from rfl); have hx2 := (blk_cell HX.out 2).trans (show _ = some (Value.int .i64 a2) from rfl); have hd0 := (blk_cell HD.out 0).trans (show _ = some (Value.slice (some ad) l1.length c1) from rfl); have he0 := HE.out; rw [hall] at hv; obtain ⟨ao, co, rfl⟩ := Kd.R_slice hv; have hcap := (Kd.R_reads' hv).2.1; have HV := Aside0.mk (Kd.R_reads' hv).2.2; clear hv hb; obtain ⟨A2, c2, e63, r63, k63⟩ := bcut_drop ao co all rest ah hrest (by omega) (by omega) hcap; clear r63))
  exact ⟨by simp, _, results_tmp2 rfl _ _ _, rfl, HB.out⟩
set_option maxRecDepth 100000 in
set_option maxHeartbeats 8000000 in
theorem join_okn (a0 a2 n : Int) (l1 : List (List Int)) (all : List Int) (A1 : Option Addr) (c1 : Nat) (unit ah : Int) (rest : List Int) (out : List Int) (w : World) (hr1 : Kd.C (Kd.slice 5 (Kd.int .u8)) w A1 l1.length l1) (hc1 : l1.length ≤ c1) (h0 : 0 < l1.length) (h8 : l1.length ≤ 8)
    (hall : l1.flatten = all) (hal : all.length ≤ 1000000)
    (hM : profile_May.f a0 (l1.length : Int) a2 = some true) (hodd : l1.any (odd l1) = false) (hR : layout_rule.f a0 (l1.length : Int) a2 = some (unit, ah)) (hu : 0 < unit) (hq0 : ¬ ((rd_L6 l1 0).length : Int) = 0) (hqm : Int.tmod ((rd_L6 l1 0).length : Int) unit = 0) (hah : ¬ 0 < ah) (hah0 : 0 ≤ ah) (hrest : all.drop ah.toNat = rest) (hn0 : 0 ≤ n) (hn1 : n ≤ 4096) (hn2 : n ≤ (rest.length : Int)) (hout : rest.take n.toNat = out) (hS : layout_Split.f a0 (l1.length : Int) a2 out = some (l1, 0)) :
    Calls Try.prog 16 #[.agg #[.int .i64 a0, .int .i64 (l1.length : Int), .int .i64 a2], .slice A1 l1.length c1, .int .i64 n] w fun e w' => ∃ v, e = .returned (.tuple #[v, .int .i64 0]) ∧ Kd.R (Kd.int .u8) 5 w' w.heap.size (fun _ => True) v out ∧ Below w.heap.size w w' := by
  obtain ⟨ad, B0, d0, e1, hx, _, _⟩ := at_L6 hr1 0 (by omega) (by omega)
  cases e1
  simp only [show (0 : Int).toNat = 0 from rfl, Nat.reduceMul, Nat.reduceEqDiff, Go.Addr.add, ↓reduceIte] at hx
  have hl0 : (0 : Int) < (l1.length : Int) := by omega
  obtain ⟨q, hq⟩ : ∃ q, q = (rd_L6 l1 0).length := ⟨_, rfl⟩
  rw [← hq] at hx hq0 hqm
  have HX : Aside0 (((w.alloc (.cells #[.int .i64 a0, .int .i64 (l1.length : Int), .int .i64 a2] 23)).alloc (.cells #[.slice (some ad) l1.length c1] 31)).heap[w.heap.size]? = some (.cells #[.int .i64 a0, .int .i64 (l1.length : Int), .int .i64 a2] 23 (0, 0))) := ⟨blk_alloc (heap_alloc_new _ _) _⟩
  have HD : Aside0 (((w.alloc (.cells #[.int .i64 a0, .int .i64 (l1.length : Int), .int .i64 a2] 23)).alloc (.cells #[.slice (some ad) l1.length c1] 31)).heap[w.heap.size + 1]? = some (.cells #[.slice (some ad) l1.length c1] 31 (0, 0))) := ⟨by
    have := heap_alloc_new (w.alloc (.cells #[.int .i64 a0, .int .i64 (l1.length : Int), .int .i64 a2] 23)) (.cells #[.slice (some ad) l1.length c1] 31)
    rwa [World.size_alloc] at this⟩
  have HB := Aside0.mk (below_alloc (below_alloc (Below.refl w.heap.size w) (.cells #[.int .i64 a0, .int .i64 (l1.length : Int), .int .i64 a2] 23)) (.cells #[.slice (some ad) l1.length c1] 31))
  have HC := Aside0.mk (Kd.C_below hr1 HB.out)
  have HE := Aside0.mk (pw_cell_below HB.out hx)
  clear hx hr1 hq
  have hcM := fun w => profile_May.calls a0 (l1.length : Int) a2 true w hM
  have hcR := fun w => layout_rule.calls a0 (l1.length : Int) a2 unit ah w hR
  have hu0 : ¬ unit = 0 := by omega
  have hq0b : ((q : Int) == 0) = false := beq_eq_false_iff_ne.mpr hq0
  have hol : out.length ≤ 4096 := by rw [← hout, List.length_take]; omega
  have hclo : slices_Clone_byte_byte.f out = some out := by unfold slices_Clone_byte_byte.f; rw [if_pos (by omega)]
  have hsm : ∀ x ∈ l1, x.length ≤ 4294967296 := by
    intro x hx
    have := row_le l1 x hx
    rw [hall] at this
    omega
  go_enter Try.func16, Try.ntmps16
  go_wp2_with (first
    | (go_at_call 21; refine (hcM _).mono ?_; rintro e w1 ⟨rfl, hb⟩; have n0_ := Aside0.mk (blk_below HX.out hb); have n1_ := Aside0.mk (blk_below HD.out hb); have n2_ := Aside0.mk (Kd.C_below HC.out hb); have n3_ := Aside0.mk (below_step HB.out hb); have n4_ := Aside0.mk (pw_cell_below hb HE.out); clear HX HD HC HB HE; have HX := n0_; have HD := n1_; have HC := n2_; have HB := n3_; have HE := n4_; clear n0_ n1_ n2_ n3_ n4_; have hx0 := (blk_cell HX.out 0).trans (show _ = some (Value.int .i64 a0) from rfl); have hx1 := (blk_cell HX.out 1).trans (show _ = some (Value.int .i64 (l1.length : Int)) from rfl); have hx2 := (blk_cell HX.out 2).trans (show _ = some (Value.int .i64 a2) from rfl); have hd0 := (blk_cell HD.out 0).trans (show _ = some (Value.slice (some ad) l1.length c1) from rfl); have he0 := HE.out; clear hb)
    | (go_at_call 27; refine (containsFunc_is _ _ _ l1 _ hd0 HC.out (blk_lt HD.out)).mono ?_; rintro e w2 ⟨rfl, hb⟩; have n0_ := Aside0.mk (blk_below HX.out hb); have n1_ := Aside0.mk (blk_below HD.out hb); have n2_ := Aside0.mk (Kd.C_below HC.out hb); have n3_ := Aside0.mk (below_step HB.out hb); have n4_ := Aside0.mk (pw_cell_below hb HE.out); clear HX HD HC HB HE; have HX := n0_; have HD := n1_; have HC := n2_; have HB := n3_; have HE := n4_; clear n0_ n1_ n2_ n3_ n4_; have hx0 := (blk_cell HX.out 0).trans (show _ = some (Value.int .i64 a0) from rfl); have hx1 := (blk_cell HX.out 1).trans (show _ = some (Value.int .i64 (l1.length : Int)) from rfl); have hx2 := (blk_cell HX.out 2).trans (show _ = some (Value.int .i64 a2) from rfl); have hd0 := (blk_cell HD.out 0).trans (show _ = some (Value.slice (some ad) l1.length c1) from rfl); have he0 := HE.out; clear hb; rw [hodd])
    | (go_at_call 22; refine (hcR _).mono ?_; rintro e w3 ⟨rfl, hb⟩; have n0_ := Aside0.mk (blk_below HX.out hb); have n1_ := Aside0.mk (blk_below HD.out hb); have n2_ := Aside0.mk (Kd.C_below HC.out hb); have n3_ := Aside0.mk (below_step HB.out hb); have n4_ := Aside0.mk (pw_cell_below hb HE.out); clear HX HD HC HB HE; have HX := n0_; have HD := n1_; have HC := n2_; have HB := n3_; have HE := n4_; clear n0_ n1_ n2_ n3_ n4_; have hx0 := (blk_cell HX.out 0).trans (show _ = some (Value.int .i64 a0) from rfl); have hx1 := (blk_cell HX.out 1).trans (show _ = some (Value.int .i64 (l1.length : Int)) from rfl); have hx2 := (blk_cell HX.out 2).trans (show _ = some (Value.int .i64 a2) from rfl); have hd0 := (blk_cell HD.out 0).trans (show _ = some (Value.slice (some ad) l1.length c1) from rfl); have he0 := HE.out; clear hb)
    | (go_at_call 29; refine (concat_calls _ _ l1 _ HC.out hc1 (by omega) (by rw [hall]; omega)).mono ?_; rintro e w4 ⟨v, rfl, hv, hb⟩; have n0_ := Aside0.mk (blk_below HX.out hb); have n1_ := Aside0.mk (blk_below HD.out hb); have n2_ := Aside0.mk (Kd.C_below HC.out hb); have n3_ := Aside0.mk (below_step HB.out hb); have n4_ := Aside0.mk (pw_cell_below hb HE.out); clear HX HD HC HB HE; have HX := n0_; have HD := n1_; have HC := n2_; have HB := n3_; have HE := n4_; clear n0_ n1_ n2_ n3_ n4_; have hx0 := (blk_cell HX.out 0).trans (show _ = some (Value.int .i64 a0) from rfl); have hx1 := (blk_cell HX.out 1).trans (show _ = some (Value.int .i64 (l1.length : Int)) from rfl); have hx2 := (blk_cell HX.out 2).trans (show _ = some (Value.int .i64 a2) from rfl); have hd0 := (blk_cell HD.out 0).trans (show _ = some (Value.slice (some ad) l1.length c1) from rfl); have he0 := HE.out; rw [hall] at hv; obtain ⟨ao, co, rfl⟩ := Kd.R_slice hv; have hcap := (Kd.R_reads' hv).2.1; have HV := Aside0.mk (Kd.R_reads' hv).2.2; clear hv hb; obtain ⟨A2, c2, e63, r63, k63⟩ := bcut_drop ao co all rest ah hrest (by omega) (by omega) hcap; obtain ⟨e80, r80, k80⟩ := bcut_take A2 c2 rest out n hout hn0 hn2 k63; have R63 := Aside0.mk r63; have R80 := Aside0.mk r80; clear r63 r80))
  have hx0d : w4.drew.cell? _ = _ := hx0
  have hx1d : w4.drew.cell? _ = _ := hx1
  have hx2d : w4.drew.cell? _ = _ := hx2
  have hcS := layout_Split.calls a0 (l1.length : Int) a2 A2 c2 out l1 0 w4.drew (R80.out _ (R63.out _ (Kd.C_below HV.out (below_drew (Below.refl _ _))))) k80 hS
  go_region_with (go_at_call 12; refine hcS.mono ?_; rintro e w6 ⟨v6, rfl, hs6, hb⟩; replace hb := below_step (below_drew (Below.refl w4.heap.size w4)) hb; have n0_ := Aside0.mk (blk_below HX.out hb); have n1_ := Aside0.mk (blk_below HD.out hb); have n2_ := Aside0.mk (Kd.C_below HC.out hb); have n3_ := Aside0.mk (below_step HB.out hb); have n4_ := Aside0.mk (pw_cell_below hb HE.out); have n5_ := Aside0.mk (Kd.C_below HV.out hb); clear HV; have HV := n5_; clear n5_; clear HX HD HC HB HE; have HX := n0_; have HD := n1_; have HC := n2_; have HB := n3_; have HE := n4_; clear n0_ n1_ n2_ n3_ n4_; have hx0 := (blk_cell HX.out 0).trans (show _ = some (Value.int .i64 a0) from rfl); have hx1 := (blk_cell HX.out 1).trans (show _ = some (Value.int .i64 (l1.length : Int)) from rfl); have hx2 := (blk_cell HX.out 2).trans (show _ = some (Value.int .i64 a2) from rfl); have hd0 := (blk_cell HD.out 0).trans (show _ = some (Value.slice (some ad) l1.length c1) from rfl); have he0 := HE.out; obtain ⟨As, cs, rfl⟩ := Kd.S_slice hs6; have HS6 := Aside0.mk (Kd.S_reads' hs6).2.2; clear hs6 hb)
  all_goals
    go_wp2_with (first | (go_at_call 31; refine (equalFunc_yes _ _ l1 _ _ l1 _ HS6.out HC.out hsm rfl).mono ?_; rintro e w7 ⟨rfl, hb⟩; have n0_ := Aside0.mk (blk_below HX.out hb); have n1_ := Aside0.mk (blk_below HD.out hb); have n2_ := Aside0.mk (Kd.C_below HC.out hb); have n3_ := Aside0.mk (below_step HB.out hb); have n4_ := Aside0.mk (pw_cell_below hb HE.out); have n5_ := Aside0.mk (Kd.C_below HV.out hb); clear HV; have HV := n5_; clear n5_; clear HX HD HC HB HE; have HX := n0_; have HD := n1_; have HC := n2_; have HB := n3_; have HE := n4_; clear n0_ n1_ n2_ n3_ n4_; have hx0 := (blk_cell HX.out 0).trans (show _ = some (Value.int .i64 a0) from rfl); have hx1 := (blk_cell HX.out 1).trans (show _ = some (Value.int .i64 (l1.length : Int)) from rfl); have hx2 := (blk_cell HX.out 2).trans (show _ = some (Value.int .i64 a2) from rfl); have hd0 := (blk_cell HD.out 0).trans (show _ = some (Value.slice (some ad) l1.length c1) from rfl); have he0 := HE.out; clear hb) | (go_at_call 33; refine (slices_Clone_byte_byte.calls _ _ out out _ (R80.out _ (R63.out _ HV.out)) k80 hclo).mono ?_; rintro e w8 ⟨v8, rfl, hv8, hb⟩; have HV8 := Aside0.mk hv8; have HB8 := Aside0.mk (below_step HB.out hb); clear hv8 hb))
    exact ⟨by simp, _, results_tmp2 rfl _ _ _, _, rfl, Kd.R_lower HV8.out HB.out.size, HB8.out⟩
set_option maxRecDepth 100000 in
set_option maxHeartbeats 8000000 in
theorem join_noeqn (a0 a2 n : Int) (l1 : List (List Int)) (all : List Int) (A1 : Option Addr) (c1 : Nat) (unit ah : Int) (rest : List Int) (out : List Int) (l2 : List (List Int)) (w : World) (hr1 : Kd.C (Kd.slice 5 (Kd.int .u8)) w A1 l1.length l1) (hc1 : l1.length ≤ c1) (h0 : 0 < l1.length) (h8 : l1.length ≤ 8)
    (hall : l1.flatten = all) (hal : all.length ≤ 1000000)
    (hM : profile_May.f a0 (l1.length : Int) a2 = some true) (hodd : l1.any (odd l1) = false) (hR : layout_rule.f a0 (l1.length : Int) a2 = some (unit, ah)) (hu : 0 < unit) (hq0 : ¬ ((rd_L6 l1 0).length : Int) = 0) (hqm : Int.tmod ((rd_L6 l1 0).length : Int) unit = 0) (hah : ¬ 0 < ah) (hah0 : 0 ≤ ah) (hrest : all.drop ah.toNat = rest) (hn0 : 0 ≤ n) (hn1 : n ≤ 4096) (hn2 : n ≤ (rest.length : Int)) (hout : rest.take n.toNat = out) (hS : layout_Split.f a0 (l1.length : Int) a2 out = some (l2, 0)) (hne : ¬ l2 = l1) (hsm : ∀ x ∈ l2, x.length ≤ 4294967296) :
    Calls Try.prog 16 #[.agg #[.int .i64 a0, .int .i64 (l1.length : Int), .int .i64 a2], .slice A1 l1.length c1, .int .i64 n] w fun e w' => e = .returned (.tuple #[.slice none 0 0, .int .i64 3]) ∧ Below w.heap.size w w' := by
  obtain ⟨ad, B0, d0, e1, hx, _, _⟩ := at_L6 hr1 0 (by omega) (by omega)
  cases e1
  simp only [show (0 : Int).toNat = 0 from rfl, Nat.reduceMul, Nat.reduceEqDiff, Go.Addr.add, ↓reduceIte] at hx
  have hl0 : (0 : Int) < (l1.length : Int) := by omega
  obtain ⟨q, hq⟩ : ∃ q, q = (rd_L6 l1 0).length := ⟨_, rfl⟩
  rw [← hq] at hx hq0 hqm
  have HX : Aside0 (((w.alloc (.cells #[.int .i64 a0, .int .i64 (l1.length : Int), .int .i64 a2] 23)).alloc (.cells #[.slice (some ad) l1.length c1] 31)).heap[w.heap.size]? = some (.cells #[.int .i64 a0, .int .i64 (l1.length : Int), .int .i64 a2] 23 (0, 0))) := ⟨blk_alloc (heap_alloc_new _ _) _⟩
  have HD : Aside0 (((w.alloc (.cells #[.int .i64 a0, .int .i64 (l1.length : Int), .int .i64 a2] 23)).alloc (.cells #[.slice (some ad) l1.length c1] 31)).heap[w.heap.size + 1]? = some (.cells #[.slice (some ad) l1.length c1] 31 (0, 0))) := ⟨by
    have := heap_alloc_new (w.alloc (.cells #[.int .i64 a0, .int .i64 (l1.length : Int), .int .i64 a2] 23)) (.cells #[.slice (some ad) l1.length c1] 31)
    rwa [World.size_alloc] at this⟩
  have HB := Aside0.mk (below_alloc (below_alloc (Below.refl w.heap.size w) (.cells #[.int .i64 a0, .int .i64 (l1.length : Int), .int .i64 a2] 23)) (.cells #[.slice (some ad) l1.length c1] 31))
  have HC := Aside0.mk (Kd.C_below hr1 HB.out)
  have HE := Aside0.mk (pw_cell_below HB.out hx)
  clear hx hr1 hq
  have hcM := fun w => profile_May.calls a0 (l1.length : Int) a2 true w hM
  have hcR := fun w => layout_rule.calls a0 (l1.length : Int) a2 unit ah w hR
  have hu0 : ¬ unit = 0 := by omega
  have hq0b : ((q : Int) == 0) = false := beq_eq_false_iff_ne.mpr hq0
  have hol : out.length ≤ 4096 := by rw [← hout, List.length_take]; omega
  have hclo : slices_Clone_byte_byte.f out = some out := by unfold slices_Clone_byte_byte.f; rw [if_pos (by omega)]
  go_enter Try.func16, Try.ntmps16
  go_wp2_with (first
    | (go_at_call 21; refine (hcM _).mono ?_; rintro e w1 ⟨rfl, hb⟩; have n0_ := Aside0.mk (blk_below HX.out hb); have n1_ := Aside0.mk (blk_below HD.out hb); have n2_ := Aside0.mk (Kd.C_below HC.out hb); have n3_ := Aside0.mk (below_step HB.out hb); have n4_ := Aside0.mk (pw_cell_below hb HE.out); clear HX HD HC HB HE; have HX := n0_; have HD := n1_; have HC := n2_; have HB := n3_; have HE := n4_; clear n0_ n1_ n2_ n3_ n4_; have hx0 := (blk_cell HX.out 0).trans (show _ = some (Value.int .i64 a0) from rfl); have hx1 := (blk_cell HX.out 1).trans (show _ = some (Value.int .i64 (l1.length : Int)) from rfl); have hx2 := (blk_cell HX.out 2).trans (show _ = some (Value.int .i64 a2) from rfl); have hd0 := (blk_cell HD.out 0).trans (show _ = some (Value.slice (some ad) l1.length c1) from rfl); have he0 := HE.out; clear hb)
    | (go_at_call 27; refine (containsFunc_is _ _ _ l1 _ hd0 HC.out (blk_lt HD.out)).mono ?_; rintro e w2 ⟨rfl, hb⟩; have n0_ := Aside0.mk (blk_below HX.out hb); have n1_ := Aside0.mk (blk_below HD.out hb); have n2_ := Aside0.mk (Kd.C_below HC.out hb); have n3_ := Aside0.mk (below_step HB.out hb); have n4_ := Aside0.mk (pw_cell_below hb HE.out); clear HX HD HC HB HE; have HX := n0_; have HD := n1_; have HC := n2_; have HB := n3_; have HE := n4_; clear n0_ n1_ n2_ n3_ n4_; have hx0 := (blk_cell HX.out 0).trans (show _ = some (Value.int .i64 a0) from rfl); have hx1 := (blk_cell HX.out 1).trans (show _ = some (Value.int .i64 (l1.length : Int)) from rfl); have hx2 := (blk_cell HX.out 2).trans (show _ = some (Value.int .i64 a2) from rfl); have hd0 := (blk_cell HD.out 0).trans (show _ = some (Value.slice (some ad) l1.length c1) from rfl); have he0 := HE.out; clear hb; rw [hodd])
    | (go_at_call 22; refine (hcR _).mono ?_; rintro e w3 ⟨rfl, hb⟩; have n0_ := Aside0.mk (blk_below HX.out hb); have n1_ := Aside0.mk (blk_below HD.out hb); have n2_ := Aside0.mk (Kd.C_below HC.out hb); have n3_ := Aside0.mk (below_step HB.out hb); have n4_ := Aside0.mk (pw_cell_below hb HE.out); clear HX HD HC HB HE; have HX := n0_; have HD := n1_; have HC := n2_; have HB := n3_; have HE := n4_; clear n0_ n1_ n2_ n3_ n4_; have hx0 := (blk_cell HX.out 0).trans (show _ = some (Value.int .i64 a0) from rfl); have hx1 := (blk_cell HX.out 1).trans (show _ = some (Value.int .i64 (l1.length : Int)) from rfl); have hx2 := (blk_cell HX.out 2).trans (show _ = some (Value.int .i64 a2) from rfl); have hd0 := (blk_cell HD.out 0).trans (show _ = some (Value.slice (some ad) l1.length c1) from rfl); have he0 := HE.out; clear hb)
    | (go_at_call 29; refine (concat_calls _ _ l1 _ HC.out hc1 (by omega) (by rw [hall]; omega)).mono ?_; rintro e w4 ⟨v, rfl, hv, hb⟩; have n0_ := Aside0.mk (blk_below HX.out hb); have n1_ := Aside0.mk (blk_below HD.out hb); have n2_ := Aside0.mk (Kd.C_below HC.out hb); have n3_ := Aside0.mk (below_step HB.out hb); have n4_ := Aside0.mk (pw_cell_below hb HE.out); clear HX HD HC HB HE; have HX := n0_; have HD := n1_; have HC := n2_; have HB := n3_; have HE := n4_; clear n0_ n1_ n2_ n3_ n4_; have hx0 := (blk_cell HX.out 0).trans (show _ = some (Value.int .i64 a0) from rfl); have hx1 := (blk_cell HX.out 1).trans (show _ = some (Value.int .i64 (l1.length : Int)) from rfl); have hx2 := (blk_cell HX.out 2).trans (show _ = some (Value.int .i64 a2) from rfl); have hd0 := (blk_cell HD.out 0).trans (show _ = some (Value.slice (some ad) l1.length c1) from rfl); have he0 := HE.out; rw [hall] at hv; obtain ⟨ao, co, rfl⟩ := Kd.R_slice hv; have hcap := (Kd.R_reads' hv).2.1; have HV := Aside0.mk (Kd.R_reads' hv).2.2; clear hv hb; obtain ⟨A2, c2, e63, r63, k63⟩ := bcut_drop ao co all rest ah hrest (by omega) (by omega) hcap; obtain ⟨e80, r80, k80⟩ := bcut_take A2 c2 rest out n hout hn0 hn2 k63; have R63 := Aside0.mk r63; have R80 := Aside0.mk r80; clear r63 r80))
  have hx0d : w4.drew.cell? _ = _ := hx0
  have hx1d : w4.drew.cell? _ = _ := hx1
  have hx2d : w4.drew.cell? _ = _ := hx2
  have hcS := layout_Split.calls a0 (l1.length : Int) a2 A2 c2 out l2 0 w4.drew (R80.out _ (R63.out _ (Kd.C_below HV.out (below_drew (Below.refl _ _))))) k80 hS
  go_region_with (go_at_call 12; refine hcS.mono ?_; rintro e w6 ⟨v6, rfl, hs6, hb⟩; replace hb := below_step (below_drew (Below.refl w4.heap.size w4)) hb; have n0_ := Aside0.mk (blk_below HX.out hb); have n1_ := Aside0.mk (blk_below HD.out hb); have n2_ := Aside0.mk (Kd.C_below HC.out hb); have n3_ := Aside0.mk (below_step HB.out hb); have n4_ := Aside0.mk (pw_cell_below hb HE.out); have n5_ := Aside0.mk (Kd.C_below HV.out hb); clear HV; have HV := n5_; clear n5_; clear HX HD HC HB HE; have HX := n0_; have HD := n1_; have HC := n2_; have HB := n3_; have HE := n4_; clear n0_ n1_ n2_ n3_ n4_; have hx0 := (blk_cell HX.out 0).trans (show _ = some (Value.int .i64 a0) from rfl); have hx1 := (blk_cell HX.out 1).trans (show _ = some (Value.int .i64 (l1.length : Int)) from rfl); have hx2 := (blk_cell HX.out 2).trans (show _ = some (Value.int .i64 a2) from rfl); have hd0 := (blk_cell HD.out 0).trans (show _ = some (Value.slice (some ad) l1.length c1) from rfl); have he0 := HE.out; obtain ⟨As, cs, rfl⟩ := Kd.S_slice hs6; have HS6 := Aside0.mk (Kd.S_reads' hs6).2.2; clear hs6 hb)
  all_goals
    go_wp2_with (first | (go_at_call 31; refine (equalFunc_no _ _ l2 _ _ l1 _ HS6.out HC.out hsm hne).mono ?_; rintro e w7 ⟨rfl, hb⟩; have n0_ := Aside0.mk (blk_below HX.out hb); have n1_ := Aside0.mk (blk_below HD.out hb); have n2_ := Aside0.mk (Kd.C_below HC.out hb); have n3_ := Aside0.mk (below_step HB.out hb); have n4_ := Aside0.mk (pw_cell_below hb HE.out); have n5_ := Aside0.mk (Kd.C_below HV.out hb); clear HV; have HV := n5_; clear n5_; clear HX HD HC HB HE; have HX := n0_; have HD := n1_; have HC := n2_; have HB := n3_; have HE := n4_; clear n0_ n1_ n2_ n3_ n4_; have hx0 := (blk_cell HX.out 0).trans (show _ = some (Value.int .i64 a0) from rfl); have hx1 := (blk_cell HX.out 1).trans (show _ = some (Value.int .i64 (l1.length : Int)) from rfl); have hx2 := (blk_cell HX.out 2).trans (show _ = some (Value.int .i64 a2) from rfl); have hd0 := (blk_cell HD.out 0).trans (show _ = some (Value.slice (some ad) l1.length c1) from rfl); have he0 := HE.out; clear hb))
    exact ⟨by simp, _, results_tmp2 rfl _ _ _, rfl, HB.out⟩
set_option maxRecDepth 100000 in
set_option maxHeartbeats 8000000 in
theorem join_badn (a0 a2 n : Int) (l1 : List (List Int)) (all : List Int) (A1 : Option Addr) (c1 : Nat) (unit ah : Int) (rest : List Int) (out : List Int) (l2 : List (List Int)) (e2 : Int) (w : World) (hr1 : Kd.C (Kd.slice 5 (Kd.int .u8)) w A1 l1.length l1) (hc1 : l1.length ≤ c1) (h0 : 0 < l1.length) (h8 : l1.length ≤ 8)
    (hall : l1.flatten = all) (hal : all.length ≤ 1000000)
    (hM : profile_May.f a0 (l1.length : Int) a2 = some true) (hodd : l1.any (odd l1) = false) (hR : layout_rule.f a0 (l1.length : Int) a2 = some (unit, ah)) (hu : 0 < unit) (hq0 : ¬ ((rd_L6 l1 0).length : Int) = 0) (hqm : Int.tmod ((rd_L6 l1 0).length : Int) unit = 0) (hah : ¬ 0 < ah) (hah0 : 0 ≤ ah) (hrest : all.drop ah.toNat = rest) (hn0 : 0 ≤ n) (hn1 : n ≤ 4096) (hn2 : n ≤ (rest.length : Int)) (hout : rest.take n.toNat = out) (hS : layout_Split.f a0 (l1.length : Int) a2 out = some (l2, e2)) (he2 : ¬ e2 = 0) :
    Calls Try.prog 16 #[.agg #[.int .i64 a0, .int .i64 (l1.length : Int), .int .i64 a2], .slice A1 l1.length c1, .int .i64 n] w fun e w' => e = .returned (.tuple #[.slice none 0 0, .int .i64 3]) ∧ Below w.heap.size w w' := by
  obtain ⟨ad, B0, d0, e1, hx, _, _⟩ := at_L6 hr1 0 (by omega) (by omega)
  cases e1
  simp only [show (0 : Int).toNat = 0 from rfl, Nat.reduceMul, Nat.reduceEqDiff, Go.Addr.add, ↓reduceIte] at hx
  have hl0 : (0 : Int) < (l1.length : Int) := by omega
  obtain ⟨q, hq⟩ : ∃ q, q = (rd_L6 l1 0).length := ⟨_, rfl⟩
  rw [← hq] at hx hq0 hqm
  have HX : Aside0 (((w.alloc (.cells #[.int .i64 a0, .int .i64 (l1.length : Int), .int .i64 a2] 23)).alloc (.cells #[.slice (some ad) l1.length c1] 31)).heap[w.heap.size]? = some (.cells #[.int .i64 a0, .int .i64 (l1.length : Int), .int .i64 a2] 23 (0, 0))) := ⟨blk_alloc (heap_alloc_new _ _) _⟩
  have HD : Aside0 (((w.alloc (.cells #[.int .i64 a0, .int .i64 (l1.length : Int), .int .i64 a2] 23)).alloc (.cells #[.slice (some ad) l1.length c1] 31)).heap[w.heap.size + 1]? = some (.cells #[.slice (some ad) l1.length c1] 31 (0, 0))) := ⟨by
    have := heap_alloc_new (w.alloc (.cells #[.int .i64 a0, .int .i64 (l1.length : Int), .int .i64 a2] 23)) (.cells #[.slice (some ad) l1.length c1] 31)
    rwa [World.size_alloc] at this⟩
  have HB := Aside0.mk (below_alloc (below_alloc (Below.refl w.heap.size w) (.cells #[.int .i64 a0, .int .i64 (l1.length : Int), .int .i64 a2] 23)) (.cells #[.slice (some ad) l1.length c1] 31))
  have HC := Aside0.mk (Kd.C_below hr1 HB.out)
  have HE := Aside0.mk (pw_cell_below HB.out hx)
  clear hx hr1 hq
  have hcM := fun w => profile_May.calls a0 (l1.length : Int) a2 true w hM
  have hcR := fun w => layout_rule.calls a0 (l1.length : Int) a2 unit ah w hR
  have hu0 : ¬ unit = 0 := by omega
  have hq0b : ((q : Int) == 0) = false := beq_eq_false_iff_ne.mpr hq0
  have hol : out.length ≤ 4096 := by rw [← hout, List.length_take]; omega
  have hclo : slices_Clone_byte_byte.f out = some out := by unfold slices_Clone_byte_byte.f; rw [if_pos (by omega)]
  have he2b : (e2 != 0) = true := bne_iff_ne.mpr he2
  go_enter Try.func16, Try.ntmps16
  go_wp2_with (first
    | (go_at_call 21; refine (hcM _).mono ?_; rintro e w1 ⟨rfl, hb⟩; have n0_ := Aside0.mk (blk_below HX.out hb); have n1_ := Aside0.mk (blk_below HD.out hb); have n2_ := Aside0.mk (Kd.C_below HC.out hb); have n3_ := Aside0.mk (below_step HB.out hb); have n4_ := Aside0.mk (pw_cell_below hb HE.out); clear HX HD HC HB HE; have HX := n0_; have HD := n1_; have HC := n2_; have HB := n3_; have HE := n4_; clear n0_ n1_ n2_ n3_ n4_; have hx0 := (blk_cell HX.out 0).trans (show _ = some (Value.int .i64 a0) from rfl); have hx1 := (blk_cell HX.out 1).trans (show _ = some (Value.int .i64 (l1.length : Int)) from rfl); have hx2 := (blk_cell HX.out 2).trans (show _ = some (Value.int .i64 a2) from rfl); have hd0 := (blk_cell HD.out 0).trans (show _ = some (Value.slice (some ad) l1.length c1) from rfl); have he0 := HE.out; clear hb)
    | (go_at_call 27; refine (containsFunc_is _ _ _ l1 _ hd0 HC.out (blk_lt HD.out)).mono ?_; rintro e w2 ⟨rfl, hb⟩; have n0_ := Aside0.mk (blk_below HX.out hb); have n1_ := Aside0.mk (blk_below HD.out hb); have n2_ := Aside0.mk (Kd.C_below HC.out hb); have n3_ := Aside0.mk (below_step HB.out hb); have n4_ := Aside0.mk (pw_cell_below hb HE.out); clear HX HD HC HB HE; have HX := n0_; have HD := n1_; have HC := n2_; have HB := n3_; have HE := n4_; clear n0_ n1_ n2_ n3_ n4_; have hx0 := (blk_cell HX.out 0).trans (show _ = some (Value.int .i64 a0) from rfl); have hx1 := (blk_cell HX.out 1).trans (show _ = some (Value.int .i64 (l1.length : Int)) from rfl); have hx2 := (blk_cell HX.out 2).trans (show _ = some (Value.int .i64 a2) from rfl); have hd0 := (blk_cell HD.out 0).trans (show _ = some (Value.slice (some ad) l1.length c1) from rfl); have he0 := HE.out; clear hb; rw [hodd])
    | (go_at_call 22; refine (hcR _).mono ?_; rintro e w3 ⟨rfl, hb⟩; have n0_ := Aside0.mk (blk_below HX.out hb); have n1_ := Aside0.mk (blk_below HD.out hb); have n2_ := Aside0.mk (Kd.C_below HC.out hb); have n3_ := Aside0.mk (below_step HB.out hb); have n4_ := Aside0.mk (pw_cell_below hb HE.out); clear HX HD HC HB HE; have HX := n0_; have HD := n1_; have HC := n2_; have HB := n3_; have HE := n4_; clear n0_ n1_ n2_ n3_ n4_; have hx0 := (blk_cell HX.out 0).trans (show _ = some (Value.int .i64 a0) from rfl); have hx1 := (blk_cell HX.out 1).trans (show _ = some (Value.int .i64 (l1.length : Int)) from rfl); have hx2 := (blk_cell HX.out 2).trans (show _ = some (Value.int .i64 a2) from rfl); have hd0 := (blk_cell HD.out 0).trans (show _ = some (Value.slice (some ad) l1.length c1) from rfl); have he0 := HE.out; clear hb)
    | (go_at_call 29; refine (concat_calls _ _ l1 _ HC.out hc1 (by omega) (by rw [hall]; omega)).mono ?_; rintro e w4 ⟨v, rfl, hv, hb⟩; have n0_ := Aside0.mk (blk_below HX.out hb); have n1_ := Aside0.mk (blk_below HD.out hb); have n2_ := Aside0.mk (Kd.C_below HC.out hb); have n3_ := Aside0.mk (below_step HB.out hb); have n4_ := Aside0.mk (pw_cell_below hb HE.out); clear HX HD HC HB HE; have HX := n0_; have HD := n1_; have HC := n2_; have HB := n3_; have HE := n4_; clear n0_ n1_ n2_ n3_ n4_; have hx0 := (blk_cell HX.out 0).trans (show _ = some (Value.int .i64 a0) from rfl); have hx1 := (blk_cell HX.out 1).trans (show _ = some (Value.int .i64 (l1.length : Int)) from rfl); have hx2 := (blk_cell HX.out 2).trans (show _ = some (Value.int .i64 a2) from rfl); have hd0 := (blk_cell HD.out 0).trans (show _ = some (Value.slice (some ad) l1.length c1) from rfl); have he0 := HE.out; rw [hall] at hv; obtain ⟨ao, co, rfl⟩ := Kd.R_slice hv; have hcap := (Kd.R_reads' hv).2.1; have HV := Aside0.mk (Kd.R_reads' hv).2.2; clear hv hb; obtain ⟨A2, c2, e63, r63, k63⟩ := bcut_drop ao co all rest ah hrest (by omega) (by omega) hcap; obtain ⟨e80, r80, k80⟩ := bcut_take A2 c2 rest out n hout hn0 hn2 k63; have R63 := Aside0.mk r63; have R80 := Aside0.mk r80; clear r63 r80))
  have hx0d : w4.drew.cell? _ = _ := hx0
  have hx1d : w4.drew.cell? _ = _ := hx1
  have hx2d : w4.drew.cell? _ = _ := hx2
  have hcS := layout_Split.calls a0 (l1.length : Int) a2 A2 c2 out l2 e2 w4.drew (R80.out _ (R63.out _ (Kd.C_below HV.out (below_drew (Below.refl _ _))))) k80 hS
  go_region_with (go_at_call 12; refine hcS.mono ?_; rintro e w6 ⟨v6, rfl, hs6, hb⟩; replace hb := below_step (below_drew (Below.refl w4.heap.size w4)) hb; have n0_ := Aside0.mk (blk_below HX.out hb); have n1_ := Aside0.mk (blk_below HD.out hb); have n2_ := Aside0.mk (Kd.C_below HC.out hb); have n3_ := Aside0.mk (below_step HB.out hb); have n4_ := Aside0.mk (pw_cell_below hb HE.out); have n5_ := Aside0.mk (Kd.C_below HV.out hb); clear HV; have HV := n5_; clear n5_; clear HX HD HC HB HE; have HX := n0_; have HD := n1_; have HC := n2_; have HB := n3_; have HE := n4_; clear n0_ n1_ n2_ n3_ n4_; have hx0 := (blk_cell HX.out 0).trans (show _ = some (Value.int .i64 a0) from rfl); have hx1 := (blk_cell HX.out 1).trans (show _ = some (Value.int .i64 (l1.length : Int)) from rfl); have hx2 := (blk_cell HX.out 2).trans (show _ = some (Value.int .i64 a2) from rfl); have hd0 := (blk_cell HD.out 0).trans (show _ = some (Value.slice (some ad) l1.length c1) from rfl); have he0 := HE.out; obtain ⟨As, cs, rfl⟩ := Kd.S_slice hs6; have HS6 := Aside0.mk (Kd.S_reads' hs6).2.2; clear hs6 hb)
  all_goals
    go_wp2
    exact ⟨by simp, _, results_tmp2 rfl _ _ _, rfl, HB.out⟩
set_option maxRecDepth 100000 in
set_option maxHeartbeats 8000000 in
theorem join_may (a0 a1 a2 n : Int) (l1 : List (List Int)) (A1 : Option Addr) (c1 : Nat) (w : World) (hM : profile_May.f a0 a1 a2 = some false) :
    Calls Try.prog 16 #[.agg #[.int .i64 a0, .int .i64 a1, .int .i64 a2], .slice A1 l1.length c1, .int .i64 n] w fun e w' => e = .returned (.tuple #[.slice none 0 0, .int .i64 1]) ∧ Below w.heap.size w w' := by
  have HX : Aside0 (((w.alloc (.cells #[.int .i64 a0, .int .i64 a1, .int .i64 a2] 23)).alloc (.cells #[.slice A1 l1.length c1] 31)).heap[w.heap.size]? = some (.cells #[.int .i64 a0, .int .i64 a1, .int .i64 a2] 23 (0, 0))) := ⟨blk_alloc (heap_alloc_new _ _) _⟩
  have HD : Aside0 (((w.alloc (.cells #[.int .i64 a0, .int .i64 a1, .int .i64 a2] 23)).alloc (.cells #[.slice A1 l1.length c1] 31)).heap[w.heap.size + 1]? = some (.cells #[.slice A1 l1.length c1] 31 (0, 0))) := ⟨by
    have := heap_alloc_new (w.alloc (.cells #[.int .i64 a0, .int .i64 a1, .int .i64 a2] 23)) (.cells #[.slice A1 l1.length c1] 31)
    rwa [World.size_alloc] at this⟩
  have HB := Aside0.mk (below_alloc (below_alloc (Below.refl w.heap.size w) (.cells #[.int .i64 a0, .int .i64 a1, .int .i64 a2] 23)) (.cells #[.slice A1 l1.length c1] 31))
  have hcM := fun w => profile_May.calls a0 a1 a2 false w hM
  go_enter Try.func16, Try.ntmps16
  go_wp2_with (first
    | (go_at_call 21; refine (hcM _).mono ?_; rintro e w1 ⟨rfl, hb⟩; have n0_ := Aside0.mk (blk_below HX.out hb); have n1_ := Aside0.mk (blk_below HD.out hb); have n3_ := Aside0.mk (below_step HB.out hb); clear HX HD HB; have HX := n0_; have HD := n1_; have HB := n3_; clear n0_ n1_ n3_; have hx0 := (blk_cell HX.out 0).trans (show _ = some (Value.int .i64 a0) from rfl); have hx1 := (blk_cell HX.out 1).trans (show _ = some (Value.int .i64 a1) from rfl); have hx2 := (blk_cell HX.out 2).trans (show _ = some (Value.int .i64 a2) from rfl); have hd0 := (blk_cell HD.out 0).trans (show _ = some (Value.slice A1 l1.length c1) from rfl); clear hb))
  exact ⟨by simp, _, results_tmp2 rfl _ _ _, rfl, HB.out⟩
set_option maxRecDepth 100000 in
set_option maxHeartbeats 8000000 in
theorem join_len (a0 a1 a2 n : Int) (l1 : List (List Int)) (A1 : Option Addr) (c1 : Nat) (w : World) (hM : profile_May.f a0 a1 a2 = some true) (hne : ¬ (l1.length : Int) = a1) :
    Calls Try.prog 16 #[.agg #[.int .i64 a0, .int .i64 a1, .int .i64 a2], .slice A1 l1.length c1, .int .i64 n] w fun e w' => e = .returned (.tuple #[.slice none 0 0, .int .i64 1]) ∧ Below w.heap.size w w' := by
  have HX : Aside0 (((w.alloc (.cells #[.int .i64 a0, .int .i64 a1, .int .i64 a2] 23)).alloc (.cells #[.slice A1 l1.length c1] 31)).heap[w.heap.size]? = some (.cells #[.int .i64 a0, .int .i64 a1, .int .i64 a2] 23 (0, 0))) := ⟨blk_alloc (heap_alloc_new _ _) _⟩
  have HD : Aside0 (((w.alloc (.cells #[.int .i64 a0, .int .i64 a1, .int .i64 a2] 23)).alloc (.cells #[.slice A1 l1.length c1] 31)).heap[w.heap.size + 1]? = some (.cells #[.slice A1 l1.length c1] 31 (0, 0))) := ⟨by
    have := heap_alloc_new (w.alloc (.cells #[.int .i64 a0, .int .i64 a1, .int .i64 a2] 23)) (.cells #[.slice A1 l1.length c1] 31)
    rwa [World.size_alloc] at this⟩
  have HB := Aside0.mk (below_alloc (below_alloc (Below.refl w.heap.size w) (.cells #[.int .i64 a0, .int .i64 a1, .int .i64 a2] 23)) (.cells #[.slice A1 l1.length c1] 31))
  have hcM := fun w => profile_May.calls a0 a1 a2 true w hM
  have hneb : ((l1.length : Int) != a1) = true := bne_iff_ne.mpr hne
  go_enter Try.func16, Try.ntmps16
  go_wp2_with (first
    | (go_at_call 21; refine (hcM _).mono ?_; rintro e w1 ⟨rfl, hb⟩; have n0_ := Aside0.mk (blk_below HX.out hb); have n1_ := Aside0.mk (blk_below HD.out hb); have n3_ := Aside0.mk (below_step HB.out hb); clear HX HD HB; have HX := n0_; have HD := n1_; have HB := n3_; clear n0_ n1_ n3_; have hx0 := (blk_cell HX.out 0).trans (show _ = some (Value.int .i64 a0) from rfl); have hx1 := (blk_cell HX.out 1).trans (show _ = some (Value.int .i64 a1) from rfl); have hx2 := (blk_cell HX.out 2).trans (show _ = some (Value.int .i64 a2) from rfl); have hd0 := (blk_cell HD.out 0).trans (show _ = some (Value.slice A1 l1.length c1) from rfl); clear hb))
  exact ⟨by simp, _, results_tmp2 rfl _ _ _, rfl, HB.out⟩
set_option maxRecDepth 100000 in
set_option maxHeartbeats 8000000 in
theorem join_odd (a0 a1 a2 n : Int) (l1 : List (List Int)) (A1 : Option Addr) (c1 : Nat) (w : World) (hr1 : Aside0 (Kd.C (Kd.slice 5 (Kd.int .u8)) w A1 l1.length l1)) (hM : profile_May.f a0 a1 a2 = some true) (heq : (l1.length : Int) = a1) (hodd : l1.any (odd l1) = true) :
    Calls Try.prog 16 #[.agg #[.int .i64 a0, .int .i64 a1, .int .i64 a2], .slice A1 l1.length c1, .int .i64 n] w fun e w' => e = .returned (.tuple #[.slice none 0 0, .int .i64 1]) ∧ Below w.heap.size w w' := by
  have HX : Aside0 (((w.alloc (.cells #[.int .i64 a0, .int .i64 a1, .int .i64 a2] 23)).alloc (.cells #[.slice A1 l1.length c1] 31)).heap[w.heap.size]? = some (.cells #[.int .i64 a0, .int .i64 a1, .int .i64 a2] 23 (0, 0))) := ⟨blk_alloc (heap_alloc_new _ _) _⟩
  have HD : Aside0 (((w.alloc (.cells #[.int .i64 a0, .int .i64 a1, .int .i64 a2] 23)).alloc (.cells #[.slice A1 l1.length c1] 31)).heap[w.heap.size + 1]? = some (.cells #[.slice A1 l1.length c1] 31 (0, 0))) := ⟨by
    have := heap_alloc_new (w.alloc (.cells #[.int .i64 a0, .int .i64 a1, .int .i64 a2] 23)) (.cells #[.slice A1 l1.length c1] 31)
    rwa [World.size_alloc] at this⟩
  have HB := Aside0.mk (below_alloc (below_alloc (Below.refl w.heap.size w) (.cells #[.int .i64 a0, .int .i64 a1, .int .i64 a2] 23)) (.cells #[.slice A1 l1.length c1] 31))
  have hcM := fun w => profile_May.calls a0 a1 a2 true w hM
  have hneb : ((l1.length : Int) != a1) = false := bne_eq_false_iff_eq.mpr heq
  clear heq
  go_enter Try.func16, Try.ntmps16
  go_wp2_with (first
    | (go_at_call 21; refine (hcM _).mono ?_; rintro e w1 ⟨rfl, hb⟩; have n0_ := Aside0.mk (blk_below HX.out hb); have n1_ := Aside0.mk (blk_below HD.out hb); have n3_ := Aside0.mk (below_step HB.out hb); clear HX HD HB; have HX := n0_; have HD := n1_; have HB := n3_; clear n0_ n1_ n3_; have hx0 := (blk_cell HX.out 0).trans (show _ = some (Value.int .i64 a0) from rfl); have hx1 := (blk_cell HX.out 1).trans (show _ = some (Value.int .i64 a1) from rfl); have hx2 := (blk_cell HX.out 2).trans (show _ = some (Value.int .i64 a2) from rfl); have hd0 := (blk_cell HD.out 0).trans (show _ = some (Value.slice A1 l1.length c1) from rfl); clear hb)
    | (go_at_call 27; refine (containsFunc_is _ _ _ l1 _ hd0 (Kd.C_below hr1.out HB.out) (blk_lt HD.out)).mono ?_; rintro e w2 ⟨rfl, hb⟩; have n0_ := Aside0.mk (blk_below HX.out hb); have n1_ := Aside0.mk (blk_below HD.out hb); have n3_ := Aside0.mk (below_step HB.out hb); clear HX HD HB; have HX := n0_; have HD := n1_; have HB := n3_; clear n0_ n1_ n3_; have hx0 := (blk_cell HX.out 0).trans (show _ = some (Value.int .i64 a0) from rfl); have hx1 := (blk_cell HX.out 1).trans (show _ = some (Value.int .i64 a1) from rfl); have hx2 := (blk_cell HX.out 2).trans (show _ = some (Value.int .i64 a2) from rfl); have hd0 := (blk_cell HD.out 0).trans (show _ = some (Value.slice A1 l1.length c1) from rfl); clear hb; rw [hodd]))
  exact ⟨by simp, _, results_tmp2 rfl _ _ _, rfl, HB.out⟩
end Go.Proofs.Ytibcgallhldnnaa.P
namespace Go.Proofs.Ytibcgallhldnnaa.P
open Go.RowKit Go.Shelf Go.Proofs.YtibcgallhldnnaaW.PrintWords Go.Proofs.YtibcgallhldnnaaW.PrintLast Go.Proofs.YtibcgallhldnnaaW.PrintMore
set_option linter.unusedVariables false
set_option linter.unusedSimpArgs false

def joinForm (a0 a1 a2 : Int) (l1 : List (List Int)) (n1 : Int) (rest : List Int) : Option (List Int × Int) :=
  if n1 < 0 then some ([], 3) else if 4096 < n1 then some ([], 3) else if (rest.length : Int) < n1 then some ([], 3) else
    (layout_Split.f a0 a1 a2 (rest.take n1.toNat)).bind fun s => if s.2 = 0 then (if s.1 = l1 then some (rest.take n1.toNat, 0) else if (∀ x ∈ s.1, x.length ≤ 4294967296) then some ([], 3) else none) else some ([], 3)
def layout_Join.f (a0 a1 a2 : Int) (l1 : List (List Int)) (n : Int) : Option (List Int × Int) :=
  (profile_May.f a0 a1 a2).bind fun ok => if ok = true then
    if (l1.length : Int) = a1 then
      if l1.any (odd l1) = true then some ([], 1) else
      if 0 < l1.length ∧ l1.length ≤ 8 ∧ l1.flatten.length ≤ 1000000 then
        (layout_rule.f a0 a1 a2).bind fun r => if 0 < r.1 ∧ 0 ≤ r.2 then
          if ((rd_L6 l1 0).length : Int) = 0 then some ([], 3) else if ¬ Int.tmod ((rd_L6 l1 0).length : Int) r.1 = 0 then some ([], 3) else if (l1.flatten.length : Int) < r.2 then some ([], 3) else
          if 0 < r.2 then (layout_told.f 9 (l1.flatten.take r.2.toNat)).bind fun n1 => joinForm a0 a1 a2 l1 n1 (l1.flatten.drop r.2.toNat) else joinForm a0 a1 a2 l1 n (l1.flatten.drop r.2.toNat)
        else none
      else none
    else some ([], 1)
  else some ([], 1)

theorem join_calls_of {P : Program} {args : Array Value} {w : World} {c : Int} {f : FuncId} (h : Calls P f args w fun e w' => e = .returned (.tuple #[.slice none 0 0, .int .i64 c]) ∧ Below w.heap.size w w') :
    Calls P f args w fun e w' => ∃ v, e = .returned (.tuple #[v, .int .i64 c]) ∧ Kd.R (Kd.int .u8) 5 w' w.heap.size (fun _ => True) v [] ∧ Below w.heap.size w w' :=
  h.mono (fun e w' he => ⟨_, he.1, Kd.R_nil _ _ _ _ _, he.2⟩)

theorem layout_Join.calls (a0_0 : Int) (a0_1 : Int) (a0_2 : Int) (A1 : Option Addr) (c1 : Nat) (l1 : List (List Int)) (a2 : Int) (r1 : List Int) (r2 : Int) (w : World) (hr1 : Kd.C (Kd.slice 5 (Kd.int .u8)) w A1 l1.length l1) (hc1 : l1.length ≤ c1) (h : layout_Join.f a0_0 a0_1 a0_2 l1 a2 = some (r1, r2)) :
    Calls Try.prog 16 #[.agg #[.int .i64 a0_0, .int .i64 a0_1, .int .i64 a0_2], .slice A1 l1.length c1, .int .i64 a2] w fun e w' => ∃ v0_ : Value, e = .returned (.tuple #[v0_, .int .i64 r2]) ∧ Kd.R (Kd.int .u8) 5 w' w.heap.size (fun _ => True) v0_ r1 ∧ Below w.heap.size w w' := by
  unfold layout_Join.f at h
  obtain ⟨ok, hM, h⟩ := Option.bind_eq_some_iff.mp h
  cases ok with
  | false =>
    rw [if_neg (by decide)] at h
    simp only [Option.some.injEq, Prod.mk.injEq] at h
    obtain ⟨rfl, rfl⟩ := h
    exact join_calls_of (join_may a0_0 a0_1 a0_2 a2 l1 A1 c1 w hM)
  | true =>
  rw [if_pos rfl] at h
  by_cases hK : (l1.length : Int) = a0_1
  case neg =>
    rw [if_neg hK] at h
    simp only [Option.some.injEq, Prod.mk.injEq] at h
    obtain ⟨rfl, rfl⟩ := h
    exact join_calls_of (join_len a0_0 a0_1 a0_2 a2 l1 A1 c1 w hM hK)
  rw [if_pos hK] at h
  cases hodd : l1.any (odd l1) with
  | true =>
    rw [hodd, if_pos rfl] at h
    simp only [Option.some.injEq, Prod.mk.injEq] at h
    obtain ⟨rfl, rfl⟩ := h
    exact join_calls_of (join_odd a0_0 a0_1 a0_2 a2 l1 A1 c1 w ⟨hr1⟩ hM hK hodd)
  | false =>
  rw [hodd, if_neg (by decide)] at h
  by_cases hg : 0 < l1.length ∧ l1.length ≤ 8 ∧ l1.flatten.length ≤ 1000000
  case neg => rw [if_neg hg] at h; exact absurd h (by simp)
  rw [if_pos hg] at h
  obtain ⟨h0, h8, hal⟩ := hg
  obtain ⟨⟨unit, ah⟩, hR, h⟩ := Option.bind_eq_some_iff.mp h
  dsimp only at h
  by_cases hu : 0 < unit ∧ 0 ≤ ah
  case neg => rw [if_neg hu] at h; exact absurd h (by simp)
  rw [if_pos hu] at h
  obtain ⟨hu, hah0⟩ := hu
  subst hK
  by_cases hq0 : ((rd_L6 l1 0).length : Int) = 0
  · rw [if_pos hq0] at h
    simp only [Option.some.injEq, Prod.mk.injEq] at h
    obtain ⟨rfl, rfl⟩ := h
    exact join_calls_of (join_form0 a0_0 a0_2 a2 l1 _ A1 c1 unit ah w hr1 hc1 h0 h8 rfl hal hM hodd hR hu hq0)
  rw [if_neg hq0] at h
  by_cases hqm : Int.tmod ((rd_L6 l1 0).length : Int) unit = 0
  case neg =>
    rw [if_pos hqm] at h
    simp only [Option.some.injEq, Prod.mk.injEq] at h
    obtain ⟨rfl, rfl⟩ := h
    exact join_calls_of (join_form1 a0_0 a0_2 a2 l1 _ A1 c1 unit ah w hr1 hc1 h0 h8 rfl hal hM hodd hR hu hq0 hqm)
  rw [if_neg (fun hh => hh hqm)] at h
  by_cases hah2 : (l1.flatten.length : Int) < ah
  · rw [if_pos hah2] at h
    simp only [Option.some.injEq, Prod.mk.injEq] at h
    obtain ⟨rfl, rfl⟩ := h
    exact join_calls_of (join_form2 a0_0 a0_2 a2 l1 _ A1 c1 unit ah w hr1 hc1 h0 h8 rfl hal hM hodd hR hu hq0 hqm hah2)
  rw [if_neg hah2] at h
  by_cases hah : 0 < ah
  · rw [if_pos hah] at h
    obtain ⟨n1, hT, h⟩ := Option.bind_eq_some_iff.mp h
    unfold joinForm at h
    by_cases hn0 : n1 < 0
    · rw [if_pos hn0] at h
      simp only [Option.some.injEq, Prod.mk.injEq] at h
      obtain ⟨rfl, rfl⟩ := h
      exact join_calls_of (join_range0t a0_0 a0_2 a2 l1 _ A1 c1 unit ah n1 (l1.flatten.take ah.toNat) (l1.flatten.drop ah.toNat) w hr1 hc1 h0 h8 rfl hal hM hodd hR hu hq0 hqm hah (by omega) rfl hT rfl hn0)
    rw [if_neg hn0] at h
    by_cases hn1 : 4096 < n1
    · rw [if_pos hn1] at h
      simp only [Option.some.injEq, Prod.mk.injEq] at h
      obtain ⟨rfl, rfl⟩ := h
      exact join_calls_of (join_range1t a0_0 a0_2 a2 l1 _ A1 c1 unit ah n1 (l1.flatten.take ah.toNat) (l1.flatten.drop ah.toNat) w hr1 hc1 h0 h8 rfl hal hM hodd hR hu hq0 hqm hah (by omega) rfl hT rfl (by omega) hn1)
    rw [if_neg hn1] at h
    by_cases hn2 : ((l1.flatten.drop ah.toNat).length : Int) < n1
    · rw [if_pos hn2] at h
      simp only [Option.some.injEq, Prod.mk.injEq] at h
      obtain ⟨rfl, rfl⟩ := h
      exact join_calls_of (join_range2t a0_0 a0_2 a2 l1 _ A1 c1 unit ah n1 (l1.flatten.take ah.toNat) (l1.flatten.drop ah.toNat) w hr1 hc1 h0 h8 rfl hal hM hodd hR hu hq0 hqm hah (by omega) rfl hT rfl (by omega) (by omega) hn2)
    rw [if_neg hn2] at h
    obtain ⟨⟨l2, e2⟩, hS, h⟩ := Option.bind_eq_some_iff.mp h
    dsimp only at h
    by_cases he2 : e2 = 0
    · subst he2
      rw [if_pos rfl] at h
      by_cases hl2 : l2 = l1
      · subst hl2
        rw [if_pos rfl] at h
        simp only [Option.some.injEq, Prod.mk.injEq] at h
        obtain ⟨rfl, rfl⟩ := h
        exact join_okt a0_0 a0_2 a2 l2 _ A1 c1 unit ah n1 (l2.flatten.take ah.toNat) (l2.flatten.drop ah.toNat) _ w hr1 hc1 h0 h8 rfl hal hM hodd hR hu hq0 hqm hah (by omega) rfl hT rfl (by omega) (by omega) (by omega) rfl hS
      · rw [if_neg hl2] at h
        by_cases hsm : ∀ x ∈ l2, x.length ≤ 4294967296
        · rw [if_pos hsm] at h
          simp only [Option.some.injEq, Prod.mk.injEq] at h
          obtain ⟨rfl, rfl⟩ := h
          exact join_calls_of (join_noeqt a0_0 a0_2 a2 l1 _ A1 c1 unit ah n1 (l1.flatten.take ah.toNat) (l1.flatten.drop ah.toNat) _ l2 w hr1 hc1 h0 h8 rfl hal hM hodd hR hu hq0 hqm hah (by omega) rfl hT rfl (by omega) (by omega) (by omega) rfl hS hl2 hsm)
        · rw [if_neg hsm] at h
          exact absurd h (by simp)
    · rw [if_neg he2] at h
      simp only [Option.some.injEq, Prod.mk.injEq] at h
      obtain ⟨rfl, rfl⟩ := h
      exact join_calls_of (join_badt a0_0 a0_2 a2 l1 _ A1 c1 unit ah n1 (l1.flatten.take ah.toNat) (l1.flatten.drop ah.toNat) _ l2 e2 w hr1 hc1 h0 h8 rfl hal hM hodd hR hu hq0 hqm hah (by omega) rfl hT rfl (by omega) (by omega) (by omega) rfl hS he2)
  · rw [if_neg hah] at h
    unfold joinForm at h
    by_cases hn0 : a2 < 0
    · rw [if_pos hn0] at h
      simp only [Option.some.injEq, Prod.mk.injEq] at h
      obtain ⟨rfl, rfl⟩ := h
      exact join_calls_of (join_range0n a0_0 a0_2 a2 l1 _ A1 c1 unit ah (l1.flatten.drop ah.toNat) w hr1 hc1 h0 h8 rfl hal hM hodd hR hu hq0 hqm hah hah0 rfl hn0)
    rw [if_neg hn0] at h
    by_cases hn1 : 4096 < a2
    · rw [if_pos hn1] at h
      simp only [Option.some.injEq, Prod.mk.injEq] at h
      obtain ⟨rfl, rfl⟩ := h
      exact join_calls_of (join_range1n a0_0 a0_2 a2 l1 _ A1 c1 unit ah (l1.flatten.drop ah.toNat) w hr1 hc1 h0 h8 rfl hal hM hodd hR hu hq0 hqm hah hah0 rfl (by omega) hn1)
    rw [if_neg hn1] at h
    by_cases hn2 : ((l1.flatten.drop ah.toNat).length : Int) < a2
    · rw [if_pos hn2] at h
      simp only [Option.some.injEq, Prod.mk.injEq] at h
      obtain ⟨rfl, rfl⟩ := h
      exact join_calls_of (join_range2n a0_0 a0_2 a2 l1 _ A1 c1 unit ah (l1.flatten.drop ah.toNat) w hr1 hc1 h0 h8 rfl hal hM hodd hR hu hq0 hqm hah hah0 rfl (by omega) (by omega) hn2)
    rw [if_neg hn2] at h
    obtain ⟨⟨l2, e2⟩, hS, h⟩ := Option.bind_eq_some_iff.mp h
    dsimp only at h
    by_cases he2 : e2 = 0
    · subst he2
      rw [if_pos rfl] at h
      by_cases hl2 : l2 = l1
      · subst hl2
        rw [if_pos rfl] at h
        simp only [Option.some.injEq, Prod.mk.injEq] at h
        obtain ⟨rfl, rfl⟩ := h
        exact join_okn a0_0 a0_2 a2 l2 _ A1 c1 unit ah (l2.flatten.drop ah.toNat) _ w hr1 hc1 h0 h8 rfl hal hM hodd hR hu hq0 hqm hah hah0 rfl (by omega) (by omega) (by omega) rfl hS
      · rw [if_neg hl2] at h
        by_cases hsm : ∀ x ∈ l2, x.length ≤ 4294967296
        · rw [if_pos hsm] at h
          simp only [Option.some.injEq, Prod.mk.injEq] at h
          obtain ⟨rfl, rfl⟩ := h
          exact join_calls_of (join_noeqn a0_0 a0_2 a2 l1 _ A1 c1 unit ah (l1.flatten.drop ah.toNat) _ l2 w hr1 hc1 h0 h8 rfl hal hM hodd hR hu hq0 hqm hah hah0 rfl (by omega) (by omega) (by omega) rfl hS hl2 hsm)
        · rw [if_neg hsm] at h
          exact absurd h (by simp)
    · rw [if_neg he2] at h
      simp only [Option.some.injEq, Prod.mk.injEq] at h
      obtain ⟨rfl, rfl⟩ := h
      exact join_calls_of (join_badn a0_0 a0_2 a2 l1 _ A1 c1 unit ah (l1.flatten.drop ah.toNat) _ l2 e2 w hr1 hc1 h0 h8 rfl hal hM hodd hR hu hq0 hqm hah hah0 rfl (by omega) (by omega) (by omega) rfl hS he2)
end Go.Proofs.Ytibcgallhldnnaa.P
namespace Go.Proofs.Ytibcgallhldnnaa.P
open Go.RowKit Go.Proofs.YtibcgallhldnnaaW.PrintWords Go.Proofs.YtibcgallhldnnaaW.PrintLast Go.Proofs.YtibcgallhldnnaaW.PrintMore
set_option linter.unusedVariables false
set_option linter.unusedSimpArgs false

theorem C_marked {w : World} {g : Nat} {xs : List Int} {fr : Nat × Nat} (hg : w.heap[g]? = some (.cells (nums .u8 xs).toArray 5 fr)) (hl : xs.length ≤ 9223372036854775807) : (Kd.int .u8).C w (some ⟨g, 0, none⟩) xs.length xs := by
  refine ⟨rfl, hl, fun _ => ⟨⟨g, 0, none⟩, rfl, fun j p hj => ⟨[.int .u8 p], rfl, rfl, fun i u hu => ?_⟩⟩⟩
  have hi : i = 0 := by
    rcases Nat.eq_zero_or_pos i with h | h
    · exact h
    · rw [List.getElem?_eq_none (by simp; omega)] at hu; cases hu
  subst hi
  have hu' : u = .int .u8 p := by simpa using hu.symm
  subst hu'
  rw [show (Kd.int .u8).sz = 1 from rfl, Nat.mul_one, Nat.add_zero, add_plain, cell_of_row w g j _ 5 fr hg]
  simp [nums, hj]

theorem split_ev : layout_Split.f 6 2 1 [97, 98, 99, 100, 101] = some ([[97, 98, 99], [100, 101, 0]], 0) := by kernel_rfl
theorem size_ev : layout_Size.f 9 1 2 1 5 = some (8, 0) := by kernel_rfl
theorem join_ev : layout_Join.f 6 2 1 [[97, 98, 99], [100, 101, 0]] 5 = some ([97, 98, 99, 100, 101], 0) := by kernel_rfl
theorem str3 : strOfNums [100, 101, 0] = ⟨#[100, 101, 0]⟩ := by kernel_rfl
theorem str5 : strOfNums [97, 98, 99, 100, 101] = ⟨#[97, 98, 99, 100, 101]⟩ := by kernel_rfl
theorem lsplit (w : World) (A : Option Addr) (c : Nat) (h : Kd.C (Kd.int .u8) w A 5 [97, 98, 99, 100, 101]) (hc : 5 ≤ c) :
    Calls Try.prog 12 #[.agg #[.int .i64 6, .int .i64 2, .int .i64 1], .slice A 5 c] w fun e w' => ∃ (As : Option Addr) (cs : Nat), e = .returned (.tuple #[.slice As 2 cs, .int .i64 0]) ∧ Kd.S (Kd.slice 5 (Kd.int .u8)) 24 w' w.heap.size (fun _ => True) (.slice As 2 cs) [[97, 98, 99], [100, 101, 0]] ∧ Below w.heap.size w w' := by
  refine (layout_Split.calls 6 2 1 A c [97, 98, 99, 100, 101] _ 0 w h hc split_ev).mono ?_
  rintro e w' ⟨v, rfl, hs, hb⟩
  obtain ⟨As, cs, rfl⟩ := Kd.S_slice hs
  exact ⟨As, cs, rfl, hs, hb⟩
theorem lsize (w : World) : Calls Try.prog 10 #[.agg #[.int .i64 1, .int .i64 2, .int .i64 1], .int .i64 5] w fun e w' => e = .returned (.tuple #[.int .i64 8, .int .i64 0]) ∧ Below w.heap.size w w' :=
  layout_Size.calls 9 1 2 1 5 8 0 w size_ev
theorem ljoin (w : World) (A : Option Addr) (c base : Nat) (ok : Nat → Prop) (hs : Kd.S (Kd.slice 5 (Kd.int .u8)) 24 w base ok (.slice A 2 c) [[97, 98, 99], [100, 101, 0]]) :
    Calls Try.prog 16 #[.agg #[.int .i64 6, .int .i64 2, .int .i64 1], .slice A 2 c, .int .i64 5] w fun e w' => ∃ (Ab : Option Addr) (cb : Nat), e = .returned (.tuple #[.slice Ab 5 cb, .int .i64 0]) ∧ (∀ W : World, Below w'.heap.size w' W → (convert 24 9 (.slice Ab 5 cb)).run Try.prog W = .ok (.string ⟨#[97, 98, 99, 100, 101]⟩) W) ∧ Below w.heap.size w w' := by
  refine (layout_Join.calls 6 2 1 A c [[97, 98, 99], [100, 101, 0]] 5 _ 0 w (Kd.S_reads' hs).2.2 (Kd.S_reads' hs).2.1 join_ev).mono ?_
  rintro e w' ⟨v, rfl, hr, hb⟩
  obtain ⟨Ab, cb, rfl⟩ := Kd.R_slice hr
  refine ⟨Ab, cb, rfl, fun W hW => ?_, hb⟩
  have h := own_string (P := Try.prog) Try.underlying24 Try.underlying5 Try.underlying9 (Kd.own_of_R (Kd.R_below hr hW))
  rw [str5] at h
  exact h
theorem lrow (w : World) (A : Option Addr) (c base : Nat) (ok : Nat → Prop) (hs : Kd.S (Kd.slice 5 (Kd.int .u8)) 24 w base ok (.slice A 2 c) [[97, 98, 99], [100, 101, 0]]) :
    ∃ (ad : Addr) (B : Option Addr) (d : Nat), A = some ad ∧ w.cell? ⟨ad.block, ad.off + 1, none⟩ = some (.slice B 3 d) ∧ (convert 24 9 (.slice B 3 d)).run Try.prog w = .ok (.string ⟨#[100, 101, 0]⟩) w := by
  obtain ⟨ad, B, d, e, hx, hl, hC⟩ := at_L6 (Kd.S_reads' hs).2.2 1 (by decide) (by decide)
  have hx' : w.cell? (ad.add 1) = some (.slice B 3 d) := hx
  simp only [Go.Addr.add, Nat.reduceEqDiff, ↓reduceIte] at hx'
  have hC' : (Kd.int .u8).C w B 3 [100, 101, 0] := hC
  have h := Kd.C_string (P := Try.prog) (c := d) Try.underlying24 Try.underlying5 Try.underlying9 hC'
  rw [str3] at h
  exact ⟨ad, B, d, e, hx', h⟩

def gambrellaw10_awake.f : Option Bool := some true
set_option maxHeartbeats 8000000 in
set_option maxRecDepth 100000 in
theorem awake10 (w : World) : Calls Try.prog 9 #[] w fun e w' => e = .returned (.bool true) ∧ Below w.heap.size w w' := by
  have kc := fun (w : World) (C : Array Value) (n c : Nat) => Lib.run_convert_bytes_const (P := Try.prog) w 24 5 C n c Try.underlying24 Try.underlying5
  go_enter Try.func9, Try.ntmps9
  go_wp2_with (first
    | (go_at_call 12; ((with_reducible refine (lsplit _ (some ⟨w.heap.size, 0, none⟩) _ ?hC1 (by decide)).mono ?_); case hC1 => exact C_marked (heap_alloc_new _ _) (by simp)); rintro e w1 ⟨As, cs, rfl, hs, hb⟩; have HS := Aside0.mk hs; have HB := Aside0.mk (below_step (below_alloc (Below.refl w.heap.size w) _) hb); clear hs hb)
    | (go_at_call 10; (with_reducible refine (lsize _).mono ?_); rintro e w2 ⟨rfl, hb⟩; have n0_ := Aside0.mk (Kd.S_below HS.out hb); have n1_ := Aside0.mk (below_step HB.out hb); clear HS HB; have HS := n0_; have HB := n1_; clear n0_ n1_ hb)
    | (go_at_call 16; (with_reducible refine (ljoin _ As cs _ _ HS.out).mono ?_); rintro e w3 ⟨Ab, cb, rfl, hst, hb⟩; have n0_ := Aside0.mk (Kd.S_below HS.out hb); have n1_ := Aside0.mk (below_step HB.out hb); clear HS HB; have HS := n0_; have HB := n1_; clear n0_ n1_ hb; have hst0 := hst _ (Below.refl _ _); obtain ⟨ad, B, d, ea, hx0, hcv⟩ := lrow _ As cs _ _ HS.out; subst ea; clear hst))
  go_ret
  exact ⟨rfl, HB.out⟩
theorem gambrellaw10_awake.calls (r : Bool) (w : World) (h : gambrellaw10_awake.f = some r) :
    Calls Try.prog 9 #[] w fun e w' => e = .returned (.bool r) ∧ Below w.heap.size w w' := by
  obtain rfl := Option.some.inj h
  exact awake10 w
end Go.Proofs.Ytibcgallhldnnaa.P
