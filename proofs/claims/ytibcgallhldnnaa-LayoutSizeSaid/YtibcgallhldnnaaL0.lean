/- A region that draws its order and ends with a store, inside a round of a range over a function: walked in the order of the text. -/
import Derived.RangeFuncNested
import Derived.StillTailTactics
import Derived.OrdersIn
import Derived.TacticsIn
namespace Go.Proofs.Ytibcgallhldnnaa.P
open Go
set_option linter.unusedVariables false
set_option linter.unusedSimpArgs false
variable {P : Program} {ops : Array Oper} {Q : Exit → Act → World → Prop} {md : Region.Mode}
theorem rowsIn_wide {n : Nat} {l : Nat} {row : String} {args : Array Value} {w : World} {R : Value → World → Prop} (h : Rows P row args w R) : RowsIn (Fence.wide.inRound l) n P row args w R :=
  fun c cs _ => let ⟨v, w', r, s⟩ := h c cs; ⟨v, w', r, stepsIn_wide.2 s⟩
theorem uponIn_of_plain {l n : Nat} {o : Oper} {a : Act} {K K' : Act → World → Prop} (hK : ∀ a w, K a w → K' a w) : ∀ r : Result Next, o.upon P a K Q r → o.uponIn (Fence.wide.inRound l) n P a K' Q r := by
  intro r h
  match r, h with
  | .ok (.value v) w', h => exact hK _ _ h
  | .ok .skip w', h => exact hK _ _ h
  | .ok (.defer d) w', h => exact hK _ _ h
  | .ok (.enter f args) w', h =>
    refine ⟨(fun e => by cases e), (callsIn_wide (n := n - 1)).2 (Calls.mono h ?_)⟩
    intro e w2 he
    match e, he with
    | .returned v, he => exact hK _ _ he
    | .panicked c, he => exact he
    | .outgrown, he => exact he
  | .ok (.row row args) w', h => exact ⟨(fun e => by cases e), rowsIn_wide (Rows.mono h (fun v w2 he => hK _ _ he))⟩
  | .halt (.panic v) w', h => exact h
theorem wpAnyIn_of_plain {l n : Nat} (hd : ∀ (j : Nat) (o : Oper), ops[j]? = some o → ∀ c, o.op ≠ .defer c) (hlo : ¬ LetsOut Q) :
    ∀ (fuel : Nat) (listed : Array Bool) (a : Act) (w : World), wpAny P md ops Q fuel listed a w → wpAnyIn (Fence.wide.inRound l) n P md ops Q fuel listed a w
  | 0, listed, a, w, h => h
  | fuel + 1, listed, a, w, h => by
    refine ⟨h.1, fun i hi => ?_⟩
    have h1 := h.2 i hi
    unfold wpOp at h1
    unfold wpOpIn
    cases hq : ops[i]? with
    | none => rw [hq] at h1; exact wpAnyIn_of_plain hd hlo fuel _ a w h1
    | some o =>
      rw [hq] at h1
      dsimp only at h1 ⊢
      by_cases hw : Region.wanted o (yielded ops a.tmps) = true
      · rw [if_pos hw] at h1 ⊢
        rcases h1 with h1 | h1
        · refine ⟨fun _ _ => trivial, ?_⟩
          rw [Fence.inRound_round, Oper.semAt_some l a.eval o (hd i o hq)]
          exact uponIn_of_plain (fun a w h => wpAnyIn_of_plain hd hlo fuel _ a w h) _ h1
        · exact absurd h1.2 hlo
      · rw [if_neg hw] at h1 ⊢
        exact ⟨fun _ _ => trivial, wpAnyIn_of_plain hd hlo fuel _ _ w h1⟩
theorem wpIn_round_still_tail {lo N id : Nat} {a : Act} {w : World} {l : List Oper} (n : Nat) (hm : P.follows .mixedOrders = true) (hB : Region.lexTailB .any l.toArray n = true)
    (hdB : (l.all fun o => match o.op with | .defer _ => false | _ => true) = true) (hlo : ¬ LetsOut Q)
    (h : wpStill P l.toArray w.drew (fun a' => wpList P l.toArray Q (l.drop n) a' w.drew) (l.take n) a) : (Code.region id l.toArray true).wpIn (Fence.wide.inRound lo) N P Q a w := by
  have hd : ∀ (j : Nat) (o : Oper), l.toArray[j]? = some o → ∀ c, o.op ≠ .defer c := by
    intro j o hj c e
    have h1 : o ∈ l := by
      rw [List.getElem?_toArray] at hj
      exact List.mem_of_getElem? hj
    have h2 := List.all_eq_true.1 hdB o h1
    rw [e] at h2
    cases h2
  simp only [Region.lexTailB, Bool.and_eq_true, decide_eq_true_eq] at hB
  obtain ⟨⟨⟨⟨hsel, hn⟩, hs⟩, hc⟩, hlex⟩ := hB
  have hn' : n < l.length := by simpa using hn
  have htl : (l.take n).length = n := by simp; omega
  have hdl : (l.drop n).length = l.toArray.size - n := by simp
  have inv0 : HeadInv .any l.toArray n (Array.replicate l.toArray.size false) :=
    ⟨by simp, fun j oj _ hl => (by rw [getD_replicate_false] at hl; cases hl), fun t _ ht => getD_in (by simpa using ht) (getD_replicate_false _ _)⟩
  have H := wpAnyL_lex (md := .any) (g := l.toArray.size - n) hsel hs hc hn (l.take n) 0 _ a (fun j hj => by
    have hj' : j < n := by rw [htl] at hj; exact hj
    simp [hj']) (by simpa using htl) inv0 (by rw [htl]; exact hlex) h
  refine wpIn_region_any hm (wpAnyIn_of_plain hd hlo _ _ _ _ ?_)
  have := wpAny_of_head (Q' := Q) (g := l.toArray.size - n) (fun listed a' hL => by
    have := wpAny_of_seq (md := .any) (Q' := Q) (l.drop n) n listed a' w.drew (fun j => by simp [List.getElem?_drop]) (by rw [hdl]; exact hL.1) hL.2
    rwa [hdl] at this) _ _ _ H
  rw [htl, show n + (l.toArray.size - n) = l.toArray.size by omega] at this
  exact this
end Go.Proofs.Ytibcgallhldnnaa.P
