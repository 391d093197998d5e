/- awake of the law of the store: it tells true. What deeds do to a store, one after the other, plainly: it stays within bounds. Few deeds, as the guard tells; played of the law of the store: the store behind deeds. What the laws of a store share: a deed in a row of its own, files that are the same, and the blocks that a store may change while others are kept. -/
import Derived.Test.YtcgeioingikeeaaNQb
import Derived.Lib.SlBytesConst
import Derived.Lib.Strings
import Derived.Test.YtcgeioingikeeaaPf38
import Derived.Test.YtcgeioingikeeaaGZ
import Derived.Test.YtcgeioingikeeaaPf20
namespace Go.Proofs.Ytcgeioingikeeaa.P
open Go.RowKit Go.Proofs.YtcgeioingikeeaaW.PrintWords Go.Proofs.YtcgeioingikeeaaW.PrintLast Go.Proofs.YtcgeioingikeeaaW.PrintMore
set_option linter.unusedVariables false
set_option linter.unusedSimpArgs false
/-- All blocks from n on. -/
def Since (n : Nat) : Nat → Prop := fun k => n ≤ k
theorem up_since {n m : Nat} (h : n ≤ m) : Up (Since n) m := fun _ hk => Nat.le_trans h hk
theorem BelS.below {n : Nat} {w w1 : World} (h : BelS (Since n) w w1) (hn : n ≤ w.heap.size) : Below n w w1 := ⟨h.os, h.tape, h.output, h.size, fun k hk => h.block k (Nat.lt_of_lt_of_le hk hn) (fun hb => absurd hk (Nat.not_lt.2 hb))⟩
theorem bels_of {n : Nat} {w w1 : World} (hn : n ≤ w.heap.size) (h : Below w.heap.size w w1) : BelS (Since n) w w1 := belowB_of (up_since hn) h
section
variable {B : Nat → Prop} {g : Nat} {w : World}
def ax : S31 := ⟨⟨#[97]⟩, 1, 0, [120, 121]⟩
def ay : S31 := ⟨⟨#[97]⟩, 2, 0, [122]⟩
def fx : S38 := ⟨⟨#[97]⟩, [120, 121]⟩
def sA : SSt := ⟨[], [], 100, 0, [], 0, false, 0⟩
def sB : SSt := ⟨[], [ax], 100, 1, [], 0, false, 2⟩
def sC : SSt := ⟨[fx], [], 100, 2, [], 0, false, 2⟩
def sD : SSt := ⟨[fx], [ay], 100, 3, [], 0, false, 3⟩
def sE : SSt := ⟨[fx], [], 100, 0, [], 0, false, 3⟩
def sF : SSt := ⟨[fx], [], 100, 1, [], 0, false, 3⟩
theorem newA : newD 100 = sA := rfl
theorem filesA : filesOf sA = [] := rfl
theorem doTA : doT [] ax (-1) = ([fx], 0) := by
  simp [doT, doRes, keptOf, frmOf, oldOf, putL, insertAt, overlay, ax, fx, named, Lib.toList_data, ByteArray.size]
theorem filesB : filesOf sB = [fx] := by
  show dn [] ax (-1) = [fx]
  unfold dn; rw [doTA]; rfl
theorem filesC : filesOf sC = [fx] := rfl
theorem doTC : doT [fx] ay (-1) = ([⟨⟨#[97]⟩, [120, 121, 122]⟩], 0) := by
  simp [doT, doRes, keptOf, frmOf, oldOf, putL, insertAt, overlay, ay, fx, named, Lib.toList_data, ByteArray.size, Op.bytesLess]
theorem doTE : doT [fx] ay 0 = ([fx], 0) := by
  simp [doT, doRes, keptOf, frmOf, oldOf, putL, insertAt, overlay, ay, fx, named, Lib.toList_data, ByteArray.size, Op.bytesLess]
theorem askA (s : SSt) (hd : s.down = false) (hf : s.fails = []) (hc : s.crash = 0) (hl : 0 ≤ s.calls) : asked s = ({ s with calls := s.calls + 1 }, 0) := by
  unfold asked
  rw [if_neg (by simp [hd]), if_neg (by omega), if_neg (by simp [hf])]
theorem av1 : doR sA ax = (sB, 0) := by
  have h : asked sA = ({ sA with calls := 1 }, 0) := askA sA rfl rfl rfl (by decide)
  have hfi : filesOf { sA with calls := 1 } = [] := rfl
  have hE : doE { sA with calls := 1 } ax = 0 := by
    unfold doE
    rw [hfi, doTA]
    simp [ax, fx, sA, sizeF, sumW, wrap64]
  unfold doR
  rw [h, if_neg (by simp)]
  unfold doB
  rw [if_pos hE, hfi, doTA]
  simp [sB, sA, mx, sizeF, sumW, fx, wrap64]
theorem av2 : syncR sB ⟨#[97]⟩ = (sC, 0) := by
  have h : asked sB = ({ sB with calls := 2 }, 0) := askA sB rfl rfl rfl (by decide)
  have hg : getT (filesOf sB) ⟨#[97]⟩ = ([120, 121], true) := by rw [filesB]; simp [getT, fx, named, Lib.toList_data]
  unfold syncR ofR
  rw [h, if_neg (by simp), hg, if_pos rfl]
  have hd : dn [] ax (-1) = [fx] := by unfold dn; rw [doTA]; rfl
  simp [syncD, sB, sC, ax, othW, ownW, Lib.toList_data, doneL]
  exact hd
theorem av3 : doR sC ay = (sD, 0) := by
  have h : asked sC = ({ sC with calls := 3 }, 0) := askA sC rfl rfl rfl (by decide)
  have hfi : filesOf { sC with calls := 3 } = [fx] := rfl
  have hg : getT [fx] ⟨#[97]⟩ = ([120, 121], true) := by simp [getT, fx, named, Lib.toList_data]
  have hE : doE { sC with calls := 3 } ay = 0 := by
    unfold doE
    rw [hfi, doTC]
    simp [ay, fx, sC, sizeF, sumW, wrap64, getT, named, Lib.toList_data]
  unfold doR
  rw [h, if_neg (by simp)]
  unfold doB
  rw [if_pos hE, hfi, doTC]
  simp [sD, sC, mx, sizeF, sumW, fx, wrap64]
theorem av4 : crashD sD [] = sE := by
  have hd : dn [fx] ay 0 = [fx] := by unfold dn; rw [doTE]; rfl
  have h2 : doneL (keepN []) 0 sD.safe sD.pend = [fx] := hd
  unfold crashD
  rw [h2]
  simp [sD, sE, mx, sizeF, sumW, fx, wrap64]
theorem av5 : readR sE ⟨#[97]⟩ = (sF, 0, [120, 121]) := by
  have h : asked sE = (sF, 0) := askA sE rfl rfl rfl (by decide)
  have hg : getT (filesOf sE) ⟨#[97]⟩ = ([120, 121], true) := by show getT [fx] _ = _; simp [getT, fx, named, Lib.toList_data]
  unfold readR
  rw [h, if_neg (by simp), hg, if_pos rfl]
theorem fitS (s : SSt) (h1 : s.safe = [] ∨ s.safe = [fx]) (h2 : s.pend = [] ∨ s.pend = [ax] ∨ s.pend = [ay]) (h3 : 0 ≤ s.calls) (h4 : s.calls ≤ 1000) : Fit s := by
  refine ⟨?_, ?_, ?_, h3, h4⟩
  · rcases h1 with h | h <;> rcases h2 with h' | h' | h' <;> simp [h, h']
  · rcases h1 with h | h <;> rw [h] <;> intro x hx
    · simp at hx
    · obtain rfl := List.mem_singleton.1 hx; decide
  · rcases h2 with h | h | h <;> rw [h] <;> intro x hx
    · simp at hx
    · obtain rfl := List.mem_singleton.1 hx; decide
    · obtain rfl := List.mem_singleton.1 hx; decide
theorem fitK (s : SSt) (h1 : s.safe = [] ∨ s.safe = [fx]) (h2 : s.pend = [] ∨ s.pend = [ax] ∨ s.pend = [ay]) (hd : s.down = false) (hf : s.fails = []) (hc : s.crash = 0) (h3 : 0 ≤ s.calls) (h4 : s.calls ≤ 10) : Fit (asked s).1 := by
  rw [askA s hd hf hc h3]
  exact fitS _ h1 h2 (by show 0 ≤ s.calls + 1; omega) (by show s.calls + 1 ≤ 1000; omega)
theorem F_marked {b : Nat} {xs : List Int} {fr : Nat × Nat} (hb : w.heap[b]? = some (.cells (nums .u8 xs).toArray 5 fr)) (hl : xs.length ≤ 1000) (hne : b ≠ g) : Kd.F (Kd.int .u8) w (fun k => k ≠ g) (some ⟨b, 0, none⟩) xs.length xs :=
  fun W2 hW => C_marked ((hW b hne (blk_lt hb)).trans hb) (by omega)
theorem aw1 (b : Nat) {fr : Nat × Nat} (h : Rep B g sA w) (hBw : Up B w.heap.size) (hb : w.heap[b]? = some (.cells #[.int .u8 120, .int .u8 121] 5 fr)) (hne : b ≠ g) :
    Calls Try.prog 67 #[.pointer (some ⟨g, 0, none⟩), .agg #[.string ⟨#[97]⟩, .int .i64 1, .int .i64 0, .slice (some ⟨b, 0, none⟩) 2 2]] w fun e w' => e = .returned (.int .i64 0) ∧ Rep B g sB w' ∧ BelS B w w' := by
  have := do_calls ax (some ⟨b, 0, none⟩) 2 h (fitS sA (.inl rfl) (.inl rfl) (by decide) (by decide)) (fitK sA (.inl rfl) (.inl rfl) rfl rfl rfl (by decide) (by decide)) hBw (by decide) (F_marked (xs := [120, 121]) hb (by decide) hne) (by decide)
  rw [av1] at this
  exact this
theorem aw2 (h : Rep B g sB w) (hBw : Up B w.heap.size) :
    Calls Try.prog 41 #[.pointer (some ⟨g, 0, none⟩), .string ⟨#[97]⟩] w fun e w' => e = .returned (.int .i64 0) ∧ Rep B g sC w' ∧ BelS B w w' := by
  have := sync_calls ⟨#[97]⟩ h (fitS sB (.inl rfl) (.inr (.inl rfl)) (by decide) (by decide)) (fitK sB (.inl rfl) (.inr (.inl rfl)) rfl rfl rfl (by decide) (by decide)) hBw
  rw [av2] at this
  exact this
theorem aw3 (b : Nat) {fr : Nat × Nat} (h : Rep B g sC w) (hBw : Up B w.heap.size) (hb : w.heap[b]? = some (.cells #[.int .u8 122] 5 fr)) (hne : b ≠ g) :
    Calls Try.prog 67 #[.pointer (some ⟨g, 0, none⟩), .agg #[.string ⟨#[97]⟩, .int .i64 2, .int .i64 0, .slice (some ⟨b, 0, none⟩) 1 1]] w fun e w' => e = .returned (.int .i64 0) ∧ Rep B g sD w' ∧ BelS B w w' := by
  have := do_calls ay (some ⟨b, 0, none⟩) 1 h (fitS sC (.inr rfl) (.inl rfl) (by decide) (by decide)) (fitK sC (.inr rfl) (.inl rfl) rfl rfl rfl (by decide) (by decide)) hBw (by decide) (F_marked (xs := [122]) hb (by decide) hne) (by decide)
  rw [av3] at this
  exact this
theorem aw4 (h : Rep B g sD w) (hBw : Up B w.heap.size) :
    Calls Try.prog 44 #[.pointer (some ⟨g, 0, none⟩), .slice none 0 0] w fun e w' => e = .returned (.tuple #[]) ∧ Rep B g sE w' ∧ BelS B w w' := by
  have := crash_calls none 0 [] h (fitS sD (.inr rfl) (.inr (.inr rfl)) (by decide) (by decide)) hBw (Kd.C_nil _ _)
  rw [av4] at this
  exact this
theorem aw5 (h : Rep B g sE w) (hBw : Up B w.heap.size) :
    Calls Try.prog 68 #[.pointer (some ⟨g, 0, none⟩), .string ⟨#[97]⟩] w fun e w' => ∃ A c, e = .returned (.tuple #[.slice A 2 c, .int .i64 0]) ∧ Kd.R (Kd.int .u8) 5 w' w.heap.size (fun _ => True) (.slice A 2 c) [120, 121] ∧ Rep B g sF w' ∧ BelS B w w' := by
  have := read_calls (name := ⟨#[97]⟩) h (fitS sE (.inr rfl) (.inl rfl) (by decide) (by decide)) (fitK sE (.inr rfl) (.inl rfl) rfl rfl rfl (by decide) (by decide)) hBw
  rw [av5] at this
  refine this.mono ?_
  rintro e w1 ⟨v, rfl, hv, hr, hb⟩
  obtain ⟨A, c, rfl⟩ := Kd.R_slice hv
  exact ⟨A, c, rfl, hv, hr, hb⟩
theorem aw6 (h : Rep B g sF w) : Calls Try.prog 54 #[.pointer (some ⟨g, 0, none⟩)] w fun e w' => e = .returned (.int .i64 3) ∧ Below w.heap.size w w' := peak_calls h
theorem aw7 (h : Rep B g sF w) : Calls Try.prog 52 #[.pointer (some ⟨g, 0, none⟩)] w fun e w' => e = .returned (.int .i64 1) ∧ Below w.heap.size w w' := calls_calls h
theorem str2 : (strOfNums [120, 121]).toList = [120, 121] := by simp [strOfNums, Lib.toList_data]
end
set_option maxHeartbeats 8000000 in
set_option maxRecDepth 100000 in
theorem awake18 (w : World) : Calls Try.prog 37 #[] w fun e w' => e = .returned (.bool true) ∧ Below w.heap.size w w' := by
  have kc := fun (w : World) (C : Array Value) (n c : Nat) => Lib.run_convert_bytes_const (P := Try.prog) w 23 5 C n c Try.underlying23 Try.underlying5
  have hstr := str2
  go_enter Try.func37, Try.ntmps37
  go_wp2_with (first
    | (go_at_call 47; refine (new_calls 100 (by decide)).mono ?_; rintro e w1 ⟨rfl, hr1, hb1⟩; rw [newA] at hr1; have hr1 := hr1 (Since w.heap.size) (Nat.le_refl _); have hg1 := (show w.heap.size < w1.heap.size by obtain ⟨_, _, _, h⟩ := hr1; exact blk_lt h.blk); have HR1 := Aside0.mk hr1; have HB1 := Aside0.mk (bels_of (Nat.le_refl _) hb1); clear hr1 hb1)
    | (go_at_call 67; (with_reducible refine (aw1 (B := Since w.heap.size) w1.heap.size (HR1.out.below (below_alloc (Below.refl _ _) _)) ?hs1 (heap_alloc_new _ _) ?hn1).mono ?_); (case hs1 => exact up_since (by rw [World.size_alloc]; omega)); (case hn1 => omega); rintro e w2 ⟨rfl, hr2, hb2⟩; have HB2 := Aside0.mk (belowB_trans (belowB_trans HB1.out (bels_of HB1.out.size (below_alloc (Below.refl _ _) _))) hb2); have hsz2 := HB2.out.size; have HR2 := Aside0.mk hr2; clear hr2 hb2)
    | (go_at_call 41; (with_reducible refine (aw2 (B := Since w.heap.size) HR2.out (up_since hsz2)).mono ?_); rintro e w3 ⟨rfl, hr3, hb3⟩; have HB3 := Aside0.mk (belowB_trans HB2.out hb3); have hsz3 := HB3.out.size; have hg3 := (show w.heap.size < w3.heap.size by obtain ⟨_, _, _, h⟩ := hr3; exact blk_lt h.blk); have HR3 := Aside0.mk hr3; clear hr3 hb3)
    | (go_at_call 67; (with_reducible refine (aw3 (B := Since w.heap.size) w3.heap.size (HR3.out.below (below_alloc (Below.refl _ _) _)) ?hs1 (heap_alloc_new _ _) ?hn1).mono ?_); (case hs1 => exact up_since (by rw [World.size_alloc]; omega)); (case hn1 => omega); rintro e w4 ⟨rfl, hr4, hb4⟩; have HB4 := Aside0.mk (belowB_trans (belowB_trans HB3.out (bels_of HB3.out.size (below_alloc (Below.refl _ _) _))) hb4); have hsz4 := HB4.out.size; have HR4 := Aside0.mk hr4; clear hr4 hb4)
    | (go_at_call 44; (with_reducible refine (aw4 (B := Since w.heap.size) HR4.out (up_since hsz4)).mono ?_); rintro e w5 ⟨rfl, hr5, hb5⟩; have HB5 := Aside0.mk (belowB_trans HB4.out hb5); have hsz5 := HB5.out.size; have HR5 := Aside0.mk hr5; clear hr5 hb5)
    | (go_at_call 68; (with_reducible refine (aw5 (B := Since w.heap.size) HR5.out (up_since hsz5)).mono ?_); rintro e w6 ⟨A6, c6, rfl, hv6, hr6, hb6⟩; have HB6 := Aside0.mk (belowB_trans HB5.out hb6); have hcv := own_string (P := Try.prog) Try.underlying23 Try.underlying5 Try.underlying9 (Kd.own_of_R hv6); have HR6 := Aside0.mk hr6; clear hr6 hb6 hv6)
    | (go_at_call 54; (with_reducible refine (aw6 HR6.out).mono ?_); rintro e w7 ⟨rfl, hb7⟩; have HB7 := Aside0.mk (belowB_trans HB6.out (bels_of HB6.out.size hb7)); have HR7 := Aside0.mk (HR6.out.below hb7); clear hb7)
    | (go_at_call 52; (with_reducible refine (aw7 HR7.out).mono ?_); rintro e w8 ⟨rfl, hb8⟩; have HB8 := Aside0.mk hb8; clear hb8))
  go_ret
  exact ⟨rfl, (belowB_trans HB7.out (bels_of HB7.out.size HB8.out)).below (Nat.le_refl _)⟩
end Go.Proofs.Ytcgeioingikeeaa.P
namespace Go.Proofs.Ytcgeioingikeeaa.P
open Go.RowKit Go.Proofs.YtcgeioingikeeaaW.PrintWords Go.Proofs.YtcgeioingikeeaaW.PrintLast Go.Proofs.YtcgeioingikeeaaW.PrintMore
set_option linter.unusedVariables false
set_option linter.unusedSimpArgs false
/-- The store behind deeds. -/
def runS (s : SSt) (l : List S76) : SSt := l.foldl (fun s d => (doS s d).1) s
theorem runS_take (s : SSt) (l : List S76) (i : Nat) (h : i < l.length) : runS s (l.take (i + 1)) = (doS (runS s (l.take i)) l[i]).1 := by
  unfold runS
  rw [List.take_succ_eq_append_getElem h, List.foldl_append]
  rfl
/-- A store behind n deeds. -/
structure Inv (n : Nat) (s : SSt) : Prop where
  len : s.safe.length + s.pend.length ≤ n
  safe : okL s.safe
  pend : okW s.pend
  calls0 : 0 ≤ s.calls
  calls1 : s.calls ≤ n
/-- What few deeds are. -/
structure okD (d : S76) : Prop where
  k1 : 1 ≤ d.f0
  k8 : d.f0 ≤ 8
  w : d.f1.f3.length ≤ 300
  nums : d.f4.length ≤ 20
  nm : d.f1.f0.size ≤ 60
  na : d.f2.size ≤ 60
  nb : d.f3.size ≤ 60
theorem Inv.fit {n : Nat} {s : SSt} (h : Inv n s) (hn : n ≤ 1000) : Fit s := ⟨by have := h.len; omega, h.safe, h.pend, h.calls0, by have := h.calls1; omega⟩
theorem Inv.more {n m : Nat} {s : SSt} (h : Inv n s) (hn : n ≤ m) : Inv m s := ⟨by have := h.len; omega, h.safe, h.pend, h.calls0, by have := h.calls1; omega⟩
theorem Inv.new (q : Int) : Inv 0 (newD q) := ⟨by simp [newD], fun x hx => by simp [newD] at hx, fun x hx => by simp [newD] at hx, by simp [newD], by simp [newD]⟩
theorem asked_same (s : SSt) : (asked s).1.safe = s.safe ∧ (asked s).1.pend = s.pend ∧ (asked s).1.quota = s.quota ∧ (asked s).1.peak = s.peak ∧ (asked s).1.crash = s.crash ∧ (asked s).1.fails = s.fails ∧ ((asked s).1.calls = s.calls ∨ (asked s).1.calls = s.calls + 1) := by
  unfold asked
  split
  · exact ⟨rfl, rfl, rfl, rfl, rfl, rfl, .inl rfl⟩
  · split
    · exact ⟨rfl, rfl, rfl, rfl, rfl, rfl, .inr rfl⟩
    · split <;> exact ⟨rfl, rfl, rfl, rfl, rfl, rfl, .inr rfl⟩
theorem Inv.asked {n : Nat} {s : SSt} (h : Inv n s) : Inv (n + 1) (asked s).1 ∧ (P.asked s).1.safe.length + (P.asked s).1.pend.length ≤ n := by
  obtain ⟨h1, h2, _, _, _, _, h3⟩ := asked_same s
  have hl := h.len
  have h0 := h.calls0
  have hc := h.calls1
  exact ⟨⟨by rw [h1, h2]; omega, by rw [h1]; exact h.safe, by rw [h2]; exact h.pend, by omega, by omega⟩, by rw [h1, h2]; omega⟩
theorem Inv.fitA {n : Nat} {s : SSt} (h : Inv n s) (hn : n ≤ 999) : Fit (P.asked s).1 := h.asked.1.fit (by omega)
theorem okL_filter {l : List S38} (h : okL l) (p : S38 → Bool) : okL (l.filter p) := fun x hx => h x (List.mem_filter.1 hx).1
theorem okW_filter {l : List S31} (h : okW l) (p : S31 → Bool) : okW (l.filter p) := fun x hx => h x (List.mem_filter.1 hx).1
theorem filter_two (l : List S31) (p q : S31 → Bool) (h : ∀ x, q x = !p x) : (l.filter p).length + (l.filter q).length = l.length := by
  induction l with
  | nil => rfl
  | cons x l ih =>
    have := h x
    cases hp : p x
    · rw [hp] at this
      rw [List.filter_cons_of_neg (by simp [hp]), List.filter_cons_of_pos (by simp [this]), List.length_cons, List.length_cons]
      omega
    · rw [hp] at this
      rw [List.filter_cons_of_pos hp, List.filter_cons_of_neg (by simp [this]), List.length_cons, List.length_cons]
      omega
theorem moveT_ok {l : List S38} (h : okL l) (a b : ByteArray) : okL (moveT l a b) ∧ (moveT l a b).length ≤ l.length := by
  unfold moveT
  cases hf : l.find? (named a) with
  | none => exact ⟨h, Nat.le_refl _⟩
  | some x =>
    have hx := h x (List.mem_of_find?_eq_some hf)
    refine ⟨fun y hy => ?_, ?_⟩
    · rcases putL_mem hy with rfl | hy
      · exact hx
      · exact h y (List.mem_filter.1 hy).1
    · have h1 := putL_len (l.filter fun y => !named a y) b x.f1
      have h2 : (l.filter fun y => !named a y).length < l.length := by
        have hm := List.mem_of_find?_eq_some hf
        have hp := List.find?_some hf
        have h3 := List.length_filter_le (fun y => !named a y) l
        rcases Nat.lt_or_ge (l.filter fun y => !named a y).length l.length with h4 | h4
        · exact h4
        · have h5 := List.length_filter_eq_length_iff.1 (Nat.le_antisymm h3 h4) x hm
          simp [hp] at h5
      show (putL _ b x.f1).length ≤ l.length
      omega
theorem Inv.ofR {n : Nat} {s : SSt} (h : Inv n s) (name : ByteArray) (k : SSt → SSt × Int) (hk : ∀ s1 : SSt, Inv (n + 1) s1 → s1.safe.length + s1.pend.length ≤ n → Inv (n + 1) (k s1).1) : Inv (n + 1) (P.ofR s name k).1 := by
  obtain ⟨ha, hl⟩ := h.asked
  unfold P.ofR
  split
  · exact ha
  · split
    · exact hk _ ha hl
    · exact ha
theorem Inv.sync {n : Nat} {s : SSt} (h : Inv n s) (name : ByteArray) : Inv n (syncD s name) := by
  obtain ⟨h1, h2⟩ := doneL_ok (fun _ => -1) (s.pend.filter fun x => !othW name x) 0 s.safe h.safe
  have h3 := filter_two s.pend (fun x => !othW name x) (fun x => !ownW name x) (fun x => by rw [not_oth])
  have := h.len
  exact ⟨by show (doneL _ _ _ _).length + (s.pend.filter _).length ≤ n; omega, h1, okW_filter h.pend _, h.calls0, h.calls1⟩
theorem Inv.drop {n : Nat} {s : SSt} (h : Inv n s) (name : ByteArray) : Inv n (dropD s name) := by
  have h1 := List.length_filter_le (fun x => !named name x) s.safe
  have h2 := List.length_filter_le (fun x => !ownW name x) s.pend
  have := h.len
  exact ⟨by show (s.safe.filter _).length + (s.pend.filter _).length ≤ n; omega, okL_filter h.safe _, okW_filter h.pend _, h.calls0, h.calls1⟩
theorem Inv.move {n : Nat} {s : SSt} (h : Inv n s) (a b : ByteArray) : Inv n (moveD s a b) := by
  have h1 := List.length_filter_le (fun x => !named b x) s.safe
  have h2 := List.length_filter_le (fun x => !ownW b x) s.pend
  obtain ⟨h3, h4⟩ := moveT_ok (okL_filter h.safe (fun x => !named b x)) a b
  have := h.len
  refine ⟨by show (moveT _ _ _).length + (List.map _ _).length ≤ n; rw [List.length_map]; omega, h3, ?_, h.calls0, h.calls1⟩
  intro x hx
  obtain ⟨y, hy, rfl⟩ := List.mem_map.1 hx
  have := h.pend y (List.mem_filter.1 hy).1
  unfold renW
  split <;> exact this
theorem Inv.crash {n : Nat} {s : SSt} (h : Inv n s) (ks : List Int) : Inv n (crashD s ks) := by
  obtain ⟨h1, h2⟩ := doneL_ok (keepN ks) s.pend 0 s.safe h.safe
  have := h.len
  exact ⟨by show (doneL _ _ _ _).length + 0 ≤ n; omega, h1, fun x hx => by simp [crashD] at hx, Int.le_refl 0, Int.natCast_nonneg n⟩
theorem Inv.plan {n : Nat} {s : SSt} (h : Inv n s) (ks : List Int) (cr : Int) : Inv n (planD s ks cr) := ⟨h.len, h.safe, h.pend, Int.le_refl 0, Int.natCast_nonneg n⟩
theorem Inv.done {n : Nat} {s : SSt} (h : Inv n s) {d : S76} (hd : okD d) : Inv (n + 1) (doS s d).1 := by
  obtain ⟨ha, hl⟩ := h.asked
  unfold doS
  split
  · show Inv (n + 1) (doR s (wOf d)).1
    unfold doR
    split
    · exact ha
    · unfold doB
      split
      · refine ⟨?_, ha.safe, ?_, ha.calls0, ha.calls1⟩
        · show (P.asked s).1.safe.length + ((P.asked s).1.pend ++ [wOf d]).length ≤ n + 1
          rw [List.length_append]
          simp only [List.length_singleton]
          omega
        · intro x hx
          rcases List.mem_append.1 hx with hx | hx
          · exact ha.pend x hx
          · obtain rfl := List.mem_singleton.1 hx
            have := hd.w
            show d.f1.f3.length ≤ 1000000
            omega
      · exact ha
  split
  · exact h.ofR _ _ fun s1 h1 _ => h1.sync _
  split
  · refine h.ofR _ _ fun s1 h1 _ => ?_
    split
    · exact h1
    · split
      · exact h1
      · exact h1.move _ _
  split
  · exact h.ofR _ _ fun s1 h1 _ => h1.drop _
  split
  · show Inv (n + 1) (readR s d.f2).1
    unfold readR
    split
    · exact ha
    · split <;> exact ha
  split
  · show Inv (n + 1) (listR s).1
    unfold listR
    split <;> exact ha
  split
  · exact (h.crash _).more (by omega)
  · exact (h.plan _ _).more (by omega)
theorem Inv.run {s : SSt} {l : List S76} {n : Nat} (h : Inv n s) (hl : ∀ d ∈ l, okD d) (i : Nat) : Inv (n + i) (runS s (l.take i)) := by
  induction i with
  | zero => exact h
  | succ i ih =>
    by_cases hi : i < l.length
    · rw [runS_take s l i hi]
      exact ih.done (hl _ (List.getElem_mem hi))
    · rw [List.take_of_length_le (by omega), ← List.take_of_length_le (i := i) (l := l) (by omega)]
      exact ih.more (by omega)
end Go.Proofs.Ytcgeioingikeeaa.P
namespace Go.Proofs.Ytcgeioingikeeaa.P
open Go.RowKit Go.Proofs.YtcgeioingikeeaaW.PrintWords Go.Proofs.YtcgeioingikeeaaW.PrintLast Go.Proofs.YtcgeioingikeeaaW.PrintMore
set_option linter.unusedVariables false
set_option linter.unusedSimpArgs false
theorem rd_at76 (l : List S76) (j : Nat) (h : j < l.length) : rd_T76 l (j : Int) = l[j] := by simp [rd_T76, h, List.getD]
theorem fewD_l (l : List S76) : ∀ m i : Nat, i + m = 21 → i ≤ l.length → (∀ j : Nat, j < i → okD (rd_T76 l j)) → ∃ k b, gambrelref18_Few.l0 k l i = some b ∧ (b = true → l.length ≤ 20 ∧ ∀ j : Nat, j < l.length → okD (rd_T76 l j))
  | 0, i, hi, hl, hs => by
    refine ⟨2, decide ((l.length : Int) ≤ 20), ?_, fun h => ?_⟩
    · obtain rfl : i = 21 := by omega
      simp [gambrelref18_Few.l0, gambrelref18_Few.j1]
    · have := of_decide_eq_true h
      omega
  | m + 1, i, hi, hl, hs => by
    by_cases h : i < l.length
    · by_cases hb : okD (rd_T76 l (i : Int))
      · obtain ⟨k, b, h3, h4⟩ := fewD_l l m (i + 1) (by omega) (by omega) (fun j hj => by
          by_cases e : j = i
          · subst e; exact hb
          · exact hs j (by omega))
        refine ⟨k + 2, b, ?_, h4⟩
        have h1 := hb.k1
        have h2 := hb.k8
        have h5 := hb.nm
        have h6 := hb.w
        have h7 := hb.na
        have h8 := hb.nb
        have h9 := hb.nums
        unfold gambrelref18_Few.l0
        rw [if_pos (by omega), show decide ((i : Int) < 21) = true from decide_eq_true (by omega)]
        unfold gambrelref18_Few.j1
        rw [if_pos rfl, if_pos (by omega), if_pos (by omega), if_neg (by omega), if_neg (by omega), if_neg (by omega), if_neg (by omega), if_neg (by omega), if_neg (by omega), if_neg (by omega), wrap_nat i (by omega)]
        exact h3
      · refine ⟨2, false, ?_, fun h => by cases h⟩
        unfold gambrelref18_Few.l0
        rw [if_pos (by omega), show decide ((i : Int) < 21) = true from decide_eq_true (by omega)]
        unfold gambrelref18_Few.j1
        rw [if_pos rfl, if_pos (by omega), if_pos (by omega)]
        split
        · rfl
        split
        · rfl
        split
        · rfl
        split
        · rfl
        split
        · rfl
        split
        · rfl
        split
        · rfl
        exact absurd ⟨by omega, by omega, by omega, by omega, by omega, by omega, by omega⟩ hb
    · refine ⟨2, decide ((l.length : Int) ≤ 20), ?_, fun h => ⟨by have := of_decide_eq_true h; omega, fun j hj => hs j (by omega)⟩⟩
      unfold gambrelref18_Few.l0
      rw [if_neg (by omega)]
      simp [gambrelref18_Few.j1]
theorem fewD (l : List S76) : ∃ k b, gambrelref18_Few.f k l = some b ∧ (b = true → l.length ≤ 20 ∧ ∀ d ∈ l, okD d) := by
  obtain ⟨k, b, h1, h2⟩ := fewD_l l 21 0 (by omega) (by omega) (fun j hj => by omega)
  refine ⟨k, b, h1, fun hb => ⟨(h2 hb).1, fun d hd => ?_⟩⟩
  obtain ⟨j, hj, rfl⟩ := List.getElem_of_mem hd
  rw [← rd_at76 l j hj]
  exact (h2 hb).2 j hj
section
variable {w : World}
/-- A deed of the list, done to the store. -/
theorem do_at {B : Nat → Prop} {g : Nat} {s : SSt} {w0 : World} {n : Nat} (d : S76) (A4 : Option Addr) (c4 : Nat) (A7 : Option Addr) (c7 : Nat) (hr : Rep B g s w) (hi : Inv n s) (hn : n ≤ 999) (hB : Up B w.heap.size) (hd : okD d) (hb0 : ∀ k, k < w0.heap.size → w.heap[k]? = w0.heap[k]?) (hg : w0.heap.size ≤ g)
    (hC4 : (Kd.int .u8).C w0 A4 d.f1.f3.length d.f1.f3) (hc4 : d.f1.f3.length ≤ c4) (hC7 : (Kd.int .i64).C w0 A7 d.f4.length d.f4) (hw7 : ∀ n ∈ d.f4, (Lit.int .i64 n).wf = true) :
    Calls Try.prog 48 #[.pointer (some ⟨g, 0, none⟩), .agg #[.int .i64 d.f0, .string d.f1.f0, .int .i64 d.f1.f1, .int .i64 d.f1.f2, .slice A4 d.f1.f3.length c4, .string d.f2, .string d.f3, .slice A7 d.f4.length c7, .int .i64 d.f5]] w fun e w' => ∃ y z, e = .returned (.agg #[.int .i64 (doS s d).2.1, y, z]) ∧ (Kd.int .u8).R 5 w' w.heap.size (fun _ => True) y (doS s d).2.2.1 ∧ Kd.string.R 9 w' w.heap.size (fun _ => True) z (doS s d).2.2.2 ∧ Rep B g (doS s d).1 w' ∧ BelS B w w' :=
  do_real d A4 c4 A7 c7 hr (hi.fit (by omega)) (hi.fitA hn) hB (Kd.F_mono (Kd.F_step (Kd.C_F (Kd.heap_int .u8) hC4) fun k hk _ => hb0 k hk) fun k hk => by omega) hc4 (Kd.F_mono (Kd.F_step (Kd.C_F (Kd.heap_int .i64) hC7) fun k hk _ => hb0 k hk) fun k hk => by omega) (by have := hd.w; omega) (by have := hd.nums; omega) hw7 hd.k1 hd.k8
set_option maxHeartbeats 8000000 in
set_option maxRecDepth 100000 in
theorem played_calls (A : Option Addr) (c : Nat) (l : List S76) (hC : Kd.C k76 w A l.length l) (hl : l.length ≤ 20) (hd : ∀ d ∈ l, okD d) (hw : ∀ d ∈ l, ∀ n ∈ d.f4, (Lit.int .i64 n).wf = true) :
    Calls Try.prog 39 #[.slice A l.length c] w fun e w' => e = .returned (.pointer (some ⟨w.heap.size, 0, none⟩)) ∧ Rep (Since w.heap.size) w.heap.size (runS (newD 500) l) w' ∧ Below w.heap.size w w' := by
  have HC := Aside0.mk hC
  have HD := Aside0.mk hd
  have HWF := Aside0.mk hw
  clear hC hd hw
  go_enter Try.func39, Try.ntmps39
  go_wp2_with (go_at_call 47; refine (new_calls 500 (by decide)).mono ?_; rintro e w1 ⟨rfl, hr1, hb1⟩; have HR1 := Aside0.mk (hr1 (Since w.heap.size) (Nat.le_refl _)); have HB1 := Aside0.mk hb1; clear hr1 hb1)
  go_loopg [4] l.length (fun kq v4 w' => ∃ i : Nat, v4 = .int .i64 i ∧ i + kq = l.length ∧ Aside0 (Rep (Since w.heap.size) w.heap.size (runS (newD 500) (l.take i)) w') ∧ Aside0 (Below w.heap.size w w'))
  case atStart => exact ⟨0, rfl, by omega, HR1, HB1⟩
  case round =>
    obtain ⟨i, rfl, hi, HR, HB⟩ := hrel
    by_cases hlt : i < l.length
    · obtain ⟨k1, rfl⟩ : ∃ k1, gk = k1 + 1 := ⟨gk - 1, by omega⟩
      obtain ⟨ad, A4, c4, A7, c7, e1, hx0, hx1, hx2, hx3, hx4, hx5, hx6, hx7, hx8, hc4, hC4, hc7, hC7⟩ := at_T76 HC.out (i : Int) (by omega) (by omega)
      cases e1
      have hxx := pw_cell_below HB.out hx0
      replace hx0 := pw_cell_below HB.out hx0; replace hx1 := pw_cell_below HB.out hx1; replace hx2 := pw_cell_below HB.out hx2; replace hx3 := pw_cell_below HB.out hx3; replace hx4 := pw_cell_below HB.out hx4; replace hx5 := pw_cell_below HB.out hx5; replace hx6 := pw_cell_below HB.out hx6; replace hx7 := pw_cell_below HB.out hx7; replace hx8 := pw_cell_below HB.out hx8
      clear hxx
      rw [Int.toNat_natCast] at hx0 hx1 hx2 hx3 hx4 hx5 hx6 hx7 hx8
      obtain ⟨x, hxe⟩ : ∃ x, rd_T76 l (i : Int) = x := ⟨_, rfl⟩
      rw [hxe] at hx0 hx1 hx2 hx3 hx4 hx5 hx6 hx7 hx8 hc4 hC4 hc7 hC7
      have hxm : x ∈ l ∧ runS (newD 500) (l.take (i + 1)) = (doS (runS (newD 500) (l.take i)) x).1 := by
        rw [rd_at76 l i hlt] at hxe
        exact ⟨hxe ▸ List.getElem_mem hlt, by rw [runS_take _ _ _ hlt, hxe]⟩
      have HXM := Aside0.mk hxm
      have HI := Aside0.mk (((Inv.new 500).run HD.out i).more (m := 20) (by omega))
      obtain ⟨S, hS⟩ : ∃ S, runS (newD 500) (l.take i) = S := ⟨_, rfl⟩
      rw [hS] at HR HI HXM
      have HX4 := Aside0.mk hC4
      have HX7 := Aside0.mk hC7
      clear hxe hxm hC4 hC7 hS
      go_wp2_with (go_at_call 48; (with_reducible refine (do_at (w0 := w) x A4 c4 A7 c7 HR.out HI.out (by omega) (up_since HB.out.size) (HD.out _ HXM.out.1) (fun k hk => HB.out.block k hk) (Nat.le_refl _) HX4.out hc4 HX7.out (HWF.out _ HXM.out.1)).mono ?_); rintro e w2 ⟨y, z, rfl, _, _, hr2, hb2⟩; have HR2 := Aside0.mk hr2; have HB2 := Aside0.mk ((belowB_trans (bels_of (Nat.le_refl _) HB.out) hb2).below (Nat.le_refl _)); clear hr2 hb2)
      go_wp2
      go_roundg k1
      case measure => omega
      case rel => exact ⟨i + 1, by go_num, by omega, ⟨by rw [HXM.out.2]; exact HR2.out⟩, HB2⟩
    · have hge : l.length ≤ i := by omega
      have hend : l.take i = l := List.take_of_length_le hge
      have HEND := Aside0.mk hend
      clear hlt hend
      go_wp2
      go_ret
      exact ⟨rfl, by rw [← HEND.out]; exact HR.out, HB.out⟩
end
end Go.Proofs.Ytcgeioingikeeaa.P
namespace Go.Proofs.Ytcgeioingikeeaa.P
open Go.RowKit Go.Proofs.YtcgeioingikeeaaW.PrintWords Go.Proofs.YtcgeioingikeeaaW.PrintLast Go.Proofs.YtcgeioingikeeaaW.PrintMore
set_option linter.unusedVariables false
set_option linter.unusedSimpArgs false
section
variable {w : World}
/-- One deed, in a row of its own. -/
theorem C_deed {b : Nat} {d : S76} {A4 : Option Addr} {c4 : Nat} {A7 : Option Addr} {c7 : Nat} {fr : Nat × Nat} (hb : w.heap[b]? = some (.cells #[.int .i64 d.f0, .string d.f1.f0, .int .i64 d.f1.f1, .int .i64 d.f1.f2, .slice A4 d.f1.f3.length c4, .string d.f2, .string d.f3, .slice A7 d.f4.length c7, .int .i64 d.f5] 76 fr))
    (hC4 : (Kd.int .u8).C w A4 d.f1.f3.length d.f1.f3) (hc4 : d.f1.f3.length ≤ c4) (hC7 : (Kd.int .i64).C w A7 d.f4.length d.f4) (hc7 : d.f4.length ≤ c7) : Kd.C k76 w (some ⟨b, 0, none⟩) [d].length [d] := by
  refine ⟨rfl, by simp, fun _ => ⟨⟨b, 0, none⟩, rfl, fun j p hj => ?_⟩⟩
  have hj0 : j = 0 := by
    rcases Nat.eq_zero_or_pos j with h | h
    · exact h
    · rw [List.getElem?_eq_none (by simp; omega)] at hj; cases hj
  subst hj0
  obtain rfl : d = p := by simpa using hj
  refine ⟨_, rfl, k76_mk w d hc4 hC4 hc7 hC7, fun i u hu => ?_⟩
  rw [Nat.zero_mul, Nat.zero_add, add_plain, cell_of_row w b i _ 76 fr hb]
  simpa using hu
/-- A variable that holds a deed. -/
def VarD (w : World) (b : Nat) (d : S76) (A4 : Option Addr) (c4 : Nat) (A7 : Option Addr) (c7 : Nat) : Prop := w.heap[b]? = some (.cells #[.int .i64 d.f0, .string d.f1.f0, .int .i64 d.f1.f1, .int .i64 d.f1.f2, .slice A4 d.f1.f3.length c4, .string d.f2, .string d.f3, .slice A7 d.f4.length c7, .int .i64 d.f5] 76 (0, 0))
theorem VarD.cell {b : Nat} {d : S76} {A4 : Option Addr} {c4 : Nat} {A7 : Option Addr} {c7 : Nat} (h : VarD w b d A4 c4 A7 c7) : w.cell? ⟨b, 0, none⟩ = some (.int .i64 d.f0) ∧ w.cell? ⟨b, 1, none⟩ = some (.string d.f1.f0) ∧ w.cell? ⟨b, 2, none⟩ = some (.int .i64 d.f1.f1) ∧ w.cell? ⟨b, 3, none⟩ = some (.int .i64 d.f1.f2) ∧ w.cell? ⟨b, 4, none⟩ = some (.slice A4 d.f1.f3.length c4) ∧ w.cell? ⟨b, 5, none⟩ = some (.string d.f2) ∧ w.cell? ⟨b, 6, none⟩ = some (.string d.f3) ∧ w.cell? ⟨b, 7, none⟩ = some (.slice A7 d.f4.length c7) ∧ w.cell? ⟨b, 8, none⟩ = some (.int .i64 d.f5) := by
  refine ⟨?_, ?_, ?_, ?_, ?_, ?_, ?_, ?_, ?_⟩ <;> (rw [cell_of_row w b _ _ 76 (0, 0) h]; rfl)
theorem VarD.below {w1 : World} {b : Nat} {d : S76} {A4 : Option Addr} {c4 : Nat} {A7 : Option Addr} {c7 : Nat} (h : VarD w b d A4 c4 A7 c7) (hb : Below w.heap.size w w1) : VarD w1 b d A4 c4 A7 c7 := blk_stays hb h
theorem few_at {b : Nat} {d : S76} {A4 : Option Addr} {c4 : Nat} {A7 : Option Addr} {c7 : Nat} {fr : Nat × Nat} {kf : Nat} {r : Bool} (hb : w.heap[b]? = some (.cells #[.int .i64 d.f0, .string d.f1.f0, .int .i64 d.f1.f1, .int .i64 d.f1.f2, .slice A4 d.f1.f3.length c4, .string d.f2, .string d.f3, .slice A7 d.f4.length c7, .int .i64 d.f5] 76 fr))
    (hC4 : (Kd.int .u8).C w A4 d.f1.f3.length d.f1.f3) (hc4 : d.f1.f3.length ≤ c4) (hC7 : (Kd.int .i64).C w A7 d.f4.length d.f4) (hc7 : d.f4.length ≤ c7) (hk : gambrelref18_Few.f kf [d] = some r) : Calls Try.prog 38 #[.slice (some ⟨b, 0, none⟩) 1 1] w fun e w' => e = .returned (.bool r) ∧ Below w.heap.size w w' :=
  gambrelref18_Few.calls kf (some ⟨b, 0, none⟩) 1 [d] r w (C_deed hb hC4 hc4 hC7 hc7) (Nat.le_refl 1) hk
/-- A deed that is made on the spot: List. -/
def dList : S76 := ⟨6, ⟨⟨#[]⟩, 0, 0, []⟩, ⟨#[]⟩, ⟨#[]⟩, [], 0⟩
theorem okD_list : okD dList := ⟨by decide, by decide, by decide, by decide, by decide, by decide, by decide⟩
theorem F_one {b : Nat} {g : Nat} {n : Int} {fr : Nat × Nat} (hb : w.heap[b]? = some (.cells #[.int .i64 n] 3 fr)) (hne : b ≠ g) : Kd.F (Kd.int .i64) w (fun k => k ≠ g) (some ⟨b, 0, none⟩) [n].length [n] := by
  intro W2 hW
  have hb2 := (hW b hne (blk_lt hb)).trans hb
  refine ⟨rfl, by simp, fun _ => ⟨⟨b, 0, none⟩, rfl, fun j p hj => ⟨[.int .i64 p], rfl, rfl, fun i u hu => ?_⟩⟩⟩
  have hi : i = 0 := by
    rcases Nat.eq_zero_or_pos i with h | h
    · exact h
    · rw [List.getElem?_eq_none (by simp; omega)] at hu; cases hu
  have hj0 : j = 0 := by
    rcases Nat.eq_zero_or_pos j with h | h
    · exact h
    · rw [List.getElem?_eq_none (by simp; omega)] at hj; cases hj
  subst hi
  subst hj0
  obtain rfl : n = p := by simpa using hj
  obtain rfl : Value.int .i64 n = u := by simpa using hu
  rw [Nat.zero_mul, Nat.zero_add, add_plain, cell_of_row W2 b _ _ 3 fr hb2]
  rfl
/-- Files are the same as they are. -/
theorem same_selfL (l : List S38) (hl : l.length ≤ 1000000) : ∀ m i : Nat, i + m = l.length → ∃ k, gambrelref17_Same.l0 k l l i = some true
  | 0, i, hi => ⟨1, by rw [gambrelref17_Same.l0, if_neg (by omega)]⟩
  | m + 1, i, hi => by
    obtain ⟨k, hk⟩ := same_selfL l hl m (i + 1) (by omega)
    exact ⟨k + 1, by rw [gambrelref17_Same.l0, if_pos (by omega), if_pos (by omega), if_pos (by omega), if_pos rfl, if_pos rfl, wrap_nat i (by omega), hk]⟩
theorem same_self (l : List S38) (hl : l.length ≤ 1000000) : ∃ k, gambrelref17_Same.f k l l = some true := by
  obtain ⟨k, hk⟩ := same_selfL l hl l.length 0 (by omega)
  exact ⟨k, by unfold gambrelref17_Same.f; rw [if_pos rfl]; exact hk⟩
theorem same_calls {A0 : Option Addr} {c0 : Nat} {A1 : Option Addr} {c1 : Nat} {e0 e1 b0 b1 : Nat} {ok0 ok1 : Nat → Prop} (l : List S38) (hl : l.length ≤ 1000000) (h0 : Kd.V k38 e0 w b0 ok0 (.slice A0 l.length c0) l) (h1 : Kd.V k38 e1 w b1 ok1 (.slice A1 l.length c1) l) :
    Calls Try.prog 20 #[.slice A0 l.length c0, .slice A1 l.length c1] w fun e w' => e = .returned (.bool true) ∧ Below w.heap.size w w' := by
  obtain ⟨k, hk⟩ := same_self l hl
  obtain ⟨_, hc0, hC0⟩ := Kd.V_reads' h0
  obtain ⟨_, hc1, hC1⟩ := Kd.V_reads' h1
  refine (gambrelref17_Same.calls k A0 c0 l A1 c1 l true w hC0 hc0 hC1 hc1 hk).mono ?_
  rintro e w' ⟨he, hd⟩
  exact ⟨he, hd.below⟩
/-- The blocks of a store that is as old as a to n, and all from m on: those between are kept. -/
def Mid (a n m : Nat) : Nat → Prop := fun k => (a ≤ k ∧ k < n) ∨ m ≤ k
theorem up_mid {a n m x : Nat} (h : m ≤ x) : Up (Mid a n m) x := fun _ hk => .inr (Nat.le_trans h hk)
theorem mid_since {a n m : Nat} (hn : a ≤ m) {k : Nat} (h : Mid a n m k) : Since a k := by
  rcases h with h | h
  · exact h.1
  · exact Nat.le_trans hn h
theorem rep_mid {a g : Nat} {s : SSt} {w1 : World} (m : Nat) (h : Rep (Since a) g s w) (hb : Below w.heap.size w w1) : Rep (Mid a w.heap.size m) g s w1 := (h.less fun k hk hlt => .inl ⟨hk, hlt⟩).below hb
theorem V_mid {a n m : Nat} {l : List S38} {v : Value} {e b : Nat} {w1 : World} (h : Kd.V k38 e w b (fun k => n ≤ k) v l) (hm : w.heap.size ≤ m) (hb : BelS (Mid a n m) w w1) : Kd.V k38 e w1 b (fun k => n ≤ k) v l :=
  Kd.V_step h fun k hk hlt => hb.block k hlt fun hM => by
    rcases hM with hM | hM
    · omega
    · omega
end
end Go.Proofs.Ytcgeioingikeeaa.P
