/- A store in memory: what its block holds; Pending, Calls, Peak, Down, Safe and Files: what each returns. What is asked ahead of all else, plainly; store.Files; store.call with each of the closures that it is handed. By a program of this seat (wip/tools/mkK4.py). A store's block written; store.owned; the closures of Sync, Drop and Read: what each does. By a program of this seat (wip/tools/mkK5.py). The closure of Move: what it does. By a program of this seat (wip/tools/mkK6.py). store.of with each of the closures that it is handed; Sync, Move, Drop: what each does. By a program of this seat (wip/tools/mkK7.py). Read and List of a store: what each does. New and Crash of a store: what each does. By a program of this seat (wip/tools/mkK9.py). -/
import Derived.Test.YtcgeioingikeeaaKAB
import Derived.Maps.OwnSet
import Derived.Maps.Views
import Derived.Test.YtcgeioingikeeaaPf21
import Derived.Test.YtcgeioingikeeaaPf33
import Derived.Test.YtcgeioingikeeaaPf35
import Derived.Test.YtcgeioingikeeaaGZ
namespace Go.Proofs.Ytcgeioingikeeaa.P
open Go.RowKit Go.Proofs.YtcgeioingikeeaaW.PrintWords Go.Proofs.YtcgeioingikeeaaW.PrintLast Go.Proofs.YtcgeioingikeeaaW.PrintMore
set_option linter.unusedVariables false
set_option linter.unusedSimpArgs false

/-- A store, plainly. -/
structure SSt where
  safe : List S38
  pend : List S31
  quota : Int
  calls : Int
  fails : List Int
  crash : Int
  down : Bool
  peak : Int
/-- All blocks from n on are the store's. -/
def Up (B : Nat → Prop) (n : Nat) : Prop := ∀ k, n ≤ k → B k
theorem Up.le {B : Nat → Prop} {n m : Nat} (h : Up B n) (hx : n ≤ m) : Up B m := fun k hk => h k (Nat.le_trans hx hk)
/-- What is none of the store's is as it was. -/
structure BelS (B : Nat → Prop) (w w1 : World) : Prop where
  os : w1.os = w.os
  tape : w1.tape = w.tape
  output : w1.output = w.output
  size : w.heap.size ≤ w1.heap.size
  block : ∀ k, k < w.heap.size → ¬ B k → w1.heap[k]? = w.heap[k]?
theorem BelS.refl (B : Nat → Prop) (w : World) : BelS B w w := ⟨rfl, rfl, rfl, Nat.le_refl _, fun _ _ _ => rfl⟩
/-- The map of the calls that fail. -/
def MapSays (w : World) (B : Nat → Prop) (mv : Value) (fails : List Int) : Prop :=
  (mv = .map none ∧ fails = []) ∨ ∃ b n D, mv = .map (some b) ∧ True ∧ n ≤ 1000 ∧ w.ownsMap (H := Unit) Try.prog 3 (plainElem Try.prog 4) b n D ∧ ∀ i : Int, (Lit.int .i64 i).wf = true → D.atKey (.int .i64 i) (.lit (.bool false)) = .lit (.bool (decide (i ∈ fails)))
/-- What a store's block holds. -/
structure RepAt (B : Nat → Prop) (g : Nat) (s : SSt) (w : World) (mv sv pv : Value) : Prop where
  hg : B g
  blk : w.heap[g]? = some (.cells #[mv, .int .i64 s.crash, .int .i64 s.calls, sv, pv, .int .i64 s.quota, .int .i64 s.peak, .bool s.down] 106 (0, 0))
  map : MapSays w B mv s.fails
  safe : Kd.V k38 38 w 0 (fun k => k ≠ g ∧ some k ≠ pv.ownBlock) sv s.safe
  pend : O k31 31 w 0 (fun k => k ≠ g) pv s.pend
  own : ∀ k, pv.ownBlock = some k → B k
def Rep (B : Nat → Prop) (g : Nat) (s : SSt) (w : World) : Prop := ∃ mv sv pv, RepAt B g s w mv sv pv
theorem MapSays.below {w w1 : World} {B : Nat → Prop} {mv : Value} {fails : List Int} (h : MapSays w B mv fails) (hb : Below w.heap.size w w1) : MapSays w1 B mv fails := by
  rcases h with h | ⟨b, n, D, h1, h2, h3, h4, h5⟩
  · exact .inl h
  · exact .inr ⟨b, n, D, h1, h2, h3, h4.kept (grown_of_below hb none) (by simp), h5⟩
theorem RepAt.below {B : Nat → Prop} {g : Nat} {s : SSt} {w w1 : World} {mv sv pv : Value} (h : RepAt B g s w mv sv pv) (hb : Below w.heap.size w w1) : RepAt B g s w1 mv sv pv :=
  ⟨h.hg, blk_stays hb h.blk, h.map.below hb, Kd.V_below h.safe hb, O_below h.pend hb, h.own⟩
theorem Rep.below {B : Nat → Prop} {g : Nat} {s : SSt} {w w1 : World} (h : Rep B g s w) (hb : Below w.heap.size w w1) : Rep B g s w1 := by
  obtain ⟨mv, sv, pv, h⟩ := h
  exact ⟨mv, sv, pv, h.below hb⟩
theorem RepAt.cells {B : Nat → Prop} {g : Nat} {s : SSt} {w : World} {mv sv pv : Value} (h : RepAt B g s w mv sv pv) :
    w.cell? ⟨g, 0, none⟩ = some mv ∧ w.cell? ⟨g, 1, none⟩ = some (.int .i64 s.crash) ∧ w.cell? ⟨g, 2, none⟩ = some (.int .i64 s.calls) ∧ w.cell? ⟨g, 3, none⟩ = some sv ∧ w.cell? ⟨g, 4, none⟩ = some pv ∧
      w.cell? ⟨g, 5, none⟩ = some (.int .i64 s.quota) ∧ w.cell? ⟨g, 6, none⟩ = some (.int .i64 s.peak) ∧ w.cell? ⟨g, 7, none⟩ = some (.bool s.down) := by
  refine ⟨?_, ?_, ?_, ?_, ?_, ?_, ?_, ?_⟩ <;> (rw [cell_of_row w g _ _ 106 (0, 0) h.blk]; rfl)

section
variable {B : Nat → Prop} {g : Nat} {s : SSt} {w : World}
set_option maxHeartbeats 1000000 in
theorem pending_calls (h : Rep B g s w) : Calls Try.prog 46 #[.pointer (some ⟨g, 0, none⟩)] w fun e w' => e = .returned (.int .i64 (s.pend.length : Int)) ∧ Below w.heap.size w w' := by
  obtain ⟨mv, sv, pv, h⟩ := h
  obtain ⟨A, c, rfl⟩ := O_slice h.pend
  obtain ⟨_, _, _, _, hc, _, _, _⟩ := h.cells
  clear h
  go_enter Try.func46, Try.ntmps46
  go_wp2
  go_ret
  exact ⟨rfl, Below.refl _ _⟩
set_option maxHeartbeats 1000000 in
theorem calls_calls (h : Rep B g s w) : Calls Try.prog 52 #[.pointer (some ⟨g, 0, none⟩)] w fun e w' => e = .returned (.int .i64 s.calls) ∧ Below w.heap.size w w' := by
  obtain ⟨mv, sv, pv, h⟩ := h
  obtain ⟨_, _, hc, _, _, _, _, _⟩ := h.cells
  clear h
  go_enter Try.func52, Try.ntmps52
  go_wp2
  go_ret
  exact ⟨rfl, Below.refl _ _⟩
set_option maxHeartbeats 1000000 in
theorem peak_calls (h : Rep B g s w) : Calls Try.prog 54 #[.pointer (some ⟨g, 0, none⟩)] w fun e w' => e = .returned (.int .i64 s.peak) ∧ Below w.heap.size w w' := by
  obtain ⟨mv, sv, pv, h⟩ := h
  obtain ⟨_, _, _, _, _, _, hc, _⟩ := h.cells
  clear h
  go_enter Try.func54, Try.ntmps54
  go_wp2
  go_ret
  exact ⟨rfl, Below.refl _ _⟩
set_option maxHeartbeats 1000000 in
theorem down_calls (h : Rep B g s w) : Calls Try.prog 53 #[.pointer (some ⟨g, 0, none⟩)] w fun e w' => e = .returned (.bool s.down) ∧ Below w.heap.size w w' := by
  obtain ⟨mv, sv, pv, h⟩ := h
  obtain ⟨_, _, _, _, _, _, _, hc⟩ := h.cells
  clear h
  go_enter Try.func53, Try.ntmps53
  go_wp2
  go_ret
  exact ⟨rfl, Below.refl _ _⟩
end

/-- What a round of Safe holds, while it runs: the copy of the file. -/
structure SfS (w : World) (b : Nat) (nm : ByteArray) (v1 : Value) (w' : World) : Prop where
  blk : w'.heap[b]? = some (.cells #[.string nm, v1] 38 (0, 0))
  below : Below w.heap.size w w'
theorem SfS.step {w u v' : World} {b : Nat} {nm : ByteArray} {v1 : Value} (h : SfS w b nm v1 u) (hb : Below u.heap.size u v') : SfS w b nm v1 v' := ⟨blk_stays hb h.blk, below_step h.below hb⟩
theorem SfS.all {w w' : World} {b : Nat} {nm : ByteArray} {v1 : Value} (h : SfS w b nm v1 w') : w'.cell? ⟨b, 0, none⟩ = some (.string nm) ∧ w'.cell? ⟨b, 1, none⟩ = some v1 ∧ SfS w b nm v1 w' := by
  refine ⟨?_, ?_, h⟩ <;> (rw [cell_of_row w' b _ _ 38 (0, 0) h.blk]; rfl)
theorem SfS.grown {w u u' : World} {b : Nat} {nm : ByteArray} {v1 : Value} {row : Option Nat} (h : SfS w b nm v1 u) (hg : u.grownBy u' row) (hne : some b ≠ row) (hr : ∀ k, row = some k → w.heap.size ≤ k) : SfS w b nm v1 u' :=
  ⟨(hg.block b (blk_lt h.blk) hne).trans h.blk, pw_below_grown h.below row h.below.size hg hr⟩
/-- One more file, in a row of the call's own. -/
theorem O_snoc38 {w W w1 : World} {ok : Nat → Prop} {v v1 : Value} {xs : List S38} {x : S38} {seg : List Value} {inner : List Value}
    (hr : Reps (fun x c => Kd.FK k38 W (fun k => ok k ∧ some k ≠ v.ownBlock) x c) 2 xs inner) (hx : Kd.FK k38 W (fun k => ok k ∧ some k ≠ v.ownBlock) x seg)
    (hown : w1.ownsRow w.heap.size 38 2 v1 (xs.length + 1) (inner ++ seg)) (hg : W.grownBy w1 v.ownBlock) (hat : v1.ownBlock = v.ownBlock ∨ v1.ownBlock = some W.heap.size) : O k38 38 w1 w.heap.size ok v1 (xs ++ [x]) := by
  refine ⟨inner ++ seg, by rw [List.length_append]; exact hown, ?_⟩
  exact O_put (hr.imp_ fun y c' hy => FK_after hy hg hat) (FK_after hx hg hat) (FK_one hx).1
set_option maxHeartbeats 4000000 in
set_option maxRecDepth 100000 in
theorem safe_calls {B : Nat → Prop} {g : Nat} {s : SSt} {w : World} (h : Rep B g s w) (hl : s.safe.length ≤ 1000) (hd : okL s.safe) :
    Calls Try.prog 45 #[.pointer (some ⟨g, 0, none⟩)] w fun e w' => ∃ v, e = .returned v ∧ O k38 38 w' w.heap.size (fun k => w.heap.size ≤ k) v s.safe ∧ Below w.heap.size w w' := by
  obtain ⟨mv, sv, pv, h⟩ := h
  obtain ⟨_, _, _, hcs, _, _, _, _⟩ := h.cells
  have hV := h.safe
  obtain ⟨l, hle⟩ : ∃ l, l = s.safe := ⟨_, rfl⟩
  rw [← hle] at hV hl hd ⊢
  obtain ⟨A, c, rfl⟩ := Kd.V_slice hV
  have HV := Aside0.mk hV
  have HD := Aside0.mk hd
  clear h hle hV hd
  obtain ⟨i0, hi, hz0, hz1, hz2⟩ := info_parts info38
  have HI := Aside0.mk hi
  have HZ0 := Aside0.mk hz0
  have HZ1 := Aside0.mk hz1
  have HZ2 := Aside0.mk hz2
  clear hi hz0 hz1 hz2
  go_enter Try.func45, Try.ntmps45
  go_wp2
  go_loopg [3, 13] l.length (fun kq v3 v13 w' => ∃ i : Nat, v13 = .int .i64 i ∧ i + kq = l.length ∧ Aside0 (O k38 38 w' w.heap.size (fun k => w.heap.size ≤ k) v3 (l.take i)) ∧ Aside0 (Below w.heap.size w w'))
  case atStart => exact ⟨0, rfl, by omega, ⟨O_nil _ _ _ _ _⟩, ⟨Below.refl _ _⟩⟩
  case round =>
    obtain ⟨i, rfl, hi, HO, HB⟩ := hrel
    by_cases hlt : i < l.length
    · obtain ⟨k1, rfl⟩ : ∃ k1, gk = k1 + 1 := ⟨gk - 1, by omega⟩
      have hVr := Kd.V_below HV.out HB.out
      obtain ⟨ad, A1, c1, e1, hx0, hx1, hc1, hC1⟩ := at_T38 (Kd.V_reads' hVr).2.2 (i : Int) (by omega) (by omega)
      cases e1
      rw [Int.toNat_natCast] at hx0 hx1
      obtain ⟨x, hxe⟩ : ∃ x, rd_T38 l (i : Int) = x := ⟨_, rfl⟩
      rw [hxe] at hx0 hx1 hc1 hC1
      have hxm : x ∈ l ∧ l.take (i + 1) = l.take i ++ [x] := by
        have h1 : rd_T38 l (i : Int) = l[i] := by simp [rd_T38, hlt, List.getD]
        rw [h1] at hxe
        exact ⟨hxe ▸ List.getElem_mem hlt, by rw [← hxe, List.take_succ_eq_append_getElem hlt]⟩
      have HXM := Aside0.mk hxm
      have hxl := HD.out x hxm.1
      have HF : Aside0 (Kd.F (Kd.int .u8) wr (fun k => k < wr.heap.size) A1 x.f1.length x.f1) := ⟨Kd.C_F (Kd.heap_int .u8) hC1⟩
      clear hxe hxm hVr hC1
      obtain ⟨pl, hpl⟩ : ∃ pl, pl = l.take i := ⟨_, rfl⟩
      have hpll : pl.length = i := by rw [hpl, List.length_take]; omega
      rw [← hpl] at HO HXM
      clear hpl
      obtain ⟨inner, hown, hreps⟩ := HO.out
      obtain ⟨An, cn, rfl⟩ := own_slice hown
      have hw3 : Below wr.heap.size wr (wr.alloc (Obj.cells #[.string x.f0, .slice A1 x.f1.length c1] 38)) := below_alloc (Below.refl _ _) _
      have HOW : Aside0 ((wr.alloc (Obj.cells #[.string x.f0, .slice A1 x.f1.length c1] 38)).ownsRow w.heap.size 38 2 (.slice An pl.length cn) pl.length inner) := ⟨pw_own_below hown hw3⟩
      have HRE : Aside0 (Reps (fun y c' => Kd.FK k38 (wr.alloc (Obj.cells #[.string x.f0, .slice A1 x.f1.length c1] 38)) (fun k => w.heap.size ≤ k ∧ some k ≠ (Value.slice An pl.length cn).ownBlock) y c') 2 pl inner) := ⟨hreps.imp_ fun y c' hy => Kd.FK_below hy hw3⟩
      have hk0 : SfS w wr.heap.size x.f0 (.slice A1 x.f1.length c1) (wr.alloc (Obj.cells #[.string x.f0, .slice A1 x.f1.length c1] 38)) := ⟨heap_alloc_new _ _, below_alloc HB.out _⟩
      have HNE : Aside0 (∀ k, (Value.slice An pl.length cn).ownBlock = some k → w.heap.size ≤ k ∧ k < wr.heap.size) := ⟨fun k hk => ⟨own_base hown k hk, own_lt hown k hk⟩⟩
      have HF3 : Aside0 (Kd.F (Kd.int .u8) (wr.alloc (Obj.cells #[.string x.f0, .slice A1 x.f1.length c1] 38)) (fun k => k < wr.heap.size) A1 x.f1.length x.f1) := ⟨Kd.F_alloc HF.out _⟩
      have HSZ : Aside0 (wr.heap.size < (wr.alloc (Obj.cells #[.string x.f0, .slice A1 x.f1.length c1] 38)).heap.size) := ⟨by rw [World.size_alloc]; omega⟩
      have HPL := Aside0.mk hpll
      have hpl2 : pl.length ≤ 1000 := by omega
      have HK0 := Aside0.mk hk0
      have HBW := Aside0.mk (Nat.le_trans HB.out.size (Nat.le_refl _))
      clear hk0 hown hreps hw3 hpll
      go_wp2_with fail
      have hk0 := HK0.out
      clear hx0 hx1
      generalize wr.alloc (Obj.cells #[.string x.f0, .slice A1 x.f1.length c1] 38) = w3 at hk0 HOW HRE HF3 HSZ HK0 ⊢
      generalize wr.heap.size = bx at hk0 HNE HF3 HSZ HBW HK0 ⊢
      go_region_held3 (fun w' => w'.cell? ⟨bx, 0, none⟩ = some (.string x.f0) ∧ w'.cell? ⟨bx, 1, none⟩ = some (.slice A1 x.f1.length c1) ∧ SfS w bx x.f0 (.slice A1 x.f1.length c1) w')
        (first
          | exact (hk0.step (below_drew1 (Below.refl _ _))).all
          | (go_split_ands
             first
              | exact SfS.all (SfS.grown (by assumption) hgrow (fun he => Nat.lt_irrefl _ (HNE.out _ he.symm).2) (fun k hk => (HNE.out k hk).1))
              | exact SfS.all (SfS.step (by assumption) (below_alloc (Below.refl _ _) _))
              | exact SfS.all (SfS.step (by assumption) hb5))
          | go_keep)
        (first
          | (go_at_call 61; refine (cloneB (fun k => k < bx) A1 c1 x.f1 _ (Kd.F_drew HF3.out) (by omega)).mono ?_; rintro e w5 ⟨v5, rfl, hO5, hb5⟩; obtain ⟨A5, c5, rfl⟩ := O_slice hO5)
          | (refine step_append_lies _ (by rfl) _ _ _ (by rfl) w.heap.size 38 i0 _ 2 40 Try.underlying22 HI.out HZ0.out HZ1.out HZ2.out rfl (by omega) (.slice An pl.length cn) pl.length inner (by rfl) ((pw_own_below HOW.out (below_step (below_drew1 (Below.refl _ _)) hb5)).alloc _)
              ⟨w5.heap.size, 0, none⟩ 1 1 [.string x.f0, .slice A5 x.f1.length c5] (by rfl) (by rfl) (World.news_of_block (cs := #[.string x.f0, .slice A5 x.f1.length c5]) (t := 38) (fr := (0, 0)) (heap_alloc_new w5 _)) (by simp [Value.oneCell'])
              (by omega) (by unfold maxLen; omega) (by omega) (by rw [World.size_alloc]; have := hb5.size; have := HBW.out; have := HSZ.out; have hdz : w3.drew.heap.size = w3.heap.size := rfl; omega) (w5.heap.size + 1) (by simp) ?_
             intro gg cap w6 hown6 hgrow hat hlt6))
      have hfin : SfS w bx x.f0 (.slice A1 x.f1.length c1) w6 := by go_split_ands; assumption
      have HFIN := Aside0.mk hfin
      have hres : O k38 38 w6 w.heap.size (fun k => w.heap.size ≤ k) (.slice (some ⟨gg, 0, none⟩) (pl.length + 1) cap) (pl ++ [x]) := by
        have hb35 : Below w3.heap.size w3 (w5.alloc (Obj.cells #[.string x.f0, .slice A5 x.f1.length c5] 38)) := below_alloc (below_step (below_drew1 (Below.refl _ _)) hb5) _
        refine O_snoc38 (W := w5.alloc (Obj.cells #[.string x.f0, .slice A5 x.f1.length c5] 38)) (v := .slice An pl.length cn) (HRE.out.imp_ fun y c' hy => Kd.FK_below hy hb35) ?_ hown6 hgrow ?_
        · have hc5 := (Kd.V_reads' (O_V hO5)).2.1
          refine k38_mkF _ _ x hc5 (Kd.F_mono (Kd.F_alloc (O_F_own hO5) _) fun k hk => ?_)
          have hk1 := O_base hO5 k hk.symm
          have hdz : w3.drew.heap.size = w3.heap.size := rfl
          have := HSZ.out
          have := HBW.out
          refine ⟨by omega, fun he => ?_⟩
          have := (HNE.out k he.symm).2
          omega
        · rcases hat with hat | hat
          · exact .inl hat.symm
          · exact .inr (by rw [hat]; rw [World.size_alloc]; rfl)
      have HRES := Aside0.mk hres
      clear hk0 hfin hres hown6 hgrow hat hlt6 hO5 hb5
      go_wp2
      go_roundg k1
      case measure => omega
      case rel => exact ⟨i + 1, by go_num, by omega, ⟨by rw [HXM.out.2]; exact HRES.out⟩, ⟨HFIN.out.below⟩⟩
    · have hge : l.length ≤ i := by omega
      have hend : l.take i = l := List.take_of_length_le hge
      have HEND := Aside0.mk hend
      clear hlt hend
      go_wp2
      go_ret
      exact ⟨_, rfl, by rw [← HEND.out]; exact HO.out, HB.out⟩
end Go.Proofs.Ytcgeioingikeeaa.P
namespace Go.Proofs.Ytcgeioingikeeaa.P
open Go.RowKit Go.Proofs.YtcgeioingikeeaaW.PrintWords Go.Proofs.YtcgeioingikeeaaW.PrintLast Go.Proofs.YtcgeioingikeeaaW.PrintMore
open Go.Maps (Keyed string_keyed int_keyed keyOf_int_mk IsMap atKey_put_same atKey_put_other)
set_option linter.unusedVariables false
set_option linter.unusedSimpArgs false


/-- A store within bounds: what its calls ask. -/
structure Fit (s : SSt) : Prop where
  len : s.safe.length + s.pend.length ≤ 1000
  safe : okL s.safe
  pend : okW s.pend
  calls0 : 0 ≤ s.calls
  calls1 : s.calls ≤ 1000
def filesOf (s : SSt) : List S38 := doneL (fun _ => -1) 0 s.safe s.pend
theorem O_step {α : Type} {d : Kd α} {e : Nat} {w w1 : World} {base : Nat} {ok : Nat → Prop} {v : Value} {xs : List α} (h : O d e w base ok v xs) (hm : ∀ k, k < w.heap.size → (ok k ∨ v.ownBlock = some k) → w1.heap[k]? = w.heap[k]?) : O d e w1 base ok v xs := by
  obtain ⟨inner, h1, h2⟩ := h
  exact ⟨inner, own_move h1 (fun k hk => hm k (own_lt h1 k hk) (.inr hk)), h2.imp_ fun x c hx => Kd.FK_step hx fun k hk hlt => hm k hlt (.inl hk.1)⟩
theorem MapSays.move {w w1 : World} {B : Nat → Prop} {g : Nat} {mv : Value} {fails : List Int} (h : MapSays w B mv fails) (hg : ∃ cs t fr, w.heap[g]? = some (.cells cs t fr)) (hk : ∀ k, k < w.heap.size → k ≠ g → w1.heap[k]? = w.heap[k]?) : MapSays w1 B mv fails := by
  rcases h with h | ⟨b, n, D, h1, h2, h3, h4, h5⟩
  · exact .inl h
  · refine .inr ⟨b, n, D, h1, h2, h3, ?_, h5⟩
    obtain ⟨es, clock, h6, h7⟩ := h4
    refine ⟨es, clock, (hk b (blk_lt h6) (fun he => ?_)).trans h6, h7⟩
    subst he
    obtain ⟨cs, t, fr, hc⟩ := hg
    rw [h6] at hc
    cases hc
/-- The block is written, all else stands. -/
theorem RepAt.upd {B : Nat → Prop} {g : Nat} {s s' : SSt} {w w1 : World} {mv sv pv : Value} (h : RepAt B g s w mv sv pv) (hk : ∀ k, k < w.heap.size → k ≠ g → w1.heap[k]? = w.heap[k]?)
    (hb : w1.heap[g]? = some (.cells #[mv, .int .i64 s'.crash, .int .i64 s'.calls, sv, pv, .int .i64 s'.quota, .int .i64 s'.peak, .bool s'.down] 106 (0, 0))) (h1 : s'.safe = s.safe) (h2 : s'.pend = s.pend) (h3 : s'.fails = s.fails) : RepAt B g s' w1 mv sv pv := by
  have hpg : pv.ownBlock ≠ some g := fun he => by
    obtain ⟨_, hp, _⟩ := h.pend
    obtain ⟨cells, hc⟩ := own_typed hp g he
    rw [h.blk] at hc
    injection hc with hc
    injection hc with _ hc
    exact absurd hc (by decide)
  refine ⟨h.hg, hb, ?_, ?_, ?_, h.own⟩
  · rw [h3]; exact h.map.move ⟨_, _, _, h.blk⟩ hk
  · rw [h1]; exact Kd.V_step h.safe (fun k hk2 hlt => hk k hlt hk2.1)
  · rw [h2]; exact O_step h.pend (fun k hlt hk2 => hk k hlt (hk2.elim id (fun he hg => hpg (by rw [he, hg]))))
/-- What a store's call keeps: all but the store's block and what is new. -/
def KeptG (g : Nat) (w w1 : World) : Prop := w.heap.size ≤ w1.heap.size ∧ ∀ k, k < w.heap.size → k ≠ g → w1.heap[k]? = w.heap[k]?
theorem KeptG.refl (g : Nat) (w : World) : KeptG g w w := ⟨Nat.le_refl _, fun _ _ _ => rfl⟩
theorem KeptG.of_below {g : Nat} {w w1 : World} (h : Below w.heap.size w w1) : KeptG g w w1 := ⟨h.size, fun k hk _ => h.block k hk⟩
theorem KeptG.trans {g : Nat} {w w1 w2 : World} (h : KeptG g w w1) (k : KeptG g w1 w2) : KeptG g w w2 := ⟨Nat.le_trans h.1 k.1, fun i hi hg => (k.2 i (Nat.lt_of_lt_of_le hi h.1) hg).trans (h.2 i hi hg)⟩
theorem KeptG.setCell {g : Nat} {w w1 : World} (h : KeptG g w w1) (j : Nat) (u : Value) : KeptG g w (w1.setCell ⟨g, j, none⟩ u) :=
  h.trans ⟨by simp [World.setCell], fun k _ hg => Below.heap_setCell _ _ _ _ hg⟩
theorem belowB_set {B : Nat → Prop} {g : Nat} {w w1 : World} (h : BelS B w w1) (hg : B g) (j : Nat) (u : Value) : BelS B w (w1.setCell ⟨g, j, none⟩ u) :=
  ⟨h.os, h.tape, h.output, by simpa [World.setCell] using h.size, fun k hk hn => (Below.heap_setCell _ _ _ _ (show k ≠ g from fun he => hn (he ▸ hg))).trans (h.block k hk hn)⟩
theorem belowB_of {B : Nat → Prop} {w w1 : World} (hB : Up B w.heap.size) (h : Below w.heap.size w w1) : BelS B w w1 := ⟨h.os, h.tape, h.output, h.size, fun k hk _ => h.block k hk⟩
theorem belowB_trans {B : Nat → Prop} {w w1 w2 : World} (h : BelS B w w1) (k : BelS B w1 w2) : BelS B w w2 := ⟨k.os.trans h.os, k.tape.trans h.tape, k.output.trans h.output, Nat.le_trans h.size k.size, fun i hi hn => (k.block i (Nat.lt_of_lt_of_le hi h.size) hn).trans (h.block i hi hn)⟩
theorem belowS_drew {B : Nat → Prop} {w w1 : World} (h : BelS B w w1) : BelS B w w1.drew := belowB_trans h ⟨(below_drew1 (Below.refl w1.heap.size w1)).os, (below_drew1 (Below.refl w1.heap.size w1)).tape, (below_drew1 (Below.refl w1.heap.size w1)).output, (below_drew1 (Below.refl w1.heap.size w1)).size, fun k hk _ => (below_drew1 (Below.refl w1.heap.size w1)).block k hk⟩
theorem belowS_up {B B1 : Nat → Prop} {w w1 : World} (h : BelS B w w1) (hb : ∀ k, k < w.heap.size → B k → B1 k) : BelS B1 w w1 := ⟨h.os, h.tape, h.output, h.size, fun k hk hn => h.block k hk (fun hB => hn (hb k hk hB))⟩
/-- What is asked ahead of all else: the store then, and what is told, or 0. -/
def asked (s : SSt) : SSt × Int :=
  if s.down then (s, 9) else
    if s.calls + 1 = s.crash then ({ s with calls := s.calls + 1, down := true }, 9) else
      if s.calls + 1 ∈ s.fails then ({ s with calls := s.calls + 1 }, 7) else ({ s with calls := s.calls + 1 }, 0)
theorem key3 : Keyed Try.prog 3 := int_keyed Try.underlying3
theorem zero4 (w : World) : (zeroValue 4).run Try.prog w = .ok (.bool false) w := by kernel_rfl
set_option maxRecDepth 100000 in
theorem plainElem_bool_inv {v : Value} {x : Bool} {ps : List MemPlace} (h : plainElem (H := Unit) Try.prog 4 v = some (.lit (.bool x), ps)) : v = .bool x := by
  have hu := Try.underlying4
  cases v <;> simp [plainElem, hu] at h
  rw [h.1]
set_option maxRecDepth 100000 in
/-- The look-up of a call's number. -/
theorem MapSays.look {w : World} {B : Nat → Prop} {mv : Value} {fails : List Int} (h : MapSays w B mv fails) (i : Int) (hi : (Lit.int .i64 i).wf = true) : (Instr.lookup 101 mv (.int .i64 i) false).run Try.prog w = .ok (.bool (decide (i ∈ fails))) w := by
  rcases h with ⟨rfl, rfl⟩ | ⟨b, n, D, rfl, _, _, hown, hat⟩
  · have := Maps.look_nil (P := Try.prog) (w := w) (t := 101) (k := 3) (e := 4) false key3 Try.underlying101 (zero4 w) (key := .int .i64 i) (keyOf_int_mk Try.underlying3 hi)
    rw [show decide (i ∈ ([] : List Int)) = false from by simp]
    exact this
  · obtain ⟨v, ps, hrun, hv⟩ := hown.lookup (t := 101) (e := 4) key3 Try.underlying101 (zero4 w) (zd := .lit (.bool false)) (zp := []) (plainElem_bool Try.underlying4 false) (key := .int .i64 i) (keyOf_int_mk Try.underlying3 hi)
    rw [hat i hi] at hv
    rw [hrun, plainElem_bool_inv hv]


section
variable {B : Nat → Prop} {g : Nat} {s : SSt} {w : World}
/-- While Files runs. -/
structure FlS (B : Nat → Prop) (g : Nat) (s : SSt) (mv sv pv : Value) (w w' : World) : Prop where
  rep : RepAt B g s w' mv sv pv
  below : Below w.heap.size w w'
theorem FlS.step {mv sv pv : Value} {u v : World} (h : FlS B g s mv sv pv w u) (hb : Below u.heap.size u v) : FlS B g s mv sv pv w v := ⟨h.rep.below hb, below_step h.below hb⟩
theorem FlS.all {mv sv pv : Value} {u : World} (h : FlS B g s mv sv pv w u) : u.cell? ⟨g, 4, none⟩ = some pv ∧ FlS B g s mv sv pv w u := ⟨h.rep.cells.2.2.2.2.1, h⟩
set_option maxHeartbeats 4000000 in
set_option maxRecDepth 100000 in
theorem files_calls (h : Rep B g s w) (hf : Fit s) :
    Calls Try.prog 42 #[.pointer (some ⟨g, 0, none⟩)] w fun e w' => ∃ v, e = .returned v ∧ Kd.V k38 38 w' w'.heap.size (fun k => w.heap.size ≤ k) v (filesOf s) ∧ Below w.heap.size w w' := by
  obtain ⟨mv, sv, pv, h⟩ := h
  obtain ⟨Ap, cp, rfl⟩ := O_slice h.pend
  have hk0 : FlS B g s mv sv (.slice Ap s.pend.length cp) w w := ⟨h, Below.refl _ _⟩
  have HF := Aside0.mk hf
  have hlen := hf.len
  clear h hf
  go_enter Try.func42, Try.ntmps42
  go_wp2_with fail
  go_region_held3 (fun w' => w'.cell? ⟨g, 4, none⟩ = some (.slice Ap s.pend.length cp) ∧ FlS B g s mv sv (.slice Ap s.pend.length cp) w w')
    (first
      | exact (hk0.step (below_drew1 (Below.refl _ _))).all
      | (go_split_ands
         first
          | exact FlS.all (FlS.step (by assumption) hb6)
          | exact FlS.all (FlS.step (by assumption) hb5))
      | go_keep)
    (first
      | (go_split_ands; go_at_call 45; refine (safe_calls ⟨mv, sv, _, FlS.rep (by assumption)⟩ (by omega) HF.out.safe).mono ?_; rintro e w5 ⟨v5, rfl, hO5, hb5⟩; obtain ⟨A5, c5, rfl⟩ := O_slice hO5)
      | (go_split_ands
         go_at_call 74
         ((with_reducible refine (done_all (fun k => w.heap.size ≤ k) A5 c5 s.safe Ap cp s.pend _ ?hs ?hr ?hc hlen HF.out.safe HF.out.pend).mono ?_); (case hs => exact V_base (Kd.V_mono (O_V hO5) (fun k hk => hk.elim (fun h => h) (fun h => h)))); (case hr => exact (Kd.V_reads' (O_V (RepAt.pend (FlS.rep (by assumption))))).2.2); (case hc => exact (Kd.V_reads' (O_V (RepAt.pend (hk0.rep)))).2.1))
         rintro e w6 ⟨v6, rfl, hV6, hb6⟩))
  have hfin : FlS B g s mv sv (.slice Ap s.pend.length cp) w w6 := by go_split_ands; assumption
  have h5 : FlS B g s mv sv (.slice Ap s.pend.length cp) w w5 := by go_split_ands; assumption
  have HFIN := Aside0.mk hfin
  have HV6 := Aside0.mk hV6
  have HSZ := Aside0.mk h5.below.size
  clear hfin h5 hV6 hk0
  go_wp2
  go_ret
  exact ⟨_, rfl, Kd.V_mono HV6.out (fun k hk => hk.elim id (fun h => Nat.le_trans HSZ.out h)), HFIN.out.below⟩


theorem RepAt.free {mv sv pv : Value} (h : RepAt B g s w mv sv pv) (j : Nat) : w.frozen? ⟨g, j, none⟩ = false := blk_frozen h.blk j
/-- One call more. -/
theorem RepAt.called {mv sv pv : Value} (h : RepAt B g s w mv sv pv) : RepAt B g { s with calls := s.calls + 1 } (w.setCell ⟨g, 2, none⟩ (.int .i64 (s.calls + 1))) mv sv pv :=
  h.upd (fun k _ hk => Below.heap_setCell _ _ _ _ hk) (blk_set h.blk 2 _) rfl rfl rfl
/-- It goes down. -/
theorem RepAt.downed {mv sv pv : Value} (h : RepAt B g s w mv sv pv) : RepAt B g { s with down := true } (w.setCell ⟨g, 7, none⟩ (.bool true)) mv sv pv :=
  h.upd (fun k _ hk => Below.heap_setCell _ _ _ _ hk) (blk_set h.blk 7 _) rfl rfl rfl


set_option maxHeartbeats 8000000 in
set_option maxRecDepth 100000 in
theorem call_err (clo : Value) (h : Rep B g s w) (hf : Fit s) (ha : (asked s).2 ≠ 0) :
    Calls Try.prog 90 #[.pointer (some ⟨g, 0, none⟩), clo] w fun e w' => e = .returned (.int .i64 (asked s).2) ∧ Rep B g (asked s).1 w' ∧ BelS B w w' ∧ KeptG g w w' := by
  obtain ⟨mv, sv, pv, h⟩ := h
  obtain ⟨hc0, hc1, hc2, _, _, _, _, hc7⟩ := h.cells
  have hfr2 := h.free 2
  have hcl0 := hf.calls0
  have hcl1 := hf.calls1
  have H0 := Aside0.mk h
  have h1 := h.called
  obtain ⟨hd0, hd1, hd2, _, _, _, _, hd7⟩ := h1.cells
  have hgr7 := h1.free 7
  have H1 := Aside0.mk h1
  have hgB := Aside0.mk h.hg
  clear h h1 hf
  by_cases hdn : s.down = true
  · have hA : asked s = (s, 9) := by unfold asked; rw [if_pos hdn]
    rw [hA]
    rw [hdn] at hc7
    have HDN := Aside0.mk hdn
    clear hd0 hd1 hd2 hd7 ha hA hdn
    go_enter Try.func90, Try.ntmps90
    go_wp2
    go_ret
    exact ⟨rfl, ⟨mv, sv, pv, H0.out⟩, BelS.refl _ _, KeptG.refl _ _⟩
  · have hdf : s.down = false := by simpa using hdn
    by_cases hcr : s.calls + 1 = s.crash
    · have hA : asked s = ({ s with calls := s.calls + 1, down := true }, 9) := by unfold asked; rw [if_neg hdn, if_pos hcr]
      rw [hA]
      rw [hdf] at hc7
      have HA := Aside0.mk hA
      have hce : (s.calls + 1 == s.crash) = true := by simpa using hcr
      have hk0 : RepAt B g { s with calls := s.calls + 1 } (w.setCell ⟨g, 2, none⟩ (.int .i64 (s.calls + 1))) mv sv pv := H1.out
      have HKP : Aside0 (KeptG g w (w.setCell ⟨g, 2, none⟩ (.int .i64 (s.calls + 1)))) := ⟨(KeptG.refl g w).setCell 2 _⟩
      have HBB : Aside0 (BelS B w (w.setCell ⟨g, 2, none⟩ (.int .i64 (s.calls + 1)))) := ⟨belowB_set (BelS.refl _ _) hgB.out 2 _⟩
      clear ha hdn hdf hA hcr hk0
      go_enter Try.func90, Try.ntmps90
      go_wp2_with fail
      generalize w.setCell ⟨g, 2, none⟩ (.int .i64 (s.calls + 1)) = w1 at hd0 hd1 hd2 hd7 hgr7 H1 HKP HBB ⊢
      go_region_held3 (fun w' => w'.cell? ⟨g, 1, none⟩ = some (.int .i64 s.crash) ∧ w'.cell? ⟨g, 2, none⟩ = some (.int .i64 (s.calls + 1))) (go_keep) (first | fail)
      go_wp2
      go_ret
      refine ⟨rfl, ⟨mv, sv, pv, H1.out.downed.below (below_drew1 (Below.refl _ _))⟩, ?_, ?_⟩
      · exact belowS_drew (belowB_set HBB.out hgB.out 7 _)
      · exact (HKP.out.setCell 7 _).trans (KeptG.of_below (below_drew1 (Below.refl _ _)))
    · have hfa : s.calls + 1 ∈ s.fails := by
        apply Classical.byContradiction
        intro hn
        apply ha
        unfold asked
        rw [if_neg hdn, if_neg hcr, if_neg hn]
      have hA : asked s = ({ s with calls := s.calls + 1 }, 7) := by unfold asked; rw [if_neg hdn, if_neg hcr, if_pos hfa]
      rw [hA]
      rw [hdf] at hc7
      have hce : (s.calls + 1 == s.crash) = false := by simpa using hcr
      have hfd : decide (s.calls + 1 ∈ s.fails) = true := decide_eq_true hfa
      have hwf : (Lit.int .i64 (s.calls + 1)).wf = true := by simp [Lit.wf, IntKind.min, IntKind.max, IntKind.signed, IntKind.bits]; omega
      have HLK : Aside0 (∀ n, (Instr.lookup 101 mv (.int .i64 (s.calls + 1)) false).run Try.prog ((w.setCell ⟨g, 2, none⟩ (.int .i64 (s.calls + 1))).drewN n) = .ok (.bool true) ((w.setCell ⟨g, 2, none⟩ (.int .i64 (s.calls + 1))).drewN n)) := ⟨fun n => by
        have := (H1.out.below (pw_below_drewN (Below.refl _ _) n)).map.look (s.calls + 1) hwf
        rw [hfd] at this
        exact this⟩
      have HKP : Aside0 (KeptG g w (w.setCell ⟨g, 2, none⟩ (.int .i64 (s.calls + 1)))) := ⟨(KeptG.refl g w).setCell 2 _⟩
      have HBB : Aside0 (BelS B w (w.setCell ⟨g, 2, none⟩ (.int .i64 (s.calls + 1)))) := ⟨belowB_set (BelS.refl _ _) hgB.out 2 _⟩
      clear ha hdn hdf hA hcr hfa hfd hwf
      go_enter Try.func90, Try.ntmps90
      go_wp2_with fail
      generalize w.setCell ⟨g, 2, none⟩ (.int .i64 (s.calls + 1)) = w1 at hd0 hd1 hd2 hd7 hgr7 H1 HKP HBB HLK ⊢
      go_region_held3 (fun w' => w'.cell? ⟨g, 1, none⟩ = some (.int .i64 s.crash) ∧ w'.cell? ⟨g, 2, none⟩ = some (.int .i64 (s.calls + 1))) (go_keep) (first | fail)
      go_wp2_with fail
      have hlk : (Instr.lookup 101 mv (.int .i64 (s.calls + 1)) false).run Try.prog w1.drew.drew = .ok (.bool true) w1.drew.drew := HLK.out 2
      go_region_held3 (fun w' => w'.cell? ⟨g, 0, none⟩ = some mv ∧ w'.cell? ⟨g, 2, none⟩ = some (.int .i64 (s.calls + 1))) (go_keep) (first | fail)
      go_wp2
      go_ret
      refine ⟨rfl, ⟨mv, sv, pv, H1.out.below (pw_below_drewN (Below.refl _ _) 2)⟩, ?_, ?_⟩
      · exact belowS_drew (belowS_drew HBB.out)
      · exact HKP.out.trans (KeptG.of_below (pw_below_drewN (Below.refl _ _) 2))


set_option maxHeartbeats 8000000 in
set_option maxRecDepth 100000 in
theorem call_ok91 (b0 b1 : Nat) (R : Int → World → Prop) {mv sv pv : Value} (h : RepAt B g s w mv sv pv) (hf : Fit s) (ha : (asked s).2 = 0)
    (hclo : ∀ w1, RepAt B g (asked s).1 w1 mv sv pv → BelS B w w1 → KeptG g w w1 → Calls Try.prog 91 #[.pointer (some ⟨b0, 0, none⟩), .pointer (some ⟨b1, 0, none⟩)] w1 fun e w' => ∃ r, e = .returned (.int .i64 r) ∧ R r w') :
    Calls Try.prog 90 #[.pointer (some ⟨g, 0, none⟩), .func (.func 91) #[] #[.pointer (some ⟨b0, 0, none⟩), .pointer (some ⟨b1, 0, none⟩)]] w fun e w' => ∃ r, e = .returned (.int .i64 r) ∧ R r w' := by
  obtain ⟨hc0, hc1, hc2, _, _, _, _, hc7⟩ := h.cells
  have hfr2 := h.free 2
  have hcl0 := hf.calls0
  have hcl1 := hf.calls1
  have H0 := Aside0.mk h
  have h1 := h.called
  obtain ⟨hd0, hd1, hd2, _, _, _, _, hd7⟩ := h1.cells
  have hgr7 := h1.free 7
  have H1 := Aside0.mk h1
  have hgB := Aside0.mk h.hg
  clear h h1 hf
  have hdn : ¬ s.down = true := by
    intro hd
    unfold asked at ha
    rw [if_pos hd] at ha
    simp at ha
  have hdf : s.down = false := by simpa using hdn
  have hcr : ¬ s.calls + 1 = s.crash := by
    intro hc
    unfold asked at ha
    rw [if_neg hdn, if_pos hc] at ha
    simp at ha
  have hfa : ¬ s.calls + 1 ∈ s.fails := by
    intro hc
    unfold asked at ha
    rw [if_neg hdn, if_neg hcr, if_pos hc] at ha
    simp at ha
  have hA : asked s = ({ s with calls := s.calls + 1 }, 0) := by unfold asked; rw [if_neg hdn, if_neg hcr, if_neg hfa]
  rw [hA] at hclo
  rw [hdf] at hc7
  have HCLO := Aside0.mk hclo
  have hce : (s.calls + 1 == s.crash) = false := by simpa using hcr
  have hfd : decide (s.calls + 1 ∈ s.fails) = false := decide_eq_false hfa
  have hwf : (Lit.int .i64 (s.calls + 1)).wf = true := by simp [Lit.wf, IntKind.min, IntKind.max, IntKind.signed, IntKind.bits]; omega
  have HLK : Aside0 (∀ n, (Instr.lookup 101 mv (.int .i64 (s.calls + 1)) false).run Try.prog ((w.setCell ⟨g, 2, none⟩ (.int .i64 (s.calls + 1))).drewN n) = .ok (.bool false) ((w.setCell ⟨g, 2, none⟩ (.int .i64 (s.calls + 1))).drewN n)) := ⟨fun n => by
    have := (H1.out.below (pw_below_drewN (Below.refl _ _) n)).map.look (s.calls + 1) hwf
    rw [hfd] at this
    exact this⟩
  have HKP : Aside0 (KeptG g w (w.setCell ⟨g, 2, none⟩ (.int .i64 (s.calls + 1)))) := ⟨(KeptG.refl g w).setCell 2 _⟩
  have HBB : Aside0 (BelS B w (w.setCell ⟨g, 2, none⟩ (.int .i64 (s.calls + 1)))) := ⟨belowB_set (BelS.refl _ _) hgB.out 2 _⟩
  clear ha hdn hdf hA hcr hfa hfd hwf hclo
  go_enter Try.func90, Try.ntmps90
  go_wp2_with fail
  generalize w.setCell ⟨g, 2, none⟩ (.int .i64 (s.calls + 1)) = w1 at hd0 hd1 hd2 hd7 hgr7 H1 HKP HBB HLK ⊢
  go_region_held3 (fun w' => w'.cell? ⟨g, 1, none⟩ = some (.int .i64 s.crash) ∧ w'.cell? ⟨g, 2, none⟩ = some (.int .i64 (s.calls + 1))) (go_keep) (first | fail)
  go_wp2_with fail
  have hlk : (Instr.lookup 101 mv (.int .i64 (s.calls + 1)) false).run Try.prog w1.drew.drew = .ok (.bool false) w1.drew.drew := HLK.out 2
  go_region_held3 (fun w' => w'.cell? ⟨g, 0, none⟩ = some mv ∧ w'.cell? ⟨g, 2, none⟩ = some (.int .i64 (s.calls + 1))) (go_keep) (first | fail)
  go_wp2_with (go_at_call 91; refine (HCLO.out _ (H1.out.below (pw_below_drewN (Below.refl _ _) 2)) (belowS_drew (belowS_drew HBB.out)) (HKP.out.trans (KeptG.of_below (pw_below_drewN (Below.refl _ _) 2)))).mono ?_; rintro e w2 ⟨r, rfl, hR⟩; have HR := Aside0.mk hR; clear hR)
  go_ret
  exact ⟨r, rfl, HR.out⟩


set_option maxHeartbeats 8000000 in
set_option maxRecDepth 100000 in
theorem call_ok93 (b0 b1 b2 : Nat) (R : Int → World → Prop) {mv sv pv : Value} (h : RepAt B g s w mv sv pv) (hf : Fit s) (ha : (asked s).2 = 0)
    (hclo : ∀ w1, RepAt B g (asked s).1 w1 mv sv pv → BelS B w w1 → KeptG g w w1 → Calls Try.prog 93 #[.pointer (some ⟨b0, 0, none⟩), .pointer (some ⟨b1, 0, none⟩), .pointer (some ⟨b2, 0, none⟩)] w1 fun e w' => ∃ r, e = .returned (.int .i64 r) ∧ R r w') :
    Calls Try.prog 90 #[.pointer (some ⟨g, 0, none⟩), .func (.func 93) #[] #[.pointer (some ⟨b0, 0, none⟩), .pointer (some ⟨b1, 0, none⟩), .pointer (some ⟨b2, 0, none⟩)]] w fun e w' => ∃ r, e = .returned (.int .i64 r) ∧ R r w' := by
  obtain ⟨hc0, hc1, hc2, _, _, _, _, hc7⟩ := h.cells
  have hfr2 := h.free 2
  have hcl0 := hf.calls0
  have hcl1 := hf.calls1
  have H0 := Aside0.mk h
  have h1 := h.called
  obtain ⟨hd0, hd1, hd2, _, _, _, _, hd7⟩ := h1.cells
  have hgr7 := h1.free 7
  have H1 := Aside0.mk h1
  have hgB := Aside0.mk h.hg
  clear h h1 hf
  have hdn : ¬ s.down = true := by
    intro hd
    unfold asked at ha
    rw [if_pos hd] at ha
    simp at ha
  have hdf : s.down = false := by simpa using hdn
  have hcr : ¬ s.calls + 1 = s.crash := by
    intro hc
    unfold asked at ha
    rw [if_neg hdn, if_pos hc] at ha
    simp at ha
  have hfa : ¬ s.calls + 1 ∈ s.fails := by
    intro hc
    unfold asked at ha
    rw [if_neg hdn, if_neg hcr, if_pos hc] at ha
    simp at ha
  have hA : asked s = ({ s with calls := s.calls + 1 }, 0) := by unfold asked; rw [if_neg hdn, if_neg hcr, if_neg hfa]
  rw [hA] at hclo
  rw [hdf] at hc7
  have HCLO := Aside0.mk hclo
  have hce : (s.calls + 1 == s.crash) = false := by simpa using hcr
  have hfd : decide (s.calls + 1 ∈ s.fails) = false := decide_eq_false hfa
  have hwf : (Lit.int .i64 (s.calls + 1)).wf = true := by simp [Lit.wf, IntKind.min, IntKind.max, IntKind.signed, IntKind.bits]; omega
  have HLK : Aside0 (∀ n, (Instr.lookup 101 mv (.int .i64 (s.calls + 1)) false).run Try.prog ((w.setCell ⟨g, 2, none⟩ (.int .i64 (s.calls + 1))).drewN n) = .ok (.bool false) ((w.setCell ⟨g, 2, none⟩ (.int .i64 (s.calls + 1))).drewN n)) := ⟨fun n => by
    have := (H1.out.below (pw_below_drewN (Below.refl _ _) n)).map.look (s.calls + 1) hwf
    rw [hfd] at this
    exact this⟩
  have HKP : Aside0 (KeptG g w (w.setCell ⟨g, 2, none⟩ (.int .i64 (s.calls + 1)))) := ⟨(KeptG.refl g w).setCell 2 _⟩
  have HBB : Aside0 (BelS B w (w.setCell ⟨g, 2, none⟩ (.int .i64 (s.calls + 1)))) := ⟨belowB_set (BelS.refl _ _) hgB.out 2 _⟩
  clear ha hdn hdf hA hcr hfa hfd hwf hclo
  go_enter Try.func90, Try.ntmps90
  go_wp2_with fail
  generalize w.setCell ⟨g, 2, none⟩ (.int .i64 (s.calls + 1)) = w1 at hd0 hd1 hd2 hd7 hgr7 H1 HKP HBB HLK ⊢
  go_region_held3 (fun w' => w'.cell? ⟨g, 1, none⟩ = some (.int .i64 s.crash) ∧ w'.cell? ⟨g, 2, none⟩ = some (.int .i64 (s.calls + 1))) (go_keep) (first | fail)
  go_wp2_with fail
  have hlk : (Instr.lookup 101 mv (.int .i64 (s.calls + 1)) false).run Try.prog w1.drew.drew = .ok (.bool false) w1.drew.drew := HLK.out 2
  go_region_held3 (fun w' => w'.cell? ⟨g, 0, none⟩ = some mv ∧ w'.cell? ⟨g, 2, none⟩ = some (.int .i64 (s.calls + 1))) (go_keep) (first | fail)
  go_wp2_with (go_at_call 93; refine (HCLO.out _ (H1.out.below (pw_below_drewN (Below.refl _ _) 2)) (belowS_drew (belowS_drew HBB.out)) (HKP.out.trans (KeptG.of_below (pw_below_drewN (Below.refl _ _) 2)))).mono ?_; rintro e w2 ⟨r, rfl, hR⟩; have HR := Aside0.mk hR; clear hR)
  go_ret
  exact ⟨r, rfl, HR.out⟩


set_option maxHeartbeats 8000000 in
set_option maxRecDepth 100000 in
theorem call_ok97 (b0 b1 : Nat) (R : Int → World → Prop) {mv sv pv : Value} (h : RepAt B g s w mv sv pv) (hf : Fit s) (ha : (asked s).2 = 0)
    (hclo : ∀ w1, RepAt B g (asked s).1 w1 mv sv pv → BelS B w w1 → KeptG g w w1 → Calls Try.prog 97 #[.pointer (some ⟨b0, 0, none⟩), .pointer (some ⟨b1, 0, none⟩)] w1 fun e w' => ∃ r, e = .returned (.int .i64 r) ∧ R r w') :
    Calls Try.prog 90 #[.pointer (some ⟨g, 0, none⟩), .func (.func 97) #[] #[.pointer (some ⟨b0, 0, none⟩), .pointer (some ⟨b1, 0, none⟩)]] w fun e w' => ∃ r, e = .returned (.int .i64 r) ∧ R r w' := by
  obtain ⟨hc0, hc1, hc2, _, _, _, _, hc7⟩ := h.cells
  have hfr2 := h.free 2
  have hcl0 := hf.calls0
  have hcl1 := hf.calls1
  have H0 := Aside0.mk h
  have h1 := h.called
  obtain ⟨hd0, hd1, hd2, _, _, _, _, hd7⟩ := h1.cells
  have hgr7 := h1.free 7
  have H1 := Aside0.mk h1
  have hgB := Aside0.mk h.hg
  clear h h1 hf
  have hdn : ¬ s.down = true := by
    intro hd
    unfold asked at ha
    rw [if_pos hd] at ha
    simp at ha
  have hdf : s.down = false := by simpa using hdn
  have hcr : ¬ s.calls + 1 = s.crash := by
    intro hc
    unfold asked at ha
    rw [if_neg hdn, if_pos hc] at ha
    simp at ha
  have hfa : ¬ s.calls + 1 ∈ s.fails := by
    intro hc
    unfold asked at ha
    rw [if_neg hdn, if_neg hcr, if_pos hc] at ha
    simp at ha
  have hA : asked s = ({ s with calls := s.calls + 1 }, 0) := by unfold asked; rw [if_neg hdn, if_neg hcr, if_neg hfa]
  rw [hA] at hclo
  rw [hdf] at hc7
  have HCLO := Aside0.mk hclo
  have hce : (s.calls + 1 == s.crash) = false := by simpa using hcr
  have hfd : decide (s.calls + 1 ∈ s.fails) = false := decide_eq_false hfa
  have hwf : (Lit.int .i64 (s.calls + 1)).wf = true := by simp [Lit.wf, IntKind.min, IntKind.max, IntKind.signed, IntKind.bits]; omega
  have HLK : Aside0 (∀ n, (Instr.lookup 101 mv (.int .i64 (s.calls + 1)) false).run Try.prog ((w.setCell ⟨g, 2, none⟩ (.int .i64 (s.calls + 1))).drewN n) = .ok (.bool false) ((w.setCell ⟨g, 2, none⟩ (.int .i64 (s.calls + 1))).drewN n)) := ⟨fun n => by
    have := (H1.out.below (pw_below_drewN (Below.refl _ _) n)).map.look (s.calls + 1) hwf
    rw [hfd] at this
    exact this⟩
  have HKP : Aside0 (KeptG g w (w.setCell ⟨g, 2, none⟩ (.int .i64 (s.calls + 1)))) := ⟨(KeptG.refl g w).setCell 2 _⟩
  have HBB : Aside0 (BelS B w (w.setCell ⟨g, 2, none⟩ (.int .i64 (s.calls + 1)))) := ⟨belowB_set (BelS.refl _ _) hgB.out 2 _⟩
  clear ha hdn hdf hA hcr hfa hfd hwf hclo
  go_enter Try.func90, Try.ntmps90
  go_wp2_with fail
  generalize w.setCell ⟨g, 2, none⟩ (.int .i64 (s.calls + 1)) = w1 at hd0 hd1 hd2 hd7 hgr7 H1 HKP HBB HLK ⊢
  go_region_held3 (fun w' => w'.cell? ⟨g, 1, none⟩ = some (.int .i64 s.crash) ∧ w'.cell? ⟨g, 2, none⟩ = some (.int .i64 (s.calls + 1))) (go_keep) (first | fail)
  go_wp2_with fail
  have hlk : (Instr.lookup 101 mv (.int .i64 (s.calls + 1)) false).run Try.prog w1.drew.drew = .ok (.bool false) w1.drew.drew := HLK.out 2
  go_region_held3 (fun w' => w'.cell? ⟨g, 0, none⟩ = some mv ∧ w'.cell? ⟨g, 2, none⟩ = some (.int .i64 (s.calls + 1))) (go_keep) (first | fail)
  go_wp2_with (go_at_call 97; refine (HCLO.out _ (H1.out.below (pw_below_drewN (Below.refl _ _) 2)) (belowS_drew (belowS_drew HBB.out)) (HKP.out.trans (KeptG.of_below (pw_below_drewN (Below.refl _ _) 2)))).mono ?_; rintro e w2 ⟨r, rfl, hR⟩; have HR := Aside0.mk hR; clear hR)
  go_ret
  exact ⟨r, rfl, HR.out⟩

end
end Go.Proofs.Ytcgeioingikeeaa.P
namespace Go.Proofs.Ytcgeioingikeeaa.P
open Go.RowKit Go.Proofs.YtcgeioingikeeaaW.PrintWords Go.Proofs.YtcgeioingikeeaaW.PrintLast Go.Proofs.YtcgeioingikeeaaW.PrintMore
set_option linter.unusedVariables false
set_option linter.unusedSimpArgs false


/-- A captured variable that holds a store. -/
def VarP (w : World) (b g : Nat) : Prop := w.heap[b]? = some (.cells #[.pointer (some ⟨g, 0, none⟩)] 58 (0, 0))
theorem VarP.below {w w1 : World} {b g : Nat} (h : VarP w b g) (hb : Below w.heap.size w w1) : VarP w1 b g := blk_stays hb h
theorem VarP.cell {w : World} {b g : Nat} (h : VarP w b g) : w.cell? ⟨b, 0, none⟩ = some (.pointer (some ⟨g, 0, none⟩)) := by
  rw [cell_of_row w b 0 _ 58 (0, 0) h]; rfl
theorem blk_ne {w : World} {a b t u : Nat} {cs ds : Array Value} {f f' : Nat × Nat} (ha : w.heap[a]? = some (.cells cs t f)) (hb : w.heap[b]? = some (.cells ds u f')) (h : t ≠ u) : a ≠ b := fun he => by
  subst he
  rw [ha] at hb
  injection hb with hb
  injection hb with _ hb
  exact h hb
theorem blk_keptG {w w1 : World} {g b t : Nat} {cs : Array Value} {f : Nat × Nat} (h : w.heap[b]? = some (.cells cs t f)) (hk : KeptG g w w1) (hne : b ≠ g) : w1.heap[b]? = some (.cells cs t f) := (hk.2 b (blk_lt h) hne).trans h
section
variable {B : Nat → Prop} {g : Nat} {s : SSt} {w w1 : World} {mv sv pv : Value}
theorem RepAt.pend_ne (h : RepAt B g s w mv sv pv) : pv.ownBlock ≠ some g := fun he => by
  obtain ⟨_, hp, _⟩ := h.pend
  obtain ⟨cells, hc⟩ := own_typed hp g he
  rw [h.blk] at hc
  injection hc with hc
  injection hc with _ hc
  exact absurd hc (by decide)
theorem O_ne {v : Value} {xs : List S31} {ok : Nat → Prop} {b t : Nat} {cs : Array Value} {f : Nat × Nat} (h : O k31 31 w 0 ok v xs) (hb : w.heap[b]? = some (.cells cs t f)) (ht : t ≠ 31) : v.ownBlock ≠ some b := fun he => by
  obtain ⟨_, hp, _⟩ := h
  obtain ⟨cells, hc⟩ := own_typed hp b he
  rw [hb] at hc
  injection hc with hc
  injection hc with _ hc
  exact ht hc
/-- A cell of the store's block is written: the store then. -/
theorem RepAt.poke {s' : SSt} {sv' pv' mv' : Value} {cs : Array Value} (hg : B g) (hb : w.heap[g]? = some (.cells cs 106 (0, 0))) (hm : MapSays w B mv' s'.fails) (hv : Kd.V k38 38 w 0 (fun k => k ≠ g ∧ some k ≠ pv'.ownBlock) sv' s'.safe) (ho : O k31 31 w 0 (fun k => k ≠ g) pv' s'.pend)
    (hown : ∀ k, pv'.ownBlock = some k → B k) (j : Nat) (u : Value) (hcs : cs.setIfInBounds j u = #[mv', .int .i64 s'.crash, .int .i64 s'.calls, sv', pv', .int .i64 s'.quota, .int .i64 s'.peak, .bool s'.down]) : RepAt B g s' (w.setCell ⟨g, j, none⟩ u) mv' sv' pv' := by
  have hk : ∀ k, k < w.heap.size → k ≠ g → (w.setCell ⟨g, j, none⟩ u).heap[k]? = w.heap[k]? := fun k _ hk => Below.heap_setCell _ _ _ _ hk
  have hpg : pv'.ownBlock ≠ some g := fun he => by
    obtain ⟨_, hp, _⟩ := ho
    obtain ⟨cells, hc⟩ := own_typed hp g he
    rw [hb] at hc
    injection hc with hc
    injection hc with _ hc
    exact absurd hc (by decide)
  refine ⟨hg, ?_, hm.move ⟨_, _, _, hb⟩ hk, Kd.V_step hv (fun k h1 hlt => hk k hlt h1.1), O_step ho (fun k hlt h1 => hk k hlt (h1.elim id (fun he hg => hpg (by rw [he, hg])))), hown⟩
  rw [← hcs]
  exact blk_set hb j u
theorem RepAt.setSafe {v : Value} {l : List S38} (h : RepAt B g s w mv sv pv) (hv : Kd.V k38 38 w 0 (fun k => k ≠ g ∧ some k ≠ pv.ownBlock) v l) : RepAt B g { s with safe := l } (w.setCell ⟨g, 3, none⟩ v) mv v pv :=
  RepAt.poke (s' := { s with safe := l }) h.hg h.blk h.map hv h.pend h.own 3 v rfl
theorem RepAt.setPend {v : Value} {l : List S31} (h : RepAt B g s w mv sv pv) (ho : O k31 31 w1 0 (fun k => k ≠ g) v l) (hgr : w.grownBy w1 pv.ownBlock) (hat : v.ownBlock = pv.ownBlock ∨ ∃ b, v.ownBlock = some b ∧ w.heap.size ≤ b ∧ B b) : RepAt B g { s with pend := l } (w1.setCell ⟨g, 4, none⟩ v) mv sv v := by
  have hb : w1.heap[g]? = some (.cells #[mv, .int .i64 s.crash, .int .i64 s.calls, sv, pv, .int .i64 s.quota, .int .i64 s.peak, .bool s.down] 106 (0, 0)) := (hgr.block g (blk_lt h.blk) (fun he => h.pend_ne he.symm)).trans h.blk
  refine RepAt.poke (s' := { s with pend := l }) h.hg hb ?_ (Kd.V_after h.safe hgr (hat.imp id (fun ⟨b, h1, h2, _⟩ => ⟨b, h1, h2⟩))) ho (fun k hk => hat.elim (fun e => h.own k (e ▸ hk)) (fun ⟨b, e, _, hb⟩ => by rw [e] at hk; injection hk with hk; exact hk ▸ hb)) 4 v rfl
  rcases h.map with hm | ⟨b, n, D, h1, h2, h3, h4, h5⟩
  · exact .inl hm
  · refine .inr ⟨b, n, D, h1, h2, h3, ?_, h5⟩
    obtain ⟨es, clock, h6, h7⟩ := h4
    refine ⟨es, clock, (hgr.block b (blk_lt h6) (fun he => ?_)).trans h6, h7⟩
    obtain ⟨_, hp, _⟩ := h.pend
    obtain ⟨cells, hc⟩ := own_typed hp b he.symm
    rw [h6] at hc
    cases hc
/-- What is new is none of the store's. -/
theorem RepAt.fresh (h : RepAt B g s w mv sv pv) {k : Nat} (hk : w.heap.size ≤ k) : k ≠ g ∧ some k ≠ pv.ownBlock := by
  have hg := blk_lt h.blk
  refine ⟨by omega, fun he => ?_⟩
  obtain ⟨_, hp, _⟩ := h.pend
  have := own_lt hp k he.symm
  omega
theorem VarP.set {b j : Nat} {u : Value} {cs : Array Value} (h : VarP w b g) (hg : w.heap[g]? = some (.cells cs 106 (0, 0))) : VarP (w.setCell ⟨g, j, none⟩ u) b g :=
  (Below.heap_setCell _ _ _ _ (blk_ne h hg (by decide))).trans h
theorem VarS.set {b j : Nat} {u : Value} {cs : Array Value} {name : ByteArray} (h : VarS w b name) (hg : w.heap[g]? = some (.cells cs 106 (0, 0))) : VarS (w.setCell ⟨g, j, none⟩ u) b name :=
  (Below.heap_setCell _ _ _ _ (blk_ne h hg (by decide))).trans h
set_option maxHeartbeats 1000000 in
/-- store.owned: the closure, over a variable of its own. -/
theorem owned_calls (name : ByteArray) (w : World) : Calls Try.prog 76 #[.string name] w fun e w' => e = .returned (.func (.func 95) #[] #[.pointer (some ⟨w.heap.size, 0, none⟩)]) ∧ VarS w' w.heap.size name ∧ Below w.heap.size w w' := by
  have hv : VarS (w.alloc (Obj.cells #[.string name] 9)) w.heap.size name := heap_alloc_new _ _
  have HV := Aside0.mk hv
  clear hv
  go_enter Try.func76, Try.ntmps76
  go_wp2
  go_ret
  exact ⟨rfl, HV.out, below_alloc (Below.refl _ _) _⟩
/-- What Sync does, plainly. -/
def syncD (s : SSt) (name : ByteArray) : SSt := { s with safe := doneL (fun _ => -1) 0 s.safe (s.pend.filter fun x => !othW name x), pend := s.pend.filter fun x => !ownW name x }
def dropD (s : SSt) (name : ByteArray) : SSt := { s with safe := s.safe.filter fun x => !named name x, pend := s.pend.filter fun x => !ownW name x }
theorem rep_keepB (h : RepAt B g s w mv sv pv) (j : Nat) (u : Value) (hb : BelS B w w1) : BelS B w (w1.setCell ⟨g, j, none⟩ u) := belowB_set hb h.hg j u


set_option maxHeartbeats 8000000 in
set_option maxRecDepth 100000 in
/-- The closure of Drop. -/
theorem drop1_calls (name : ByteArray) (v0 : Value) (b0 b1 : Nat) (h : Rep B g s w) (hf : Fit s) (hBw : Up B w.heap.size) (hp : VarP w b0 g) (hn : VarS w b1 name) :
    Calls Try.prog 96 #[v0, .pointer (some ⟨b0, 0, none⟩), .pointer (some ⟨b1, 0, none⟩)] w fun e w' => ∃ r, e = .returned (.int .i64 r) ∧ r = 0 ∧ Rep B g (dropD s name) w' ∧ BelS B w w' := by
  obtain ⟨mv, sv, pv, h⟩ := h
  obtain ⟨As, cs, rfl⟩ := Kd.V_slice h.safe
  obtain ⟨Ap, cp, rfl⟩ := O_slice h.pend
  have hlen := hf.len
  go_enter Try.func96, Try.ntmps96
  go_wp2_with fail

  refine start_ (n := 10) (S := (fun w' => w'.cell? ⟨b0, 0, none⟩ = some (.pointer (some ⟨g, 0, none⟩)) ∧ w'.cell? ⟨b1, 0, none⟩ = some (.string name) ∧ w'.cell? ⟨g, 3, none⟩ = some (.slice As s.safe.length cs))) (ds := [9]) #[false, false, false, false, false, false, false, false, false, false] (by kernel_rfl) rfl rfl ⟨(hp.below (below_drew1 (Below.refl _ _))).cell, (hn.below (below_drew1 (Below.refl _ _))).cell, (h.below (below_drew1 (Below.refl _ _))).cells.2.2.2.1⟩ (fun hHeld => ?_)
  refine take_ (i := 0) (N := some 5) (v := ?_) (a' := ?_) #[true, false, false, false, false, false, false, false, false, false] rfl rfl (by kernel_rfl) (fun _ _ _ h => h) (Or.inl ⟨by rfl, ?_⟩) hHeld ?_ ?_
  rotate_left
  · rintro w' ⟨s0, s1, s2⟩
    go_simp
    with_reducible rfl
  rotate_left
  · simp only [Act.put, List.setIfInBounds_toArray, List.set_cons_zero, List.set_cons_succ, i64_w, i32_w]
    rfl
  refine take_ (i := 1) (N := some 6) (v := ?_) (a' := ?_) #[true, true, false, false, false, false, false, false, false, false] rfl rfl (by kernel_rfl) (fun _ _ _ h => h) (Or.inl ⟨by rfl, ?_⟩) hHeld ?_ ?_
  rotate_left
  · rintro w' ⟨s0, s1, s2⟩
    go_simp
    with_reducible rfl
  rotate_left
  · simp only [Act.put, List.setIfInBounds_toArray, List.set_cons_zero, List.set_cons_succ, i64_w, i32_w]
    rfl
  refine pure_ (i := 2) (N := some 7) (v := ?_) (a' := ?_) #[true, true, true, false, false, false, false, false, false, false] rfl rfl (by kernel_rfl) (fun _ _ _ h => h) (Or.inl ⟨by rfl, ?_⟩) ?_ ?_
  rotate_left
  · intro w'
    go_simp
    with_reducible rfl
  rotate_left
  · simp only [Act.put, List.setIfInBounds_toArray, List.set_cons_zero, List.set_cons_succ, i64_w, i32_w]
    rfl
  refine pure_ (i := 3) (N := some 8) (v := ?_) (a' := ?_) #[true, true, true, true, false, false, false, false, false, false] rfl rfl (by kernel_rfl) (fun _ _ _ h => h) (Or.inl ⟨by rfl, ?_⟩) ?_ ?_
  rotate_left
  · intro w'
    go_simp
    with_reducible rfl
  rotate_left
  · simp only [Act.put, List.setIfInBounds_toArray, List.set_cons_zero, List.set_cons_succ, i64_w, i32_w]
    rfl
  refine take_ (i := 4) (N := some 9) (v := ?_) (a' := ?_) #[true, true, true, true, true, false, false, false, false, false] rfl rfl (by kernel_rfl) (fun _ _ _ h => h) (Or.inl ⟨by rfl, ?_⟩) hHeld ?_ ?_
  rotate_left
  · rintro w' ⟨s0, s1, s2⟩
    go_simp
    with_reducible rfl
  rotate_left
  · simp only [Act.put, List.setIfInBounds_toArray, List.set_cons_zero, List.set_cons_succ, i64_w, i32_w]
    rfl
  refine take_ (i := 5) (N := some 10) (v := ?_) (a' := ?_) #[true, true, true, true, true, true, false, false, false, false] rfl rfl (by kernel_rfl) (fun _ _ _ h => h) (Or.inl ⟨by rfl, ?_⟩) hHeld ?_ ?_
  rotate_left
  · rintro w' ⟨s0, s1, s2⟩
    go_simp
    with_reducible rfl
  rotate_left
  · simp only [Act.put, List.setIfInBounds_toArray, List.set_cons_zero, List.set_cons_succ, i64_w, i32_w]
    rfl
  refine one_ (i := 6) (N := some 11) #[true, true, true, true, true, true, true, false, false, false] rfl rfl (by kernel_rfl) (by decide) (fun K hK => ?_)
  refine goes_ Try.func25 (by kernel_rfl) rfl #[.slice As s.safe.length cs, .string name] (by rfl) rfl rfl (by (try simp only [List.map_toArray, List.map_cons, List.map_nil]); first | done | rfl) ?_
  refine (files_Drop.calls (fun k => k ≠ g ∧ some k ≠ (Value.slice Ap s.pend.length cp).ownBlock) As cs s.safe name (s.safe.filter fun x => !named name x) _ (V_base (Kd.V_drew h.safe)) (by unfold files_Drop.f; rw [if_pos (by omega)])).mono ?_
  rintro e w5 ⟨v5, rfl, hV5, hb5⟩
  refine ⟨_, rfl, ?_⟩
  have hb05 : Below w.heap.size w w5 := below_step (below_drew1 (Below.refl _ _)) hb5
  refine hK.out _ _ ⟨(hp.below hb05).cell, (hn.below hb05).cell, (h.below hb05).cells.2.2.2.1⟩ (fun hHeld => ?_)
  have hR5 := h.below hb05
  clear hK K
  refine norm_ (a' := ?_) ?_ ?_
  rotate_left
  · show Act.put _ (some 11) _ = _
    simp only [Act.put, List.setIfInBounds_toArray, List.set_cons_zero, List.set_cons_succ, i64_w, i32_w]
    rfl
  refine pure_ (i := 7) (N := some 12) (v := ?_) (a' := ?_) #[true, true, true, true, true, true, true, true, false, false] rfl rfl (by kernel_rfl) (fun _ _ _ h => h) (Or.inl ⟨by rfl, ?_⟩) ?_ ?_
  rotate_left
  · intro w'
    go_simp
    with_reducible rfl
  rotate_left
  · simp only [Act.put, List.setIfInBounds_toArray, List.set_cons_zero, List.set_cons_succ, i64_w, i32_w]
    rfl
  refine pure_ (i := 8) (N := some 13) (v := ?_) (a' := ?_) #[true, true, true, true, true, true, true, true, true, false] rfl rfl (by kernel_rfl) (fun _ _ _ h => h) (Or.inl ⟨by rfl, ?_⟩) ?_ ?_
  rotate_left
  · intro w'
    go_simp
    with_reducible rfl
  rotate_left
  · simp only [Act.put, List.setIfInBounds_toArray, List.set_cons_zero, List.set_cons_succ, i64_w, i32_w]
    rfl
  refine last_ (i := 9) (N := none) #[true, true, true, true, true, true, true, true, true, true] rfl rfl (by kernel_rfl) (by decide) (fun K hK => ?_)
  have hfr := blk_frozen hR5.blk 3
  have hcl := hR5.cells.2.2.2.1
  obtain ⟨A5, c5, rfl⟩ := Kd.V_slice hV5
  refine skip_ (w1 := ?_) (by rfl) rfl ?_ ?_
  rotate_left
  · go_simp
    rfl
  refine hK.out _ _ ?_
  clear hK K
  refine done_ (by kernel_rfl) ?_
  have hv5 : Kd.V k38 38 w5 0 (fun k => k ≠ g ∧ some k ≠ (Value.slice Ap s.pend.length cp).ownBlock) (.slice A5 (s.safe.filter fun x => !named name x).length c5) (s.safe.filter fun x => !named name x) := V_base (Kd.V_mono hV5 (fun k hk => hk.elim id (fun hk => h.fresh hk)))
  have hR := hR5.setSafe hv5
  have hVP := (hp.below hb05).set (j := 3) (u := (.slice A5 (s.safe.filter fun x => !named name x).length c5)) hR5.blk
  have hVS := (hn.below hb05).set (j := 3) (u := (.slice A5 (s.safe.filter fun x => !named name x).length c5)) hR5.blk
  have hBB : BelS B w (w5.setCell ⟨g, 3, none⟩ (.slice A5 (s.safe.filter fun x => !named name x).length c5)) := belowB_set (belowB_of hBw hb05) h.hg 3 _
  have hBW : Up B (w5.setCell ⟨g, 3, none⟩ (.slice A5 (s.safe.filter fun x => !named name x).length c5)).heap.size := Up.le hBw hBB.size
  have hPL : s.pend.length ≤ 1000001 := by omega
  go_wp2_with fail
  clear hfr hcl hHeld
  generalize w5.setCell ⟨g, 3, none⟩ (.slice A5 (s.safe.filter fun x => !named name x).length c5) = w6 at hR hVP hVS hBB hBW ⊢
  obtain ⟨s1, hs1⟩ : ∃ s1 : SSt, s1 = { s with safe := s.safe.filter fun x => !named name x } := ⟨_, rfl⟩
  rw [← hs1] at hR
  have hpl1 : s1.pend = s.pend := by rw [hs1]
  rw [← hpl1] at hPL
  refine start_ (n := 11) (S := (fun w' => w'.cell? ⟨b0, 0, none⟩ = some (.pointer (some ⟨g, 0, none⟩)) ∧ w'.cell? ⟨b1, 0, none⟩ = some (.string name) ∧ w'.cell? ⟨g, 4, none⟩ = some (.slice Ap s.pend.length cp))) (ds := [10]) #[false, false, false, false, false, false, false, false, false, false, false] (by kernel_rfl) rfl rfl ⟨(hVP.below (below_drew1 (Below.refl _ _))).cell, (hVS.below (below_drew1 (Below.refl _ _))).cell, (hR.below (below_drew1 (Below.refl _ _))).cells.2.2.2.2.1⟩ (fun hHeld => ?_)
  refine take_ (i := 0) (N := some 14) (v := ?_) (a' := ?_) #[true, false, false, false, false, false, false, false, false, false, false] rfl rfl (by kernel_rfl) (fun _ _ _ h => h) (Or.inl ⟨by rfl, ?_⟩) hHeld ?_ ?_
  rotate_left
  · rintro w' ⟨s0, s1, s2⟩
    go_simp
    with_reducible rfl
  rotate_left
  · simp only [Act.put, List.setIfInBounds_toArray, List.set_cons_zero, List.set_cons_succ, i64_w, i32_w]
    rfl
  refine take_ (i := 1) (N := some 15) (v := ?_) (a' := ?_) #[true, true, false, false, false, false, false, false, false, false, false] rfl rfl (by kernel_rfl) (fun _ _ _ h => h) (Or.inl ⟨by rfl, ?_⟩) hHeld ?_ ?_
  rotate_left
  · rintro w' ⟨s0, s1, s2⟩
    go_simp
    with_reducible rfl
  rotate_left
  · simp only [Act.put, List.setIfInBounds_toArray, List.set_cons_zero, List.set_cons_succ, i64_w, i32_w]
    rfl
  refine pure_ (i := 2) (N := some 16) (v := ?_) (a' := ?_) #[true, true, true, false, false, false, false, false, false, false, false] rfl rfl (by kernel_rfl) (fun _ _ _ h => h) (Or.inl ⟨by rfl, ?_⟩) ?_ ?_
  rotate_left
  · intro w'
    go_simp
    with_reducible rfl
  rotate_left
  · simp only [Act.put, List.setIfInBounds_toArray, List.set_cons_zero, List.set_cons_succ, i64_w, i32_w]
    rfl
  refine pure_ (i := 3) (N := some 17) (v := ?_) (a' := ?_) #[true, true, true, true, false, false, false, false, false, false, false] rfl rfl (by kernel_rfl) (fun _ _ _ h => h) (Or.inl ⟨by rfl, ?_⟩) ?_ ?_
  rotate_left
  · intro w'
    go_simp
    with_reducible rfl
  rotate_left
  · simp only [Act.put, List.setIfInBounds_toArray, List.set_cons_zero, List.set_cons_succ, i64_w, i32_w]
    rfl
  refine take_ (i := 4) (N := some 18) (v := ?_) (a' := ?_) #[true, true, true, true, true, false, false, false, false, false, false] rfl rfl (by kernel_rfl) (fun _ _ _ h => h) (Or.inl ⟨by rfl, ?_⟩) hHeld ?_ ?_
  rotate_left
  · rintro w' ⟨s0, s1, s2⟩
    go_simp
    with_reducible rfl
  rotate_left
  · simp only [Act.put, List.setIfInBounds_toArray, List.set_cons_zero, List.set_cons_succ, i64_w, i32_w]
    rfl
  refine take_ (i := 5) (N := some 19) (v := ?_) (a' := ?_) #[true, true, true, true, true, true, false, false, false, false, false] rfl rfl (by kernel_rfl) (fun _ _ _ h => h) (Or.inl ⟨by rfl, ?_⟩) hHeld ?_ ?_
  rotate_left
  · rintro w' ⟨s0, s1, s2⟩
    go_simp
    with_reducible rfl
  rotate_left
  · simp only [Act.put, List.setIfInBounds_toArray, List.set_cons_zero, List.set_cons_succ, i64_w, i32_w]
    rfl
  refine one_ (i := 6) (N := some 20) #[true, true, true, true, true, true, true, false, false, false, false] rfl rfl (by kernel_rfl) (by decide) (fun K hK => ?_)
  refine goes_ Try.func76 (by kernel_rfl) rfl #[.string name] (by rfl) rfl rfl (by (try simp only [List.map_toArray, List.map_cons, List.map_nil]); first | done | rfl) ?_
  refine (owned_calls name _).mono ?_
  rintro e w8 ⟨rfl, hv8, hb8⟩
  refine ⟨_, rfl, ?_⟩
  refine hK.out _ _ ⟨(hVP.below (below_step (below_drew1 (Below.refl _ _)) hb8)).cell, (hVS.below (below_step (below_drew1 (Below.refl _ _)) hb8)).cell, (hR.below (below_step (below_drew1 (Below.refl _ _)) hb8)).cells.2.2.2.2.1⟩ (fun hHeld => ?_)
  have hR8 := hR.below (below_step (below_drew1 (Below.refl _ _)) hb8)
  have hB8 : BelS B w w8 := belowB_trans hBB (belowB_of hBW (below_step (below_drew1 (Below.refl _ _)) hb8))
  have hVP8 := hVP.below (below_step (below_drew1 (Below.refl _ _)) hb8)
  have hVS8 := hVS.below (below_step (below_drew1 (Below.refl _ _)) hb8)
  clear hK K
  refine norm_ (a' := ?_) ?_ ?_
  rotate_left
  · show Act.put _ (some 20) _ = _
    simp only [Act.put, List.setIfInBounds_toArray, List.set_cons_zero, List.set_cons_succ, i64_w, i32_w]
    rfl
  refine one_ (i := 7) (N := some 21) #[true, true, true, true, true, true, true, true, false, false, false] rfl rfl (by kernel_rfl) (by decide) (fun K hK => ?_)
  refine goes_ Try.func72 (by kernel_rfl) rfl #[.slice Ap s.pend.length cp, .func (.func 95) #[] #[.pointer (some ⟨w6.drew.heap.size, 0, none⟩)]] (by rfl) rfl rfl (by (try simp only [List.map_toArray, List.map_cons, List.map_nil]); first | done | rfl) ?_
  refine (delete_ownW (fun k => k ≠ g) 0 name _ (.slice Ap s.pend.length cp) s1.pend _ hR8.pend (Nat.zero_le _) hPL hv8).mono ?_
  rintro e w9 ⟨v9, rfl, hO9, hg9, ha9⟩
  refine ⟨_, rfl, ?_⟩
  have hP9 : ∀ b t (cs : Array Value) (f : Nat × Nat), w8.heap[b]? = some (Obj.cells cs t f) → t ≠ 31 → w9.heap[b]? = some (Obj.cells cs t f) := fun b t cs f hb ht => (hg9.block b (blk_lt hb) (fun he => O_ne hR8.pend hb ht he.symm)).trans hb
  refine hK.out _ _ ⟨VarP.cell (hP9 _ _ _ _ hVP8 (by decide)), VarS.cell (hP9 _ _ _ _ hVS8 (by decide)), by rw [cell_of_row w9 g _ _ 106 (0, 0) (hP9 _ _ _ _ hR8.blk (by decide))]; rfl⟩ (fun hHeld => ?_)
  have hR9 := hR8.setPend hO9 hg9 (.inl ha9)
  have hblk9 := hP9 _ _ _ _ hR8.blk (by decide)
  have hB9 : BelS B w w9 := belowB_trans hB8 ⟨hg9.os, hg9.tape, hg9.output, hg9.size, fun k hk hn => hg9.block k hk (fun he => hn (hR8.own k he.symm))⟩
  clear hK K
  refine norm_ (a' := ?_) ?_ ?_
  rotate_left
  · show Act.put _ (some 21) _ = _
    simp only [Act.put, List.setIfInBounds_toArray, List.set_cons_zero, List.set_cons_succ, i64_w, i32_w]
    rfl
  refine pure_ (i := 8) (N := some 22) (v := ?_) (a' := ?_) #[true, true, true, true, true, true, true, true, true, false, false] rfl rfl (by kernel_rfl) (fun _ _ _ h => h) (Or.inl ⟨by rfl, ?_⟩) ?_ ?_
  rotate_left
  · intro w'
    go_simp
    with_reducible rfl
  rotate_left
  · simp only [Act.put, List.setIfInBounds_toArray, List.set_cons_zero, List.set_cons_succ, i64_w, i32_w]
    rfl
  refine pure_ (i := 9) (N := some 23) (v := ?_) (a' := ?_) #[true, true, true, true, true, true, true, true, true, true, false] rfl rfl (by kernel_rfl) (fun _ _ _ h => h) (Or.inl ⟨by rfl, ?_⟩) ?_ ?_
  rotate_left
  · intro w'
    go_simp
    with_reducible rfl
  rotate_left
  · simp only [Act.put, List.setIfInBounds_toArray, List.set_cons_zero, List.set_cons_succ, i64_w, i32_w]
    rfl
  refine last_ (i := 10) (N := none) #[true, true, true, true, true, true, true, true, true, true, true] rfl rfl (by kernel_rfl) (by decide) (fun K hK => ?_)
  have hfr := blk_frozen hblk9 4
  have hcl : w9.cell? ⟨g, 4, none⟩ = some (.slice Ap s.pend.length cp) := by rw [cell_of_row w9 g _ _ 106 (0, 0) hblk9]; rfl
  obtain ⟨A9, c9, rfl⟩ := O_slice hO9
  refine skip_ (w1 := ?_) (by rfl) rfl ?_ ?_
  rotate_left
  · go_simp
    rfl
  refine hK.out _ _ ?_
  clear hK K
  refine done_ (by kernel_rfl) ?_
  have hgl := h.hg
  clear hfr hcl hHeld
  go_wp2_with fail
  all_goals go_ret
  exact ⟨0, rfl, rfl, ⟨mv, _, _, by rw [hs1] at hR9; exact hR9⟩, belowB_set hB9 hgl 4 _⟩


theorem not_oth (name : ByteArray) (x : S31) : (!othW name x) = ownW name x := by
  unfold othW ownW
  cases h : (x.f0.toList == name.toList) <;> simp [bne, h]
set_option maxHeartbeats 8000000 in
set_option maxRecDepth 100000 in
/-- The closure of Sync. -/
theorem sync1_calls (name : ByteArray) (v0 : Value) (b0 b1 : Nat) (h : Rep B g s w) (hf : Fit s) (hBw : Up B w.heap.size) (hp : VarP w b0 g) (hn : VarS w b1 name) :
    Calls Try.prog 70 #[v0, .pointer (some ⟨b0, 0, none⟩), .pointer (some ⟨b1, 0, none⟩)] w fun e w' => ∃ r, e = .returned (.int .i64 r) ∧ r = 0 ∧ Rep B g (syncD s name) w' ∧ BelS B w w' := by
  obtain ⟨mv, sv, pv, h⟩ := h
  obtain ⟨As, cs, rfl⟩ := Kd.V_slice h.safe
  obtain ⟨Ap, cp, rfl⟩ := O_slice h.pend
  have hlen := hf.len
  have hp0 := hp.cell
  have hcp := h.cells.2.2.2.2.1
  have HF := Aside0.mk hf
  clear hf
  go_enter Try.func70, Try.ntmps70
  go_wp2_with (first
    | (go_at_call 71; refine (cloneW (fun _ => True) Ap cp s.pend _ (Kd.F_mono (Kd.V_F (O_V h.pend)) (fun _ _ => trivial)) (by omega)).mono ?_; rintro e w1 ⟨v1, rfl, hO1, hb1⟩; have HO1 := Aside0.mk hO1; have HB1 := Aside0.mk hb1; clear hO1 hb1)
    | (go_at_call 72; refine (delete_othW (fun k => True ∧ k < w.heap.size) w.heap.size name b1 v1 s.pend _ HO1.out HB1.out.size (by omega) (hn.below HB1.out)).mono ?_; rintro e w2 ⟨v2, rfl, hO2, hg2, ha2⟩; obtain ⟨A2, c2, rfl⟩ := O_slice hO2; have HO2 := Aside0.mk hO2; have HB2 : Aside0 (Below w.heap.size w w2) := ⟨pw_below_grown HB1.out v1.ownBlock HB1.out.size hg2 (O_base HO1.out)⟩; clear hO2 hg2 ha2))
  have hb2 := HB2.out
  have hO2 := HO2.out
  have hR2 := h.below hb2
  have hp2 := hp.below hb2
  have hn2 := hn.below hb2
  have hfil : (s.pend.filter fun x => !othW name x).length ≤ s.pend.length := List.length_filter_le _ _
  have hBw2 : Up B w2.heap.size := Up.le hBw hb2.size
  clear hp0 hcp
  refine start_ (n := 10) (S := (fun w' => w'.cell? ⟨b0, 0, none⟩ = some (.pointer (some ⟨g, 0, none⟩)) ∧ w'.cell? ⟨b1, 0, none⟩ = some (.string name) ∧ w'.cell? ⟨g, 3, none⟩ = some (.slice As s.safe.length cs))) (ds := [9]) #[false, false, false, false, false, false, false, false, false, false] (by kernel_rfl) rfl rfl ⟨(hp2.below (below_drew1 (Below.refl _ _))).cell, (hn2.below (below_drew1 (Below.refl _ _))).cell, (hR2.below (below_drew1 (Below.refl _ _))).cells.2.2.2.1⟩ (fun hHeld => ?_)
  refine pure_ (i := 5) (N := some 19) (v := ?_) (a' := ?_) #[false, false, false, false, false, true, false, false, false, false] rfl rfl (by kernel_rfl) (fun _ _ _ h => h) (Or.inl ⟨by rfl, ?_⟩) ?_ ?_
  rotate_left
  · intro w'
    go_simp
    with_reducible rfl
  rotate_left
  · simp only [Act.put, List.setIfInBounds_toArray, List.set_cons_zero, List.set_cons_succ, i64_w, i32_w]
    rfl
  refine take_ (i := 0) (N := some 14) (v := ?_) (a' := ?_) #[true, false, false, false, false, true, false, false, false, false] rfl rfl (by kernel_rfl) (fun _ _ _ h => h) (Or.inl ⟨by rfl, ?_⟩) hHeld ?_ ?_
  rotate_left
  · rintro w' ⟨s0, s1, s2⟩
    go_simp
    with_reducible rfl
  rotate_left
  · simp only [Act.put, List.setIfInBounds_toArray, List.set_cons_zero, List.set_cons_succ, i64_w, i32_w]
    rfl
  refine take_ (i := 1) (N := some 15) (v := ?_) (a' := ?_) #[true, true, false, false, false, true, false, false, false, false] rfl rfl (by kernel_rfl) (fun _ _ _ h => h) (Or.inl ⟨by rfl, ?_⟩) hHeld ?_ ?_
  rotate_left
  · rintro w' ⟨s0, s1, s2⟩
    go_simp
    with_reducible rfl
  rotate_left
  · simp only [Act.put, List.setIfInBounds_toArray, List.set_cons_zero, List.set_cons_succ, i64_w, i32_w]
    rfl
  refine pure_ (i := 2) (N := some 16) (v := ?_) (a' := ?_) #[true, true, true, false, false, true, false, false, false, false] rfl rfl (by kernel_rfl) (fun _ _ _ h => h) (Or.inl ⟨by rfl, ?_⟩) ?_ ?_
  rotate_left
  · intro w'
    go_simp
    with_reducible rfl
  rotate_left
  · simp only [Act.put, List.setIfInBounds_toArray, List.set_cons_zero, List.set_cons_succ, i64_w, i32_w]
    rfl
  refine pure_ (i := 3) (N := some 17) (v := ?_) (a' := ?_) #[true, true, true, true, false, true, false, false, false, false] rfl rfl (by kernel_rfl) (fun _ _ _ h => h) (Or.inl ⟨by rfl, ?_⟩) ?_ ?_
  rotate_left
  · intro w'
    go_simp
    with_reducible rfl
  rotate_left
  · simp only [Act.put, List.setIfInBounds_toArray, List.set_cons_zero, List.set_cons_succ, i64_w, i32_w]
    rfl
  refine take_ (i := 4) (N := some 18) (v := ?_) (a' := ?_) #[true, true, true, true, true, true, false, false, false, false] rfl rfl (by kernel_rfl) (fun _ _ _ h => h) (Or.inl ⟨by rfl, ?_⟩) hHeld ?_ ?_
  rotate_left
  · rintro w' ⟨s0, s1, s2⟩
    go_simp
    with_reducible rfl
  rotate_left
  · simp only [Act.put, List.setIfInBounds_toArray, List.set_cons_zero, List.set_cons_succ, i64_w, i32_w]
    rfl
  refine one_ (i := 6) (N := some 20) #[true, true, true, true, true, true, true, false, false, false] rfl rfl (by kernel_rfl) (by decide) (fun K hK => ?_)
  refine goes_ Try.func74 (by kernel_rfl) rfl #[.slice As s.safe.length cs, .slice A2 (s.pend.filter fun x => !othW name x).length c2, .func (.func 75) #[] #[]] (by rfl) rfl rfl (by (try simp only [List.map_toArray, List.map_cons, List.map_nil]); first | done | rfl) ?_
  refine (done_all (fun k => k ≠ g ∧ some k ≠ (Value.slice Ap s.pend.length cp).ownBlock) As cs s.safe A2 c2 (s.pend.filter fun x => !othW name x) _ (V_base (Kd.V_drew hR2.safe)) (Kd.V_reads' (O_V (O_below hO2 (below_drew1 (Below.refl _ _))))).2.2 (Kd.V_reads' (O_V hO2)).2.1 (by omega) HF.out.safe (fun x hx => HF.out.pend x (List.mem_filter.1 hx).1)).mono ?_
  rintro e w5 ⟨v5, rfl, hV5, hb5⟩
  refine ⟨_, rfl, ?_⟩
  have hb25 : Below w2.heap.size w2 w5 := below_step (below_drew1 (Below.refl _ _)) hb5
  refine hK.out _ _ ⟨(hp2.below hb25).cell, (hn2.below hb25).cell, (hR2.below hb25).cells.2.2.2.1⟩ (fun hHeld => ?_)
  have hR5 := hR2.below hb25
  clear hK K
  refine norm_ (a' := ?_) ?_ ?_
  rotate_left
  · show Act.put _ (some 20) _ = _
    simp only [Act.put, List.setIfInBounds_toArray, List.set_cons_zero, List.set_cons_succ, i64_w, i32_w]
    rfl
  refine pure_ (i := 7) (N := some 21) (v := ?_) (a' := ?_) #[true, true, true, true, true, true, true, true, false, false] rfl rfl (by kernel_rfl) (fun _ _ _ h => h) (Or.inl ⟨by rfl, ?_⟩) ?_ ?_
  rotate_left
  · intro w'
    go_simp
    with_reducible rfl
  rotate_left
  · simp only [Act.put, List.setIfInBounds_toArray, List.set_cons_zero, List.set_cons_succ, i64_w, i32_w]
    rfl
  refine pure_ (i := 8) (N := some 22) (v := ?_) (a' := ?_) #[true, true, true, true, true, true, true, true, true, false] rfl rfl (by kernel_rfl) (fun _ _ _ h => h) (Or.inl ⟨by rfl, ?_⟩) ?_ ?_
  rotate_left
  · intro w'
    go_simp
    with_reducible rfl
  rotate_left
  · simp only [Act.put, List.setIfInBounds_toArray, List.set_cons_zero, List.set_cons_succ, i64_w, i32_w]
    rfl
  refine last_ (i := 9) (N := none) #[true, true, true, true, true, true, true, true, true, true] rfl rfl (by kernel_rfl) (by decide) (fun K hK => ?_)
  have hfr := blk_frozen hR5.blk 3
  have hcl := hR5.cells.2.2.2.1
  obtain ⟨A5, c5, rfl⟩ := Kd.V_slice hV5
  refine skip_ (w1 := ?_) (by rfl) rfl ?_ ?_
  rotate_left
  · go_simp
    rfl
  refine hK.out _ _ ?_
  clear hK K
  refine done_ (by kernel_rfl) ?_
  have hv5 : Kd.V k38 38 w5 0 (fun k => k ≠ g ∧ some k ≠ (Value.slice Ap s.pend.length cp).ownBlock) (.slice A5 (doneL (fun _ => -1) 0 s.safe (s.pend.filter fun x => !othW name x)).length c5) (doneL (fun _ => -1) 0 s.safe (s.pend.filter fun x => !othW name x)) := V_base (Kd.V_mono hV5 (fun k hk => hk.elim id (fun hk => hR2.fresh hk)))
  have hR := hR5.setSafe hv5
  have hVP := (hp2.below hb25).set (j := 3) (u := (.slice A5 (doneL (fun _ => -1) 0 s.safe (s.pend.filter fun x => !othW name x)).length c5)) hR5.blk
  have hVS := (hn2.below hb25).set (j := 3) (u := (.slice A5 (doneL (fun _ => -1) 0 s.safe (s.pend.filter fun x => !othW name x)).length c5)) hR5.blk
  have hBB : BelS B w (w5.setCell ⟨g, 3, none⟩ (.slice A5 (doneL (fun _ => -1) 0 s.safe (s.pend.filter fun x => !othW name x)).length c5)) := belowB_set (belowB_trans (belowB_of hBw hb2) (belowB_of hBw2 hb25)) h.hg 3 _
  have hBW : Up B (w5.setCell ⟨g, 3, none⟩ (.slice A5 (doneL (fun _ => -1) 0 s.safe (s.pend.filter fun x => !othW name x)).length c5)).heap.size := Up.le hBw hBB.size
  have hPL : s.pend.length ≤ 1000001 := by omega
  go_wp2_with fail
  clear hfr hcl hHeld
  generalize w5.setCell ⟨g, 3, none⟩ (.slice A5 (doneL (fun _ => -1) 0 s.safe (s.pend.filter fun x => !othW name x)).length c5) = w6 at hR hVP hVS hBB hBW ⊢
  obtain ⟨s1, hs1⟩ : ∃ s1 : SSt, s1 = { s with safe := (doneL (fun _ => -1) 0 s.safe (s.pend.filter fun x => !othW name x)) } := ⟨_, rfl⟩
  rw [← hs1] at hR
  have hpl1 : s1.pend = s.pend := by rw [hs1]
  rw [← hpl1] at hPL
  refine start_ (n := 11) (S := (fun w' => w'.cell? ⟨b0, 0, none⟩ = some (.pointer (some ⟨g, 0, none⟩)) ∧ w'.cell? ⟨b1, 0, none⟩ = some (.string name) ∧ w'.cell? ⟨g, 4, none⟩ = some (.slice Ap s.pend.length cp))) (ds := [10]) #[false, false, false, false, false, false, false, false, false, false, false] (by kernel_rfl) rfl rfl ⟨(hVP.below (below_drew1 (Below.refl _ _))).cell, (hVS.below (below_drew1 (Below.refl _ _))).cell, (hR.below (below_drew1 (Below.refl _ _))).cells.2.2.2.2.1⟩ (fun hHeld => ?_)
  refine take_ (i := 0) (N := some 23) (v := ?_) (a' := ?_) #[true, false, false, false, false, false, false, false, false, false, false] rfl rfl (by kernel_rfl) (fun _ _ _ h => h) (Or.inl ⟨by rfl, ?_⟩) hHeld ?_ ?_
  rotate_left
  · rintro w' ⟨s0, s1, s2⟩
    go_simp
    with_reducible rfl
  rotate_left
  · simp only [Act.put, List.setIfInBounds_toArray, List.set_cons_zero, List.set_cons_succ, i64_w, i32_w]
    rfl
  refine take_ (i := 1) (N := some 24) (v := ?_) (a' := ?_) #[true, true, false, false, false, false, false, false, false, false, false] rfl rfl (by kernel_rfl) (fun _ _ _ h => h) (Or.inl ⟨by rfl, ?_⟩) hHeld ?_ ?_
  rotate_left
  · rintro w' ⟨s0, s1, s2⟩
    go_simp
    with_reducible rfl
  rotate_left
  · simp only [Act.put, List.setIfInBounds_toArray, List.set_cons_zero, List.set_cons_succ, i64_w, i32_w]
    rfl
  refine pure_ (i := 2) (N := some 25) (v := ?_) (a' := ?_) #[true, true, true, false, false, false, false, false, false, false, false] rfl rfl (by kernel_rfl) (fun _ _ _ h => h) (Or.inl ⟨by rfl, ?_⟩) ?_ ?_
  rotate_left
  · intro w'
    go_simp
    with_reducible rfl
  rotate_left
  · simp only [Act.put, List.setIfInBounds_toArray, List.set_cons_zero, List.set_cons_succ, i64_w, i32_w]
    rfl
  refine pure_ (i := 3) (N := some 26) (v := ?_) (a' := ?_) #[true, true, true, true, false, false, false, false, false, false, false] rfl rfl (by kernel_rfl) (fun _ _ _ h => h) (Or.inl ⟨by rfl, ?_⟩) ?_ ?_
  rotate_left
  · intro w'
    go_simp
    with_reducible rfl
  rotate_left
  · simp only [Act.put, List.setIfInBounds_toArray, List.set_cons_zero, List.set_cons_succ, i64_w, i32_w]
    rfl
  refine take_ (i := 4) (N := some 27) (v := ?_) (a' := ?_) #[true, true, true, true, true, false, false, false, false, false, false] rfl rfl (by kernel_rfl) (fun _ _ _ h => h) (Or.inl ⟨by rfl, ?_⟩) hHeld ?_ ?_
  rotate_left
  · rintro w' ⟨s0, s1, s2⟩
    go_simp
    with_reducible rfl
  rotate_left
  · simp only [Act.put, List.setIfInBounds_toArray, List.set_cons_zero, List.set_cons_succ, i64_w, i32_w]
    rfl
  refine take_ (i := 5) (N := some 28) (v := ?_) (a' := ?_) #[true, true, true, true, true, true, false, false, false, false, false] rfl rfl (by kernel_rfl) (fun _ _ _ h => h) (Or.inl ⟨by rfl, ?_⟩) hHeld ?_ ?_
  rotate_left
  · rintro w' ⟨s0, s1, s2⟩
    go_simp
    with_reducible rfl
  rotate_left
  · simp only [Act.put, List.setIfInBounds_toArray, List.set_cons_zero, List.set_cons_succ, i64_w, i32_w]
    rfl
  refine one_ (i := 6) (N := some 29) #[true, true, true, true, true, true, true, false, false, false, false] rfl rfl (by kernel_rfl) (by decide) (fun K hK => ?_)
  refine goes_ Try.func76 (by kernel_rfl) rfl #[.string name] (by rfl) rfl rfl (by (try simp only [List.map_toArray, List.map_cons, List.map_nil]); first | done | rfl) ?_
  refine (owned_calls name _).mono ?_
  rintro e w8 ⟨rfl, hv8, hb8⟩
  refine ⟨_, rfl, ?_⟩
  refine hK.out _ _ ⟨(hVP.below (below_step (below_drew1 (Below.refl _ _)) hb8)).cell, (hVS.below (below_step (below_drew1 (Below.refl _ _)) hb8)).cell, (hR.below (below_step (below_drew1 (Below.refl _ _)) hb8)).cells.2.2.2.2.1⟩ (fun hHeld => ?_)
  have hR8 := hR.below (below_step (below_drew1 (Below.refl _ _)) hb8)
  have hB8 : BelS B w w8 := belowB_trans hBB (belowB_of hBW (below_step (below_drew1 (Below.refl _ _)) hb8))
  have hVP8 := hVP.below (below_step (below_drew1 (Below.refl _ _)) hb8)
  have hVS8 := hVS.below (below_step (below_drew1 (Below.refl _ _)) hb8)
  clear hK K
  refine norm_ (a' := ?_) ?_ ?_
  rotate_left
  · show Act.put _ (some 29) _ = _
    simp only [Act.put, List.setIfInBounds_toArray, List.set_cons_zero, List.set_cons_succ, i64_w, i32_w]
    rfl
  refine one_ (i := 7) (N := some 30) #[true, true, true, true, true, true, true, true, false, false, false] rfl rfl (by kernel_rfl) (by decide) (fun K hK => ?_)
  refine goes_ Try.func72 (by kernel_rfl) rfl #[.slice Ap s.pend.length cp, .func (.func 95) #[] #[.pointer (some ⟨w6.drew.heap.size, 0, none⟩)]] (by rfl) rfl rfl (by (try simp only [List.map_toArray, List.map_cons, List.map_nil]); first | done | rfl) ?_
  refine (delete_ownW (fun k => k ≠ g) 0 name _ (.slice Ap s.pend.length cp) s1.pend _ hR8.pend (Nat.zero_le _) hPL hv8).mono ?_
  rintro e w9 ⟨v9, rfl, hO9, hg9, ha9⟩
  refine ⟨_, rfl, ?_⟩
  have hP9 : ∀ b t (cs : Array Value) (f : Nat × Nat), w8.heap[b]? = some (Obj.cells cs t f) → t ≠ 31 → w9.heap[b]? = some (Obj.cells cs t f) := fun b t cs f hb ht => (hg9.block b (blk_lt hb) (fun he => O_ne hR8.pend hb ht he.symm)).trans hb
  refine hK.out _ _ ⟨VarP.cell (hP9 _ _ _ _ hVP8 (by decide)), VarS.cell (hP9 _ _ _ _ hVS8 (by decide)), by rw [cell_of_row w9 g _ _ 106 (0, 0) (hP9 _ _ _ _ hR8.blk (by decide))]; rfl⟩ (fun hHeld => ?_)
  have hR9 := hR8.setPend hO9 hg9 (.inl ha9)
  have hblk9 := hP9 _ _ _ _ hR8.blk (by decide)
  have hB9 : BelS B w w9 := belowB_trans hB8 ⟨hg9.os, hg9.tape, hg9.output, hg9.size, fun k hk hn => hg9.block k hk (fun he => hn (hR8.own k he.symm))⟩
  clear hK K
  refine norm_ (a' := ?_) ?_ ?_
  rotate_left
  · show Act.put _ (some 30) _ = _
    simp only [Act.put, List.setIfInBounds_toArray, List.set_cons_zero, List.set_cons_succ, i64_w, i32_w]
    rfl
  refine pure_ (i := 8) (N := some 31) (v := ?_) (a' := ?_) #[true, true, true, true, true, true, true, true, true, false, false] rfl rfl (by kernel_rfl) (fun _ _ _ h => h) (Or.inl ⟨by rfl, ?_⟩) ?_ ?_
  rotate_left
  · intro w'
    go_simp
    with_reducible rfl
  rotate_left
  · simp only [Act.put, List.setIfInBounds_toArray, List.set_cons_zero, List.set_cons_succ, i64_w, i32_w]
    rfl
  refine pure_ (i := 9) (N := some 32) (v := ?_) (a' := ?_) #[true, true, true, true, true, true, true, true, true, true, false] rfl rfl (by kernel_rfl) (fun _ _ _ h => h) (Or.inl ⟨by rfl, ?_⟩) ?_ ?_
  rotate_left
  · intro w'
    go_simp
    with_reducible rfl
  rotate_left
  · simp only [Act.put, List.setIfInBounds_toArray, List.set_cons_zero, List.set_cons_succ, i64_w, i32_w]
    rfl
  refine last_ (i := 10) (N := none) #[true, true, true, true, true, true, true, true, true, true, true] rfl rfl (by kernel_rfl) (by decide) (fun K hK => ?_)
  have hfr := blk_frozen hblk9 4
  have hcl : w9.cell? ⟨g, 4, none⟩ = some (.slice Ap s.pend.length cp) := by rw [cell_of_row w9 g _ _ 106 (0, 0) hblk9]; rfl
  obtain ⟨A9, c9, rfl⟩ := O_slice hO9
  refine skip_ (w1 := ?_) (by rfl) rfl ?_ ?_
  rotate_left
  · go_simp
    rfl
  refine hK.out _ _ ?_
  clear hK K
  refine done_ (by kernel_rfl) ?_
  have hgl := h.hg
  clear hfr hcl hHeld
  go_wp2_with fail
  all_goals go_ret
  exact ⟨0, rfl, rfl, ⟨mv, _, _, by rw [hs1] at hR9; exact hR9⟩, belowB_set hB9 hgl 4 _⟩

end
end Go.Proofs.Ytcgeioingikeeaa.P
namespace Go.Proofs.Ytcgeioingikeeaa.P
open Go.RowKit Go.Proofs.YtcgeioingikeeaaW.PrintWords Go.Proofs.YtcgeioingikeeaaW.PrintLast Go.Proofs.YtcgeioingikeeaaW.PrintMore
set_option linter.unusedVariables false
set_option linter.unusedSimpArgs false


/-- Files with one of another name. -/
def moveT (l : List S38) (a b : ByteArray) : List S38 := match l.find? (named a) with
  | some x => putL (l.filter fun y => !named a y) b x.f1
  | none => l
theorem move_f (l : List S38) (a b : ByteArray) (hl : l.length ≤ 1000000) (hd : okL l) : ∃ r, files_Move.f l a b = some (moveT l a b, r) := by
  unfold files_Move.f files_Get.f moveT
  rw [if_pos ⟨hl, fun x hx => by have := hd x hx; omega⟩]
  cases hf : l.find? (named a) with
  | none =>
    refine ⟨false, ?_⟩
    simp only [Option.bind_some]
    unfold slices_CloneF.f
    rw [if_neg (by simp), if_pos hl]
    rfl
  | some x =>
    refine ⟨true, ?_⟩
    have hx := hd x (List.mem_of_find?_eq_some hf)
    simp only [Option.bind_some]
    unfold files_Drop.f files_Put.f
    have h2 := List.length_filter_le (fun y => !named a y) l
    rw [if_pos trivial, if_pos hl, Option.bind_some, if_pos ⟨by omega, by omega⟩, Option.bind_some]
/-- A write of another name. -/
def renW (a b : ByteArray) (x : S31) : S31 := if ownW a x then { x with f0 := b } else x
/-- What Move does, plainly. -/
def moveD (s : SSt) (a b : ByteArray) : SSt := { s with safe := moveT (s.safe.filter fun x => !named b x) a b, pend := (s.pend.filter fun x => !ownW b x).map (renW a b) }
theorem set1of4 (cur : Array Value) (a : Nat) (v x y z : Value) (h : a + 4 ≤ cur.size) (h1 : cur[a + 1]? = some x) (h2 : cur[a + 2]? = some y) (h3 : cur[a + 3]? = some z) :
    cur.setIfInBounds a v = (cur.toList.take a ++ [v, x, y, z] ++ cur.toList.drop (a + [v, x, y, z].length)).toArray := by
  apply Array.ext'
  simp only [Array.toList_setIfInBounds]
  apply List.ext_getElem?
  intro k
  simp only [List.getElem?_set, List.length_set, Array.length_toList, List.append_assoc, List.getElem?_append, List.length_take, List.length_cons, List.length_nil, List.getElem?_take, List.getElem?_drop]
  rw [Nat.min_eq_left (by omega : a ≤ cur.size)]
  by_cases g1 : k < a
  · simp [g1, show ¬ a = k by omega]
  · by_cases g2 : k = a
    · subst g2; simp [show k < cur.size by omega]
    · by_cases g3 : k = a + 1
      · subst g3; simp [h1, show ¬ a + 1 < a by omega]
      · by_cases g4 : k = a + 2
        · subst g4; simp [h2, show ¬ a + 2 < a by omega]
        · by_cases g5 : k = a + 3
          · subst g5; simp [h3, show ¬ a + 3 < a by omega]
          · simp [g1, show ¬ a = k by omega, show ¬ k - a < 4 by omega, show a + 4 + (k - a - 4) = k by omega]
section
variable {B : Nat → Prop} {g : Nat} {s : SSt} {w w1 : World} {mv sv pv : Value}
/-- The row of writes is written, by its own block. -/
theorem RepAt.rowed {l : List S31} (h : RepAt B g s w mv sv pv) (ho : O k31 31 w1 0 (fun k => k ≠ g) pv l) (hgr : w.grownBy w1 pv.ownBlock) : RepAt B g { s with pend := l } w1 mv sv pv := by
  refine ⟨h.hg, (hgr.block g (blk_lt h.blk) (fun he => h.pend_ne he.symm)).trans h.blk, ?_, Kd.V_grown h.safe hgr (fun k hk => hk.2), ho, h.own⟩
  rcases h.map with hm | ⟨b, n, D, h1, h2, h3, h4, h5⟩
  · exact .inl hm
  · refine .inr ⟨b, n, D, h1, h2, h3, ?_, h5⟩
    obtain ⟨es, clock, h6, h7⟩ := h4
    refine ⟨es, clock, (hgr.block b (blk_lt h6) (fun he => ?_)).trans h6, h7⟩
    obtain ⟨_, hp, _⟩ := h.pend
    obtain ⟨cells, hc⟩ := own_typed hp b he.symm
    rw [h6] at hc
    cases hc
/-- One write of the row has another name now. -/
theorem RepAt.renamed {gp c : Nat} (h : RepAt B g s w mv sv (.slice (some ⟨gp, 0, none⟩) s.pend.length c)) (i : Nat) (hi : i < s.pend.length) (to_ : ByteArray) :
    RepAt B g { s with pend := s.pend.set i { (s.pend.getD i z31) with f0 := to_ } } (w.setCell ⟨gp, i * 4, none⟩ (.string to_)) mv sv (.slice (some ⟨gp, 0, none⟩) s.pend.length c) := by
  obtain ⟨A1, c1, hx0, hx1, hx2, hx3, hfk⟩ := O_at31 h.pend i hi
  obtain ⟨cur, hcur⟩ := O_block h.pend
  have hpos : 0 < s.pend.length := by omega
  obtain ⟨g', cap', cur', he, hg, hlt, hh, h3, h4, h5, hr⟩ := O_open h.pend hpos
  injection he with he1 he2 he3
  injection he1 with he1
  injection he1 with he1
  subst he1
  rw [hcur] at hh
  injection hh with hh
  injection hh with hh
  subst hh
  have hsz : cur.size = cap' * 4 := h5
  have hcell : ∀ j u, w.cell? ⟨gp, j, none⟩ = some u → cur[j]? = some u := fun j u hu => by rw [cell_of_row w gp j cur 31 (0, 0) hcur] at hu; exact hu
  have hset := set1of4 cur (i * 4) (.string to_) _ _ _ (by omega) (hcell _ _ hx1) (hcell _ _ hx2) (hcell _ _ hx3)
  have hblk := blk_set hcur (i * 4) (.string to_)
  rw [hset] at hblk
  have hx' : Kd.FK k31 w (fun k => k ≠ g ∧ k ≠ gp) { (s.pend.getD i z31) with f0 := to_ } [.string to_, .int .i64 (s.pend.getD i z31).f1, .int .i64 (s.pend.getD i z31).f2, .slice A1 (s.pend.getD i z31).f3.length c1] := by
    obtain ⟨A3, c3, he, hl3, hF⟩ := k31_openF hfk
    have e3 := Option.some.inj (show some (Value.slice A1 (s.pend.getD i z31).f3.length c1) = some (Value.slice A3 (s.pend.getD i z31).f3.length c3) from congrArg (fun l => l[3]?) he)
    injection e3 with e4 _ e5
    subst e4
    subst e5
    exact k31_mkF _ _ _ hl3 hF
  have hO := O_set (w1 := w.setCell ⟨gp, i * 4, none⟩ (.string to_)) h.pend i hi { (s.pend.getD i z31) with f0 := to_ } _ cur hcur hx' hblk (fun k _ hk => Below.heap_setCell _ _ _ _ hk)
  exact h.rowed hO ⟨rfl, rfl, rfl, by simp [World.setCell], fun k _ hk => Below.heap_setCell _ _ _ _ (fun he => hk (by rw [show k = gp from he]; rfl))⟩
theorem ren_step (a b : ByteArray) (l : List S31) (i : Nat) (hi : i < l.length) : ((l.take i).map (renW a b) ++ l.drop i).getD i z31 = l[i] ∧ ((l.take i).map (renW a b) ++ l.drop i).set i (renW a b l[i]) = (l.take (i + 1)).map (renW a b) ++ l.drop (i + 1) := by
  have hl : ((l.take i).map (renW a b)).length = i := by simp; omega
  constructor
  · rw [List.getD_eq_getElem?_getD, List.getElem?_append_right (by omega), hl, Nat.sub_self, List.getElem?_drop, Nat.add_zero, List.getElem?_eq_getElem hi]
    rfl
  · rw [List.set_append_right _ _ (by omega), hl, Nat.sub_self, List.drop_eq_getElem_cons hi, List.set_cons_zero, List.take_succ_eq_append_getElem hi, List.map_append, List.append_assoc]
    rfl
theorem O_shape {w : World} {base : Nat} {ok : Nat → Prop} {A : Option Addr} {n c : Nat} {xs : List S31} (h : O k31 31 w base ok (.slice A n c) xs) (hp : 0 < xs.length) : ∃ gp, A = some ⟨gp, 0, none⟩ := by
  obtain ⟨gp, cap, _, he, _⟩ := O_open h hp
  injection he with he1 _ _
  exact ⟨gp, he1⟩
theorem RepAt.renamedN {gp c n : Nat} (h : RepAt B g s w mv sv (.slice (some ⟨gp, 0, none⟩) n c)) (hn : s.pend.length = n) (i : Nat) (hi : i < n) (to_ : ByteArray) :
    RepAt B g { s with pend := s.pend.set i { (s.pend.getD i z31) with f0 := to_ } } (w.setCell ⟨gp, i * 4, none⟩ (.string to_)) mv sv (.slice (some ⟨gp, 0, none⟩) n c) := by
  subst hn
  exact h.renamed i hi to_
theorem ren_skip (a b : ByteArray) (l : List S31) (i : Nat) (hi : i < l.length) (h : ownW a l[i] = false) : (l.take i).map (renW a b) ++ l.drop i = (l.take (i + 1)).map (renW a b) ++ l.drop (i + 1) := by
  rw [← (ren_step a b l i hi).2]
  have hr : renW a b l[i] = ((l.take i).map (renW a b) ++ l.drop i).getD i z31 := by
    rw [(ren_step a b l i hi).1]
    unfold renW
    rw [h]
    rfl
  rw [hr, List.getD_eq_getElem?_getD]
  have hlt : i < ((l.take i).map (renW a b) ++ l.drop i).length := by simp; omega
  rw [List.getElem?_eq_getElem hlt]
  simp
set_option maxHeartbeats 4000000 in
set_option maxRecDepth 100000 in
/-- The closure of Move, at a name that may not be. -/
theorem move1_bad (from_ to_ : ByteArray) (v0 : Value) (b0 b1 b2 : Nat) (h0 : VarS w b0 to_) (hbad : to_.size < 1 ∨ 40 < to_.size) :
    Calls Try.prog 77 #[v0, .pointer (some ⟨b0, 0, none⟩), .pointer (some ⟨b1, 0, none⟩), .pointer (some ⟨b2, 0, none⟩)] w fun e w' => e = .returned (.int .i64 1) ∧ Below w.heap.size w w' := by
  have hc := h0.cell
  clear h0
  rcases hbad with hb | hb
  · have hb0 : to_.size = 0 := by omega
    clear hb
    go_enter Try.func77, Try.ntmps77
    go_wp2
    go_ret
    exact ⟨rfl, Below.refl _ _⟩
  · go_enter Try.func77, Try.ntmps77
    go_wp2
    go_ret
    exact ⟨rfl, Below.refl _ _⟩
set_option maxHeartbeats 4000000 in
set_option maxRecDepth 100000 in
/-- The closure of Move, at one name. -/
theorem move1_same (from_ to_ : ByteArray) (v0 : Value) (b0 b1 b2 : Nat) (h0 : VarS w b0 to_) (h1 : VarS w b1 from_) (hok : 1 ≤ to_.size ∧ to_.size ≤ 40) (he : (from_.toList == to_.toList) = true) :
    Calls Try.prog 77 #[v0, .pointer (some ⟨b0, 0, none⟩), .pointer (some ⟨b1, 0, none⟩), .pointer (some ⟨b2, 0, none⟩)] w fun e w' => e = .returned (.int .i64 0) ∧ Below w.heap.size w w' := by
  have hc := h0.cell
  have hc1 := h1.cell
  obtain ⟨ho1, ho2⟩ := hok
  clear h0 h1
  go_enter Try.func77, Try.ntmps77
  go_wp2
  go_ret
  exact ⟨rfl, Below.refl _ _⟩


set_option maxHeartbeats 16000000 in
set_option maxRecDepth 100000 in
/-- The closure of Move. -/
theorem move1_calls (from_ to_ : ByteArray) (v0 : Value) (b0 b1 b2 : Nat) (h : Rep B g s w) (hf : Fit s) (hBw : Up B w.heap.size) (h0 : VarS w b0 to_) (h1 : VarS w b1 from_) (hp : VarP w b2 g) (hok : 1 ≤ to_.size ∧ to_.size ≤ 40) (hne : (from_.toList == to_.toList) = false) :
    Calls Try.prog 77 #[v0, .pointer (some ⟨b0, 0, none⟩), .pointer (some ⟨b1, 0, none⟩), .pointer (some ⟨b2, 0, none⟩)] w fun e w' => ∃ r, e = .returned (.int .i64 r) ∧ r = 0 ∧ Rep B g (moveD s from_ to_) w' ∧ BelS B w w' := by
  obtain ⟨mv, sv, pv, h⟩ := h
  obtain ⟨As, cs, rfl⟩ := Kd.V_slice h.safe
  obtain ⟨Ap, cp, rfl⟩ := O_slice h.pend
  have hlen := hf.len
  have hc0 := h0.cell
  have hc1 := h1.cell
  obtain ⟨ho1, ho2⟩ := hok
  have hfl := List.length_filter_le (fun x => !named to_ x) s.safe
  obtain ⟨rm, hmv⟩ := move_f (s.safe.filter fun x => !named to_ x) from_ to_ (by omega) (fun x hx => hf.safe x (List.mem_filter.1 hx).1)
  obtain ⟨ml, hml⟩ : ∃ ml, ml = moveT (s.safe.filter fun x => !named to_ x) from_ to_ := ⟨_, rfl⟩
  rw [← hml] at hmv
  have HML := Aside0.mk hml
  have HMV := Aside0.mk hmv
  clear hml hmv
  go_enter Try.func77, Try.ntmps77
  go_wp2_with fail
  clear hc0 hc1 hne
  refine start_ (n := 16) (S := (fun w' => w'.cell? ⟨b2, 0, none⟩ = some (.pointer (some ⟨g, 0, none⟩)) ∧ w'.cell? ⟨b0, 0, none⟩ = some (.string to_) ∧ w'.cell? ⟨b1, 0, none⟩ = some (.string from_) ∧ w'.cell? ⟨g, 3, none⟩ = some (.slice As s.safe.length cs))) (ds := [15]) #[false, false, false, false, false, false, false, false, false, false, false, false, false, false, false, false] (by kernel_rfl) rfl rfl ⟨(hp.below (below_drew1 (Below.refl _ _))).cell, (h0.below (below_drew1 (Below.refl _ _))).cell, (h1.below (below_drew1 (Below.refl _ _))).cell, (h.below (below_drew1 (Below.refl _ _))).cells.2.2.2.1⟩ (fun hHeld => ?_)
  refine take_ (i := 0) (N := some 22) (v := ?_) (a' := ?_) #[true, false, false, false, false, false, false, false, false, false, false, false, false, false, false, false] rfl rfl (by kernel_rfl) (fun _ _ _ h => h) (Or.inl ⟨by rfl, ?_⟩) hHeld ?_ ?_
  rotate_left
  · rintro w' ⟨s0, s1, s2, s3⟩
    go_simp
    with_reducible rfl
  rotate_left
  · simp only [Act.put, List.setIfInBounds_toArray, List.set_cons_zero, List.set_cons_succ, i64_w, i32_w]
    rfl
  refine take_ (i := 1) (N := some 23) (v := ?_) (a' := ?_) #[true, true, false, false, false, false, false, false, false, false, false, false, false, false, false, false] rfl rfl (by kernel_rfl) (fun _ _ _ h => h) (Or.inl ⟨by rfl, ?_⟩) hHeld ?_ ?_
  rotate_left
  · rintro w' ⟨s0, s1, s2, s3⟩
    go_simp
    with_reducible rfl
  rotate_left
  · simp only [Act.put, List.setIfInBounds_toArray, List.set_cons_zero, List.set_cons_succ, i64_w, i32_w]
    rfl
  refine pure_ (i := 2) (N := some 24) (v := ?_) (a' := ?_) #[true, true, true, false, false, false, false, false, false, false, false, false, false, false, false, false] rfl rfl (by kernel_rfl) (fun _ _ _ h => h) (Or.inl ⟨by rfl, ?_⟩) ?_ ?_
  rotate_left
  · intro w'
    go_simp
    with_reducible rfl
  rotate_left
  · simp only [Act.put, List.setIfInBounds_toArray, List.set_cons_zero, List.set_cons_succ, i64_w, i32_w]
    rfl
  refine pure_ (i := 3) (N := some 25) (v := ?_) (a' := ?_) #[true, true, true, true, false, false, false, false, false, false, false, false, false, false, false, false] rfl rfl (by kernel_rfl) (fun _ _ _ h => h) (Or.inl ⟨by rfl, ?_⟩) ?_ ?_
  rotate_left
  · intro w'
    go_simp
    with_reducible rfl
  rotate_left
  · simp only [Act.put, List.setIfInBounds_toArray, List.set_cons_zero, List.set_cons_succ, i64_w, i32_w]
    rfl
  refine take_ (i := 4) (N := some 26) (v := ?_) (a' := ?_) #[true, true, true, true, true, false, false, false, false, false, false, false, false, false, false, false] rfl rfl (by kernel_rfl) (fun _ _ _ h => h) (Or.inl ⟨by rfl, ?_⟩) hHeld ?_ ?_
  rotate_left
  · rintro w' ⟨s0, s1, s2, s3⟩
    go_simp
    with_reducible rfl
  rotate_left
  · simp only [Act.put, List.setIfInBounds_toArray, List.set_cons_zero, List.set_cons_succ, i64_w, i32_w]
    rfl
  refine take_ (i := 5) (N := some 27) (v := ?_) (a' := ?_) #[true, true, true, true, true, true, false, false, false, false, false, false, false, false, false, false] rfl rfl (by kernel_rfl) (fun _ _ _ h => h) (Or.inl ⟨by rfl, ?_⟩) hHeld ?_ ?_
  rotate_left
  · rintro w' ⟨s0, s1, s2, s3⟩
    go_simp
    with_reducible rfl
  rotate_left
  · simp only [Act.put, List.setIfInBounds_toArray, List.set_cons_zero, List.set_cons_succ, i64_w, i32_w]
    rfl
  refine take_ (i := 7) (N := some 29) (v := ?_) (a' := ?_) #[true, true, true, true, true, true, false, true, false, false, false, false, false, false, false, false] rfl rfl (by kernel_rfl) (fun _ _ _ h => h) (Or.inl ⟨by rfl, ?_⟩) hHeld ?_ ?_
  rotate_left
  · rintro w' ⟨s0, s1, s2, s3⟩
    go_simp
    with_reducible rfl
  rotate_left
  · simp only [Act.put, List.setIfInBounds_toArray, List.set_cons_zero, List.set_cons_succ, i64_w, i32_w]
    rfl
  refine take_ (i := 8) (N := some 30) (v := ?_) (a' := ?_) #[true, true, true, true, true, true, false, true, true, false, false, false, false, false, false, false] rfl rfl (by kernel_rfl) (fun _ _ _ h => h) (Or.inl ⟨by rfl, ?_⟩) hHeld ?_ ?_
  rotate_left
  · rintro w' ⟨s0, s1, s2, s3⟩
    go_simp
    with_reducible rfl
  rotate_left
  · simp only [Act.put, List.setIfInBounds_toArray, List.set_cons_zero, List.set_cons_succ, i64_w, i32_w]
    rfl
  refine one_ (i := 6) (N := some 28) #[true, true, true, true, true, true, true, true, true, false, false, false, false, false, false, false] rfl rfl (by kernel_rfl) (by decide) (fun K hK => ?_)
  refine goes_ Try.func25 (by kernel_rfl) rfl #[.slice As s.safe.length cs, .string to_] (by rfl) rfl rfl (by (try simp only [List.map_toArray, List.map_cons, List.map_nil]); first | done | rfl) ?_
  refine (files_Drop.calls (fun k => k ≠ g ∧ some k ≠ (Value.slice Ap s.pend.length cp).ownBlock) As cs s.safe to_ (s.safe.filter fun x => !named to_ x) _ (V_base (Kd.V_drew h.safe)) (by unfold files_Drop.f; rw [if_pos (by omega)])).mono ?_
  rintro e w3 ⟨v3, rfl, hV3, hb3⟩
  obtain ⟨A3, c3, rfl⟩ := Kd.V_slice hV3
  refine ⟨_, rfl, ?_⟩
  have hb03 : Below w.heap.size w w3 := below_step (below_drew1 (Below.refl _ _)) hb3
  refine hK.out _ _ ⟨(hp.below hb03).cell, (h0.below hb03).cell, (h1.below hb03).cell, (h.below hb03).cells.2.2.2.1⟩ (fun hHeld => ?_)
  clear hK K
  refine norm_ (a' := ?_) ?_ ?_
  rotate_left
  · show Act.put _ (some 28) _ = _
    simp only [Act.put, List.setIfInBounds_toArray, List.set_cons_zero, List.set_cons_succ, i64_w, i32_w]
    rfl
  refine one_ (i := 9) (N := some 31) #[true, true, true, true, true, true, true, true, true, true, false, false, false, false, false, false] rfl rfl (by kernel_rfl) (by decide) (fun K hK => ?_)
  refine goes_ Try.func21 (by kernel_rfl) rfl #[.slice A3 (s.safe.filter fun x => !named to_ x).length c3, .string from_, .string to_] (by rfl) rfl rfl (by (try simp only [List.map_toArray, List.map_cons, List.map_nil]); first | done | rfl) ?_
  refine (files_Move.calls (fun k => k ≠ g ∧ some k ≠ (Value.slice Ap s.pend.length cp).ownBlock) A3 c3 (s.safe.filter fun x => !named to_ x) from_ to_ ml rm _ (V_base (Kd.V_mono hV3 (fun k hk => hk.elim id (fun hk => h.fresh hk)))) HMV.out).mono ?_
  rintro e w5 ⟨v5, rfl, hV5, hb5⟩
  refine ⟨_, rfl, ?_⟩
  have hb05 : Below w.heap.size w w5 := below_step hb03 hb5
  refine hK.out _ _ ⟨(hp.below hb05).cell, (h0.below hb05).cell, (h1.below hb05).cell, (h.below hb05).cells.2.2.2.1⟩ (fun hHeld => ?_)
  have hR5 := h.below hb05
  clear hK K
  refine norm_ (a' := ?_) ?_ ?_
  rotate_left
  · show Act.put _ (some 31) _ = _
    simp only [Act.put, List.setIfInBounds_toArray, List.set_cons_zero, List.set_cons_succ, i64_w, i32_w]
    rfl
  refine pure_ (i := 10) (N := some 21) (v := ?_) (a' := ?_) #[true, true, true, true, true, true, true, true, true, true, true, false, false, false, false, false] rfl rfl (by kernel_rfl) (fun _ _ _ h => h) (Or.inl ⟨by rfl, ?_⟩) ?_ ?_
  rotate_left
  · intro w'
    go_simp
    with_reducible rfl
  rotate_left
  · simp only [Act.put, List.setIfInBounds_toArray, List.set_cons_zero, List.set_cons_succ, i64_w, i32_w]
    rfl
  refine pure_ (i := 11) (N := some 32) (v := ?_) (a' := ?_) #[true, true, true, true, true, true, true, true, true, true, true, true, false, false, false, false] rfl rfl (by kernel_rfl) (fun _ _ _ h => h) (Or.inl ⟨by rfl, ?_⟩) ?_ ?_
  rotate_left
  · intro w'
    go_simp
    with_reducible rfl
  rotate_left
  · simp only [Act.put, List.setIfInBounds_toArray, List.set_cons_zero, List.set_cons_succ, i64_w, i32_w]
    rfl
  refine pure_ (i := 12) (N := some 33) (v := ?_) (a' := ?_) #[true, true, true, true, true, true, true, true, true, true, true, true, true, false, false, false] rfl rfl (by kernel_rfl) (fun _ _ _ h => h) (Or.inl ⟨by rfl, ?_⟩) ?_ ?_
  rotate_left
  · intro w'
    go_simp
    with_reducible rfl
  rotate_left
  · simp only [Act.put, List.setIfInBounds_toArray, List.set_cons_zero, List.set_cons_succ, i64_w, i32_w]
    rfl
  refine pure_ (i := 13) (N := some 34) (v := ?_) (a' := ?_) #[true, true, true, true, true, true, true, true, true, true, true, true, true, true, false, false] rfl rfl (by kernel_rfl) (fun _ _ _ h => h) (Or.inl ⟨by rfl, ?_⟩) ?_ ?_
  rotate_left
  · intro w'
    go_simp
    with_reducible rfl
  rotate_left
  · simp only [Act.put, List.setIfInBounds_toArray, List.set_cons_zero, List.set_cons_succ, i64_w, i32_w]
    rfl
  refine pure_ (i := 14) (N := some 35) (v := ?_) (a' := ?_) #[true, true, true, true, true, true, true, true, true, true, true, true, true, true, true, false] rfl rfl (by kernel_rfl) (fun _ _ _ h => h) (Or.inl ⟨by rfl, ?_⟩) ?_ ?_
  rotate_left
  · intro w'
    go_simp
    with_reducible rfl
  rotate_left
  · simp only [Act.put, List.setIfInBounds_toArray, List.set_cons_zero, List.set_cons_succ, i64_w, i32_w]
    rfl
  refine last_ (i := 15) (N := none) #[true, true, true, true, true, true, true, true, true, true, true, true, true, true, true, true] rfl rfl (by kernel_rfl) (by decide) (fun K hK => ?_)
  have hfr := blk_frozen hR5.blk 3
  have hcl := hR5.cells.2.2.2.1
  obtain ⟨A5, c5, rfl⟩ := Kd.V_slice hV5
  refine skip_ (w1 := ?_) (by rfl) rfl ?_ ?_
  rotate_left
  · go_simp
    rfl
  refine hK.out _ _ ?_
  clear hK K
  refine done_ (by kernel_rfl) ?_
  have hv5 : Kd.V k38 38 w5 0 (fun k => k ≠ g ∧ some k ≠ (Value.slice Ap s.pend.length cp).ownBlock) (.slice A5 ml.length c5) ml := V_base (Kd.V_mono hV5 (fun k hk => hk.elim id (fun hk => h.fresh (Nat.le_trans hb03.size hk))))
  have hR := hR5.setSafe hv5
  have hVP := (hp.below hb05).set (j := 3) (u := (.slice A5 ml.length c5)) hR5.blk
  have hVS := (h0.below hb05).set (j := 3) (u := (.slice A5 ml.length c5)) hR5.blk
  have hVT := (h1.below hb05).set (j := 3) (u := (.slice A5 ml.length c5)) hR5.blk
  have hBB : BelS B w (w5.setCell ⟨g, 3, none⟩ (.slice A5 ml.length c5)) := belowB_set (belowB_of hBw hb05) h.hg 3 _
  have hBW : Up B (w5.setCell ⟨g, 3, none⟩ (.slice A5 ml.length c5)).heap.size := Up.le hBw hBB.size
  have hPL : s.pend.length ≤ 1000001 := by omega
  go_wp2_with fail
  clear hfr hcl hHeld
  generalize w5.setCell ⟨g, 3, none⟩ (.slice A5 ml.length c5) = w6 at hR hVP hVS hVT hBB hBW ⊢
  obtain ⟨s1, hs1⟩ : ∃ s1 : SSt, s1 = { s with safe := ml } := ⟨_, rfl⟩
  rw [← hs1] at hR
  have hpl1 : s1.pend = s.pend := by rw [hs1]
  rw [← hpl1] at hPL
  have HPL1 := Aside0.mk hpl1
  clear hpl1
  refine start_ (n := 11) (S := (fun w' => w'.cell? ⟨b2, 0, none⟩ = some (.pointer (some ⟨g, 0, none⟩)) ∧ w'.cell? ⟨b0, 0, none⟩ = some (.string to_) ∧ w'.cell? ⟨g, 4, none⟩ = some (.slice Ap s.pend.length cp))) (ds := [10]) #[false, false, false, false, false, false, false, false, false, false, false] (by kernel_rfl) rfl rfl ⟨(hVP.below (below_drew1 (Below.refl _ _))).cell, (hVS.below (below_drew1 (Below.refl _ _))).cell, (hR.below (below_drew1 (Below.refl _ _))).cells.2.2.2.2.1⟩ (fun hHeld => ?_)
  refine take_ (i := 0) (N := some 36) (v := ?_) (a' := ?_) #[true, false, false, false, false, false, false, false, false, false, false] rfl rfl (by kernel_rfl) (fun _ _ _ h => h) (Or.inl ⟨by rfl, ?_⟩) hHeld ?_ ?_
  rotate_left
  · rintro w' ⟨s0, s1, s2⟩
    go_simp
    with_reducible rfl
  rotate_left
  · simp only [Act.put, List.setIfInBounds_toArray, List.set_cons_zero, List.set_cons_succ, i64_w, i32_w]
    rfl
  refine take_ (i := 1) (N := some 37) (v := ?_) (a' := ?_) #[true, true, false, false, false, false, false, false, false, false, false] rfl rfl (by kernel_rfl) (fun _ _ _ h => h) (Or.inl ⟨by rfl, ?_⟩) hHeld ?_ ?_
  rotate_left
  · rintro w' ⟨s0, s1, s2⟩
    go_simp
    with_reducible rfl
  rotate_left
  · simp only [Act.put, List.setIfInBounds_toArray, List.set_cons_zero, List.set_cons_succ, i64_w, i32_w]
    rfl
  refine pure_ (i := 2) (N := some 38) (v := ?_) (a' := ?_) #[true, true, true, false, false, false, false, false, false, false, false] rfl rfl (by kernel_rfl) (fun _ _ _ h => h) (Or.inl ⟨by rfl, ?_⟩) ?_ ?_
  rotate_left
  · intro w'
    go_simp
    with_reducible rfl
  rotate_left
  · simp only [Act.put, List.setIfInBounds_toArray, List.set_cons_zero, List.set_cons_succ, i64_w, i32_w]
    rfl
  refine pure_ (i := 3) (N := some 39) (v := ?_) (a' := ?_) #[true, true, true, true, false, false, false, false, false, false, false] rfl rfl (by kernel_rfl) (fun _ _ _ h => h) (Or.inl ⟨by rfl, ?_⟩) ?_ ?_
  rotate_left
  · intro w'
    go_simp
    with_reducible rfl
  rotate_left
  · simp only [Act.put, List.setIfInBounds_toArray, List.set_cons_zero, List.set_cons_succ, i64_w, i32_w]
    rfl
  refine take_ (i := 4) (N := some 40) (v := ?_) (a' := ?_) #[true, true, true, true, true, false, false, false, false, false, false] rfl rfl (by kernel_rfl) (fun _ _ _ h => h) (Or.inl ⟨by rfl, ?_⟩) hHeld ?_ ?_
  rotate_left
  · rintro w' ⟨s0, s1, s2⟩
    go_simp
    with_reducible rfl
  rotate_left
  · simp only [Act.put, List.setIfInBounds_toArray, List.set_cons_zero, List.set_cons_succ, i64_w, i32_w]
    rfl
  refine take_ (i := 5) (N := some 41) (v := ?_) (a' := ?_) #[true, true, true, true, true, true, false, false, false, false, false] rfl rfl (by kernel_rfl) (fun _ _ _ h => h) (Or.inl ⟨by rfl, ?_⟩) hHeld ?_ ?_
  rotate_left
  · rintro w' ⟨s0, s1, s2⟩
    go_simp
    with_reducible rfl
  rotate_left
  · simp only [Act.put, List.setIfInBounds_toArray, List.set_cons_zero, List.set_cons_succ, i64_w, i32_w]
    rfl
  refine one_ (i := 6) (N := some 42) #[true, true, true, true, true, true, true, false, false, false, false] rfl rfl (by kernel_rfl) (by decide) (fun K hK => ?_)
  refine goes_ Try.func76 (by kernel_rfl) rfl #[.string to_] (by rfl) rfl rfl (by (try simp only [List.map_toArray, List.map_cons, List.map_nil]); first | done | rfl) ?_
  refine (owned_calls to_ _).mono ?_
  rintro e w8 ⟨rfl, hv8, hb8⟩
  refine ⟨_, rfl, ?_⟩
  refine hK.out _ _ ⟨(hVP.below (below_step (below_drew1 (Below.refl _ _)) hb8)).cell, (hVS.below (below_step (below_drew1 (Below.refl _ _)) hb8)).cell, (hR.below (below_step (below_drew1 (Below.refl _ _)) hb8)).cells.2.2.2.2.1⟩ (fun hHeld => ?_)
  have hR8 := hR.below (below_step (below_drew1 (Below.refl _ _)) hb8)
  have hB8 : BelS B w w8 := belowB_trans hBB (belowB_of hBW (below_step (below_drew1 (Below.refl _ _)) hb8))
  have hVP8 := hVP.below (below_step (below_drew1 (Below.refl _ _)) hb8)
  have hVS8 := hVS.below (below_step (below_drew1 (Below.refl _ _)) hb8)
  clear hK K
  refine norm_ (a' := ?_) ?_ ?_
  rotate_left
  · show Act.put _ (some 42) _ = _
    simp only [Act.put, List.setIfInBounds_toArray, List.set_cons_zero, List.set_cons_succ, i64_w, i32_w]
    rfl
  refine one_ (i := 7) (N := some 43) #[true, true, true, true, true, true, true, true, false, false, false] rfl rfl (by kernel_rfl) (by decide) (fun K hK => ?_)
  refine goes_ Try.func72 (by kernel_rfl) rfl #[.slice Ap s.pend.length cp, .func (.func 95) #[] #[.pointer (some ⟨w6.drew.heap.size, 0, none⟩)]] (by rfl) rfl rfl (by (try simp only [List.map_toArray, List.map_cons, List.map_nil]); first | done | rfl) ?_
  refine (delete_ownW (fun k => k ≠ g) 0 to_ _ (.slice Ap s.pend.length cp) s1.pend _ hR8.pend (Nat.zero_le _) hPL hv8).mono ?_
  rintro e w9 ⟨v9, rfl, hO9, hg9, ha9⟩
  refine ⟨_, rfl, ?_⟩
  have hP9 : ∀ b t (cs : Array Value) (f : Nat × Nat), w8.heap[b]? = some (Obj.cells cs t f) → t ≠ 31 → w9.heap[b]? = some (Obj.cells cs t f) := fun b t cs f hb ht => (hg9.block b (blk_lt hb) (fun he => O_ne hR8.pend hb ht he.symm)).trans hb
  refine hK.out _ _ ⟨VarP.cell (hP9 _ _ _ _ hVP8 (by decide)), VarS.cell (hP9 _ _ _ _ hVS8 (by decide)), by rw [cell_of_row w9 g _ _ 106 (0, 0) (hP9 _ _ _ _ hR8.blk (by decide))]; rfl⟩ (fun hHeld => ?_)
  have hR9 := hR8.setPend hO9 hg9 (.inl ha9)
  have hblk9 := hP9 _ _ _ _ hR8.blk (by decide)
  have hB9 : BelS B w w9 := belowB_trans hB8 ⟨hg9.os, hg9.tape, hg9.output, hg9.size, fun k hk hn => hg9.block k hk (fun he => hn (hR8.own k he.symm))⟩
  clear hK K
  refine norm_ (a' := ?_) ?_ ?_
  rotate_left
  · show Act.put _ (some 43) _ = _
    simp only [Act.put, List.setIfInBounds_toArray, List.set_cons_zero, List.set_cons_succ, i64_w, i32_w]
    rfl
  refine pure_ (i := 8) (N := some 44) (v := ?_) (a' := ?_) #[true, true, true, true, true, true, true, true, true, false, false] rfl rfl (by kernel_rfl) (fun _ _ _ h => h) (Or.inl ⟨by rfl, ?_⟩) ?_ ?_
  rotate_left
  · intro w'
    go_simp
    with_reducible rfl
  rotate_left
  · simp only [Act.put, List.setIfInBounds_toArray, List.set_cons_zero, List.set_cons_succ, i64_w, i32_w]
    rfl
  refine pure_ (i := 9) (N := some 45) (v := ?_) (a' := ?_) #[true, true, true, true, true, true, true, true, true, true, false] rfl rfl (by kernel_rfl) (fun _ _ _ h => h) (Or.inl ⟨by rfl, ?_⟩) ?_ ?_
  rotate_left
  · intro w'
    go_simp
    with_reducible rfl
  rotate_left
  · simp only [Act.put, List.setIfInBounds_toArray, List.set_cons_zero, List.set_cons_succ, i64_w, i32_w]
    rfl
  refine last_ (i := 10) (N := none) #[true, true, true, true, true, true, true, true, true, true, true] rfl rfl (by kernel_rfl) (by decide) (fun K hK => ?_)
  have hfr := blk_frozen hblk9 4
  have hcl : w9.cell? ⟨g, 4, none⟩ = some (.slice Ap s.pend.length cp) := by rw [cell_of_row w9 g _ _ 106 (0, 0) hblk9]; rfl
  obtain ⟨A9, c9, rfl⟩ := O_slice hO9
  refine skip_ (w1 := ?_) (by rfl) rfl ?_ ?_
  rotate_left
  · go_simp
    rfl
  refine hK.out _ _ ?_
  clear hK K
  refine done_ (by kernel_rfl) ?_
  have hVT8 := hVT.below (below_step (below_drew1 (Below.refl _ _)) hb8)
  have hVP10 := VarP.set (j := 4) (u := (.slice A9 (s1.pend.filter fun x => !ownW to_ x).length c9)) (hP9 _ _ _ _ hVP8 (by decide)) hblk9
  have hVS10 := VarS.set (j := 4) (u := (.slice A9 (s1.pend.filter fun x => !ownW to_ x).length c9)) (hP9 _ _ _ _ hVS8 (by decide)) hblk9
  have hVT10 := VarS.set (j := 4) (u := (.slice A9 (s1.pend.filter fun x => !ownW to_ x).length c9)) (hP9 _ _ _ _ hVT8 (by decide)) hblk9
  have hB10 : BelS B w (w9.setCell ⟨g, 4, none⟩ (.slice A9 (s1.pend.filter fun x => !ownW to_ x).length c9)) := belowB_set hB9 h.hg 4 _
  obtain ⟨pl, hpl⟩ : ∃ pl, pl = s1.pend.filter fun x => !ownW to_ x := ⟨_, rfl⟩
  have hpll : pl.length ≤ 1000 := by
    have := List.length_filter_le (fun x => !ownW to_ x) s1.pend
    rw [hpl, HPL1.out] at *
    omega
  rw [← hpl] at hR9 hVP10 hVS10 hVT10 hB10 ⊢
  obtain ⟨s2, hs2⟩ : ∃ s2 : SSt, s2 = { s1 with pend := pl } := ⟨_, rfl⟩
  rw [← hs2] at hR9
  have hs2p : s2.pend = pl := by rw [hs2]
  have hcp10 := hR9.cells.2.2.2.2.1
  have hc210 := hVP10.cell
  have hc010 := hVS10.cell
  have hc110 := hVT10.cell
  have HPL := Aside0.mk hpl
  have HS2 := Aside0.mk hs2
  have HS2P := Aside0.mk hs2p
  have hzz : s.pend = s1.pend := HPL1.out.symm
  clear hfr hcl hHeld hs2p hpl hs2
  try rw [hzz]
  try rw [← HPL.out]
  clear hzz
  generalize w9.setCell ⟨g, 4, none⟩ (.slice A9 pl.length c9) = w10 at hR9 hVP10 hVS10 hVT10 hB10 hcp10 hc210 hc010 hc110 ⊢
  go_wp2_with fail
  have HPL2 := Aside0.mk hpll
  have HS1 := Aside0.mk hs1
  have HB0 := Aside0.mk h.hg
  clear hpll hHeld h0 h1 hp h hf hfl hb3 hV3 hb03 hb5 hb05 hR5 hV5 hv5 hVP hVS hVT hBB hBW hPL hR hs1 hv8 hb8 hR8 hB8 hVP8 hVS8 hg9 hP9 hblk9 hB9 hO9 ha9 hVT8 hlen
  go_loopg [51] pl.length (fun kq v51 w' => ∃ (i : Nat) (cur : List S31), v51 = .int .i64 i ∧ i + kq = pl.length ∧ Aside0 (cur.length = pl.length) ∧ Aside0 (cur = (pl.take i).map (renW from_ to_) ++ pl.drop i) ∧ Aside0 (RepAt B g { s2 with pend := cur } w' mv (.slice A5 ml.length c5) (.slice A9 pl.length c9)) ∧ Aside0 (VarP w' b2 g) ∧ Aside0 (VarS w' b0 to_) ∧ Aside0 (VarS w' b1 from_) ∧ Aside0 (BelS B w w'))
  case atStart => exact ⟨0, pl, rfl, by omega, ⟨rfl⟩, ⟨by simp⟩, ⟨by have h2 := hR9; rw [show ({ s2 with pend := pl } : SSt) = s2 from by rw [HS2.out]]; exact h2⟩, ⟨hVP10⟩, ⟨hVS10⟩, ⟨hVT10⟩, ⟨hB10⟩⟩
  case round =>
    clear hR9 hVP10 hVS10 hVT10 hB10 hcp10 hc210 hc010 hc110
    obtain ⟨i, cur, rfl, hi, HCL, HC, HR, HVP, HVS, HVT, HB⟩ := hrel
    have hpll := HPL2.out
    by_cases hlt : i < pl.length
    · obtain ⟨k1, rfl⟩ : ∃ k1, gk = k1 + 1 := ⟨gk - 1, by omega⟩
      have hcl2 := HCL.out
      obtain ⟨gp, rfl⟩ := O_shape HR.out.pend (by show 0 < cur.length; omega)
      obtain ⟨A1, c1, hx0, hx1, hx2, hx3, hfk⟩ := O_at31 HR.out.pend i (by show i < cur.length; omega)
      have hxp : cur.getD i z31 = pl[i] := by rw [HC.out]; exact (ren_step from_ to_ pl i hlt).1
      obtain ⟨x, hxe⟩ : ∃ x, pl[i] = x := ⟨_, rfl⟩
      rw [hxe] at hxp
      have hxp2 : ({ s2 with pend := cur } : SSt).pend.getD i z31 = x := hxp
      rw [hxp2] at hx0 hx1 hx2 hx3
      have HXE := Aside0.mk hxe
      have HXP := Aside0.mk hxp
      have hR12 := HR.out.below (below_alloc (Below.refl _ _) (Obj.cells #[.string x.f0, .int .i64 x.f1, .int .i64 x.f2, .slice A1 x.f3.length c1] 31))
      have hVP12 := HVP.out.below (below_alloc (Below.refl _ _) (Obj.cells #[.string x.f0, .int .i64 x.f1, .int .i64 x.f2, .slice A1 x.f3.length c1] 31))
      have hVS12 := HVS.out.below (below_alloc (Below.refl _ _) (Obj.cells #[.string x.f0, .int .i64 x.f1, .int .i64 x.f2, .slice A1 x.f3.length c1] 31))
      have hVT12 := HVT.out.below (below_alloc (Below.refl _ _) (Obj.cells #[.string x.f0, .int .i64 x.f1, .int .i64 x.f2, .slice A1 x.f3.length c1] 31))
      have hB12 : BelS B w (wr.alloc (Obj.cells #[.string x.f0, .int .i64 x.f1, .int .i64 x.f2, .slice A1 x.f3.length c1] 31)) := belowB_trans HB.out (belowB_of (Up.le hBw HB.out.size) (below_alloc (Below.refl _ _) _))
      have hc112 := hVT12.cell
      have HR12 := Aside0.mk hR12
      have HVP12 := Aside0.mk hVP12
      have HVS12 := Aside0.mk hVS12
      have HVT12 := Aside0.mk hVT12
      have HB12 := Aside0.mk hB12
      clear hfk hxp hxp2 hxe hcl2 hR12 hVP12 hVS12 hVT12 hB12
      cases hown : ownW from_ x
      · have hp' : (x.f0.toList == from_.toList) = false := hown
        have HOW := Aside0.mk hown
        clear hown
        go_wp2_with fail
        go_roundg k1
        case measure => omega
        case rel => exact ⟨i + 1, cur, by go_num, by omega, HCL, ⟨by rw [HC.out]; exact ren_skip from_ to_ pl i hlt (by rw [HXE.out]; exact HOW.out)⟩, HR12, HVP12, HVS12, HVT12, HB12⟩
      · have hp' : (x.f0.toList == from_.toList) = true := hown
        have HOW := Aside0.mk hown
        clear hown
        go_wp2_with fail
        have hR12 := HR12.out
        have hVP12 := HVP12.out
        have hVS12 := HVS12.out
        have hVT12 := HVT12.out
        have hB12 := HB12.out
        clear hx0 hx1 hx2 hx3 hc112 hp'
        generalize wr.alloc (Obj.cells #[.string x.f0, .int .i64 x.f1, .int .i64 x.f2, .slice A1 x.f3.length c1] 31) = w12 at hR12 hVP12 hVS12 hVT12 hB12 HR12 HVP12 HVS12 HVT12 HB12 ⊢
        have hi0 : (0 : Int) ≤ (i : Int) := by omega
        have hi1 : (i : Int) < (pl.length : Int) := by omega

        refine start_ (n := 9) (S := (fun w' => w'.cell? ⟨b2, 0, none⟩ = some (.pointer (some ⟨g, 0, none⟩)) ∧ w'.cell? ⟨b0, 0, none⟩ = some (.string to_) ∧ w'.cell? ⟨g, 4, none⟩ = some (.slice (some ⟨gp, 0, none⟩) pl.length c9))) (ds := [8]) #[false, false, false, false, false, false, false, false, false] (by kernel_rfl) rfl rfl ⟨(hVP12.below (below_drew1 (Below.refl _ _))).cell, (hVS12.below (below_drew1 (Below.refl _ _))).cell, (hR12.below (below_drew1 (Below.refl _ _))).cells.2.2.2.2.1⟩ (fun hHeld => ?_)
        refine pure_ (i := 4) (N := some 64) (v := ?_) (a' := ?_) #[false, false, false, false, true, false, false, false, false] rfl rfl (by kernel_rfl) (fun _ _ _ h => h) (Or.inl ⟨by rfl, ?_⟩) ?_ ?_
        rotate_left
        · intro w'
          go_simp
          with_reducible rfl
        rotate_left
        · simp only [Act.put, List.setIfInBounds_toArray, List.set_cons_zero, List.set_cons_succ, i64_w, i32_w]
          rfl
        refine take_ (i := 0) (N := some 60) (v := ?_) (a' := ?_) #[true, false, false, false, true, false, false, false, false] rfl rfl (by kernel_rfl) (fun _ _ _ h => h) (Or.inl ⟨by rfl, ?_⟩) hHeld ?_ ?_
        rotate_left
        · rintro w' ⟨s0, s1, s2⟩
          go_simp
          with_reducible rfl
        rotate_left
        · simp only [Act.put, List.setIfInBounds_toArray, List.set_cons_zero, List.set_cons_succ, i64_w, i32_w]
          rfl
        refine pure_ (i := 1) (N := some 61) (v := ?_) (a' := ?_) #[true, true, false, false, true, false, false, false, false] rfl rfl (by kernel_rfl) (fun _ _ _ h => h) (Or.inl ⟨by rfl, ?_⟩) ?_ ?_
        rotate_left
        · intro w'
          go_simp
          with_reducible rfl
        rotate_left
        · simp only [Act.put, List.setIfInBounds_toArray, List.set_cons_zero, List.set_cons_succ, i64_w, i32_w]
          rfl
        refine pure_ (i := 2) (N := some 62) (v := ?_) (a' := ?_) #[true, true, true, false, true, false, false, false, false] rfl rfl (by kernel_rfl) (fun _ _ _ h => h) (Or.inl ⟨by rfl, ?_⟩) ?_ ?_
        rotate_left
        · intro w'
          go_simp
          with_reducible rfl
        rotate_left
        · simp only [Act.put, List.setIfInBounds_toArray, List.set_cons_zero, List.set_cons_succ, i64_w, i32_w]
          rfl
        refine take_ (i := 3) (N := some 63) (v := ?_) (a' := ?_) #[true, true, true, true, true, false, false, false, false] rfl rfl (by kernel_rfl) (fun _ _ _ h => h) (Or.inl ⟨by rfl, ?_⟩) hHeld ?_ ?_
        rotate_left
        · rintro w' ⟨s0, s1, s2⟩
          go_simp
          with_reducible rfl
        rotate_left
        · simp only [Act.put, List.setIfInBounds_toArray, List.set_cons_zero, List.set_cons_succ, i64_w, i32_w]
          rfl
        refine take_ (i := 5) (N := some 65) (v := ?_) (a' := ?_) #[true, true, true, true, true, true, false, false, false] rfl rfl (by kernel_rfl) (fun _ _ _ h => h) (Or.inl ⟨by rfl, ?_⟩) hHeld ?_ ?_
        rotate_left
        · rintro w' ⟨s0, s1, s2⟩
          go_simp
          with_reducible rfl
        rotate_left
        · simp only [Act.put, List.setIfInBounds_toArray, List.set_cons_zero, List.set_cons_succ, i64_w, i32_w]
          rfl
        refine pure_ (i := 6) (N := some 66) (v := ?_) (a' := ?_) #[true, true, true, true, true, true, true, false, false] rfl rfl (by kernel_rfl) (fun _ _ _ h => h) (Or.inl ⟨by rfl, ?_⟩) ?_ ?_
        rotate_left
        · intro w'
          go_simp
          with_reducible rfl
        rotate_left
        · simp only [Act.put, List.setIfInBounds_toArray, List.set_cons_zero, List.set_cons_succ, i64_w, i32_w]
          rfl
        refine pure_ (i := 7) (N := some 67) (v := ?_) (a' := ?_) #[true, true, true, true, true, true, true, true, false] rfl rfl (by kernel_rfl) (fun _ _ _ h => h) (Or.inl ⟨by rfl, ?_⟩) ?_ ?_
        rotate_left
        · intro w'
          go_simp
          with_reducible rfl
        rotate_left
        · simp only [Act.put, List.setIfInBounds_toArray, List.set_cons_zero, List.set_cons_succ, i64_w, i32_w]
          rfl
        refine last_ (i := 8) (N := none) #[true, true, true, true, true, true, true, true, true] rfl rfl (by kernel_rfl) (by decide) (fun K hK => ?_)
        have hR13 := hR12.below (below_drew1 (Below.refl _ _))
        have hcell := (O_at31 hR13.pend i (by show i < cur.length; have := HCL.out; omega)).choose_spec.choose_spec.1
        have hfr := blk_frozen (O_block hR13.pend).choose_spec (i * 4)
        refine skip_ (w1 := ?_) (by rfl) rfl ?_ ?_
        rotate_left
        · go_simp
          rfl
        refine hK.out _ _ ?_
        clear hK K
        refine done_ (by kernel_rfl) ?_
        have hgpb := (O_block hR12.pend).choose_spec
        have hR14 := (hR12.renamedN HCL.out i hlt to_).below (below_drew1 (Below.refl _ _))
        have hVP14 : VarP ((w12.setCell ⟨gp, i * 4, none⟩ (.string to_)).drew) b2 g := (Below.heap_setCell _ _ _ _ (blk_ne hVP12 hgpb (by decide))).trans hVP12
        have hVS14 : VarS ((w12.setCell ⟨gp, i * 4, none⟩ (.string to_)).drew) b0 to_ := (Below.heap_setCell _ _ _ _ (blk_ne hVS12 hgpb (by decide))).trans hVS12
        have hVT14 : VarS ((w12.setCell ⟨gp, i * 4, none⟩ (.string to_)).drew) b1 from_ := (Below.heap_setCell _ _ _ _ (blk_ne hVT12 hgpb (by decide))).trans hVT12
        have hB14 : BelS B w ((w12.setCell ⟨gp, i * 4, none⟩ (.string to_)).drew) := belowS_drew (belowB_set hB12 (hR12.own gp rfl) _ _)
        have hst := (ren_step from_ to_ pl i hlt).2
        have hcn : cur.set i { (cur.getD i z31) with f0 := to_ } = (pl.take (i + 1)).map (renW from_ to_) ++ pl.drop (i + 1) := by
          rw [← hst, ← HC.out, HXP.out, HXE.out]
          unfold renW
          rw [HOW.out]
          rfl
        have hlen2 : (cur.set i { (cur.getD i z31) with f0 := to_ }).length = pl.length := by rw [List.length_set]; exact HCL.out
        obtain ⟨cur2, hcur2⟩ : ∃ cur2, cur2 = cur.set i { (cur.getD i z31) with f0 := to_ } := ⟨_, rfl⟩
        have hR15 : RepAt B g { s2 with pend := cur2 } ((w12.setCell ⟨gp, i * 4, none⟩ (.string to_)).drew) mv (.slice A5 ml.length c5) (.slice (some ⟨gp, 0, none⟩) pl.length c9) := by rw [hcur2]; exact hR14
        rw [← hcur2] at hcn hlen2
        have HR15 := Aside0.mk hR15
        have HVP14 := Aside0.mk hVP14
        have HVS14 := Aside0.mk hVS14
        have HVT14 := Aside0.mk hVT14
        have HB14 := Aside0.mk hB14
        have HCN := Aside0.mk hcn
        have HLN := Aside0.mk hlen2
        clear hgpb hR14 hR15 hVP14 hVS14 hVT14 hB14 hst hcn hlen2 hcur2 hR12 hVP12 hVS12 hVT12 hB12 hHeld hR13 hcell hfr
        go_wp2_with fail
        go_roundg k1
        case measure => omega
        case rel => exact ⟨i + 1, cur2, by go_num, by omega, HLN, HCN, HR15, HVP14, HVS14, HVT14, HB14⟩
    · have hge : pl.length ≤ i := by omega
      have hend : { s2 with pend := cur } = moveD s from_ to_ := by
        rw [HC.out, List.take_of_length_le hge, List.drop_eq_nil_of_le hge, List.append_nil]
        unfold moveD
        rw [HS2.out, HPL.out, HS1.out, HML.out]
      have HEND := Aside0.mk hend
      clear hlt hend
      go_wp2_with fail
      all_goals go_ret
      exact ⟨0, rfl, rfl, ⟨mv, _, _, by rw [← HEND.out]; exact HR.out⟩, HB.out⟩
end
end Go.Proofs.Ytcgeioingikeeaa.P
namespace Go.Proofs.Ytcgeioingikeeaa.P
open Go.RowKit Go.Proofs.YtcgeioingikeeaaW.PrintWords Go.Proofs.YtcgeioingikeeaaW.PrintLast Go.Proofs.YtcgeioingikeeaaW.PrintMore
set_option linter.unusedVariables false
set_option linter.unusedSimpArgs false


/-- A file's bytes, and whether it is there. -/
def getT (l : List S38) (n : ByteArray) : List Int × Bool := match l.find? (named n) with | some x => (x.f1, true) | none => ([], false)
theorem get_f (l : List S38) (n : ByteArray) (hl : l.length ≤ 1000000) (hd : okL l) : files_Get.f l n = some ((getT l n).1, (getT l n).2) := by
  unfold files_Get.f getT
  rw [if_pos ⟨hl, fun x hx => by have := hd x hx; omega⟩]
  cases l.find? (named n) <;> rfl
theorem asked_files (s : SSt) : filesOf (asked s).1 = filesOf s := by
  unfold asked
  split
  · rfl
  · split
    · rfl
    · split <;> rfl
theorem asked_ok {s : SSt} (h : (asked s).2 = 0) : (asked s).1 = { s with calls := s.calls + 1 } := by
  unfold asked at h ⊢
  split at h
  · simp at h
  · rename_i h1
    rw [if_neg h1]
    split at h
    · simp at h
    · rename_i h2
      rw [if_neg h2]
      split at h
      · simp at h
      · rename_i h3
        rw [if_neg h3]
theorem files_ok {s : SSt} (h : Fit s) : okL (filesOf s) ∧ (filesOf s).length ≤ 1000 := by
  obtain ⟨h1, h2⟩ := doneL_ok (fun _ => -1) s.pend 0 s.safe h.safe
  exact ⟨h1, Nat.le_trans h2 h.len⟩
/-- A store within bounds, but for the number of calls. -/
structure Fit0 (s : SSt) : Prop where
  len : s.safe.length + s.pend.length ≤ 1000
  safe : okL s.safe
  pend : okW s.pend
theorem Fit.fit0 {s : SSt} (h : Fit s) : Fit0 s := ⟨h.len, h.safe, h.pend⟩
/-- A captured variable that holds a function. -/
def VarC (w : World) (b : Nat) (c : Value) : Prop := w.heap[b]? = some (.cells #[c] 113 (0, 0))
theorem VarC.below {w w1 : World} {b : Nat} {c : Value} (h : VarC w b c) (hb : Below w.heap.size w w1) : VarC w1 b c := blk_stays hb h
theorem VarC.cell {w : World} {b : Nat} {c : Value} (h : VarC w b c) : w.cell? ⟨b, 0, none⟩ = some c := by
  rw [cell_of_row w b 0 _ 113 (0, 0) h]; rfl
section
variable {B : Nat → Prop} {g : Nat} {s : SSt} {w : World} {name : ByteArray} {mv sv pv : Value}
/-- While the closure of 'of' runs. -/
structure OfS (B : Nat → Prop) (g : Nat) (s : SSt) (mv sv pv : Value) (name : ByteArray) (b0 b1 b2 : Nat) (c : Value) (w w' : World) : Prop where
  rep : RepAt B g s w' mv sv pv
  p : VarP w' b0 g
  n : VarS w' b1 name
  c : VarC w' b2 c
  below : Below w.heap.size w w'
theorem OfS.step {b0 b1 b2 : Nat} {c : Value} {u v : World} (h : OfS B g s mv sv pv name b0 b1 b2 c w u) (hb : Below u.heap.size u v) : OfS B g s mv sv pv name b0 b1 b2 c w v := ⟨h.rep.below hb, h.p.below hb, h.n.below hb, h.c.below hb, below_step h.below hb⟩
theorem OfS.all {b0 b1 b2 : Nat} {c : Value} {u : World} (h : OfS B g s mv sv pv name b0 b1 b2 c w u) : u.cell? ⟨b0, 0, none⟩ = some (.pointer (some ⟨g, 0, none⟩)) ∧ u.cell? ⟨b1, 0, none⟩ = some (.string name) ∧ OfS B g s mv sv pv name b0 b1 b2 c w u := ⟨h.p.cell, h.n.cell, h⟩


set_option maxHeartbeats 8000000 in
set_option maxRecDepth 100000 in
theorem of1_none (b0 b1 b2 : Nat) (c : Value) (h : RepAt B g s w mv sv pv) (hf : Fit s) (hp : VarP w b0 g) (hn : VarS w b1 name) (hc : VarC w b2 c) (hno : (getT (filesOf s) name).2 = false) :
    Calls Try.prog 93 #[.pointer (some ⟨b0, 0, none⟩), .pointer (some ⟨b1, 0, none⟩), .pointer (some ⟨b2, 0, none⟩)] w fun e w' => e = .returned (.int .i64 4) ∧ RepAt B g s w' mv sv pv ∧ Below w.heap.size w w' := by
  have hk0 : OfS B g s mv sv pv name b0 b1 b2 c w w := ⟨h, hp, hn, hc, Below.refl _ _⟩
  have HF := Aside0.mk hf
  obtain ⟨hfo, hfl⟩ := files_ok hf
  have HFO := Aside0.mk hfo
  have hge := get_f (filesOf s) name (by omega) hfo
  rw [hno] at hge
  have HGE := Aside0.mk hge
  clear h hp hn hc hf hfo hge
  go_enter Try.func93, Try.ntmps93
  go_wp2_with fail
  go_region_held3 (fun w' => w'.cell? ⟨b0, 0, none⟩ = some (.pointer (some ⟨g, 0, none⟩)) ∧ w'.cell? ⟨b1, 0, none⟩ = some (.string name) ∧ OfS B g s mv sv pv name b0 b1 b2 c w w')
    (first
      | exact (hk0.step (below_drew1 (Below.refl _ _))).all
      | (go_split_ands
         first
          | exact OfS.all (OfS.step (by assumption) hb6)
          | exact OfS.all (OfS.step (by assumption) hb5))
      | go_keep)
    (first
      | (go_split_ands; go_at_call 42; refine (files_calls ⟨mv, sv, pv, OfS.rep (by assumption)⟩ HF.out).mono ?_; rintro e w5 ⟨v5, rfl, hV5, hb5⟩; obtain ⟨A5, c5, rfl⟩ := Kd.V_slice hV5)
      | (go_split_ands
         go_at_call 28
         ((with_reducible refine (files_Get.calls A5 c5 (filesOf s) name (getT (filesOf s) name).1 false _ ?hs ?hc HGE.out).mono ?_); (case hs => exact (Kd.V_reads' hV5).2.2); (case hc => exact (Kd.V_reads' hV5).2.1))
         rintro e w6 ⟨v6, rfl, hV6, hb6⟩))
  have hfin : OfS B g s mv sv pv name b0 b1 b2 c w w6 := by go_split_ands; assumption
  have HFIN := Aside0.mk hfin
  clear hk0 hfin hV6 hV5 hb5 hb6
  go_wp2
  go_ret
  exact ⟨rfl, HFIN.out.rep, HFIN.out.below⟩


set_option maxHeartbeats 8000000 in
set_option maxRecDepth 100000 in
theorem of1_ok70 (b0 b1 b2 c0 c1 : Nat) (R : Int → World → Prop) (h : RepAt B g s w mv sv pv) (hf : Fit s) (hp : VarP w b0 g) (hn : VarS w b1 name) (hc : VarC w b2 (.func (.func 70) #[] #[.pointer (some ⟨c0, 0, none⟩), .pointer (some ⟨c1, 0, none⟩)])) (hok : (getT (filesOf s) name).2 = true)
    (hdo : ∀ w1 v, RepAt B g s w1 mv sv pv → Below w.heap.size w w1 → Kd.R (Kd.int .u8) 5 w1 w.heap.size (fun _ => True) v (getT (filesOf s) name).1 → Calls Try.prog 70 #[v, .pointer (some ⟨c0, 0, none⟩), .pointer (some ⟨c1, 0, none⟩)] w1 fun e w' => ∃ r, e = .returned (.int .i64 r) ∧ R r w') :
    Calls Try.prog 93 #[.pointer (some ⟨b0, 0, none⟩), .pointer (some ⟨b1, 0, none⟩), .pointer (some ⟨b2, 0, none⟩)] w fun e w' => ∃ r, e = .returned (.int .i64 r) ∧ R r w' := by
  have HDO := Aside0.mk hdo
  clear hdo
  have hk0 : OfS B g s mv sv pv name b0 b1 b2 (.func (.func 70) #[] #[.pointer (some ⟨c0, 0, none⟩), .pointer (some ⟨c1, 0, none⟩)]) w w := ⟨h, hp, hn, hc, Below.refl _ _⟩
  have HF := Aside0.mk hf
  obtain ⟨hfo, hfl⟩ := files_ok hf
  have HFO := Aside0.mk hfo
  have hge := get_f (filesOf s) name (by omega) hfo
  rw [hok] at hge
  have HGE := Aside0.mk hge
  clear h hp hn hc hf hfo hge
  go_enter Try.func93, Try.ntmps93
  go_wp2_with fail
  go_region_held3 (fun w' => w'.cell? ⟨b0, 0, none⟩ = some (.pointer (some ⟨g, 0, none⟩)) ∧ w'.cell? ⟨b1, 0, none⟩ = some (.string name) ∧ OfS B g s mv sv pv name b0 b1 b2 (.func (.func 70) #[] #[.pointer (some ⟨c0, 0, none⟩), .pointer (some ⟨c1, 0, none⟩)]) w w')
    (first
      | exact (hk0.step (below_drew1 (Below.refl _ _))).all
      | (go_split_ands
         first
          | exact OfS.all (OfS.step (by assumption) hb6)
          | exact OfS.all (OfS.step (by assumption) hb5))
      | go_keep)
    (first
      | (go_split_ands; go_at_call 42; refine (files_calls ⟨mv, sv, pv, OfS.rep (by assumption)⟩ HF.out).mono ?_; rintro e w5 ⟨v5, rfl, hV5, hb5⟩; obtain ⟨A5, c5, rfl⟩ := Kd.V_slice hV5)
      | (go_split_ands
         go_at_call 28
         ((with_reducible refine (files_Get.calls A5 c5 (filesOf s) name (getT (filesOf s) name).1 true _ ?hs ?hc HGE.out).mono ?_); (case hs => exact (Kd.V_reads' hV5).2.2); (case hc => exact (Kd.V_reads' hV5).2.1))
         rintro e w6 ⟨v6, rfl, hV6, hb6⟩))
  have hfin : OfS B g s mv sv pv name b0 b1 b2 (.func (.func 70) #[] #[.pointer (some ⟨c0, 0, none⟩), .pointer (some ⟨c1, 0, none⟩)]) w w6 := by go_split_ands; assumption
  have h5 : OfS B g s mv sv pv name b0 b1 b2 (.func (.func 70) #[] #[.pointer (some ⟨c0, 0, none⟩), .pointer (some ⟨c1, 0, none⟩)]) w w5 := by go_split_ands; assumption
  have hc6 := hfin.c.cell
  have HFIN := Aside0.mk hfin
  have HV6 := Aside0.mk (Kd.R_lower hV6 h5.below.size)
  clear hk0 hfin hV6 hV5 hb5 hb6 h5
  go_wp2_with (go_at_call 70; refine (HDO.out _ _ HFIN.out.rep HFIN.out.below HV6.out).mono ?_; rintro e w7 ⟨r, rfl, hR⟩; have HR := Aside0.mk hR; clear hR)
  go_ret
  exact ⟨r, rfl, HR.out⟩

set_option maxHeartbeats 8000000 in
set_option maxRecDepth 100000 in
theorem of_ok70 (c0 c1 : Nat) (R : Int → World → Prop) (h : RepAt B g s w mv sv pv) (hf : Fit s) (hf1 : Fit (asked s).1) (hBw : Up B w.heap.size) (ha : (asked s).2 = 0) (hok : (getT (filesOf s) name).2 = true)
    (hdo : ∀ w1 v, RepAt B g (asked s).1 w1 mv sv pv → BelS B w w1 → KeptG g w w1 → Kd.R (Kd.int .u8) 5 w1 w.heap.size (fun _ => True) v (getT (filesOf s) name).1 → Calls Try.prog 70 #[v, .pointer (some ⟨c0, 0, none⟩), .pointer (some ⟨c1, 0, none⟩)] w1 fun e w' => ∃ r, e = .returned (.int .i64 r) ∧ R r w') :
    Calls Try.prog 69 #[.pointer (some ⟨g, 0, none⟩), .string name, (.func (.func 70) #[] #[.pointer (some ⟨c0, 0, none⟩), .pointer (some ⟨c1, 0, none⟩)])] w fun e w' => ∃ r, e = .returned (.int .i64 r) ∧ R r w' := by
  have HDO := Aside0.mk hdo
  have H := Aside0.mk h
  have HF := Aside0.mk hf
  have HF1 := Aside0.mk hf1
  have HA := Aside0.mk ha
  have HOK := Aside0.mk hok
  clear h hf hf1 ha hok hdo
  obtain ⟨o0, ho0⟩ : ∃ o, o = Obj.cells #[.pointer (some ⟨g, 0, none⟩)] 58 := ⟨_, rfl⟩
  obtain ⟨o1, ho1⟩ : ∃ o, o = Obj.cells #[.string name] 9 := ⟨_, rfl⟩
  obtain ⟨o2, ho2⟩ : ∃ o, o = Obj.cells #[(.func (.func 70) #[] #[.pointer (some ⟨c0, 0, none⟩), .pointer (some ⟨c1, 0, none⟩)])] 113 := ⟨_, rfl⟩
  have hw3 : Below w.heap.size w (((w.alloc (Obj.cells #[.pointer (some ⟨g, 0, none⟩)] 58)).alloc (Obj.cells #[.string name] 9)).alloc (Obj.cells #[(.func (.func 70) #[] #[.pointer (some ⟨c0, 0, none⟩), .pointer (some ⟨c1, 0, none⟩)])] 113)) := below_alloc (below_alloc (below_alloc (Below.refl _ _) _) _) _
  have hp : VarP (((w.alloc (Obj.cells #[.pointer (some ⟨g, 0, none⟩)] 58)).alloc (Obj.cells #[.string name] 9)).alloc (Obj.cells #[(.func (.func 70) #[] #[.pointer (some ⟨c0, 0, none⟩), .pointer (some ⟨c1, 0, none⟩)])] 113)) w.heap.size g := blk_alloc (blk_alloc (heap_alloc_new _ _) _) _
  have hn : VarS (((w.alloc (Obj.cells #[.pointer (some ⟨g, 0, none⟩)] 58)).alloc (Obj.cells #[.string name] 9)).alloc (Obj.cells #[(.func (.func 70) #[] #[.pointer (some ⟨c0, 0, none⟩), .pointer (some ⟨c1, 0, none⟩)])] 113)) (w.heap.size + 1) name := by
    have := heap_alloc_new (w.alloc (Obj.cells #[.pointer (some ⟨g, 0, none⟩)] 58)) (Obj.cells #[.string name] 9)
    rw [World.size_alloc] at this
    exact blk_alloc this _
  have hc : VarC (((w.alloc (Obj.cells #[.pointer (some ⟨g, 0, none⟩)] 58)).alloc (Obj.cells #[.string name] 9)).alloc (Obj.cells #[(.func (.func 70) #[] #[.pointer (some ⟨c0, 0, none⟩), .pointer (some ⟨c1, 0, none⟩)])] 113)) (w.heap.size + 2) (.func (.func 70) #[] #[.pointer (some ⟨c0, 0, none⟩), .pointer (some ⟨c1, 0, none⟩)]) := by
    have := heap_alloc_new ((w.alloc (Obj.cells #[.pointer (some ⟨g, 0, none⟩)] 58)).alloc (Obj.cells #[.string name] 9)) (Obj.cells #[(.func (.func 70) #[] #[.pointer (some ⟨c0, 0, none⟩), .pointer (some ⟨c1, 0, none⟩)])] 113)
    rw [World.size_alloc, World.size_alloc] at this
    exact this
  have HW3 := Aside0.mk hw3
  have HP := Aside0.mk hp
  have HN := Aside0.mk hn
  have HC := Aside0.mk hc
  clear ho0 ho1 ho2 o0 o1 o2 hw3 hp hn hc
  have hg0 : g < w.heap.size := by exact blk_lt H.out.blk
  go_enter Try.func69, Try.ntmps69
  go_wp2_with (go_at_call 90; refine (call_ok93 w.heap.size (w.heap.size + 1) (w.heap.size + 2) R (H.out.below HW3.out) HF.out HA.out ?hclo).mono ?_; (case hclo =>
      intro w1 hr1 hb1 hk1
      have hne : ∀ b, w.heap.size ≤ b → b ≠ g := fun b hb => by omega
      refine of1_ok70 w.heap.size (w.heap.size + 1) (w.heap.size + 2) c0 c1 R hr1 HF1.out (blk_keptG HP.out hk1 (hne _ (by omega))) (blk_keptG HN.out hk1 (hne _ (by omega))) (blk_keptG HC.out hk1 (hne _ (by omega))) (by rw [asked_files]; exact HOK.out) ?_
      intro w2 v hr2 hb2 hv
      rw [asked_files] at hv
      refine HDO.out w2 v hr2 (belowB_trans (belowB_of hBw HW3.out) (belowB_trans hb1 (belowB_of (Up.le hBw (Nat.le_trans HW3.out.size hk1.1)) hb2))) ((KeptG.of_below HW3.out).trans (hk1.trans (KeptG.of_below hb2))) (Kd.R_lower hv (Nat.le_trans HW3.out.size hk1.1))); rintro e w7 ⟨r, rfl, hR⟩; have HR := Aside0.mk hR; clear hR)
  go_ret
  exact ⟨r, rfl, HR.out⟩

set_option maxHeartbeats 8000000 in
set_option maxRecDepth 100000 in
theorem of_none70 (c0 c1 : Nat) (h : RepAt B g s w mv sv pv) (hf : Fit s) (hf1 : Fit (asked s).1) (hBw : Up B w.heap.size) (ha : (asked s).2 = 0) (hok : (getT (filesOf s) name).2 = false) :
    Calls Try.prog 69 #[.pointer (some ⟨g, 0, none⟩), .string name, (.func (.func 70) #[] #[.pointer (some ⟨c0, 0, none⟩), .pointer (some ⟨c1, 0, none⟩)])] w fun e w' => ∃ r, e = .returned (.int .i64 r) ∧ r = 4 ∧ Rep B g (asked s).1 w' ∧ BelS B w w' := by
  have H := Aside0.mk h
  have HF := Aside0.mk hf
  have HF1 := Aside0.mk hf1
  have HA := Aside0.mk ha
  have HOK := Aside0.mk hok
  clear h hf hf1 ha hok
  obtain ⟨o0, ho0⟩ : ∃ o, o = Obj.cells #[.pointer (some ⟨g, 0, none⟩)] 58 := ⟨_, rfl⟩
  obtain ⟨o1, ho1⟩ : ∃ o, o = Obj.cells #[.string name] 9 := ⟨_, rfl⟩
  obtain ⟨o2, ho2⟩ : ∃ o, o = Obj.cells #[(.func (.func 70) #[] #[.pointer (some ⟨c0, 0, none⟩), .pointer (some ⟨c1, 0, none⟩)])] 113 := ⟨_, rfl⟩
  have hw3 : Below w.heap.size w (((w.alloc (Obj.cells #[.pointer (some ⟨g, 0, none⟩)] 58)).alloc (Obj.cells #[.string name] 9)).alloc (Obj.cells #[(.func (.func 70) #[] #[.pointer (some ⟨c0, 0, none⟩), .pointer (some ⟨c1, 0, none⟩)])] 113)) := below_alloc (below_alloc (below_alloc (Below.refl _ _) _) _) _
  have hp : VarP (((w.alloc (Obj.cells #[.pointer (some ⟨g, 0, none⟩)] 58)).alloc (Obj.cells #[.string name] 9)).alloc (Obj.cells #[(.func (.func 70) #[] #[.pointer (some ⟨c0, 0, none⟩), .pointer (some ⟨c1, 0, none⟩)])] 113)) w.heap.size g := blk_alloc (blk_alloc (heap_alloc_new _ _) _) _
  have hn : VarS (((w.alloc (Obj.cells #[.pointer (some ⟨g, 0, none⟩)] 58)).alloc (Obj.cells #[.string name] 9)).alloc (Obj.cells #[(.func (.func 70) #[] #[.pointer (some ⟨c0, 0, none⟩), .pointer (some ⟨c1, 0, none⟩)])] 113)) (w.heap.size + 1) name := by
    have := heap_alloc_new (w.alloc (Obj.cells #[.pointer (some ⟨g, 0, none⟩)] 58)) (Obj.cells #[.string name] 9)
    rw [World.size_alloc] at this
    exact blk_alloc this _
  have hc : VarC (((w.alloc (Obj.cells #[.pointer (some ⟨g, 0, none⟩)] 58)).alloc (Obj.cells #[.string name] 9)).alloc (Obj.cells #[(.func (.func 70) #[] #[.pointer (some ⟨c0, 0, none⟩), .pointer (some ⟨c1, 0, none⟩)])] 113)) (w.heap.size + 2) (.func (.func 70) #[] #[.pointer (some ⟨c0, 0, none⟩), .pointer (some ⟨c1, 0, none⟩)]) := by
    have := heap_alloc_new ((w.alloc (Obj.cells #[.pointer (some ⟨g, 0, none⟩)] 58)).alloc (Obj.cells #[.string name] 9)) (Obj.cells #[(.func (.func 70) #[] #[.pointer (some ⟨c0, 0, none⟩), .pointer (some ⟨c1, 0, none⟩)])] 113)
    rw [World.size_alloc, World.size_alloc] at this
    exact this
  have HW3 := Aside0.mk hw3
  have HP := Aside0.mk hp
  have HN := Aside0.mk hn
  have HC := Aside0.mk hc
  clear ho0 ho1 ho2 o0 o1 o2 hw3 hp hn hc
  have hg0 : g < w.heap.size := by exact blk_lt H.out.blk
  go_enter Try.func69, Try.ntmps69
  go_wp2_with (go_at_call 90; refine (call_ok93 w.heap.size (w.heap.size + 1) (w.heap.size + 2) (fun r w' => r = 4 ∧ Rep B g (asked s).1 w' ∧ BelS B w w') (H.out.below HW3.out) HF.out HA.out ?hclo).mono ?_; (case hclo =>
      intro w1 hr1 hb1 hk1
      have hne : ∀ b, w.heap.size ≤ b → b ≠ g := fun b hb => by omega
      refine (of1_none w.heap.size (w.heap.size + 1) (w.heap.size + 2) (.func (.func 70) #[] #[.pointer (some ⟨c0, 0, none⟩), .pointer (some ⟨c1, 0, none⟩)]) hr1 HF1.out (blk_keptG HP.out hk1 (hne _ (by omega))) (blk_keptG HN.out hk1 (hne _ (by omega))) (blk_keptG HC.out hk1 (hne _ (by omega))) (by rw [asked_files]; exact HOK.out)).mono ?_
      rintro e w2 ⟨rfl, hr2, hb2⟩
      exact ⟨4, rfl, rfl, ⟨mv, sv, pv, hr2⟩, belowB_trans (belowB_of hBw HW3.out) (belowB_trans hb1 (belowB_of (Up.le hBw (Nat.le_trans HW3.out.size hk1.1)) hb2))⟩); rintro e w7 ⟨r, rfl, rfl, hr7, hb7⟩; have HR7 := Aside0.mk hr7; have HB7 := Aside0.mk hb7; clear hr7 hb7)
  go_ret
  exact ⟨4, rfl, rfl, HR7.out, HB7.out⟩

set_option maxHeartbeats 8000000 in
set_option maxRecDepth 100000 in
theorem of_err70 (c0 c1 : Nat) (h : Rep B g s w) (hf : Fit s) (hBw : Up B w.heap.size) (ha : (asked s).2 ≠ 0) :
    Calls Try.prog 69 #[.pointer (some ⟨g, 0, none⟩), .string name, (.func (.func 70) #[] #[.pointer (some ⟨c0, 0, none⟩), .pointer (some ⟨c1, 0, none⟩)])] w fun e w' => ∃ r, e = .returned (.int .i64 r) ∧ r = (asked s).2 ∧ Rep B g (asked s).1 w' ∧ BelS B w w' := by
  have H := Aside0.mk h
  have HF := Aside0.mk hf
  have HA := Aside0.mk ha
  have hw3 : Below w.heap.size w (((w.alloc (Obj.cells #[.pointer (some ⟨g, 0, none⟩)] 58)).alloc (Obj.cells #[.string name] 9)).alloc (Obj.cells #[(.func (.func 70) #[] #[.pointer (some ⟨c0, 0, none⟩), .pointer (some ⟨c1, 0, none⟩)])] 113)) := below_alloc (below_alloc (below_alloc (Below.refl _ _) _) _) _
  have HW3 := Aside0.mk hw3
  clear h hf ha hw3
  go_enter Try.func69, Try.ntmps69
  go_wp2_with (go_at_call 90; refine (call_err _ (H.out.below HW3.out) HF.out HA.out).mono ?_; rintro e w7 ⟨rfl, hr7, hb7, hk7⟩; have HR7 := Aside0.mk hr7; have HB7 := Aside0.mk (belowB_trans (belowB_of hBw HW3.out) hb7); clear hr7 hb7 hk7)
  go_ret
  exact ⟨_, rfl, rfl, HR7.out, HB7.out⟩


set_option maxHeartbeats 8000000 in
set_option maxRecDepth 100000 in
theorem of1_ok96 (b0 b1 b2 c0 c1 : Nat) (R : Int → World → Prop) (h : RepAt B g s w mv sv pv) (hf : Fit s) (hp : VarP w b0 g) (hn : VarS w b1 name) (hc : VarC w b2 (.func (.func 96) #[] #[.pointer (some ⟨c0, 0, none⟩), .pointer (some ⟨c1, 0, none⟩)])) (hok : (getT (filesOf s) name).2 = true)
    (hdo : ∀ w1 v, RepAt B g s w1 mv sv pv → Below w.heap.size w w1 → Kd.R (Kd.int .u8) 5 w1 w.heap.size (fun _ => True) v (getT (filesOf s) name).1 → Calls Try.prog 96 #[v, .pointer (some ⟨c0, 0, none⟩), .pointer (some ⟨c1, 0, none⟩)] w1 fun e w' => ∃ r, e = .returned (.int .i64 r) ∧ R r w') :
    Calls Try.prog 93 #[.pointer (some ⟨b0, 0, none⟩), .pointer (some ⟨b1, 0, none⟩), .pointer (some ⟨b2, 0, none⟩)] w fun e w' => ∃ r, e = .returned (.int .i64 r) ∧ R r w' := by
  have HDO := Aside0.mk hdo
  clear hdo
  have hk0 : OfS B g s mv sv pv name b0 b1 b2 (.func (.func 96) #[] #[.pointer (some ⟨c0, 0, none⟩), .pointer (some ⟨c1, 0, none⟩)]) w w := ⟨h, hp, hn, hc, Below.refl _ _⟩
  have HF := Aside0.mk hf
  obtain ⟨hfo, hfl⟩ := files_ok hf
  have HFO := Aside0.mk hfo
  have hge := get_f (filesOf s) name (by omega) hfo
  rw [hok] at hge
  have HGE := Aside0.mk hge
  clear h hp hn hc hf hfo hge
  go_enter Try.func93, Try.ntmps93
  go_wp2_with fail
  go_region_held3 (fun w' => w'.cell? ⟨b0, 0, none⟩ = some (.pointer (some ⟨g, 0, none⟩)) ∧ w'.cell? ⟨b1, 0, none⟩ = some (.string name) ∧ OfS B g s mv sv pv name b0 b1 b2 (.func (.func 96) #[] #[.pointer (some ⟨c0, 0, none⟩), .pointer (some ⟨c1, 0, none⟩)]) w w')
    (first
      | exact (hk0.step (below_drew1 (Below.refl _ _))).all
      | (go_split_ands
         first
          | exact OfS.all (OfS.step (by assumption) hb6)
          | exact OfS.all (OfS.step (by assumption) hb5))
      | go_keep)
    (first
      | (go_split_ands; go_at_call 42; refine (files_calls ⟨mv, sv, pv, OfS.rep (by assumption)⟩ HF.out).mono ?_; rintro e w5 ⟨v5, rfl, hV5, hb5⟩; obtain ⟨A5, c5, rfl⟩ := Kd.V_slice hV5)
      | (go_split_ands
         go_at_call 28
         ((with_reducible refine (files_Get.calls A5 c5 (filesOf s) name (getT (filesOf s) name).1 true _ ?hs ?hc HGE.out).mono ?_); (case hs => exact (Kd.V_reads' hV5).2.2); (case hc => exact (Kd.V_reads' hV5).2.1))
         rintro e w6 ⟨v6, rfl, hV6, hb6⟩))
  have hfin : OfS B g s mv sv pv name b0 b1 b2 (.func (.func 96) #[] #[.pointer (some ⟨c0, 0, none⟩), .pointer (some ⟨c1, 0, none⟩)]) w w6 := by go_split_ands; assumption
  have h5 : OfS B g s mv sv pv name b0 b1 b2 (.func (.func 96) #[] #[.pointer (some ⟨c0, 0, none⟩), .pointer (some ⟨c1, 0, none⟩)]) w w5 := by go_split_ands; assumption
  have hc6 := hfin.c.cell
  have HFIN := Aside0.mk hfin
  have HV6 := Aside0.mk (Kd.R_lower hV6 h5.below.size)
  clear hk0 hfin hV6 hV5 hb5 hb6 h5
  go_wp2_with (go_at_call 96; refine (HDO.out _ _ HFIN.out.rep HFIN.out.below HV6.out).mono ?_; rintro e w7 ⟨r, rfl, hR⟩; have HR := Aside0.mk hR; clear hR)
  go_ret
  exact ⟨r, rfl, HR.out⟩

set_option maxHeartbeats 8000000 in
set_option maxRecDepth 100000 in
theorem of_ok96 (c0 c1 : Nat) (R : Int → World → Prop) (h : RepAt B g s w mv sv pv) (hf : Fit s) (hf1 : Fit (asked s).1) (hBw : Up B w.heap.size) (ha : (asked s).2 = 0) (hok : (getT (filesOf s) name).2 = true)
    (hdo : ∀ w1 v, RepAt B g (asked s).1 w1 mv sv pv → BelS B w w1 → KeptG g w w1 → Kd.R (Kd.int .u8) 5 w1 w.heap.size (fun _ => True) v (getT (filesOf s) name).1 → Calls Try.prog 96 #[v, .pointer (some ⟨c0, 0, none⟩), .pointer (some ⟨c1, 0, none⟩)] w1 fun e w' => ∃ r, e = .returned (.int .i64 r) ∧ R r w') :
    Calls Try.prog 69 #[.pointer (some ⟨g, 0, none⟩), .string name, (.func (.func 96) #[] #[.pointer (some ⟨c0, 0, none⟩), .pointer (some ⟨c1, 0, none⟩)])] w fun e w' => ∃ r, e = .returned (.int .i64 r) ∧ R r w' := by
  have HDO := Aside0.mk hdo
  have H := Aside0.mk h
  have HF := Aside0.mk hf
  have HF1 := Aside0.mk hf1
  have HA := Aside0.mk ha
  have HOK := Aside0.mk hok
  clear h hf hf1 ha hok hdo
  obtain ⟨o0, ho0⟩ : ∃ o, o = Obj.cells #[.pointer (some ⟨g, 0, none⟩)] 58 := ⟨_, rfl⟩
  obtain ⟨o1, ho1⟩ : ∃ o, o = Obj.cells #[.string name] 9 := ⟨_, rfl⟩
  obtain ⟨o2, ho2⟩ : ∃ o, o = Obj.cells #[(.func (.func 96) #[] #[.pointer (some ⟨c0, 0, none⟩), .pointer (some ⟨c1, 0, none⟩)])] 113 := ⟨_, rfl⟩
  have hw3 : Below w.heap.size w (((w.alloc (Obj.cells #[.pointer (some ⟨g, 0, none⟩)] 58)).alloc (Obj.cells #[.string name] 9)).alloc (Obj.cells #[(.func (.func 96) #[] #[.pointer (some ⟨c0, 0, none⟩), .pointer (some ⟨c1, 0, none⟩)])] 113)) := below_alloc (below_alloc (below_alloc (Below.refl _ _) _) _) _
  have hp : VarP (((w.alloc (Obj.cells #[.pointer (some ⟨g, 0, none⟩)] 58)).alloc (Obj.cells #[.string name] 9)).alloc (Obj.cells #[(.func (.func 96) #[] #[.pointer (some ⟨c0, 0, none⟩), .pointer (some ⟨c1, 0, none⟩)])] 113)) w.heap.size g := blk_alloc (blk_alloc (heap_alloc_new _ _) _) _
  have hn : VarS (((w.alloc (Obj.cells #[.pointer (some ⟨g, 0, none⟩)] 58)).alloc (Obj.cells #[.string name] 9)).alloc (Obj.cells #[(.func (.func 96) #[] #[.pointer (some ⟨c0, 0, none⟩), .pointer (some ⟨c1, 0, none⟩)])] 113)) (w.heap.size + 1) name := by
    have := heap_alloc_new (w.alloc (Obj.cells #[.pointer (some ⟨g, 0, none⟩)] 58)) (Obj.cells #[.string name] 9)
    rw [World.size_alloc] at this
    exact blk_alloc this _
  have hc : VarC (((w.alloc (Obj.cells #[.pointer (some ⟨g, 0, none⟩)] 58)).alloc (Obj.cells #[.string name] 9)).alloc (Obj.cells #[(.func (.func 96) #[] #[.pointer (some ⟨c0, 0, none⟩), .pointer (some ⟨c1, 0, none⟩)])] 113)) (w.heap.size + 2) (.func (.func 96) #[] #[.pointer (some ⟨c0, 0, none⟩), .pointer (some ⟨c1, 0, none⟩)]) := by
    have := heap_alloc_new ((w.alloc (Obj.cells #[.pointer (some ⟨g, 0, none⟩)] 58)).alloc (Obj.cells #[.string name] 9)) (Obj.cells #[(.func (.func 96) #[] #[.pointer (some ⟨c0, 0, none⟩), .pointer (some ⟨c1, 0, none⟩)])] 113)
    rw [World.size_alloc, World.size_alloc] at this
    exact this
  have HW3 := Aside0.mk hw3
  have HP := Aside0.mk hp
  have HN := Aside0.mk hn
  have HC := Aside0.mk hc
  clear ho0 ho1 ho2 o0 o1 o2 hw3 hp hn hc
  have hg0 : g < w.heap.size := by exact blk_lt H.out.blk
  go_enter Try.func69, Try.ntmps69
  go_wp2_with (go_at_call 90; refine (call_ok93 w.heap.size (w.heap.size + 1) (w.heap.size + 2) R (H.out.below HW3.out) HF.out HA.out ?hclo).mono ?_; (case hclo =>
      intro w1 hr1 hb1 hk1
      have hne : ∀ b, w.heap.size ≤ b → b ≠ g := fun b hb => by omega
      refine of1_ok96 w.heap.size (w.heap.size + 1) (w.heap.size + 2) c0 c1 R hr1 HF1.out (blk_keptG HP.out hk1 (hne _ (by omega))) (blk_keptG HN.out hk1 (hne _ (by omega))) (blk_keptG HC.out hk1 (hne _ (by omega))) (by rw [asked_files]; exact HOK.out) ?_
      intro w2 v hr2 hb2 hv
      rw [asked_files] at hv
      refine HDO.out w2 v hr2 (belowB_trans (belowB_of hBw HW3.out) (belowB_trans hb1 (belowB_of (Up.le hBw (Nat.le_trans HW3.out.size hk1.1)) hb2))) ((KeptG.of_below HW3.out).trans (hk1.trans (KeptG.of_below hb2))) (Kd.R_lower hv (Nat.le_trans HW3.out.size hk1.1))); rintro e w7 ⟨r, rfl, hR⟩; have HR := Aside0.mk hR; clear hR)
  go_ret
  exact ⟨r, rfl, HR.out⟩

set_option maxHeartbeats 8000000 in
set_option maxRecDepth 100000 in
theorem of_none96 (c0 c1 : Nat) (h : RepAt B g s w mv sv pv) (hf : Fit s) (hf1 : Fit (asked s).1) (hBw : Up B w.heap.size) (ha : (asked s).2 = 0) (hok : (getT (filesOf s) name).2 = false) :
    Calls Try.prog 69 #[.pointer (some ⟨g, 0, none⟩), .string name, (.func (.func 96) #[] #[.pointer (some ⟨c0, 0, none⟩), .pointer (some ⟨c1, 0, none⟩)])] w fun e w' => ∃ r, e = .returned (.int .i64 r) ∧ r = 4 ∧ Rep B g (asked s).1 w' ∧ BelS B w w' := by
  have H := Aside0.mk h
  have HF := Aside0.mk hf
  have HF1 := Aside0.mk hf1
  have HA := Aside0.mk ha
  have HOK := Aside0.mk hok
  clear h hf hf1 ha hok
  obtain ⟨o0, ho0⟩ : ∃ o, o = Obj.cells #[.pointer (some ⟨g, 0, none⟩)] 58 := ⟨_, rfl⟩
  obtain ⟨o1, ho1⟩ : ∃ o, o = Obj.cells #[.string name] 9 := ⟨_, rfl⟩
  obtain ⟨o2, ho2⟩ : ∃ o, o = Obj.cells #[(.func (.func 96) #[] #[.pointer (some ⟨c0, 0, none⟩), .pointer (some ⟨c1, 0, none⟩)])] 113 := ⟨_, rfl⟩
  have hw3 : Below w.heap.size w (((w.alloc (Obj.cells #[.pointer (some ⟨g, 0, none⟩)] 58)).alloc (Obj.cells #[.string name] 9)).alloc (Obj.cells #[(.func (.func 96) #[] #[.pointer (some ⟨c0, 0, none⟩), .pointer (some ⟨c1, 0, none⟩)])] 113)) := below_alloc (below_alloc (below_alloc (Below.refl _ _) _) _) _
  have hp : VarP (((w.alloc (Obj.cells #[.pointer (some ⟨g, 0, none⟩)] 58)).alloc (Obj.cells #[.string name] 9)).alloc (Obj.cells #[(.func (.func 96) #[] #[.pointer (some ⟨c0, 0, none⟩), .pointer (some ⟨c1, 0, none⟩)])] 113)) w.heap.size g := blk_alloc (blk_alloc (heap_alloc_new _ _) _) _
  have hn : VarS (((w.alloc (Obj.cells #[.pointer (some ⟨g, 0, none⟩)] 58)).alloc (Obj.cells #[.string name] 9)).alloc (Obj.cells #[(.func (.func 96) #[] #[.pointer (some ⟨c0, 0, none⟩), .pointer (some ⟨c1, 0, none⟩)])] 113)) (w.heap.size + 1) name := by
    have := heap_alloc_new (w.alloc (Obj.cells #[.pointer (some ⟨g, 0, none⟩)] 58)) (Obj.cells #[.string name] 9)
    rw [World.size_alloc] at this
    exact blk_alloc this _
  have hc : VarC (((w.alloc (Obj.cells #[.pointer (some ⟨g, 0, none⟩)] 58)).alloc (Obj.cells #[.string name] 9)).alloc (Obj.cells #[(.func (.func 96) #[] #[.pointer (some ⟨c0, 0, none⟩), .pointer (some ⟨c1, 0, none⟩)])] 113)) (w.heap.size + 2) (.func (.func 96) #[] #[.pointer (some ⟨c0, 0, none⟩), .pointer (some ⟨c1, 0, none⟩)]) := by
    have := heap_alloc_new ((w.alloc (Obj.cells #[.pointer (some ⟨g, 0, none⟩)] 58)).alloc (Obj.cells #[.string name] 9)) (Obj.cells #[(.func (.func 96) #[] #[.pointer (some ⟨c0, 0, none⟩), .pointer (some ⟨c1, 0, none⟩)])] 113)
    rw [World.size_alloc, World.size_alloc] at this
    exact this
  have HW3 := Aside0.mk hw3
  have HP := Aside0.mk hp
  have HN := Aside0.mk hn
  have HC := Aside0.mk hc
  clear ho0 ho1 ho2 o0 o1 o2 hw3 hp hn hc
  have hg0 : g < w.heap.size := by exact blk_lt H.out.blk
  go_enter Try.func69, Try.ntmps69
  go_wp2_with (go_at_call 90; refine (call_ok93 w.heap.size (w.heap.size + 1) (w.heap.size + 2) (fun r w' => r = 4 ∧ Rep B g (asked s).1 w' ∧ BelS B w w') (H.out.below HW3.out) HF.out HA.out ?hclo).mono ?_; (case hclo =>
      intro w1 hr1 hb1 hk1
      have hne : ∀ b, w.heap.size ≤ b → b ≠ g := fun b hb => by omega
      refine (of1_none w.heap.size (w.heap.size + 1) (w.heap.size + 2) (.func (.func 96) #[] #[.pointer (some ⟨c0, 0, none⟩), .pointer (some ⟨c1, 0, none⟩)]) hr1 HF1.out (blk_keptG HP.out hk1 (hne _ (by omega))) (blk_keptG HN.out hk1 (hne _ (by omega))) (blk_keptG HC.out hk1 (hne _ (by omega))) (by rw [asked_files]; exact HOK.out)).mono ?_
      rintro e w2 ⟨rfl, hr2, hb2⟩
      exact ⟨4, rfl, rfl, ⟨mv, sv, pv, hr2⟩, belowB_trans (belowB_of hBw HW3.out) (belowB_trans hb1 (belowB_of (Up.le hBw (Nat.le_trans HW3.out.size hk1.1)) hb2))⟩); rintro e w7 ⟨r, rfl, rfl, hr7, hb7⟩; have HR7 := Aside0.mk hr7; have HB7 := Aside0.mk hb7; clear hr7 hb7)
  go_ret
  exact ⟨4, rfl, rfl, HR7.out, HB7.out⟩

set_option maxHeartbeats 8000000 in
set_option maxRecDepth 100000 in
theorem of_err96 (c0 c1 : Nat) (h : Rep B g s w) (hf : Fit s) (hBw : Up B w.heap.size) (ha : (asked s).2 ≠ 0) :
    Calls Try.prog 69 #[.pointer (some ⟨g, 0, none⟩), .string name, (.func (.func 96) #[] #[.pointer (some ⟨c0, 0, none⟩), .pointer (some ⟨c1, 0, none⟩)])] w fun e w' => ∃ r, e = .returned (.int .i64 r) ∧ r = (asked s).2 ∧ Rep B g (asked s).1 w' ∧ BelS B w w' := by
  have H := Aside0.mk h
  have HF := Aside0.mk hf
  have HA := Aside0.mk ha
  have hw3 : Below w.heap.size w (((w.alloc (Obj.cells #[.pointer (some ⟨g, 0, none⟩)] 58)).alloc (Obj.cells #[.string name] 9)).alloc (Obj.cells #[(.func (.func 96) #[] #[.pointer (some ⟨c0, 0, none⟩), .pointer (some ⟨c1, 0, none⟩)])] 113)) := below_alloc (below_alloc (below_alloc (Below.refl _ _) _) _) _
  have HW3 := Aside0.mk hw3
  clear h hf ha hw3
  go_enter Try.func69, Try.ntmps69
  go_wp2_with (go_at_call 90; refine (call_err _ (H.out.below HW3.out) HF.out HA.out).mono ?_; rintro e w7 ⟨rfl, hr7, hb7, hk7⟩; have HR7 := Aside0.mk hr7; have HB7 := Aside0.mk (belowB_trans (belowB_of hBw HW3.out) hb7); clear hr7 hb7 hk7)
  go_ret
  exact ⟨_, rfl, rfl, HR7.out, HB7.out⟩


set_option maxHeartbeats 8000000 in
set_option maxRecDepth 100000 in
theorem of1_ok77 (b0 b1 b2 c0 c1 c2 : Nat) (R : Int → World → Prop) (h : RepAt B g s w mv sv pv) (hf : Fit s) (hp : VarP w b0 g) (hn : VarS w b1 name) (hc : VarC w b2 (.func (.func 77) #[] #[.pointer (some ⟨c0, 0, none⟩), .pointer (some ⟨c1, 0, none⟩), .pointer (some ⟨c2, 0, none⟩)])) (hok : (getT (filesOf s) name).2 = true)
    (hdo : ∀ w1 v, RepAt B g s w1 mv sv pv → Below w.heap.size w w1 → Kd.R (Kd.int .u8) 5 w1 w.heap.size (fun _ => True) v (getT (filesOf s) name).1 → Calls Try.prog 77 #[v, .pointer (some ⟨c0, 0, none⟩), .pointer (some ⟨c1, 0, none⟩), .pointer (some ⟨c2, 0, none⟩)] w1 fun e w' => ∃ r, e = .returned (.int .i64 r) ∧ R r w') :
    Calls Try.prog 93 #[.pointer (some ⟨b0, 0, none⟩), .pointer (some ⟨b1, 0, none⟩), .pointer (some ⟨b2, 0, none⟩)] w fun e w' => ∃ r, e = .returned (.int .i64 r) ∧ R r w' := by
  have HDO := Aside0.mk hdo
  clear hdo
  have hk0 : OfS B g s mv sv pv name b0 b1 b2 (.func (.func 77) #[] #[.pointer (some ⟨c0, 0, none⟩), .pointer (some ⟨c1, 0, none⟩), .pointer (some ⟨c2, 0, none⟩)]) w w := ⟨h, hp, hn, hc, Below.refl _ _⟩
  have HF := Aside0.mk hf
  obtain ⟨hfo, hfl⟩ := files_ok hf
  have HFO := Aside0.mk hfo
  have hge := get_f (filesOf s) name (by omega) hfo
  rw [hok] at hge
  have HGE := Aside0.mk hge
  clear h hp hn hc hf hfo hge
  go_enter Try.func93, Try.ntmps93
  go_wp2_with fail
  go_region_held3 (fun w' => w'.cell? ⟨b0, 0, none⟩ = some (.pointer (some ⟨g, 0, none⟩)) ∧ w'.cell? ⟨b1, 0, none⟩ = some (.string name) ∧ OfS B g s mv sv pv name b0 b1 b2 (.func (.func 77) #[] #[.pointer (some ⟨c0, 0, none⟩), .pointer (some ⟨c1, 0, none⟩), .pointer (some ⟨c2, 0, none⟩)]) w w')
    (first
      | exact (hk0.step (below_drew1 (Below.refl _ _))).all
      | (go_split_ands
         first
          | exact OfS.all (OfS.step (by assumption) hb6)
          | exact OfS.all (OfS.step (by assumption) hb5))
      | go_keep)
    (first
      | (go_split_ands; go_at_call 42; refine (files_calls ⟨mv, sv, pv, OfS.rep (by assumption)⟩ HF.out).mono ?_; rintro e w5 ⟨v5, rfl, hV5, hb5⟩; obtain ⟨A5, c5, rfl⟩ := Kd.V_slice hV5)
      | (go_split_ands
         go_at_call 28
         ((with_reducible refine (files_Get.calls A5 c5 (filesOf s) name (getT (filesOf s) name).1 true _ ?hs ?hc HGE.out).mono ?_); (case hs => exact (Kd.V_reads' hV5).2.2); (case hc => exact (Kd.V_reads' hV5).2.1))
         rintro e w6 ⟨v6, rfl, hV6, hb6⟩))
  have hfin : OfS B g s mv sv pv name b0 b1 b2 (.func (.func 77) #[] #[.pointer (some ⟨c0, 0, none⟩), .pointer (some ⟨c1, 0, none⟩), .pointer (some ⟨c2, 0, none⟩)]) w w6 := by go_split_ands; assumption
  have h5 : OfS B g s mv sv pv name b0 b1 b2 (.func (.func 77) #[] #[.pointer (some ⟨c0, 0, none⟩), .pointer (some ⟨c1, 0, none⟩), .pointer (some ⟨c2, 0, none⟩)]) w w5 := by go_split_ands; assumption
  have hc6 := hfin.c.cell
  have HFIN := Aside0.mk hfin
  have HV6 := Aside0.mk (Kd.R_lower hV6 h5.below.size)
  clear hk0 hfin hV6 hV5 hb5 hb6 h5
  go_wp2_with (go_at_call 77; refine (HDO.out _ _ HFIN.out.rep HFIN.out.below HV6.out).mono ?_; rintro e w7 ⟨r, rfl, hR⟩; have HR := Aside0.mk hR; clear hR)
  go_ret
  exact ⟨r, rfl, HR.out⟩

set_option maxHeartbeats 8000000 in
set_option maxRecDepth 100000 in
theorem of_ok77 (c0 c1 c2 : Nat) (R : Int → World → Prop) (h : RepAt B g s w mv sv pv) (hf : Fit s) (hf1 : Fit (asked s).1) (hBw : Up B w.heap.size) (ha : (asked s).2 = 0) (hok : (getT (filesOf s) name).2 = true)
    (hdo : ∀ w1 v, RepAt B g (asked s).1 w1 mv sv pv → BelS B w w1 → KeptG g w w1 → Kd.R (Kd.int .u8) 5 w1 w.heap.size (fun _ => True) v (getT (filesOf s) name).1 → Calls Try.prog 77 #[v, .pointer (some ⟨c0, 0, none⟩), .pointer (some ⟨c1, 0, none⟩), .pointer (some ⟨c2, 0, none⟩)] w1 fun e w' => ∃ r, e = .returned (.int .i64 r) ∧ R r w') :
    Calls Try.prog 69 #[.pointer (some ⟨g, 0, none⟩), .string name, (.func (.func 77) #[] #[.pointer (some ⟨c0, 0, none⟩), .pointer (some ⟨c1, 0, none⟩), .pointer (some ⟨c2, 0, none⟩)])] w fun e w' => ∃ r, e = .returned (.int .i64 r) ∧ R r w' := by
  have HDO := Aside0.mk hdo
  have H := Aside0.mk h
  have HF := Aside0.mk hf
  have HF1 := Aside0.mk hf1
  have HA := Aside0.mk ha
  have HOK := Aside0.mk hok
  clear h hf hf1 ha hok hdo
  obtain ⟨o0, ho0⟩ : ∃ o, o = Obj.cells #[.pointer (some ⟨g, 0, none⟩)] 58 := ⟨_, rfl⟩
  obtain ⟨o1, ho1⟩ : ∃ o, o = Obj.cells #[.string name] 9 := ⟨_, rfl⟩
  obtain ⟨o2, ho2⟩ : ∃ o, o = Obj.cells #[(.func (.func 77) #[] #[.pointer (some ⟨c0, 0, none⟩), .pointer (some ⟨c1, 0, none⟩), .pointer (some ⟨c2, 0, none⟩)])] 113 := ⟨_, rfl⟩
  have hw3 : Below w.heap.size w (((w.alloc (Obj.cells #[.pointer (some ⟨g, 0, none⟩)] 58)).alloc (Obj.cells #[.string name] 9)).alloc (Obj.cells #[(.func (.func 77) #[] #[.pointer (some ⟨c0, 0, none⟩), .pointer (some ⟨c1, 0, none⟩), .pointer (some ⟨c2, 0, none⟩)])] 113)) := below_alloc (below_alloc (below_alloc (Below.refl _ _) _) _) _
  have hp : VarP (((w.alloc (Obj.cells #[.pointer (some ⟨g, 0, none⟩)] 58)).alloc (Obj.cells #[.string name] 9)).alloc (Obj.cells #[(.func (.func 77) #[] #[.pointer (some ⟨c0, 0, none⟩), .pointer (some ⟨c1, 0, none⟩), .pointer (some ⟨c2, 0, none⟩)])] 113)) w.heap.size g := blk_alloc (blk_alloc (heap_alloc_new _ _) _) _
  have hn : VarS (((w.alloc (Obj.cells #[.pointer (some ⟨g, 0, none⟩)] 58)).alloc (Obj.cells #[.string name] 9)).alloc (Obj.cells #[(.func (.func 77) #[] #[.pointer (some ⟨c0, 0, none⟩), .pointer (some ⟨c1, 0, none⟩), .pointer (some ⟨c2, 0, none⟩)])] 113)) (w.heap.size + 1) name := by
    have := heap_alloc_new (w.alloc (Obj.cells #[.pointer (some ⟨g, 0, none⟩)] 58)) (Obj.cells #[.string name] 9)
    rw [World.size_alloc] at this
    exact blk_alloc this _
  have hc : VarC (((w.alloc (Obj.cells #[.pointer (some ⟨g, 0, none⟩)] 58)).alloc (Obj.cells #[.string name] 9)).alloc (Obj.cells #[(.func (.func 77) #[] #[.pointer (some ⟨c0, 0, none⟩), .pointer (some ⟨c1, 0, none⟩), .pointer (some ⟨c2, 0, none⟩)])] 113)) (w.heap.size + 2) (.func (.func 77) #[] #[.pointer (some ⟨c0, 0, none⟩), .pointer (some ⟨c1, 0, none⟩), .pointer (some ⟨c2, 0, none⟩)]) := by
    have := heap_alloc_new ((w.alloc (Obj.cells #[.pointer (some ⟨g, 0, none⟩)] 58)).alloc (Obj.cells #[.string name] 9)) (Obj.cells #[(.func (.func 77) #[] #[.pointer (some ⟨c0, 0, none⟩), .pointer (some ⟨c1, 0, none⟩), .pointer (some ⟨c2, 0, none⟩)])] 113)
    rw [World.size_alloc, World.size_alloc] at this
    exact this
  have HW3 := Aside0.mk hw3
  have HP := Aside0.mk hp
  have HN := Aside0.mk hn
  have HC := Aside0.mk hc
  clear ho0 ho1 ho2 o0 o1 o2 hw3 hp hn hc
  have hg0 : g < w.heap.size := by exact blk_lt H.out.blk
  go_enter Try.func69, Try.ntmps69
  go_wp2_with (go_at_call 90; refine (call_ok93 w.heap.size (w.heap.size + 1) (w.heap.size + 2) R (H.out.below HW3.out) HF.out HA.out ?hclo).mono ?_; (case hclo =>
      intro w1 hr1 hb1 hk1
      have hne : ∀ b, w.heap.size ≤ b → b ≠ g := fun b hb => by omega
      refine of1_ok77 w.heap.size (w.heap.size + 1) (w.heap.size + 2) c0 c1 c2 R hr1 HF1.out (blk_keptG HP.out hk1 (hne _ (by omega))) (blk_keptG HN.out hk1 (hne _ (by omega))) (blk_keptG HC.out hk1 (hne _ (by omega))) (by rw [asked_files]; exact HOK.out) ?_
      intro w2 v hr2 hb2 hv
      rw [asked_files] at hv
      refine HDO.out w2 v hr2 (belowB_trans (belowB_of hBw HW3.out) (belowB_trans hb1 (belowB_of (Up.le hBw (Nat.le_trans HW3.out.size hk1.1)) hb2))) ((KeptG.of_below HW3.out).trans (hk1.trans (KeptG.of_below hb2))) (Kd.R_lower hv (Nat.le_trans HW3.out.size hk1.1))); rintro e w7 ⟨r, rfl, hR⟩; have HR := Aside0.mk hR; clear hR)
  go_ret
  exact ⟨r, rfl, HR.out⟩

set_option maxHeartbeats 8000000 in
set_option maxRecDepth 100000 in
theorem of_none77 (c0 c1 c2 : Nat) (h : RepAt B g s w mv sv pv) (hf : Fit s) (hf1 : Fit (asked s).1) (hBw : Up B w.heap.size) (ha : (asked s).2 = 0) (hok : (getT (filesOf s) name).2 = false) :
    Calls Try.prog 69 #[.pointer (some ⟨g, 0, none⟩), .string name, (.func (.func 77) #[] #[.pointer (some ⟨c0, 0, none⟩), .pointer (some ⟨c1, 0, none⟩), .pointer (some ⟨c2, 0, none⟩)])] w fun e w' => ∃ r, e = .returned (.int .i64 r) ∧ r = 4 ∧ Rep B g (asked s).1 w' ∧ BelS B w w' := by
  have H := Aside0.mk h
  have HF := Aside0.mk hf
  have HF1 := Aside0.mk hf1
  have HA := Aside0.mk ha
  have HOK := Aside0.mk hok
  clear h hf hf1 ha hok
  obtain ⟨o0, ho0⟩ : ∃ o, o = Obj.cells #[.pointer (some ⟨g, 0, none⟩)] 58 := ⟨_, rfl⟩
  obtain ⟨o1, ho1⟩ : ∃ o, o = Obj.cells #[.string name] 9 := ⟨_, rfl⟩
  obtain ⟨o2, ho2⟩ : ∃ o, o = Obj.cells #[(.func (.func 77) #[] #[.pointer (some ⟨c0, 0, none⟩), .pointer (some ⟨c1, 0, none⟩), .pointer (some ⟨c2, 0, none⟩)])] 113 := ⟨_, rfl⟩
  have hw3 : Below w.heap.size w (((w.alloc (Obj.cells #[.pointer (some ⟨g, 0, none⟩)] 58)).alloc (Obj.cells #[.string name] 9)).alloc (Obj.cells #[(.func (.func 77) #[] #[.pointer (some ⟨c0, 0, none⟩), .pointer (some ⟨c1, 0, none⟩), .pointer (some ⟨c2, 0, none⟩)])] 113)) := below_alloc (below_alloc (below_alloc (Below.refl _ _) _) _) _
  have hp : VarP (((w.alloc (Obj.cells #[.pointer (some ⟨g, 0, none⟩)] 58)).alloc (Obj.cells #[.string name] 9)).alloc (Obj.cells #[(.func (.func 77) #[] #[.pointer (some ⟨c0, 0, none⟩), .pointer (some ⟨c1, 0, none⟩), .pointer (some ⟨c2, 0, none⟩)])] 113)) w.heap.size g := blk_alloc (blk_alloc (heap_alloc_new _ _) _) _
  have hn : VarS (((w.alloc (Obj.cells #[.pointer (some ⟨g, 0, none⟩)] 58)).alloc (Obj.cells #[.string name] 9)).alloc (Obj.cells #[(.func (.func 77) #[] #[.pointer (some ⟨c0, 0, none⟩), .pointer (some ⟨c1, 0, none⟩), .pointer (some ⟨c2, 0, none⟩)])] 113)) (w.heap.size + 1) name := by
    have := heap_alloc_new (w.alloc (Obj.cells #[.pointer (some ⟨g, 0, none⟩)] 58)) (Obj.cells #[.string name] 9)
    rw [World.size_alloc] at this
    exact blk_alloc this _
  have hc : VarC (((w.alloc (Obj.cells #[.pointer (some ⟨g, 0, none⟩)] 58)).alloc (Obj.cells #[.string name] 9)).alloc (Obj.cells #[(.func (.func 77) #[] #[.pointer (some ⟨c0, 0, none⟩), .pointer (some ⟨c1, 0, none⟩), .pointer (some ⟨c2, 0, none⟩)])] 113)) (w.heap.size + 2) (.func (.func 77) #[] #[.pointer (some ⟨c0, 0, none⟩), .pointer (some ⟨c1, 0, none⟩), .pointer (some ⟨c2, 0, none⟩)]) := by
    have := heap_alloc_new ((w.alloc (Obj.cells #[.pointer (some ⟨g, 0, none⟩)] 58)).alloc (Obj.cells #[.string name] 9)) (Obj.cells #[(.func (.func 77) #[] #[.pointer (some ⟨c0, 0, none⟩), .pointer (some ⟨c1, 0, none⟩), .pointer (some ⟨c2, 0, none⟩)])] 113)
    rw [World.size_alloc, World.size_alloc] at this
    exact this
  have HW3 := Aside0.mk hw3
  have HP := Aside0.mk hp
  have HN := Aside0.mk hn
  have HC := Aside0.mk hc
  clear ho0 ho1 ho2 o0 o1 o2 hw3 hp hn hc
  have hg0 : g < w.heap.size := by exact blk_lt H.out.blk
  go_enter Try.func69, Try.ntmps69
  go_wp2_with (go_at_call 90; refine (call_ok93 w.heap.size (w.heap.size + 1) (w.heap.size + 2) (fun r w' => r = 4 ∧ Rep B g (asked s).1 w' ∧ BelS B w w') (H.out.below HW3.out) HF.out HA.out ?hclo).mono ?_; (case hclo =>
      intro w1 hr1 hb1 hk1
      have hne : ∀ b, w.heap.size ≤ b → b ≠ g := fun b hb => by omega
      refine (of1_none w.heap.size (w.heap.size + 1) (w.heap.size + 2) (.func (.func 77) #[] #[.pointer (some ⟨c0, 0, none⟩), .pointer (some ⟨c1, 0, none⟩), .pointer (some ⟨c2, 0, none⟩)]) hr1 HF1.out (blk_keptG HP.out hk1 (hne _ (by omega))) (blk_keptG HN.out hk1 (hne _ (by omega))) (blk_keptG HC.out hk1 (hne _ (by omega))) (by rw [asked_files]; exact HOK.out)).mono ?_
      rintro e w2 ⟨rfl, hr2, hb2⟩
      exact ⟨4, rfl, rfl, ⟨mv, sv, pv, hr2⟩, belowB_trans (belowB_of hBw HW3.out) (belowB_trans hb1 (belowB_of (Up.le hBw (Nat.le_trans HW3.out.size hk1.1)) hb2))⟩); rintro e w7 ⟨r, rfl, rfl, hr7, hb7⟩; have HR7 := Aside0.mk hr7; have HB7 := Aside0.mk hb7; clear hr7 hb7)
  go_ret
  exact ⟨4, rfl, rfl, HR7.out, HB7.out⟩

set_option maxHeartbeats 8000000 in
set_option maxRecDepth 100000 in
theorem of_err77 (c0 c1 c2 : Nat) (h : Rep B g s w) (hf : Fit s) (hBw : Up B w.heap.size) (ha : (asked s).2 ≠ 0) :
    Calls Try.prog 69 #[.pointer (some ⟨g, 0, none⟩), .string name, (.func (.func 77) #[] #[.pointer (some ⟨c0, 0, none⟩), .pointer (some ⟨c1, 0, none⟩), .pointer (some ⟨c2, 0, none⟩)])] w fun e w' => ∃ r, e = .returned (.int .i64 r) ∧ r = (asked s).2 ∧ Rep B g (asked s).1 w' ∧ BelS B w w' := by
  have H := Aside0.mk h
  have HF := Aside0.mk hf
  have HA := Aside0.mk ha
  have hw3 : Below w.heap.size w (((w.alloc (Obj.cells #[.pointer (some ⟨g, 0, none⟩)] 58)).alloc (Obj.cells #[.string name] 9)).alloc (Obj.cells #[(.func (.func 77) #[] #[.pointer (some ⟨c0, 0, none⟩), .pointer (some ⟨c1, 0, none⟩), .pointer (some ⟨c2, 0, none⟩)])] 113)) := below_alloc (below_alloc (below_alloc (Below.refl _ _) _) _) _
  have HW3 := Aside0.mk hw3
  clear h hf ha hw3
  go_enter Try.func69, Try.ntmps69
  go_wp2_with (go_at_call 90; refine (call_err _ (H.out.below HW3.out) HF.out HA.out).mono ?_; rintro e w7 ⟨rfl, hr7, hb7, hk7⟩; have HR7 := Aside0.mk hr7; have HB7 := Aside0.mk (belowB_trans (belowB_of hBw HW3.out) hb7); clear hr7 hb7 hk7)
  go_ret
  exact ⟨_, rfl, rfl, HR7.out, HB7.out⟩


set_option maxHeartbeats 8000000 in
set_option maxRecDepth 100000 in
theorem of1_ok92 (b0 b1 b2 c0 : Nat) (R : Int → World → Prop) (h : RepAt B g s w mv sv pv) (hf : Fit s) (hp : VarP w b0 g) (hn : VarS w b1 name) (hc : VarC w b2 (.func (.func 92) #[] #[.pointer (some ⟨c0, 0, none⟩)])) (hok : (getT (filesOf s) name).2 = true)
    (hdo : ∀ w1 v, RepAt B g s w1 mv sv pv → Below w.heap.size w w1 → Kd.R (Kd.int .u8) 5 w1 w.heap.size (fun _ => True) v (getT (filesOf s) name).1 → Calls Try.prog 92 #[v, .pointer (some ⟨c0, 0, none⟩)] w1 fun e w' => ∃ r, e = .returned (.int .i64 r) ∧ R r w') :
    Calls Try.prog 93 #[.pointer (some ⟨b0, 0, none⟩), .pointer (some ⟨b1, 0, none⟩), .pointer (some ⟨b2, 0, none⟩)] w fun e w' => ∃ r, e = .returned (.int .i64 r) ∧ R r w' := by
  have HDO := Aside0.mk hdo
  clear hdo
  have hk0 : OfS B g s mv sv pv name b0 b1 b2 (.func (.func 92) #[] #[.pointer (some ⟨c0, 0, none⟩)]) w w := ⟨h, hp, hn, hc, Below.refl _ _⟩
  have HF := Aside0.mk hf
  obtain ⟨hfo, hfl⟩ := files_ok hf
  have HFO := Aside0.mk hfo
  have hge := get_f (filesOf s) name (by omega) hfo
  rw [hok] at hge
  have HGE := Aside0.mk hge
  clear h hp hn hc hf hfo hge
  go_enter Try.func93, Try.ntmps93
  go_wp2_with fail
  go_region_held3 (fun w' => w'.cell? ⟨b0, 0, none⟩ = some (.pointer (some ⟨g, 0, none⟩)) ∧ w'.cell? ⟨b1, 0, none⟩ = some (.string name) ∧ OfS B g s mv sv pv name b0 b1 b2 (.func (.func 92) #[] #[.pointer (some ⟨c0, 0, none⟩)]) w w')
    (first
      | exact (hk0.step (below_drew1 (Below.refl _ _))).all
      | (go_split_ands
         first
          | exact OfS.all (OfS.step (by assumption) hb6)
          | exact OfS.all (OfS.step (by assumption) hb5))
      | go_keep)
    (first
      | (go_split_ands; go_at_call 42; refine (files_calls ⟨mv, sv, pv, OfS.rep (by assumption)⟩ HF.out).mono ?_; rintro e w5 ⟨v5, rfl, hV5, hb5⟩; obtain ⟨A5, c5, rfl⟩ := Kd.V_slice hV5)
      | (go_split_ands
         go_at_call 28
         ((with_reducible refine (files_Get.calls A5 c5 (filesOf s) name (getT (filesOf s) name).1 true _ ?hs ?hc HGE.out).mono ?_); (case hs => exact (Kd.V_reads' hV5).2.2); (case hc => exact (Kd.V_reads' hV5).2.1))
         rintro e w6 ⟨v6, rfl, hV6, hb6⟩))
  have hfin : OfS B g s mv sv pv name b0 b1 b2 (.func (.func 92) #[] #[.pointer (some ⟨c0, 0, none⟩)]) w w6 := by go_split_ands; assumption
  have h5 : OfS B g s mv sv pv name b0 b1 b2 (.func (.func 92) #[] #[.pointer (some ⟨c0, 0, none⟩)]) w w5 := by go_split_ands; assumption
  have hc6 := hfin.c.cell
  have HFIN := Aside0.mk hfin
  have HV6 := Aside0.mk (Kd.R_lower hV6 h5.below.size)
  clear hk0 hfin hV6 hV5 hb5 hb6 h5
  go_wp2_with (go_at_call 92; refine (HDO.out _ _ HFIN.out.rep HFIN.out.below HV6.out).mono ?_; rintro e w7 ⟨r, rfl, hR⟩; have HR := Aside0.mk hR; clear hR)
  go_ret
  exact ⟨r, rfl, HR.out⟩

set_option maxHeartbeats 8000000 in
set_option maxRecDepth 100000 in
theorem of_ok92 (c0 : Nat) (R : Int → World → Prop) (h : RepAt B g s w mv sv pv) (hf : Fit s) (hf1 : Fit (asked s).1) (hBw : Up B w.heap.size) (ha : (asked s).2 = 0) (hok : (getT (filesOf s) name).2 = true)
    (hdo : ∀ w1 v, RepAt B g (asked s).1 w1 mv sv pv → BelS B w w1 → KeptG g w w1 → Kd.R (Kd.int .u8) 5 w1 w.heap.size (fun _ => True) v (getT (filesOf s) name).1 → Calls Try.prog 92 #[v, .pointer (some ⟨c0, 0, none⟩)] w1 fun e w' => ∃ r, e = .returned (.int .i64 r) ∧ R r w') :
    Calls Try.prog 69 #[.pointer (some ⟨g, 0, none⟩), .string name, (.func (.func 92) #[] #[.pointer (some ⟨c0, 0, none⟩)])] w fun e w' => ∃ r, e = .returned (.int .i64 r) ∧ R r w' := by
  have HDO := Aside0.mk hdo
  have H := Aside0.mk h
  have HF := Aside0.mk hf
  have HF1 := Aside0.mk hf1
  have HA := Aside0.mk ha
  have HOK := Aside0.mk hok
  clear h hf hf1 ha hok hdo
  obtain ⟨o0, ho0⟩ : ∃ o, o = Obj.cells #[.pointer (some ⟨g, 0, none⟩)] 58 := ⟨_, rfl⟩
  obtain ⟨o1, ho1⟩ : ∃ o, o = Obj.cells #[.string name] 9 := ⟨_, rfl⟩
  obtain ⟨o2, ho2⟩ : ∃ o, o = Obj.cells #[(.func (.func 92) #[] #[.pointer (some ⟨c0, 0, none⟩)])] 113 := ⟨_, rfl⟩
  have hw3 : Below w.heap.size w (((w.alloc (Obj.cells #[.pointer (some ⟨g, 0, none⟩)] 58)).alloc (Obj.cells #[.string name] 9)).alloc (Obj.cells #[(.func (.func 92) #[] #[.pointer (some ⟨c0, 0, none⟩)])] 113)) := below_alloc (below_alloc (below_alloc (Below.refl _ _) _) _) _
  have hp : VarP (((w.alloc (Obj.cells #[.pointer (some ⟨g, 0, none⟩)] 58)).alloc (Obj.cells #[.string name] 9)).alloc (Obj.cells #[(.func (.func 92) #[] #[.pointer (some ⟨c0, 0, none⟩)])] 113)) w.heap.size g := blk_alloc (blk_alloc (heap_alloc_new _ _) _) _
  have hn : VarS (((w.alloc (Obj.cells #[.pointer (some ⟨g, 0, none⟩)] 58)).alloc (Obj.cells #[.string name] 9)).alloc (Obj.cells #[(.func (.func 92) #[] #[.pointer (some ⟨c0, 0, none⟩)])] 113)) (w.heap.size + 1) name := by
    have := heap_alloc_new (w.alloc (Obj.cells #[.pointer (some ⟨g, 0, none⟩)] 58)) (Obj.cells #[.string name] 9)
    rw [World.size_alloc] at this
    exact blk_alloc this _
  have hc : VarC (((w.alloc (Obj.cells #[.pointer (some ⟨g, 0, none⟩)] 58)).alloc (Obj.cells #[.string name] 9)).alloc (Obj.cells #[(.func (.func 92) #[] #[.pointer (some ⟨c0, 0, none⟩)])] 113)) (w.heap.size + 2) (.func (.func 92) #[] #[.pointer (some ⟨c0, 0, none⟩)]) := by
    have := heap_alloc_new ((w.alloc (Obj.cells #[.pointer (some ⟨g, 0, none⟩)] 58)).alloc (Obj.cells #[.string name] 9)) (Obj.cells #[(.func (.func 92) #[] #[.pointer (some ⟨c0, 0, none⟩)])] 113)
    rw [World.size_alloc, World.size_alloc] at this
    exact this
  have HW3 := Aside0.mk hw3
  have HP := Aside0.mk hp
  have HN := Aside0.mk hn
  have HC := Aside0.mk hc
  clear ho0 ho1 ho2 o0 o1 o2 hw3 hp hn hc
  have hg0 : g < w.heap.size := by exact blk_lt H.out.blk
  go_enter Try.func69, Try.ntmps69
  go_wp2_with (go_at_call 90; refine (call_ok93 w.heap.size (w.heap.size + 1) (w.heap.size + 2) R (H.out.below HW3.out) HF.out HA.out ?hclo).mono ?_; (case hclo =>
      intro w1 hr1 hb1 hk1
      have hne : ∀ b, w.heap.size ≤ b → b ≠ g := fun b hb => by omega
      refine of1_ok92 w.heap.size (w.heap.size + 1) (w.heap.size + 2) c0 R hr1 HF1.out (blk_keptG HP.out hk1 (hne _ (by omega))) (blk_keptG HN.out hk1 (hne _ (by omega))) (blk_keptG HC.out hk1 (hne _ (by omega))) (by rw [asked_files]; exact HOK.out) ?_
      intro w2 v hr2 hb2 hv
      rw [asked_files] at hv
      refine HDO.out w2 v hr2 (belowB_trans (belowB_of hBw HW3.out) (belowB_trans hb1 (belowB_of (Up.le hBw (Nat.le_trans HW3.out.size hk1.1)) hb2))) ((KeptG.of_below HW3.out).trans (hk1.trans (KeptG.of_below hb2))) (Kd.R_lower hv (Nat.le_trans HW3.out.size hk1.1))); rintro e w7 ⟨r, rfl, hR⟩; have HR := Aside0.mk hR; clear hR)
  go_ret
  exact ⟨r, rfl, HR.out⟩

set_option maxHeartbeats 8000000 in
set_option maxRecDepth 100000 in
theorem of_none92 (c0 : Nat) (h : RepAt B g s w mv sv pv) (hf : Fit s) (hf1 : Fit (asked s).1) (hBw : Up B w.heap.size) (ha : (asked s).2 = 0) (hok : (getT (filesOf s) name).2 = false) :
    Calls Try.prog 69 #[.pointer (some ⟨g, 0, none⟩), .string name, (.func (.func 92) #[] #[.pointer (some ⟨c0, 0, none⟩)])] w fun e w' => ∃ r, e = .returned (.int .i64 r) ∧ r = 4 ∧ Rep B g (asked s).1 w' ∧ BelS B w w' ∧ KeptG g w w' := by
  have H := Aside0.mk h
  have HF := Aside0.mk hf
  have HF1 := Aside0.mk hf1
  have HA := Aside0.mk ha
  have HOK := Aside0.mk hok
  clear h hf hf1 ha hok
  obtain ⟨o0, ho0⟩ : ∃ o, o = Obj.cells #[.pointer (some ⟨g, 0, none⟩)] 58 := ⟨_, rfl⟩
  obtain ⟨o1, ho1⟩ : ∃ o, o = Obj.cells #[.string name] 9 := ⟨_, rfl⟩
  obtain ⟨o2, ho2⟩ : ∃ o, o = Obj.cells #[(.func (.func 92) #[] #[.pointer (some ⟨c0, 0, none⟩)])] 113 := ⟨_, rfl⟩
  have hw3 : Below w.heap.size w (((w.alloc (Obj.cells #[.pointer (some ⟨g, 0, none⟩)] 58)).alloc (Obj.cells #[.string name] 9)).alloc (Obj.cells #[(.func (.func 92) #[] #[.pointer (some ⟨c0, 0, none⟩)])] 113)) := below_alloc (below_alloc (below_alloc (Below.refl _ _) _) _) _
  have hp : VarP (((w.alloc (Obj.cells #[.pointer (some ⟨g, 0, none⟩)] 58)).alloc (Obj.cells #[.string name] 9)).alloc (Obj.cells #[(.func (.func 92) #[] #[.pointer (some ⟨c0, 0, none⟩)])] 113)) w.heap.size g := blk_alloc (blk_alloc (heap_alloc_new _ _) _) _
  have hn : VarS (((w.alloc (Obj.cells #[.pointer (some ⟨g, 0, none⟩)] 58)).alloc (Obj.cells #[.string name] 9)).alloc (Obj.cells #[(.func (.func 92) #[] #[.pointer (some ⟨c0, 0, none⟩)])] 113)) (w.heap.size + 1) name := by
    have := heap_alloc_new (w.alloc (Obj.cells #[.pointer (some ⟨g, 0, none⟩)] 58)) (Obj.cells #[.string name] 9)
    rw [World.size_alloc] at this
    exact blk_alloc this _
  have hc : VarC (((w.alloc (Obj.cells #[.pointer (some ⟨g, 0, none⟩)] 58)).alloc (Obj.cells #[.string name] 9)).alloc (Obj.cells #[(.func (.func 92) #[] #[.pointer (some ⟨c0, 0, none⟩)])] 113)) (w.heap.size + 2) (.func (.func 92) #[] #[.pointer (some ⟨c0, 0, none⟩)]) := by
    have := heap_alloc_new ((w.alloc (Obj.cells #[.pointer (some ⟨g, 0, none⟩)] 58)).alloc (Obj.cells #[.string name] 9)) (Obj.cells #[(.func (.func 92) #[] #[.pointer (some ⟨c0, 0, none⟩)])] 113)
    rw [World.size_alloc, World.size_alloc] at this
    exact this
  have HW3 := Aside0.mk hw3
  have HP := Aside0.mk hp
  have HN := Aside0.mk hn
  have HC := Aside0.mk hc
  clear ho0 ho1 ho2 o0 o1 o2 hw3 hp hn hc
  have hg0 : g < w.heap.size := by exact blk_lt H.out.blk
  go_enter Try.func69, Try.ntmps69
  go_wp2_with (go_at_call 90; refine (call_ok93 w.heap.size (w.heap.size + 1) (w.heap.size + 2) (fun r w' => r = 4 ∧ Rep B g (asked s).1 w' ∧ BelS B w w' ∧ KeptG g w w') (H.out.below HW3.out) HF.out HA.out ?hclo).mono ?_; (case hclo =>
      intro w1 hr1 hb1 hk1
      have hne : ∀ b, w.heap.size ≤ b → b ≠ g := fun b hb => by omega
      refine (of1_none w.heap.size (w.heap.size + 1) (w.heap.size + 2) (.func (.func 92) #[] #[.pointer (some ⟨c0, 0, none⟩)]) hr1 HF1.out (blk_keptG HP.out hk1 (hne _ (by omega))) (blk_keptG HN.out hk1 (hne _ (by omega))) (blk_keptG HC.out hk1 (hne _ (by omega))) (by rw [asked_files]; exact HOK.out)).mono ?_
      rintro e w2 ⟨rfl, hr2, hb2⟩
      exact ⟨4, rfl, rfl, ⟨mv, sv, pv, hr2⟩, belowB_trans (belowB_of hBw HW3.out) (belowB_trans hb1 (belowB_of (Up.le hBw (Nat.le_trans HW3.out.size hk1.1)) hb2)), (KeptG.of_below HW3.out).trans (hk1.trans (KeptG.of_below hb2))⟩); rintro e w7 ⟨r, rfl, rfl, hr7, hb7, hk7⟩; have HK7 := Aside0.mk hk7; have HR7 := Aside0.mk hr7; have HB7 := Aside0.mk hb7; clear hr7 hb7 hk7)
  go_ret
  exact ⟨4, rfl, rfl, HR7.out, HB7.out, HK7.out⟩

set_option maxHeartbeats 8000000 in
set_option maxRecDepth 100000 in
theorem of_err92 (c0 : Nat) (h : Rep B g s w) (hf : Fit s) (hBw : Up B w.heap.size) (ha : (asked s).2 ≠ 0) :
    Calls Try.prog 69 #[.pointer (some ⟨g, 0, none⟩), .string name, (.func (.func 92) #[] #[.pointer (some ⟨c0, 0, none⟩)])] w fun e w' => ∃ r, e = .returned (.int .i64 r) ∧ r = (asked s).2 ∧ Rep B g (asked s).1 w' ∧ BelS B w w' ∧ KeptG g w w' := by
  have H := Aside0.mk h
  have HF := Aside0.mk hf
  have HA := Aside0.mk ha
  have hw3 : Below w.heap.size w (((w.alloc (Obj.cells #[.pointer (some ⟨g, 0, none⟩)] 58)).alloc (Obj.cells #[.string name] 9)).alloc (Obj.cells #[(.func (.func 92) #[] #[.pointer (some ⟨c0, 0, none⟩)])] 113)) := below_alloc (below_alloc (below_alloc (Below.refl _ _) _) _) _
  have HW3 := Aside0.mk hw3
  clear h hf ha hw3
  go_enter Try.func69, Try.ntmps69
  go_wp2_with (go_at_call 90; refine (call_err _ (H.out.below HW3.out) HF.out HA.out).mono ?_; rintro e w7 ⟨rfl, hr7, hb7, hk7⟩; have HR7 := Aside0.mk hr7; have HB7 := Aside0.mk (belowB_trans (belowB_of hBw HW3.out) hb7); have HK7 := Aside0.mk ((KeptG.of_below HW3.out).trans hk7); clear hr7 hb7 hk7)
  go_ret
  exact ⟨_, rfl, rfl, HR7.out, HB7.out, HK7.out⟩


/-- A call for a file that is there. -/
def ofR (s : SSt) (name : ByteArray) (k : SSt → SSt × Int) : SSt × Int := if (asked s).2 ≠ 0 then asked s else if (getT (filesOf s) name).2 = true then k (asked s).1 else ((asked s).1, 4)
def syncR (s : SSt) (name : ByteArray) : SSt × Int := ofR s name fun s => (syncD s name, 0)
def dropR (s : SSt) (name : ByteArray) : SSt × Int := ofR s name fun s => (dropD s name, 0)
def moveR (s : SSt) (a b : ByteArray) : SSt × Int := ofR s a fun s => if b.size < 1 ∨ 40 < b.size then (s, 1) else if (a.toList == b.toList) = true then (s, 0) else (moveD s a b, 0)
theorem ofR_err {name : ByteArray} {k : SSt → SSt × Int} (ha : ¬ (asked s).2 = 0) : ofR s name k = asked s := by unfold ofR; rw [if_pos ha]
theorem ofR_none {name : ByteArray} {k : SSt → SSt × Int} (ha : (asked s).2 = 0) (h : (getT (filesOf s) name).2 = false) : ofR s name k = ((asked s).1, 4) := by unfold ofR; rw [if_neg (by simp [ha]), if_neg (by simp [h])]
theorem ofR_ok {name : ByteArray} {k : SSt → SSt × Int} (ha : (asked s).2 = 0) (h : (getT (filesOf s) name).2 = true) : ofR s name k = k (asked s).1 := by unfold ofR; rw [if_neg (by simp [ha]), if_pos h]


set_option maxHeartbeats 8000000 in
set_option maxRecDepth 100000 in
theorem sync_calls (name : ByteArray) (h : Rep B g s w) (hf : Fit s) (hf1 : Fit (asked s).1) (hBw : Up B w.heap.size) :
    Calls Try.prog 41 #[.pointer (some ⟨g, 0, none⟩), .string name] w fun e w' => e = .returned (.int .i64 (syncR s name).2) ∧ Rep B g (syncR s name).1 w' ∧ BelS B w w' := by
  obtain ⟨mv, sv, pv, h⟩ := h
  have H := Aside0.mk h
  have HF := Aside0.mk hf
  have HF1 := Aside0.mk hf1
  have hg0 : g < w.heap.size := by exact blk_lt H.out.blk
  clear h hf hf1
  have hw3 : Below w.heap.size w ((w.alloc (Obj.cells #[.pointer (some ⟨g, 0, none⟩)] 58)).alloc (Obj.cells #[.string name] 9)) := below_alloc (below_alloc (Below.refl _ _) _) _
  have hp : VarP ((w.alloc (Obj.cells #[.pointer (some ⟨g, 0, none⟩)] 58)).alloc (Obj.cells #[.string name] 9)) w.heap.size g := blk_alloc (heap_alloc_new _ _) _
  have hn0 : VarS ((w.alloc (Obj.cells #[.pointer (some ⟨g, 0, none⟩)] 58)).alloc (Obj.cells #[.string name] 9)) (w.heap.size + 1) name := by
    have := heap_alloc_new (w.alloc (Obj.cells #[.pointer (some ⟨g, 0, none⟩)] 58)) (Obj.cells #[.string name] 9)
    rw [World.size_alloc] at this
    exact this
  have HW3 := Aside0.mk hw3
  have HP := Aside0.mk hp
  have HN0 := Aside0.mk hn0
  clear hw3 hp hn0
  by_cases ha : (asked s).2 = 0
  · cases hok : (getT (filesOf s) name).2
    · have hR : syncR s name = ((asked s).1, 4) := ofR_none ha hok
      rw [hR]
      have HA := Aside0.mk ha
      have HOK := Aside0.mk hok
      clear hR ha hok
      go_enter Try.func41, Try.ntmps41
      go_wp2_with (go_at_call 69; refine (of_none70 w.heap.size (w.heap.size + 1) (H.out.below HW3.out) HF.out HF1.out (Up.le hBw HW3.out.size) HA.out HOK.out).mono ?_; rintro e w7 ⟨r, rfl, rfl, hr7, hb7⟩; have HR7 := Aside0.mk hr7; have HB7 := Aside0.mk (belowB_trans (belowB_of hBw HW3.out) hb7); clear hr7 hb7)
      go_ret
      exact ⟨rfl, HR7.out, HB7.out⟩
    · have hR : syncR s name = (syncD (asked s).1 name, 0) := ofR_ok ha hok
      rw [hR]
      have HA := Aside0.mk ha
      have HOK := Aside0.mk hok
      clear hR ha hok
      go_enter Try.func41, Try.ntmps41
      go_wp2_with (go_at_call 69; refine (of_ok70 w.heap.size (w.heap.size + 1) (fun r w' => r = 0 ∧ Rep B g (syncD (asked s).1 name) w' ∧ BelS B ((w.alloc (Obj.cells #[.pointer (some ⟨g, 0, none⟩)] 58)).alloc (Obj.cells #[.string name] 9)) w') (H.out.below HW3.out) HF.out HF1.out (Up.le hBw HW3.out.size) HA.out HOK.out ?hdo).mono ?_; (case hdo =>
          intro w1 v hr1 hb1 hk1 hv
          have hne : ∀ b, w.heap.size ≤ b → b ≠ g := fun b hb => by omega
          refine (sync1_calls name v w.heap.size (w.heap.size + 1) ⟨mv, sv, pv, hr1⟩ HF1.out (Up.le hBw (Nat.le_trans HW3.out.size hk1.1)) (blk_keptG HP.out hk1 (hne _ (by omega))) (blk_keptG HN0.out hk1 (hne _ (by omega)))).mono ?_
          rintro e w2 ⟨r, rfl, rfl, hr2, hb2⟩
          exact ⟨0, rfl, rfl, hr2, belowB_trans hb1 hb2⟩); rintro e w7 ⟨r, rfl, rfl, hr7, hb7⟩; have HR7 := Aside0.mk hr7; have HB7 := Aside0.mk (belowB_trans (belowB_of hBw HW3.out) hb7); clear hr7 hb7)
      go_ret
      exact ⟨rfl, HR7.out, HB7.out⟩
  · have hR : syncR s name = asked s := ofR_err ha
    rw [hR]
    have HA := Aside0.mk ha
    clear hR ha
    go_enter Try.func41, Try.ntmps41
    go_wp2_with (go_at_call 69; refine (of_err70 w.heap.size (w.heap.size + 1) ⟨mv, sv, pv, H.out.below HW3.out⟩ HF.out (Up.le hBw HW3.out.size) HA.out).mono ?_; rintro e w7 ⟨r, rfl, rfl, hr7, hb7⟩; have HR7 := Aside0.mk hr7; have HB7 := Aside0.mk (belowB_trans (belowB_of hBw HW3.out) hb7); clear hr7 hb7)
    go_ret
    exact ⟨rfl, HR7.out, HB7.out⟩


set_option maxHeartbeats 8000000 in
set_option maxRecDepth 100000 in
theorem drop_calls (name : ByteArray) (h : Rep B g s w) (hf : Fit s) (hf1 : Fit (asked s).1) (hBw : Up B w.heap.size) :
    Calls Try.prog 80 #[.pointer (some ⟨g, 0, none⟩), .string name] w fun e w' => e = .returned (.int .i64 (dropR s name).2) ∧ Rep B g (dropR s name).1 w' ∧ BelS B w w' := by
  obtain ⟨mv, sv, pv, h⟩ := h
  have H := Aside0.mk h
  have HF := Aside0.mk hf
  have HF1 := Aside0.mk hf1
  have hg0 : g < w.heap.size := by exact blk_lt H.out.blk
  clear h hf hf1
  have hw3 : Below w.heap.size w ((w.alloc (Obj.cells #[.pointer (some ⟨g, 0, none⟩)] 58)).alloc (Obj.cells #[.string name] 9)) := below_alloc (below_alloc (Below.refl _ _) _) _
  have hp : VarP ((w.alloc (Obj.cells #[.pointer (some ⟨g, 0, none⟩)] 58)).alloc (Obj.cells #[.string name] 9)) w.heap.size g := blk_alloc (heap_alloc_new _ _) _
  have hn0 : VarS ((w.alloc (Obj.cells #[.pointer (some ⟨g, 0, none⟩)] 58)).alloc (Obj.cells #[.string name] 9)) (w.heap.size + 1) name := by
    have := heap_alloc_new (w.alloc (Obj.cells #[.pointer (some ⟨g, 0, none⟩)] 58)) (Obj.cells #[.string name] 9)
    rw [World.size_alloc] at this
    exact this
  have HW3 := Aside0.mk hw3
  have HP := Aside0.mk hp
  have HN0 := Aside0.mk hn0
  clear hw3 hp hn0
  by_cases ha : (asked s).2 = 0
  · cases hok : (getT (filesOf s) name).2
    · have hR : dropR s name = ((asked s).1, 4) := ofR_none ha hok
      rw [hR]
      have HA := Aside0.mk ha
      have HOK := Aside0.mk hok
      clear hR ha hok
      go_enter Try.func80, Try.ntmps80
      go_wp2_with (go_at_call 69; refine (of_none96 w.heap.size (w.heap.size + 1) (H.out.below HW3.out) HF.out HF1.out (Up.le hBw HW3.out.size) HA.out HOK.out).mono ?_; rintro e w7 ⟨r, rfl, rfl, hr7, hb7⟩; have HR7 := Aside0.mk hr7; have HB7 := Aside0.mk (belowB_trans (belowB_of hBw HW3.out) hb7); clear hr7 hb7)
      go_ret
      exact ⟨rfl, HR7.out, HB7.out⟩
    · have hR : dropR s name = (dropD (asked s).1 name, 0) := ofR_ok ha hok
      rw [hR]
      have HA := Aside0.mk ha
      have HOK := Aside0.mk hok
      clear hR ha hok
      go_enter Try.func80, Try.ntmps80
      go_wp2_with (go_at_call 69; refine (of_ok96 w.heap.size (w.heap.size + 1) (fun r w' => r = 0 ∧ Rep B g (dropD (asked s).1 name) w' ∧ BelS B ((w.alloc (Obj.cells #[.pointer (some ⟨g, 0, none⟩)] 58)).alloc (Obj.cells #[.string name] 9)) w') (H.out.below HW3.out) HF.out HF1.out (Up.le hBw HW3.out.size) HA.out HOK.out ?hdo).mono ?_; (case hdo =>
          intro w1 v hr1 hb1 hk1 hv
          have hne : ∀ b, w.heap.size ≤ b → b ≠ g := fun b hb => by omega
          refine (drop1_calls name v w.heap.size (w.heap.size + 1) ⟨mv, sv, pv, hr1⟩ HF1.out (Up.le hBw (Nat.le_trans HW3.out.size hk1.1)) (blk_keptG HP.out hk1 (hne _ (by omega))) (blk_keptG HN0.out hk1 (hne _ (by omega)))).mono ?_
          rintro e w2 ⟨r, rfl, rfl, hr2, hb2⟩
          exact ⟨0, rfl, rfl, hr2, belowB_trans hb1 hb2⟩); rintro e w7 ⟨r, rfl, rfl, hr7, hb7⟩; have HR7 := Aside0.mk hr7; have HB7 := Aside0.mk (belowB_trans (belowB_of hBw HW3.out) hb7); clear hr7 hb7)
      go_ret
      exact ⟨rfl, HR7.out, HB7.out⟩
  · have hR : dropR s name = asked s := ofR_err ha
    rw [hR]
    have HA := Aside0.mk ha
    clear hR ha
    go_enter Try.func80, Try.ntmps80
    go_wp2_with (go_at_call 69; refine (of_err96 w.heap.size (w.heap.size + 1) ⟨mv, sv, pv, H.out.below HW3.out⟩ HF.out (Up.le hBw HW3.out.size) HA.out).mono ?_; rintro e w7 ⟨r, rfl, rfl, hr7, hb7⟩; have HR7 := Aside0.mk hr7; have HB7 := Aside0.mk (belowB_trans (belowB_of hBw HW3.out) hb7); clear hr7 hb7)
    go_ret
    exact ⟨rfl, HR7.out, HB7.out⟩


set_option maxHeartbeats 8000000 in
set_option maxRecDepth 100000 in
theorem move_calls (from_ to_ : ByteArray) (h : Rep B g s w) (hf : Fit s) (hf1 : Fit (asked s).1) (hBw : Up B w.heap.size) :
    Calls Try.prog 43 #[.pointer (some ⟨g, 0, none⟩), .string from_, .string to_] w fun e w' => e = .returned (.int .i64 (moveR s from_ to_).2) ∧ Rep B g (moveR s from_ to_).1 w' ∧ BelS B w w' := by
  obtain ⟨mv, sv, pv, h⟩ := h
  have H := Aside0.mk h
  have HF := Aside0.mk hf
  have HF1 := Aside0.mk hf1
  have hg0 : g < w.heap.size := by exact blk_lt H.out.blk
  clear h hf hf1
  have hw3 : Below w.heap.size w (((w.alloc (Obj.cells #[.pointer (some ⟨g, 0, none⟩)] 58)).alloc (Obj.cells #[.string from_] 9)).alloc (Obj.cells #[.string to_] 9)) := below_alloc (below_alloc (below_alloc (Below.refl _ _) _) _) _
  have hp : VarP (((w.alloc (Obj.cells #[.pointer (some ⟨g, 0, none⟩)] 58)).alloc (Obj.cells #[.string from_] 9)).alloc (Obj.cells #[.string to_] 9)) w.heap.size g := blk_alloc (blk_alloc (heap_alloc_new _ _) _) _
  have hn0 : VarS (((w.alloc (Obj.cells #[.pointer (some ⟨g, 0, none⟩)] 58)).alloc (Obj.cells #[.string from_] 9)).alloc (Obj.cells #[.string to_] 9)) (w.heap.size + 1) from_ := by
    have := heap_alloc_new (w.alloc (Obj.cells #[.pointer (some ⟨g, 0, none⟩)] 58)) (Obj.cells #[.string from_] 9)
    rw [World.size_alloc] at this
    exact blk_alloc (this) _
  have hn1 : VarS (((w.alloc (Obj.cells #[.pointer (some ⟨g, 0, none⟩)] 58)).alloc (Obj.cells #[.string from_] 9)).alloc (Obj.cells #[.string to_] 9)) (w.heap.size + 2) to_ := by
    have := heap_alloc_new ((w.alloc (Obj.cells #[.pointer (some ⟨g, 0, none⟩)] 58)).alloc (Obj.cells #[.string from_] 9)) (Obj.cells #[.string to_] 9)
    rw [World.size_alloc, World.size_alloc] at this
    exact this
  have HW3 := Aside0.mk hw3
  have HP := Aside0.mk hp
  have HN0 := Aside0.mk hn0
  have HN1 := Aside0.mk hn1
  clear hw3 hp hn0 hn1
  by_cases ha : (asked s).2 = 0
  · cases hok : (getT (filesOf s) from_).2
    · have hR : moveR s from_ to_ = ((asked s).1, 4) := ofR_none ha hok
      rw [hR]
      have HA := Aside0.mk ha
      have HOK := Aside0.mk hok
      clear hR ha hok
      go_enter Try.func43, Try.ntmps43
      go_wp2_with (go_at_call 69; refine (of_none77 (w.heap.size + 2) (w.heap.size + 1) w.heap.size (H.out.below HW3.out) HF.out HF1.out (Up.le hBw HW3.out.size) HA.out HOK.out).mono ?_; rintro e w7 ⟨r, rfl, rfl, hr7, hb7⟩; have HR7 := Aside0.mk hr7; have HB7 := Aside0.mk (belowB_trans (belowB_of hBw HW3.out) hb7); clear hr7 hb7)
      go_ret
      exact ⟨rfl, HR7.out, HB7.out⟩
    · by_cases hbad : to_.size < 1 ∨ 40 < to_.size
      · have HBAD := Aside0.mk hbad
        have hR : moveR s from_ to_ = ((asked s).1, 1) := by
          refine (ofR_ok ha hok).trans ?_
          show (if _ then _ else _) = _
          rw [if_pos hbad]
        rw [hR]
        have HA := Aside0.mk ha
        have HOK := Aside0.mk hok
        clear hR ha hok
        go_enter Try.func43, Try.ntmps43
        go_wp2_with (go_at_call 69; refine (of_ok77 (w.heap.size + 2) (w.heap.size + 1) w.heap.size (fun r w' => r = 1 ∧ Rep B g ((asked s).1) w' ∧ BelS B (((w.alloc (Obj.cells #[.pointer (some ⟨g, 0, none⟩)] 58)).alloc (Obj.cells #[.string from_] 9)).alloc (Obj.cells #[.string to_] 9)) w') (H.out.below HW3.out) HF.out HF1.out (Up.le hBw HW3.out.size) HA.out HOK.out ?hdo).mono ?_; (case hdo =>
            intro w1 v hr1 hb1 hk1 hv
            have hne : ∀ b, w.heap.size ≤ b → b ≠ g := fun b hb => by omega
            refine (move1_bad from_ to_ v (w.heap.size + 2) (w.heap.size + 1) w.heap.size (blk_keptG HN1.out hk1 (hne _ (by omega))) HBAD.out).mono ?_
            rintro e w2 ⟨rfl, hb2⟩
            exact ⟨1, rfl, rfl, ⟨mv, sv, pv, hr1.below hb2⟩, belowB_trans hb1 (belowB_of (Up.le hBw (Nat.le_trans HW3.out.size hk1.1)) hb2)⟩); rintro e w7 ⟨r, rfl, rfl, hr7, hb7⟩; have HR7 := Aside0.mk hr7; have HB7 := Aside0.mk (belowB_trans (belowB_of hBw HW3.out) hb7); clear hr7 hb7)
        go_ret
        exact ⟨rfl, HR7.out, HB7.out⟩
      · have HOKN : Aside0 (1 ≤ to_.size ∧ to_.size ≤ 40) := ⟨by omega⟩
        by_cases hsame : (from_.toList == to_.toList) = true
        · have HSAME := Aside0.mk hsame
          have hR : moveR s from_ to_ = ((asked s).1, 0) := by
            refine (ofR_ok ha hok).trans ?_
            show (if _ then _ else _) = _
            rw [if_neg hbad, if_pos hsame]
          rw [hR]
          have HA := Aside0.mk ha
          have HOK := Aside0.mk hok
          clear hR ha hok
          go_enter Try.func43, Try.ntmps43
          go_wp2_with (go_at_call 69; refine (of_ok77 (w.heap.size + 2) (w.heap.size + 1) w.heap.size (fun r w' => r = 0 ∧ Rep B g ((asked s).1) w' ∧ BelS B (((w.alloc (Obj.cells #[.pointer (some ⟨g, 0, none⟩)] 58)).alloc (Obj.cells #[.string from_] 9)).alloc (Obj.cells #[.string to_] 9)) w') (H.out.below HW3.out) HF.out HF1.out (Up.le hBw HW3.out.size) HA.out HOK.out ?hdo).mono ?_; (case hdo =>
              intro w1 v hr1 hb1 hk1 hv
              have hne : ∀ b, w.heap.size ≤ b → b ≠ g := fun b hb => by omega
              refine (move1_same from_ to_ v (w.heap.size + 2) (w.heap.size + 1) w.heap.size (blk_keptG HN1.out hk1 (hne _ (by omega))) (blk_keptG HN0.out hk1 (hne _ (by omega))) HOKN.out HSAME.out).mono ?_
              rintro e w2 ⟨rfl, hb2⟩
              exact ⟨0, rfl, rfl, ⟨mv, sv, pv, hr1.below hb2⟩, belowB_trans hb1 (belowB_of (Up.le hBw (Nat.le_trans HW3.out.size hk1.1)) hb2)⟩); rintro e w7 ⟨r, rfl, rfl, hr7, hb7⟩; have HR7 := Aside0.mk hr7; have HB7 := Aside0.mk (belowB_trans (belowB_of hBw HW3.out) hb7); clear hr7 hb7)
          go_ret
          exact ⟨rfl, HR7.out, HB7.out⟩
        · have HSAME : Aside0 ((from_.toList == to_.toList) = false) := ⟨by simpa using hsame⟩
          have hR : moveR s from_ to_ = (moveD (asked s).1 from_ to_, 0) := by
            refine (ofR_ok ha hok).trans ?_
            show (if _ then _ else _) = _
            rw [if_neg hbad, if_neg hsame]
          rw [hR]
          have HA := Aside0.mk ha
          have HOK := Aside0.mk hok
          clear hR ha hok
          go_enter Try.func43, Try.ntmps43
          go_wp2_with (go_at_call 69; refine (of_ok77 (w.heap.size + 2) (w.heap.size + 1) w.heap.size (fun r w' => r = 0 ∧ Rep B g (moveD (asked s).1 from_ to_) w' ∧ BelS B (((w.alloc (Obj.cells #[.pointer (some ⟨g, 0, none⟩)] 58)).alloc (Obj.cells #[.string from_] 9)).alloc (Obj.cells #[.string to_] 9)) w') (H.out.below HW3.out) HF.out HF1.out (Up.le hBw HW3.out.size) HA.out HOK.out ?hdo).mono ?_; (case hdo =>
              intro w1 v hr1 hb1 hk1 hv
              have hne : ∀ b, w.heap.size ≤ b → b ≠ g := fun b hb => by omega
              refine (move1_calls from_ to_ v (w.heap.size + 2) (w.heap.size + 1) w.heap.size ⟨mv, sv, pv, hr1⟩ HF1.out (Up.le hBw (Nat.le_trans HW3.out.size hk1.1)) (blk_keptG HN1.out hk1 (hne _ (by omega))) (blk_keptG HN0.out hk1 (hne _ (by omega))) (blk_keptG HP.out hk1 (hne _ (by omega))) HOKN.out HSAME.out).mono ?_
              rintro e w2 ⟨r, rfl, rfl, hr2, hb2⟩
              exact ⟨0, rfl, rfl, hr2, belowB_trans hb1 hb2⟩); rintro e w7 ⟨r, rfl, rfl, hr7, hb7⟩; have HR7 := Aside0.mk hr7; have HB7 := Aside0.mk (belowB_trans (belowB_of hBw HW3.out) hb7); clear hr7 hb7)
          go_ret
          exact ⟨rfl, HR7.out, HB7.out⟩
  · have hR : moveR s from_ to_ = asked s := ofR_err ha
    rw [hR]
    have HA := Aside0.mk ha
    clear hR ha
    go_enter Try.func43, Try.ntmps43
    go_wp2_with (go_at_call 69; refine (of_err77 (w.heap.size + 2) (w.heap.size + 1) w.heap.size ⟨mv, sv, pv, H.out.below HW3.out⟩ HF.out (Up.le hBw HW3.out.size) HA.out).mono ?_; rintro e w7 ⟨r, rfl, rfl, hr7, hb7⟩; have HR7 := Aside0.mk hr7; have HB7 := Aside0.mk (belowB_trans (belowB_of hBw HW3.out) hb7); clear hr7 hb7)
    go_ret
    exact ⟨rfl, HR7.out, HB7.out⟩

end
end Go.Proofs.Ytcgeioingikeeaa.P
namespace Go.Proofs.Ytcgeioingikeeaa.P
open Go.RowKit Go.Proofs.YtcgeioingikeeaaW.PrintWords Go.Proofs.YtcgeioingikeeaaW.PrintLast Go.Proofs.YtcgeioingikeeaaW.PrintMore
set_option linter.unusedVariables false
set_option linter.unusedSimpArgs false
section
variable {B : Nat → Prop} {g : Nat} {s : SSt} {w : World} {name : ByteArray} {mv sv pv : Value}
def readR (s : SSt) (name : ByteArray) : SSt × Int × List Int :=
  if (asked s).2 ≠ 0 then ((asked s).1, (asked s).2, []) else if (getT (filesOf s) name).2 = true then ((asked s).1, 0, (getT (filesOf s) name).1) else ((asked s).1, 4, [])
/-- Another block than the store's is written, one that is new: the store is as it was. -/
theorem RepAt.beside {s' : SSt} {w1 w2 : World} {b : Nat} (h : RepAt B g s w mv sv pv) (h1 : RepAt B g s' w1 mv sv pv) (hk : KeptG g w w1) (hb : w.heap.size ≤ b) (h2 : ∀ k, k ≠ b → w2.heap[k]? = w1.heap[k]?) (e1 : s'.safe = s.safe) (e2 : s'.pend = s.pend) (e3 : s'.fails = s.fails) : RepAt B g s' w2 mv sv pv := by
  have hg := blk_lt h.blk
  refine h.upd (fun k hlt hkg => (h2 k (by omega)).trans (hk.2 k hlt hkg)) ?_ e1 e2 e3
  rw [h2 g (by omega)]
  exact h1.blk
set_option maxHeartbeats 1000000 in
theorem read1_calls (A : Option Addr) (n c : Nat) (b0 : Nat) (x : Value) (hb : w.heap[b0]? = some (.cells #[x] 23 (0, 0))) :
    Calls Try.prog 92 #[.slice A n c, .pointer (some ⟨b0, 0, none⟩)] w fun e w' => e = .returned (.int .i64 0) ∧ w' = w.setCell ⟨b0, 0, none⟩ (.slice A n c) := by
  have hc : w.cell? ⟨b0, 0, none⟩ = some x := by rw [cell_of_row w b0 _ _ 23 (0, 0) hb]; rfl
  have hf := blk_frozen hb 0
  clear hb
  go_enter Try.func92, Try.ntmps92
  go_wp2
  go_ret
  exact ⟨rfl, rfl⟩
set_option maxHeartbeats 8000000 in
set_option maxRecDepth 100000 in
theorem read_calls (h : Rep B g s w) (hf : Fit s) (hf1 : Fit (asked s).1) (hBw : Up B w.heap.size) :
    Calls Try.prog 68 #[.pointer (some ⟨g, 0, none⟩), .string name] w fun e w' => ∃ v, e = .returned (.tuple #[v, .int .i64 (readR s name).2.1]) ∧ Kd.R (Kd.int .u8) 5 w' w.heap.size (fun _ => True) v (readR s name).2.2 ∧ Rep B g (readR s name).1 w' ∧ BelS B w w' := by
  obtain ⟨mv, sv, pv, h⟩ := h
  have H := Aside0.mk h
  have HF := Aside0.mk hf
  have HF1 := Aside0.mk hf1
  have hg0 : g < w.heap.size := blk_lt h.blk
  clear h hf hf1
  have hw1 : Below w.heap.size w (w.alloc (Obj.cells #[.slice none 0 0] 23)) := below_alloc (Below.refl _ _) _
  have hb1 : (w.alloc (Obj.cells #[.slice none 0 0] 23)).heap[w.heap.size]? = some (.cells #[.slice none 0 0] 23 (0, 0)) := heap_alloc_new _ _
  have HW1 := Aside0.mk hw1
  have HB1 := Aside0.mk hb1
  clear hw1 hb1
  by_cases ha : (asked s).2 = 0
  · cases hok : (getT (filesOf s) name).2
    · have hR : readR s name = ((asked s).1, 4, []) := by unfold readR; rw [if_neg (by simp [ha]), if_neg (by simp [hok])]
      rw [hR]
      have HA := Aside0.mk ha
      have HOK := Aside0.mk hok
      clear hR ha hok
      go_enter Try.func68, Try.ntmps68
      go_wp2_with (go_at_call 69; refine (of_none92 w.heap.size (H.out.below HW1.out) HF.out HF1.out (Up.le hBw HW1.out.size) HA.out HOK.out).mono ?_; rintro e w7 ⟨r, rfl, rfl, hr7, hb7, hk7⟩; have hcb : w7.cell? ⟨w.heap.size, 0, none⟩ = some (.slice none 0 0) := (by rw [cell_of_row w7 _ _ _ 23 (0, 0) (blk_keptG HB1.out hk7 (by omega))]; rfl); have HR7 := Aside0.mk hr7; have HB7 := Aside0.mk (belowB_trans (belowB_of hBw HW1.out) hb7); clear hr7 hb7 hk7)
      go_ret2
      exact ⟨_, rfl, Kd.R_nil _ _ _ _ _, HR7.out, HB7.out⟩
    · have hR : readR s name = ((asked s).1, 0, (getT (filesOf s) name).1) := by unfold readR; rw [if_neg (by simp [ha]), if_pos hok]
      rw [hR]
      have HA := Aside0.mk ha
      have HOK := Aside0.mk hok
      have HAS := Aside0.mk (asked_ok ha)
      clear hR ha hok
      have hcall : Calls Try.prog 69 #[.pointer (some ⟨g, 0, none⟩), .string name, (.func (.func 92) #[] #[.pointer (some ⟨w.heap.size, 0, none⟩)])] (w.alloc (Obj.cells #[.slice none 0 0] 23)) fun e w' => ∃ r, e = .returned (.int .i64 r) ∧ (r = 0 ∧ Rep B g (asked s).1 w' ∧ BelS B (w.alloc (Obj.cells #[.slice none 0 0] 23)) w' ∧ ∃ A n c, w'.cell? ⟨w.heap.size, 0, none⟩ = some (.slice A n c) ∧ Kd.R (Kd.int .u8) 5 w' w.heap.size (fun _ => True) (.slice A n c) (getT (filesOf s) name).1) := by
        refine of_ok92 w.heap.size (fun r w' => r = 0 ∧ Rep B g (asked s).1 w' ∧ BelS B (w.alloc (Obj.cells #[.slice none 0 0] 23)) w' ∧ ∃ A n c, w'.cell? ⟨w.heap.size, 0, none⟩ = some (.slice A n c) ∧ Kd.R (Kd.int .u8) 5 w' w.heap.size (fun _ => True) (.slice A n c) (getT (filesOf s) name).1) (H.out.below HW1.out) HF.out HF1.out (Up.le hBw HW1.out.size) HA.out HOK.out ?_
        intro w1 v hr1 hb1 hk1 hv
        have hbk := blk_keptG HB1.out hk1 (by omega)
        obtain ⟨A, c, rfl⟩ := Kd.R_slice hv
        refine (read1_calls A _ c w.heap.size _ hbk).mono ?_
        rintro e w2 ⟨rfl, rfl⟩
        have hset := blk_set hbk 0 (.slice A (getT (filesOf s) name).1.length c)
        refine ⟨0, rfl, rfl, ⟨mv, sv, pv, ?_⟩, belowB_set hb1 (hBw _ (Nat.le_refl _)) 0 _, A, (getT (filesOf s) name).1.length, c, ?_, ?_⟩
        · exact H.out.beside hr1 ((KeptG.of_below HW1.out).trans hk1) (Nat.le_refl _) (fun k hk => Below.heap_setCell _ _ _ _ hk) (by rw [HAS.out]) (by rw [HAS.out]) (by rw [HAS.out])
        · rw [cell_of_row _ _ _ _ 23 (0, 0) hset]; rfl
        · exact Kd.R_set (Kd.R_lower hv HW1.out.size) hbk (by decide) 0 _
      have HC := Aside0.mk hcall
      clear hcall
      go_enter Try.func68, Try.ntmps68
      go_wp2_with (go_at_call 69; refine (Aside0.out HC).mono ?_; rintro e w7 ⟨r, rfl, rfl, hr7, hb7, A7, n7, c7, hc7, hv7⟩; have HR7 := Aside0.mk hr7; have HB7 := Aside0.mk (belowB_trans (belowB_of hBw HW1.out) hb7); have HV7 := Aside0.mk hv7; clear hr7 hb7 hv7)
      go_ret2
      exact ⟨_, rfl, HV7.out, HR7.out, HB7.out⟩
  · have hR : readR s name = ((asked s).1, (asked s).2, []) := by unfold readR; rw [if_pos ha]
    rw [hR]
    have HA := Aside0.mk ha
    clear hR ha
    go_enter Try.func68, Try.ntmps68
    go_wp2_with (go_at_call 69; refine (of_err92 w.heap.size ⟨mv, sv, pv, H.out.below HW1.out⟩ HF.out (Up.le hBw HW1.out.size) HA.out).mono ?_; rintro e w7 ⟨r, rfl, rfl, hr7, hb7, hk7⟩; have hcb : w7.cell? ⟨w.heap.size, 0, none⟩ = some (.slice none 0 0) := (by rw [cell_of_row w7 _ _ _ 23 (0, 0) (blk_keptG HB1.out hk7 (by omega))]; rfl); have HR7 := Aside0.mk hr7; have HB7 := Aside0.mk (belowB_trans (belowB_of hBw HW1.out) hb7); clear hr7 hb7 hk7)
    go_ret2
    exact ⟨_, rfl, Kd.R_nil _ _ _ _ _, HR7.out, HB7.out⟩
end
end Go.Proofs.Ytcgeioingikeeaa.P
namespace Go.Proofs.Ytcgeioingikeeaa.P
open Go.RowKit Go.Proofs.YtcgeioingikeeaaW.PrintWords Go.Proofs.YtcgeioingikeeaaW.PrintLast Go.Proofs.YtcgeioingikeeaaW.PrintMore
set_option linter.unusedVariables false
set_option linter.unusedSimpArgs false
section
variable {B : Nat → Prop} {g : Nat} {s : SSt} {w : World} {name : ByteArray}
def newD (q : Int) : SSt := ⟨[], [], q, 0, [], 0, false, 0⟩
/-- How many bytes files have. -/
def sizeF (l : List S38) : Int := sumW 0 l
theorem size_f (l : List S38) (hl : l.length ≤ 1000000) : ∃ k, files_Size.f k l = some (sizeF l) := by
  obtain ⟨k, hk⟩ := sizeA l hl l.length 0 0 (by omega)
  rw [List.drop_zero] at hk
  exact ⟨k, hk⟩
def crashD (s : SSt) (ks : List Int) : SSt := ⟨doneL (keepN ks) 0 s.safe s.pend, [], s.quota, 0, [], 0, false, mx s.peak (sizeF (doneL (keepN ks) 0 s.safe s.pend))⟩
theorem new_none (q : Int) (hq : q < 0) : Calls Try.prog 47 #[.int .i64 q] w fun e w' => e = .returned (.pointer none) ∧ Below w.heap.size w w' := by
  go_enter Try.func47, Try.ntmps47
  go_wp2
  go_ret
  exact ⟨rfl, Below.refl _ _⟩
theorem new_calls (q : Int) (hq : 0 ≤ q) : Calls Try.prog 47 #[.int .i64 q] w fun e w' => e = .returned (.pointer (some ⟨w.heap.size, 0, none⟩)) ∧ (∀ B : Nat → Prop, B w.heap.size → Rep B w.heap.size (newD q) w') ∧ Below w.heap.size w w' := by
  have hR : ∀ w1 : World, w1.heap[w.heap.size]? = some (.cells #[.map none, .int .i64 0, .int .i64 0, .slice none 0 0, .slice none 0 0, .int .i64 q, .int .i64 0, .bool false] 106 (0, 0)) → (∀ B : Nat → Prop, B w.heap.size → Rep B w.heap.size (newD q) w1) := fun w1 hb B hB =>
    ⟨.map none, .slice none 0 0, .slice none 0 0, hB, hb, .inl ⟨rfl, rfl⟩, Kd.V_nil _ _ _ _ _, O_nil _ _ _ _ _, fun k hk => nomatch hk⟩
  have HR := Aside0.mk hR
  clear hR
  go_enter Try.func47, Try.ntmps47
  go_wp2
  go_ret
  exact ⟨rfl, HR.out _ (heap_alloc_new _ _), below_alloc (Below.refl _ _) _⟩

set_option maxHeartbeats 8000000 in
set_option maxRecDepth 100000 in
theorem crash_calls (A : Option Addr) (c : Nat) (ks : List Int) (h : Rep B g s w) (hf : Fit s) (hBw : Up B w.heap.size) (hk : (Kd.int .i64).C w A ks.length ks) :
    Calls Try.prog 44 #[.pointer (some ⟨g, 0, none⟩), .slice A ks.length c] w fun e w' => e = .returned (.tuple #[]) ∧ Rep B g (crashD s ks) w' ∧ BelS B w w' := by
  obtain ⟨mv, sv, pv, h⟩ := h
  obtain ⟨As, cs, rfl⟩ := Kd.V_slice h.safe
  obtain ⟨Ap, cp, rfl⟩ := O_slice h.pend
  have hlen := hf.len
  have hw1 : Below w.heap.size w (w.alloc (Obj.cells #[.slice A ks.length c] 56)) := below_alloc (Below.refl _ _) _
  have hb1 : VarK (w.alloc (Obj.cells #[.slice A ks.length c] 56)) w.heap.size A c ks := ⟨heap_alloc_new _ _, Kd.C_below hk hw1⟩
  have hg0 : g < w.heap.size := blk_lt h.blk
  have H := Aside0.mk h
  have HF := Aside0.mk hf
  have HW1 := Aside0.mk hw1
  have HB1 := Aside0.mk hb1
  clear h hf hw1 hb1 hk
  go_enter Try.func44, Try.ntmps44
  go_wp2_with fail
  have hR1 := H.out.below HW1.out
  have hb1 := HB1.out
  have hBw1 : Up B (w.alloc (Obj.cells #[.slice A ks.length c] 56)).heap.size := Up.le hBw HW1.out.size
  have hB1 := belowB_of hBw HW1.out
  generalize w.alloc (Obj.cells #[.slice A ks.length c] 56) = w1 at hR1 hb1 hBw1 hB1 ⊢
  generalize w.heap.size = b at hb1 ⊢
  refine start_ (n := 14) (S := (fun w' => w'.cell? ⟨g, 3, none⟩ = some (.slice As s.safe.length cs) ∧ w'.cell? ⟨g, 4, none⟩ = some (.slice Ap s.pend.length cp))) (ds := [13]) #[false, false, false, false, false, false, false, false, false, false, false, false, false, false] (by kernel_rfl) rfl rfl ⟨(hR1.below (below_drew1 (Below.refl _ _))).cells.2.2.2.1, (hR1.below (below_drew1 (Below.refl _ _))).cells.2.2.2.2.1⟩ (fun hHeld => ?_)
  refine pure_ (i := 0) (N := some 6) (v := ?_) (a' := ?_) #[true, false, false, false, false, false, false, false, false, false, false, false, false, false] rfl rfl (by kernel_rfl) (fun _ _ _ h => h) (Or.inl ⟨by rfl, ?_⟩) ?_ ?_
  rotate_left
  · intro w'
    go_simp
    with_reducible rfl
  rotate_left
  · simp only [Act.put, List.setIfInBounds_toArray, List.set_cons_zero, List.set_cons_succ, i64_w, i32_w]
    rfl
  refine pure_ (i := 1) (N := some 7) (v := ?_) (a' := ?_) #[true, true, false, false, false, false, false, false, false, false, false, false, false, false] rfl rfl (by kernel_rfl) (fun _ _ _ h => h) (Or.inl ⟨by rfl, ?_⟩) ?_ ?_
  rotate_left
  · intro w'
    go_simp
    with_reducible rfl
  rotate_left
  · simp only [Act.put, List.setIfInBounds_toArray, List.set_cons_zero, List.set_cons_succ, i64_w, i32_w]
    rfl
  refine pure_ (i := 2) (N := some 8) (v := ?_) (a' := ?_) #[true, true, true, false, false, false, false, false, false, false, false, false, false, false] rfl rfl (by kernel_rfl) (fun _ _ _ h => h) (Or.inl ⟨by rfl, ?_⟩) ?_ ?_
  rotate_left
  · intro w'
    go_simp
    with_reducible rfl
  rotate_left
  · simp only [Act.put, List.setIfInBounds_toArray, List.set_cons_zero, List.set_cons_succ, i64_w, i32_w]
    rfl
  refine pure_ (i := 3) (N := some 9) (v := ?_) (a' := ?_) #[true, true, true, true, false, false, false, false, false, false, false, false, false, false] rfl rfl (by kernel_rfl) (fun _ _ _ h => h) (Or.inl ⟨by rfl, ?_⟩) ?_ ?_
  rotate_left
  · intro w'
    go_simp
    with_reducible rfl
  rotate_left
  · simp only [Act.put, List.setIfInBounds_toArray, List.set_cons_zero, List.set_cons_succ, i64_w, i32_w]
    rfl
  refine pure_ (i := 5) (N := some 11) (v := ?_) (a' := ?_) #[true, true, true, true, false, true, false, false, false, false, false, false, false, false] rfl rfl (by kernel_rfl) (fun _ _ _ h => h) (Or.inl ⟨by rfl, ?_⟩) ?_ ?_
  rotate_left
  · intro w'
    go_simp
    with_reducible rfl
  rotate_left
  · simp only [Act.put, List.setIfInBounds_toArray, List.set_cons_zero, List.set_cons_succ, i64_w, i32_w]
    rfl
  refine pure_ (i := 6) (N := some 12) (v := ?_) (a' := ?_) #[true, true, true, true, false, true, true, false, false, false, false, false, false, false] rfl rfl (by kernel_rfl) (fun _ _ _ h => h) (Or.inl ⟨by rfl, ?_⟩) ?_ ?_
  rotate_left
  · intro w'
    go_simp
    with_reducible rfl
  rotate_left
  · simp only [Act.put, List.setIfInBounds_toArray, List.set_cons_zero, List.set_cons_succ, i64_w, i32_w]
    rfl
  refine pure_ (i := 7) (N := some 13) (v := ?_) (a' := ?_) #[true, true, true, true, false, true, true, true, false, false, false, false, false, false] rfl rfl (by kernel_rfl) (fun _ _ _ h => h) (Or.inl ⟨by rfl, ?_⟩) ?_ ?_
  rotate_left
  · intro w'
    go_simp
    with_reducible rfl
  rotate_left
  · simp only [Act.put, List.setIfInBounds_toArray, List.set_cons_zero, List.set_cons_succ, i64_w, i32_w]
    rfl
  refine pure_ (i := 9) (N := some 15) (v := ?_) (a' := ?_) #[true, true, true, true, false, true, true, true, false, true, false, false, false, false] rfl rfl (by kernel_rfl) (fun _ _ _ h => h) (Or.inl ⟨by rfl, ?_⟩) ?_ ?_
  rotate_left
  · intro w'
    go_simp
    with_reducible rfl
  rotate_left
  · simp only [Act.put, List.setIfInBounds_toArray, List.set_cons_zero, List.set_cons_succ, i64_w, i32_w]
    rfl
  refine take_ (i := 4) (N := some 10) (v := ?_) (a' := ?_) #[true, true, true, true, true, true, true, true, false, true, false, false, false, false] rfl rfl (by kernel_rfl) (fun _ _ _ h => h) (Or.inl ⟨by rfl, ?_⟩) hHeld ?_ ?_
  rotate_left
  · rintro w' ⟨s0, s1⟩
    go_simp
    with_reducible rfl
  rotate_left
  · simp only [Act.put, List.setIfInBounds_toArray, List.set_cons_zero, List.set_cons_succ, i64_w, i32_w]
    rfl
  refine take_ (i := 8) (N := some 14) (v := ?_) (a' := ?_) #[true, true, true, true, true, true, true, true, true, true, false, false, false, false] rfl rfl (by kernel_rfl) (fun _ _ _ h => h) (Or.inl ⟨by rfl, ?_⟩) hHeld ?_ ?_
  rotate_left
  · rintro w' ⟨s0, s1⟩
    go_simp
    with_reducible rfl
  rotate_left
  · simp only [Act.put, List.setIfInBounds_toArray, List.set_cons_zero, List.set_cons_succ, i64_w, i32_w]
    rfl
  refine one_ (i := 10) (N := some 16) #[true, true, true, true, true, true, true, true, true, true, true, false, false, false] rfl rfl (by kernel_rfl) (by decide) (fun K hK => ?_)
  refine goes_ Try.func74 (by kernel_rfl) rfl #[.slice As s.safe.length cs, .slice Ap s.pend.length cp, .func (.func 78) #[] #[.pointer (some ⟨b, 0, none⟩)]] (by rfl) rfl rfl (by (try simp only [List.map_toArray, List.map_cons, List.map_nil]); first | done | rfl) ?_
  refine (done_crash (fun k => k ≠ g ∧ some k ≠ (Value.slice Ap s.pend.length cp).ownBlock) As cs s.safe Ap cp s.pend ks b c A _ (V_base (Kd.V_drew hR1.safe)) (Kd.V_reads' (O_V (O_below hR1.pend (below_drew1 (Below.refl _ _))))).2.2 (Kd.V_reads' (O_V hR1.pend)).2.1 (hb1.below (below_drew1 (Below.refl _ _))) (by omega) HF.out.safe HF.out.pend).mono ?_
  rintro e w5 ⟨v5, rfl, hV5, hb5⟩
  refine ⟨_, rfl, ?_⟩
  have hb15 : Below w1.heap.size w1 w5 := below_step (below_drew1 (Below.refl _ _)) hb5
  refine hK.out _ _ ⟨(hR1.below hb15).cells.2.2.2.1, (hR1.below hb15).cells.2.2.2.2.1⟩ (fun hHeld => ?_)
  have hR5 := hR1.below hb15
  clear hK K
  refine norm_ (a' := ?_) ?_ ?_
  rotate_left
  · show Act.put _ (some 16) _ = _
    simp only [Act.put, List.setIfInBounds_toArray, List.set_cons_zero, List.set_cons_succ, i64_w, i32_w]
    rfl
  refine pure_ (i := 11) (N := some 17) (v := ?_) (a' := ?_) #[true, true, true, true, true, true, true, true, true, true, true, true, false, false] rfl rfl (by kernel_rfl) (fun _ _ _ h => h) (Or.inl ⟨by rfl, ?_⟩) ?_ ?_
  rotate_left
  · intro w'
    go_simp
    with_reducible rfl
  rotate_left
  · simp only [Act.put, List.setIfInBounds_toArray, List.set_cons_zero, List.set_cons_succ, i64_w, i32_w]
    rfl
  refine pure_ (i := 12) (N := some 18) (v := ?_) (a' := ?_) #[true, true, true, true, true, true, true, true, true, true, true, true, true, false] rfl rfl (by kernel_rfl) (fun _ _ _ h => h) (Or.inl ⟨by rfl, ?_⟩) ?_ ?_
  rotate_left
  · intro w'
    go_simp
    with_reducible rfl
  rotate_left
  · simp only [Act.put, List.setIfInBounds_toArray, List.set_cons_zero, List.set_cons_succ, i64_w, i32_w]
    rfl
  refine last_ (i := 13) (N := none) #[true, true, true, true, true, true, true, true, true, true, true, true, true, true] rfl rfl (by kernel_rfl) (by decide) (fun K hK => ?_)
  have hfr := blk_frozen hR5.blk 3
  have hcl := hR5.cells.2.2.2.1
  obtain ⟨A5, c5, rfl⟩ := Kd.V_slice hV5
  refine skip_ (w1 := ?_) (by rfl) rfl ?_ ?_
  rotate_left
  · go_simp
    rfl
  refine hK.out _ _ ?_
  clear hK K
  refine done_ (by kernel_rfl) ?_
  obtain ⟨l5, hl5⟩ : ∃ l5, l5 = doneL (keepN ks) 0 s.safe s.pend := ⟨_, rfl⟩
  have hdl : okL l5 ∧ l5.length ≤ 1000 := by
    rw [hl5]
    have := doneL_ok (keepN ks) s.pend 0 s.safe HF.out.safe
    exact ⟨this.1, by omega⟩
  rw [← hl5] at hV5
  have HL5 := Aside0.mk hl5
  have hv5 : Kd.V k38 38 w5 0 (fun k => k ≠ g ∧ some k ≠ (Value.slice Ap s.pend.length cp).ownBlock) (.slice A5 l5.length c5) l5 := V_base (Kd.V_mono hV5 (fun k hk => hk.elim id (fun hk => hR1.fresh hk)))
  have hR := hR5.setSafe hv5
  have hBB : BelS B w (w5.setCell ⟨g, 3, none⟩ (.slice A5 l5.length c5)) := belowB_set (belowB_trans hB1 (belowB_of hBw1 hb15)) H.out.hg 3 _
  obtain ⟨kz, hkz⟩ := size_f l5 (by omega)
  have HKZ := Aside0.mk hkz
  rw [← hl5]
  clear hfr hcl hHeld hV5 hv5 hkz
  generalize w5.setCell ⟨g, 3, none⟩ (.slice A5 l5.length c5) = w6 at hR hBB ⊢
  have hb6 := hR.blk
  have hb7 := blk_set hb6 4 (.slice none 0 0)
  have hb8 := blk_set hb7 0 (.map none)
  have hb9 := blk_set hb8 1 (.int .i64 0)
  have hb10 := blk_set hb9 2 (.int .i64 0)
  have hb11 := blk_set hb10 7 (.bool false)
  have hR11 : RepAt B g { safe := l5, pend := [], quota := s.quota, calls := 0, fails := [], crash := 0, down := false, peak := s.peak } (((((w6.setCell ⟨g, 4, none⟩ (.slice none 0 0)).setCell ⟨g, 0, none⟩ (.map none)).setCell ⟨g, 1, none⟩ (.int .i64 0)).setCell ⟨g, 2, none⟩ (.int .i64 0)).setCell ⟨g, 7, none⟩ (.bool false)) (.map none) (.slice A5 l5.length c5) (.slice none 0 0) := by
    refine ⟨hR.hg, hb11, .inl ⟨rfl, rfl⟩, ?_, O_nil _ _ _ _ _, fun k hk => nomatch hk⟩
    refine Kd.V_step (Kd.V_mono hR.safe (fun k hk => ⟨hk.1, fun h => nomatch h⟩)) (fun k h1 hlt => ?_)
    rw [Below.heap_setCell _ _ _ _ h1.1, Below.heap_setCell _ _ _ _ h1.1, Below.heap_setCell _ _ _ _ h1.1, Below.heap_setCell _ _ _ _ h1.1, Below.heap_setCell _ _ _ _ h1.1]
  have hB11 : BelS B w (((((w6.setCell ⟨g, 4, none⟩ (.slice none 0 0)).setCell ⟨g, 0, none⟩ (.map none)).setCell ⟨g, 1, none⟩ (.int .i64 0)).setCell ⟨g, 2, none⟩ (.int .i64 0)).setCell ⟨g, 7, none⟩ (.bool false)) :=
    belowB_set (belowB_set (belowB_set (belowB_set (belowB_set hBB H.out.hg 4 _) H.out.hg 0 _) H.out.hg 1 _) H.out.hg 2 _) H.out.hg 7 _
  have hf4 := blk_frozen hb6 4
  have hf0 := blk_frozen hb7 0
  have hf1 := blk_frozen hb8 1
  have hf2 := blk_frozen hb9 2
  have hf7 := blk_frozen hb10 7
  have hc4 : w6.cell? ⟨g, 4, none⟩ = some _ := hR.cells.2.2.2.2.1
  have hc0 : (w6.setCell ⟨g, 4, none⟩ (.slice none 0 0)).cell? ⟨g, 0, none⟩ = some mv := by rw [cell_of_row _ g _ _ 106 (0, 0) hb7]; rfl
  have hc1 : ((w6.setCell ⟨g, 4, none⟩ (.slice none 0 0)).setCell ⟨g, 0, none⟩ (.map none)).cell? ⟨g, 1, none⟩ = some (.int .i64 s.crash) := by rw [cell_of_row _ g _ _ 106 (0, 0) hb8]; rfl
  have hc2 : (((w6.setCell ⟨g, 4, none⟩ (.slice none 0 0)).setCell ⟨g, 0, none⟩ (.map none)).setCell ⟨g, 1, none⟩ (.int .i64 0)).cell? ⟨g, 2, none⟩ = some (.int .i64 s.calls) := by rw [cell_of_row _ g _ _ 106 (0, 0) hb9]; rfl
  have hc7 : ((((w6.setCell ⟨g, 4, none⟩ (.slice none 0 0)).setCell ⟨g, 0, none⟩ (.map none)).setCell ⟨g, 1, none⟩ (.int .i64 0)).setCell ⟨g, 2, none⟩ (.int .i64 0)).cell? ⟨g, 7, none⟩ = some (.bool s.down) := by rw [cell_of_row _ g _ _ 106 (0, 0) hb10]; rfl
  have HR11 := Aside0.mk hR11
  have HB11 := Aside0.mk hB11
  have HHR := Aside0.mk hR
  clear hR11 hB11 hb6 hb7 hb8 hb9 hb10 hb11 hR hR5 hR1 hl5 hBB hb5 hb15 hB1
  go_wp2_with fail
  clear hf4 hf0 hf1 hf2 hf7 hc4 hc0 hc1 hc2 hc7 HHR
  generalize ((((w6.setCell ⟨g, 4, none⟩ (.slice none 0 0)).setCell ⟨g, 0, none⟩ (.map none)).setCell ⟨g, 1, none⟩ (.int .i64 0)).setCell ⟨g, 2, none⟩ (.int .i64 0)).setCell ⟨g, 7, none⟩ (.bool false) = w7 at HR11 HB11 ⊢
  have hR7 := HR11.out
  have hBw7 : Up B w7.heap.size := Up.le hBw HB11.out.size
  refine start_ (n := 14) (S := (fun w' => w'.cell? ⟨g, 3, none⟩ = some (.slice A5 l5.length c5) ∧ w'.cell? ⟨g, 6, none⟩ = some (.int .i64 s.peak))) (ds := [13]) #[false, false, false, false, false, false, false, false, false, false, false, false, false, false] (by kernel_rfl) rfl rfl ⟨(hR7.below (below_drew1 (Below.refl _ _))).cells.2.2.2.1, (hR7.below (below_drew1 (Below.refl _ _))).cells.2.2.2.2.2.2.1⟩ (fun hHeld => ?_)
  refine pure_ (i := 0) (N := some 29) (v := ?_) (a' := ?_) #[true, false, false, false, false, false, false, false, false, false, false, false, false, false] rfl rfl (by kernel_rfl) (fun _ _ _ h => h) (Or.inl ⟨by rfl, ?_⟩) ?_ ?_
  rotate_left
  · intro w'
    go_simp
    with_reducible rfl
  rotate_left
  · simp only [Act.put, List.setIfInBounds_toArray, List.set_cons_zero, List.set_cons_succ, i64_w, i32_w]
    rfl
  refine pure_ (i := 1) (N := some 30) (v := ?_) (a' := ?_) #[true, true, false, false, false, false, false, false, false, false, false, false, false, false] rfl rfl (by kernel_rfl) (fun _ _ _ h => h) (Or.inl ⟨by rfl, ?_⟩) ?_ ?_
  rotate_left
  · intro w'
    go_simp
    with_reducible rfl
  rotate_left
  · simp only [Act.put, List.setIfInBounds_toArray, List.set_cons_zero, List.set_cons_succ, i64_w, i32_w]
    rfl
  refine pure_ (i := 2) (N := some 31) (v := ?_) (a' := ?_) #[true, true, true, false, false, false, false, false, false, false, false, false, false, false] rfl rfl (by kernel_rfl) (fun _ _ _ h => h) (Or.inl ⟨by rfl, ?_⟩) ?_ ?_
  rotate_left
  · intro w'
    go_simp
    with_reducible rfl
  rotate_left
  · simp only [Act.put, List.setIfInBounds_toArray, List.set_cons_zero, List.set_cons_succ, i64_w, i32_w]
    rfl
  refine pure_ (i := 3) (N := some 32) (v := ?_) (a' := ?_) #[true, true, true, true, false, false, false, false, false, false, false, false, false, false] rfl rfl (by kernel_rfl) (fun _ _ _ h => h) (Or.inl ⟨by rfl, ?_⟩) ?_ ?_
  rotate_left
  · intro w'
    go_simp
    with_reducible rfl
  rotate_left
  · simp only [Act.put, List.setIfInBounds_toArray, List.set_cons_zero, List.set_cons_succ, i64_w, i32_w]
    rfl
  refine pure_ (i := 5) (N := some 34) (v := ?_) (a' := ?_) #[true, true, true, true, false, true, false, false, false, false, false, false, false, false] rfl rfl (by kernel_rfl) (fun _ _ _ h => h) (Or.inl ⟨by rfl, ?_⟩) ?_ ?_
  rotate_left
  · intro w'
    go_simp
    with_reducible rfl
  rotate_left
  · simp only [Act.put, List.setIfInBounds_toArray, List.set_cons_zero, List.set_cons_succ, i64_w, i32_w]
    rfl
  refine pure_ (i := 6) (N := some 35) (v := ?_) (a' := ?_) #[true, true, true, true, false, true, true, false, false, false, false, false, false, false] rfl rfl (by kernel_rfl) (fun _ _ _ h => h) (Or.inl ⟨by rfl, ?_⟩) ?_ ?_
  rotate_left
  · intro w'
    go_simp
    with_reducible rfl
  rotate_left
  · simp only [Act.put, List.setIfInBounds_toArray, List.set_cons_zero, List.set_cons_succ, i64_w, i32_w]
    rfl
  refine pure_ (i := 7) (N := some 36) (v := ?_) (a' := ?_) #[true, true, true, true, false, true, true, true, false, false, false, false, false, false] rfl rfl (by kernel_rfl) (fun _ _ _ h => h) (Or.inl ⟨by rfl, ?_⟩) ?_ ?_
  rotate_left
  · intro w'
    go_simp
    with_reducible rfl
  rotate_left
  · simp only [Act.put, List.setIfInBounds_toArray, List.set_cons_zero, List.set_cons_succ, i64_w, i32_w]
    rfl
  refine take_ (i := 4) (N := some 33) (v := ?_) (a' := ?_) #[true, true, true, true, true, true, true, true, false, false, false, false, false, false] rfl rfl (by kernel_rfl) (fun _ _ _ h => h) (Or.inl ⟨by rfl, ?_⟩) hHeld ?_ ?_
  rotate_left
  · rintro w' ⟨s0, s1⟩
    go_simp
    with_reducible rfl
  rotate_left
  · simp only [Act.put, List.setIfInBounds_toArray, List.set_cons_zero, List.set_cons_succ, i64_w, i32_w]
    rfl
  refine take_ (i := 8) (N := some 37) (v := ?_) (a' := ?_) #[true, true, true, true, true, true, true, true, true, false, false, false, false, false] rfl rfl (by kernel_rfl) (fun _ _ _ h => h) (Or.inl ⟨by rfl, ?_⟩) hHeld ?_ ?_
  rotate_left
  · rintro w' ⟨s0, s1⟩
    go_simp
    with_reducible rfl
  rotate_left
  · simp only [Act.put, List.setIfInBounds_toArray, List.set_cons_zero, List.set_cons_succ, i64_w, i32_w]
    rfl
  refine one_ (i := 9) (N := some 38) #[true, true, true, true, true, true, true, true, true, true, false, false, false, false] rfl rfl (by kernel_rfl) (by decide) (fun K hK => ?_)
  refine goes_ Try.func35 (by kernel_rfl) rfl #[.slice A5 l5.length c5] (by rfl) rfl rfl (by (try simp only [List.map_toArray, List.map_cons, List.map_nil]); first | done | rfl) ?_
  refine (files_Size.calls kz A5 c5 l5 (sizeF l5) _ (Kd.V_reads' (Kd.V_drew hR7.safe)).2.2 (Kd.V_reads' hR7.safe).2.1 HKZ.out).mono ?_
  rintro e w8 ⟨rfl, hb8⟩
  refine ⟨_, rfl, ?_⟩
  have hb78 : Below w7.heap.size w7 w8 := below_step (below_drew1 (Below.refl _ _)) hb8
  refine hK.out _ _ ⟨(hR7.below hb78).cells.2.2.2.1, (hR7.below hb78).cells.2.2.2.2.2.2.1⟩ (fun hHeld => ?_)
  have hR8 := hR7.below hb78
  clear hK K
  refine norm_ (a' := ?_) ?_ ?_
  rotate_left
  · show Act.put _ (some 38) _ = _
    simp only [Act.put, List.setIfInBounds_toArray, List.set_cons_zero, List.set_cons_succ, i64_w, i32_w]
    rfl
  refine pure_ (i := 10) (N := some 39) (v := ?_) (a' := ?_) #[true, true, true, true, true, true, true, true, true, true, true, false, false, false] rfl rfl (by kernel_rfl) (fun _ _ _ h => h) (Or.inl ⟨by rfl, ?_⟩) ?_ ?_
  rotate_left
  · intro w'
    go_simp
    with_reducible rfl
  rotate_left
  · simp only [Act.put, List.setIfInBounds_toArray, List.set_cons_zero, List.set_cons_succ, i64_w, i32_w]
    rfl
  refine pure_ (i := 11) (N := some 40) (v := ?_) (a' := ?_) #[true, true, true, true, true, true, true, true, true, true, true, true, false, false] rfl rfl (by kernel_rfl) (fun _ _ _ h => h) (Or.inl ⟨by rfl, ?_⟩) ?_ ?_
  rotate_left
  · intro w'
    go_simp
    with_reducible rfl
  rotate_left
  · simp only [Act.put, List.setIfInBounds_toArray, List.set_cons_zero, List.set_cons_succ, i64_w, i32_w]
    rfl
  refine pure_ (i := 12) (N := some 41) (v := ?_) (a' := ?_) #[true, true, true, true, true, true, true, true, true, true, true, true, true, false] rfl rfl (by kernel_rfl) (fun _ _ _ h => h) (Or.inl ⟨by rfl, ?_⟩) ?_ ?_
  rotate_left
  · intro w'
    go_simp
    with_reducible rfl
  rotate_left
  · simp only [Act.put, List.setIfInBounds_toArray, List.set_cons_zero, List.set_cons_succ, i64_w, i32_w]
    rfl
  refine last_ (i := 13) (N := none) #[true, true, true, true, true, true, true, true, true, true, true, true, true, true] rfl rfl (by kernel_rfl) (by decide) (fun K hK => ?_)
  have hfr := blk_frozen hR8.blk 6
  have hcl := hR8.cells.2.2.2.2.2.2.1
  refine skip_ (w1 := ?_) (by rfl) rfl ?_ ?_
  rotate_left
  · go_simp
    rfl
  refine hK.out _ _ ?_
  clear hK K
  refine done_ (by kernel_rfl) ?_
  have hend : RepAt B g (crashD s ks) (w8.setCell ⟨g, 6, none⟩ (.int .i64 (mx s.peak (sizeF l5)))) (.map none) (.slice A5 l5.length c5) (.slice none 0 0) := by
    have hcd : crashD s ks = { safe := l5, pend := [], quota := s.quota, calls := 0, fails := [], crash := 0, down := false, peak := mx s.peak (sizeF l5) } := by rw [HL5.out]; rfl
    rw [hcd]
    exact hR8.upd (fun k _ hk => Below.heap_setCell _ _ _ _ hk) (blk_set hR8.blk 6 _) rfl rfl rfl
  have hBe : BelS B w (w8.setCell ⟨g, 6, none⟩ (.int .i64 (mx s.peak (sizeF l5)))) := belowB_set (belowB_trans HB11.out (belowB_of hBw7 hb78)) H.out.hg 6 _
  go_wp2_with fail
  all_goals go_end0
  · have hm : mx s.peak (sizeF l5) = sizeF l5 := by unfold mx; split <;> omega
    rw [hm] at hend hBe
    exact ⟨rfl, ⟨_, _, _, hend⟩, hBe⟩
  · have hm : mx s.peak (sizeF l5) = s.peak := by unfold mx; split <;> omega
    rw [hm] at hend hBe
    exact ⟨rfl, ⟨_, _, _, hend⟩, hBe⟩
end
end Go.Proofs.Ytcgeioingikeeaa.P
