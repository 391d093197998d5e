/- A store in memory: what its block holds; Pending, Calls, Peak, Down, Safe and Files: what each returns. -/
import Derived.Test.YtcgeioingikeeaaK2
import Derived.Maps.OwnSet
import Derived.Maps.Views
namespace Go.Proofs.Ytcgeioingikeeaa.P
open Go.RowKit Go.Proofs.YtcgeioingikeeaaW.PrintWords Go.Proofs.YtcgeioingikeeaaW.PrintLast Go.Proofs.YtcgeioingikeeaaW.PrintMore
set_option linter.unusedVariables false
set_option linter.unusedSimpArgs false

/-- A store, plainly. -/
structure SSt where
  safe : List S38
  pend : List S31
  quota : Int
  calls : Int
  fails : List Int
  crash : Int
  down : Bool
  peak : Int
/-- The map of the calls that fail. -/
def MapSays (w : World) (B : Nat) (mv : Value) (fails : List Int) : Prop :=
  (mv = .map none ∧ fails = []) ∨ ∃ b n D, mv = .map (some b) ∧ B ≤ b ∧ n ≤ 1000 ∧ w.ownsMap (H := Unit) Try.prog 3 (plainElem Try.prog 4) b n D ∧ ∀ i : Int, (Lit.int .i64 i).wf = true → D.atKey (.int .i64 i) (.lit (.bool false)) = .lit (.bool (decide (i ∈ fails)))
/-- What a store's block holds. -/
structure RepAt (B g : Nat) (s : SSt) (w : World) (mv sv pv : Value) : Prop where
  hg : B ≤ g
  blk : w.heap[g]? = some (.cells #[mv, .int .i64 s.crash, .int .i64 s.calls, sv, pv, .int .i64 s.quota, .int .i64 s.peak, .bool s.down] 106 (0, 0))
  map : MapSays w B mv s.fails
  safe : Kd.V k38 38 w B (fun k => k ≠ g ∧ some k ≠ pv.ownBlock) sv s.safe
  pend : O k31 31 w B (fun k => k ≠ g) pv s.pend
def Rep (B g : Nat) (s : SSt) (w : World) : Prop := ∃ mv sv pv, RepAt B g s w mv sv pv
theorem MapSays.below {w w1 : World} {B : Nat} {mv : Value} {fails : List Int} (h : MapSays w B mv fails) (hb : Below w.heap.size w w1) : MapSays w1 B mv fails := by
  rcases h with h | ⟨b, n, D, h1, h2, h3, h4, h5⟩
  · exact .inl h
  · exact .inr ⟨b, n, D, h1, h2, h3, h4.kept (grown_of_below hb none) (by simp), h5⟩
theorem RepAt.below {B g : Nat} {s : SSt} {w w1 : World} {mv sv pv : Value} (h : RepAt B g s w mv sv pv) (hb : Below w.heap.size w w1) : RepAt B g s w1 mv sv pv :=
  ⟨h.hg, blk_stays hb h.blk, h.map.below hb, Kd.V_below h.safe hb, O_below h.pend hb⟩
theorem Rep.below {B g : Nat} {s : SSt} {w w1 : World} (h : Rep B g s w) (hb : Below w.heap.size w w1) : Rep B g s w1 := by
  obtain ⟨mv, sv, pv, h⟩ := h
  exact ⟨mv, sv, pv, h.below hb⟩
theorem RepAt.cells {B g : Nat} {s : SSt} {w : World} {mv sv pv : Value} (h : RepAt B g s w mv sv pv) :
    w.cell? ⟨g, 0, none⟩ = some mv ∧ w.cell? ⟨g, 1, none⟩ = some (.int .i64 s.crash) ∧ w.cell? ⟨g, 2, none⟩ = some (.int .i64 s.calls) ∧ w.cell? ⟨g, 3, none⟩ = some sv ∧ w.cell? ⟨g, 4, none⟩ = some pv ∧
      w.cell? ⟨g, 5, none⟩ = some (.int .i64 s.quota) ∧ w.cell? ⟨g, 6, none⟩ = some (.int .i64 s.peak) ∧ w.cell? ⟨g, 7, none⟩ = some (.bool s.down) := by
  refine ⟨?_, ?_, ?_, ?_, ?_, ?_, ?_, ?_⟩ <;> (rw [cell_of_row w g _ _ 106 (0, 0) h.blk]; rfl)

section
variable {B g : Nat} {s : SSt} {w : World}
set_option maxHeartbeats 1000000 in
theorem pending_calls (h : Rep B g s w) : Calls Try.prog 46 #[.pointer (some ⟨g, 0, none⟩)] w fun e w' => e = .returned (.int .i64 (s.pend.length : Int)) ∧ Below w.heap.size w w' := by
  obtain ⟨mv, sv, pv, h⟩ := h
  obtain ⟨A, c, rfl⟩ := O_slice h.pend
  obtain ⟨_, _, _, _, hc, _, _, _⟩ := h.cells
  clear h
  go_enter Try.func46, Try.ntmps46
  go_wp2
  go_ret
  exact ⟨rfl, Below.refl _ _⟩
set_option maxHeartbeats 1000000 in
theorem calls_calls (h : Rep B g s w) : Calls Try.prog 52 #[.pointer (some ⟨g, 0, none⟩)] w fun e w' => e = .returned (.int .i64 s.calls) ∧ Below w.heap.size w w' := by
  obtain ⟨mv, sv, pv, h⟩ := h
  obtain ⟨_, _, hc, _, _, _, _, _⟩ := h.cells
  clear h
  go_enter Try.func52, Try.ntmps52
  go_wp2
  go_ret
  exact ⟨rfl, Below.refl _ _⟩
set_option maxHeartbeats 1000000 in
theorem peak_calls (h : Rep B g s w) : Calls Try.prog 54 #[.pointer (some ⟨g, 0, none⟩)] w fun e w' => e = .returned (.int .i64 s.peak) ∧ Below w.heap.size w w' := by
  obtain ⟨mv, sv, pv, h⟩ := h
  obtain ⟨_, _, _, _, _, _, hc, _⟩ := h.cells
  clear h
  go_enter Try.func54, Try.ntmps54
  go_wp2
  go_ret
  exact ⟨rfl, Below.refl _ _⟩
set_option maxHeartbeats 1000000 in
theorem down_calls (h : Rep B g s w) : Calls Try.prog 53 #[.pointer (some ⟨g, 0, none⟩)] w fun e w' => e = .returned (.bool s.down) ∧ Below w.heap.size w w' := by
  obtain ⟨mv, sv, pv, h⟩ := h
  obtain ⟨_, _, _, _, _, _, _, hc⟩ := h.cells
  clear h
  go_enter Try.func53, Try.ntmps53
  go_wp2
  go_ret
  exact ⟨rfl, Below.refl _ _⟩
end

/-- What a round of Safe holds, while it runs: the copy of the file. -/
structure SfS (w : World) (b : Nat) (nm : ByteArray) (v1 : Value) (w' : World) : Prop where
  blk : w'.heap[b]? = some (.cells #[.string nm, v1] 38 (0, 0))
  below : Below w.heap.size w w'
theorem SfS.step {w u v' : World} {b : Nat} {nm : ByteArray} {v1 : Value} (h : SfS w b nm v1 u) (hb : Below u.heap.size u v') : SfS w b nm v1 v' := ⟨blk_stays hb h.blk, below_step h.below hb⟩
theorem SfS.all {w w' : World} {b : Nat} {nm : ByteArray} {v1 : Value} (h : SfS w b nm v1 w') : w'.cell? ⟨b, 0, none⟩ = some (.string nm) ∧ w'.cell? ⟨b, 1, none⟩ = some v1 ∧ SfS w b nm v1 w' := by
  refine ⟨?_, ?_, h⟩ <;> (rw [cell_of_row w' b _ _ 38 (0, 0) h.blk]; rfl)
theorem SfS.grown {w u u' : World} {b : Nat} {nm : ByteArray} {v1 : Value} {row : Option Nat} (h : SfS w b nm v1 u) (hg : u.grownBy u' row) (hne : some b ≠ row) (hr : ∀ k, row = some k → w.heap.size ≤ k) : SfS w b nm v1 u' :=
  ⟨(hg.block b (blk_lt h.blk) hne).trans h.blk, pw_below_grown h.below row h.below.size hg hr⟩
/-- One more file, in a row of the call's own. -/
theorem O_snoc38 {w W w1 : World} {ok : Nat → Prop} {v v1 : Value} {xs : List S38} {x : S38} {seg : List Value} {inner : List Value}
    (hr : Reps (fun x c => Kd.FK k38 W (fun k => ok k ∧ some k ≠ v.ownBlock) x c) 2 xs inner) (hx : Kd.FK k38 W (fun k => ok k ∧ some k ≠ v.ownBlock) x seg)
    (hown : w1.ownsRow w.heap.size 38 2 v1 (xs.length + 1) (inner ++ seg)) (hg : W.grownBy w1 v.ownBlock) (hat : v1.ownBlock = v.ownBlock ∨ v1.ownBlock = some W.heap.size) : O k38 38 w1 w.heap.size ok v1 (xs ++ [x]) := by
  refine ⟨inner ++ seg, by rw [List.length_append]; exact hown, ?_⟩
  exact O_put (hr.imp_ fun y c' hy => FK_after hy hg hat) (FK_after hx hg hat) (FK_one hx).1
set_option maxHeartbeats 4000000 in
set_option maxRecDepth 100000 in
theorem safe_calls {B g : Nat} {s : SSt} {w : World} (h : Rep B g s w) (hl : s.safe.length ≤ 1000) (hd : okL s.safe) :
    Calls Try.prog 45 #[.pointer (some ⟨g, 0, none⟩)] w fun e w' => ∃ v, e = .returned v ∧ O k38 38 w' w.heap.size (fun k => w.heap.size ≤ k) v s.safe ∧ Below w.heap.size w w' := by
  obtain ⟨mv, sv, pv, h⟩ := h
  obtain ⟨_, _, _, hcs, _, _, _, _⟩ := h.cells
  have hV := h.safe
  obtain ⟨l, hle⟩ : ∃ l, l = s.safe := ⟨_, rfl⟩
  rw [← hle] at hV hl hd ⊢
  obtain ⟨A, c, rfl⟩ := Kd.V_slice hV
  have HV := Aside0.mk hV
  have HD := Aside0.mk hd
  clear h hle hV hd
  obtain ⟨i0, hi, hz0, hz1, hz2⟩ := info_parts info38
  have HI := Aside0.mk hi
  have HZ0 := Aside0.mk hz0
  have HZ1 := Aside0.mk hz1
  have HZ2 := Aside0.mk hz2
  clear hi hz0 hz1 hz2
  go_enter Try.func45, Try.ntmps45
  go_wp2
  go_loopg [3, 13] l.length (fun kq v3 v13 w' => ∃ i : Nat, v13 = .int .i64 i ∧ i + kq = l.length ∧ Aside0 (O k38 38 w' w.heap.size (fun k => w.heap.size ≤ k) v3 (l.take i)) ∧ Aside0 (Below w.heap.size w w'))
  case atStart => exact ⟨0, rfl, by omega, ⟨O_nil _ _ _ _ _⟩, ⟨Below.refl _ _⟩⟩
  case round =>
    obtain ⟨i, rfl, hi, HO, HB⟩ := hrel
    by_cases hlt : i < l.length
    · obtain ⟨k1, rfl⟩ : ∃ k1, gk = k1 + 1 := ⟨gk - 1, by omega⟩
      have hVr := Kd.V_below HV.out HB.out
      obtain ⟨ad, A1, c1, e1, hx0, hx1, hc1, hC1⟩ := at_T38 (Kd.V_reads' hVr).2.2 (i : Int) (by omega) (by omega)
      cases e1
      rw [Int.toNat_natCast] at hx0 hx1
      obtain ⟨x, hxe⟩ : ∃ x, rd_T38 l (i : Int) = x := ⟨_, rfl⟩
      rw [hxe] at hx0 hx1 hc1 hC1
      have hxm : x ∈ l ∧ l.take (i + 1) = l.take i ++ [x] := by
        have h1 : rd_T38 l (i : Int) = l[i] := by simp [rd_T38, hlt, List.getD]
        rw [h1] at hxe
        exact ⟨hxe ▸ List.getElem_mem hlt, by rw [← hxe, List.take_succ_eq_append_getElem hlt]⟩
      have HXM := Aside0.mk hxm
      have hxl := HD.out x hxm.1
      have HF : Aside0 (Kd.F (Kd.int .u8) wr (fun k => k < wr.heap.size) A1 x.f1.length x.f1) := ⟨Kd.C_F (Kd.heap_int .u8) hC1⟩
      clear hxe hxm hVr hC1
      obtain ⟨pl, hpl⟩ : ∃ pl, pl = l.take i := ⟨_, rfl⟩
      have hpll : pl.length = i := by rw [hpl, List.length_take]; omega
      rw [← hpl] at HO HXM
      clear hpl
      obtain ⟨inner, hown, hreps⟩ := HO.out
      obtain ⟨An, cn, rfl⟩ := own_slice hown
      have hw3 : Below wr.heap.size wr (wr.alloc (Obj.cells #[.string x.f0, .slice A1 x.f1.length c1] 38)) := below_alloc (Below.refl _ _) _
      have HOW : Aside0 ((wr.alloc (Obj.cells #[.string x.f0, .slice A1 x.f1.length c1] 38)).ownsRow w.heap.size 38 2 (.slice An pl.length cn) pl.length inner) := ⟨pw_own_below hown hw3⟩
      have HRE : Aside0 (Reps (fun y c' => Kd.FK k38 (wr.alloc (Obj.cells #[.string x.f0, .slice A1 x.f1.length c1] 38)) (fun k => w.heap.size ≤ k ∧ some k ≠ (Value.slice An pl.length cn).ownBlock) y c') 2 pl inner) := ⟨hreps.imp_ fun y c' hy => Kd.FK_below hy hw3⟩
      have hk0 : SfS w wr.heap.size x.f0 (.slice A1 x.f1.length c1) (wr.alloc (Obj.cells #[.string x.f0, .slice A1 x.f1.length c1] 38)) := ⟨heap_alloc_new _ _, below_alloc HB.out _⟩
      have HNE : Aside0 (∀ k, (Value.slice An pl.length cn).ownBlock = some k → w.heap.size ≤ k ∧ k < wr.heap.size) := ⟨fun k hk => ⟨own_base hown k hk, own_lt hown k hk⟩⟩
      have HF3 : Aside0 (Kd.F (Kd.int .u8) (wr.alloc (Obj.cells #[.string x.f0, .slice A1 x.f1.length c1] 38)) (fun k => k < wr.heap.size) A1 x.f1.length x.f1) := ⟨Kd.F_alloc HF.out _⟩
      have HSZ : Aside0 (wr.heap.size < (wr.alloc (Obj.cells #[.string x.f0, .slice A1 x.f1.length c1] 38)).heap.size) := ⟨by rw [World.size_alloc]; omega⟩
      have HPL := Aside0.mk hpll
      have hpl2 : pl.length ≤ 1000 := by omega
      have HK0 := Aside0.mk hk0
      have HBW := Aside0.mk (Nat.le_trans HB.out.size (Nat.le_refl _))
      clear hk0 hown hreps hw3 hpll
      go_wp2_with fail
      have hk0 := HK0.out
      clear hx0 hx1
      generalize wr.alloc (Obj.cells #[.string x.f0, .slice A1 x.f1.length c1] 38) = w3 at hk0 HOW HRE HF3 HSZ HK0 ⊢
      generalize wr.heap.size = bx at hk0 HNE HF3 HSZ HBW HK0 ⊢
      go_region_held3 (fun w' => w'.cell? ⟨bx, 0, none⟩ = some (.string x.f0) ∧ w'.cell? ⟨bx, 1, none⟩ = some (.slice A1 x.f1.length c1) ∧ SfS w bx x.f0 (.slice A1 x.f1.length c1) w')
        (first
          | exact (hk0.step (below_drew1 (Below.refl _ _))).all
          | (go_split_ands
             first
              | exact SfS.all (SfS.grown (by assumption) hgrow (fun he => Nat.lt_irrefl _ (HNE.out _ he.symm).2) (fun k hk => (HNE.out k hk).1))
              | exact SfS.all (SfS.step (by assumption) (below_alloc (Below.refl _ _) _))
              | exact SfS.all (SfS.step (by assumption) hb5))
          | go_keep)
        (first
          | (go_at_call 61; refine (cloneB (fun k => k < bx) A1 c1 x.f1 _ (Kd.F_drew HF3.out) (by omega)).mono ?_; rintro e w5 ⟨v5, rfl, hO5, hb5⟩; obtain ⟨A5, c5, rfl⟩ := O_slice hO5)
          | (refine step_append_lies _ (by rfl) _ _ _ (by rfl) w.heap.size 38 i0 _ 2 40 Try.underlying22 HI.out HZ0.out HZ1.out HZ2.out rfl (by omega) (.slice An pl.length cn) pl.length inner (by rfl) ((pw_own_below HOW.out (below_step (below_drew1 (Below.refl _ _)) hb5)).alloc _)
              ⟨w5.heap.size, 0, none⟩ 1 1 [.string x.f0, .slice A5 x.f1.length c5] (by rfl) (by rfl) (World.news_of_block (cs := #[.string x.f0, .slice A5 x.f1.length c5]) (t := 38) (fr := (0, 0)) (heap_alloc_new w5 _)) (by simp [Value.oneCell'])
              (by omega) (by unfold maxLen; omega) (by omega) (by rw [World.size_alloc]; have := hb5.size; have := HBW.out; have := HSZ.out; have hdz : w3.drew.heap.size = w3.heap.size := rfl; omega) (w5.heap.size + 1) (by simp) ?_
             intro gg cap w6 hown6 hgrow hat hlt6))
      have hfin : SfS w bx x.f0 (.slice A1 x.f1.length c1) w6 := by go_split_ands; assumption
      have HFIN := Aside0.mk hfin
      have hres : O k38 38 w6 w.heap.size (fun k => w.heap.size ≤ k) (.slice (some ⟨gg, 0, none⟩) (pl.length + 1) cap) (pl ++ [x]) := by
        have hb35 : Below w3.heap.size w3 (w5.alloc (Obj.cells #[.string x.f0, .slice A5 x.f1.length c5] 38)) := below_alloc (below_step (below_drew1 (Below.refl _ _)) hb5) _
        refine O_snoc38 (W := w5.alloc (Obj.cells #[.string x.f0, .slice A5 x.f1.length c5] 38)) (v := .slice An pl.length cn) (HRE.out.imp_ fun y c' hy => Kd.FK_below hy hb35) ?_ hown6 hgrow ?_
        · have hc5 := (Kd.V_reads' (O_V hO5)).2.1
          refine k38_mkF _ _ x hc5 (Kd.F_mono (Kd.F_alloc (O_F_own hO5) _) fun k hk => ?_)
          have hk1 := O_base hO5 k hk.symm
          have hdz : w3.drew.heap.size = w3.heap.size := rfl
          have := HSZ.out
          have := HBW.out
          refine ⟨by omega, fun he => ?_⟩
          have := (HNE.out k he.symm).2
          omega
        · rcases hat with hat | hat
          · exact .inl hat.symm
          · exact .inr (by rw [hat]; rw [World.size_alloc]; rfl)
      have HRES := Aside0.mk hres
      clear hk0 hfin hres hown6 hgrow hat hlt6 hO5 hb5
      go_wp2
      go_roundg k1
      case measure => omega
      case rel => exact ⟨i + 1, by go_num, by omega, ⟨by rw [HXM.out.2]; exact HRES.out⟩, ⟨HFIN.out.below⟩⟩
    · have hge : l.length ≤ i := by omega
      have hend : l.take i = l := List.take_of_length_le hge
      have HEND := Aside0.mk hend
      clear hlt hend
      go_wp2
      go_ret
      exact ⟨_, rfl, by rw [← HEND.out]; exact HO.out, HB.out⟩
end Go.Proofs.Ytcgeioingikeeaa.P
