/- A store's block written; store.owned; the closures of Sync, Drop and Read: what each does. By a program of this seat (wip/tools/mkK5.py). -/
import Derived.Test.YtcgeioingikeeaaK4
namespace Go.Proofs.Ytcgeioingikeeaa.P
open Go.RowKit Go.Proofs.YtcgeioingikeeaaW.PrintWords Go.Proofs.YtcgeioingikeeaaW.PrintLast Go.Proofs.YtcgeioingikeeaaW.PrintMore
set_option linter.unusedVariables false
set_option linter.unusedSimpArgs false


/-- A captured variable that holds a store. -/
def VarP (w : World) (b g : Nat) : Prop := w.heap[b]? = some (.cells #[.pointer (some ⟨g, 0, none⟩)] 58 (0, 0))
theorem VarP.below {w w1 : World} {b g : Nat} (h : VarP w b g) (hb : Below w.heap.size w w1) : VarP w1 b g := blk_stays hb h
theorem VarP.cell {w : World} {b g : Nat} (h : VarP w b g) : w.cell? ⟨b, 0, none⟩ = some (.pointer (some ⟨g, 0, none⟩)) := by
  rw [cell_of_row w b 0 _ 58 (0, 0) h]; rfl
theorem blk_ne {w : World} {a b t u : Nat} {cs ds : Array Value} {f f' : Nat × Nat} (ha : w.heap[a]? = some (.cells cs t f)) (hb : w.heap[b]? = some (.cells ds u f')) (h : t ≠ u) : a ≠ b := fun he => by
  subst he
  rw [ha] at hb
  injection hb with hb
  injection hb with _ hb
  exact h hb
theorem blk_keptG {w w1 : World} {g b t : Nat} {cs : Array Value} {f : Nat × Nat} (h : w.heap[b]? = some (.cells cs t f)) (hk : KeptG g w w1) (hne : b ≠ g) : w1.heap[b]? = some (.cells cs t f) := (hk.2 b (blk_lt h) hne).trans h
section
variable {B g : Nat} {s : SSt} {w w1 : World} {mv sv pv : Value}
theorem RepAt.pend_ne (h : RepAt B g s w mv sv pv) : pv.ownBlock ≠ some g := fun he => by
  obtain ⟨_, hp, _⟩ := h.pend
  obtain ⟨cells, hc⟩ := own_typed hp g he
  rw [h.blk] at hc
  injection hc with hc
  injection hc with _ hc
  exact absurd hc (by decide)
theorem O_ne {v : Value} {xs : List S31} {ok : Nat → Prop} {b t : Nat} {cs : Array Value} {f : Nat × Nat} (h : O k31 31 w B ok v xs) (hb : w.heap[b]? = some (.cells cs t f)) (ht : t ≠ 31) : v.ownBlock ≠ some b := fun he => by
  obtain ⟨_, hp, _⟩ := h
  obtain ⟨cells, hc⟩ := own_typed hp b he
  rw [hb] at hc
  injection hc with hc
  injection hc with _ hc
  exact ht hc
/-- A cell of the store's block is written: the store then. -/
theorem RepAt.poke {s' : SSt} {sv' pv' mv' : Value} {cs : Array Value} (hg : B ≤ g) (hb : w.heap[g]? = some (.cells cs 106 (0, 0))) (hm : MapSays w B mv' s'.fails) (hv : Kd.V k38 38 w B (fun k => k ≠ g ∧ some k ≠ pv'.ownBlock) sv' s'.safe) (ho : O k31 31 w B (fun k => k ≠ g) pv' s'.pend)
    (j : Nat) (u : Value) (hcs : cs.setIfInBounds j u = #[mv', .int .i64 s'.crash, .int .i64 s'.calls, sv', pv', .int .i64 s'.quota, .int .i64 s'.peak, .bool s'.down]) : RepAt B g s' (w.setCell ⟨g, j, none⟩ u) mv' sv' pv' := by
  have hk : ∀ k, k < w.heap.size → k ≠ g → (w.setCell ⟨g, j, none⟩ u).heap[k]? = w.heap[k]? := fun k _ hk => Below.heap_setCell _ _ _ _ hk
  have hpg : pv'.ownBlock ≠ some g := fun he => by
    obtain ⟨_, hp, _⟩ := ho
    obtain ⟨cells, hc⟩ := own_typed hp g he
    rw [hb] at hc
    injection hc with hc
    injection hc with _ hc
    exact absurd hc (by decide)
  refine ⟨hg, ?_, hm.move ⟨_, _, _, hb⟩ hk, Kd.V_step hv (fun k h1 hlt => hk k hlt h1.1), O_step ho (fun k hlt h1 => hk k hlt (h1.elim id (fun he hg => hpg (by rw [he, hg]))))⟩
  rw [← hcs]
  exact blk_set hb j u
theorem RepAt.setSafe {v : Value} {l : List S38} (h : RepAt B g s w mv sv pv) (hv : Kd.V k38 38 w B (fun k => k ≠ g ∧ some k ≠ pv.ownBlock) v l) : RepAt B g { s with safe := l } (w.setCell ⟨g, 3, none⟩ v) mv v pv :=
  RepAt.poke (s' := { s with safe := l }) h.hg h.blk h.map hv h.pend 3 v rfl
theorem RepAt.setPend {v : Value} {l : List S31} (h : RepAt B g s w mv sv pv) (ho : O k31 31 w1 B (fun k => k ≠ g) v l) (hgr : w.grownBy w1 pv.ownBlock) (hat : v.ownBlock = pv.ownBlock ∨ ∃ b, v.ownBlock = some b ∧ w.heap.size ≤ b) : RepAt B g { s with pend := l } (w1.setCell ⟨g, 4, none⟩ v) mv sv v := by
  have hb : w1.heap[g]? = some (.cells #[mv, .int .i64 s.crash, .int .i64 s.calls, sv, pv, .int .i64 s.quota, .int .i64 s.peak, .bool s.down] 106 (0, 0)) := (hgr.block g (blk_lt h.blk) (fun he => h.pend_ne he.symm)).trans h.blk
  refine RepAt.poke (s' := { s with pend := l }) h.hg hb ?_ (Kd.V_after h.safe hgr hat) ho 4 v rfl
  rcases h.map with hm | ⟨b, n, D, h1, h2, h3, h4, h5⟩
  · exact .inl hm
  · refine .inr ⟨b, n, D, h1, h2, h3, ?_, h5⟩
    obtain ⟨es, clock, h6, h7⟩ := h4
    refine ⟨es, clock, (hgr.block b (blk_lt h6) (fun he => ?_)).trans h6, h7⟩
    obtain ⟨_, hp, _⟩ := h.pend
    obtain ⟨cells, hc⟩ := own_typed hp b he.symm
    rw [h6] at hc
    cases hc
/-- What is new is none of the store's. -/
theorem RepAt.fresh (h : RepAt B g s w mv sv pv) {k : Nat} (hk : w.heap.size ≤ k) : k ≠ g ∧ some k ≠ pv.ownBlock := by
  have hg := blk_lt h.blk
  refine ⟨by omega, fun he => ?_⟩
  obtain ⟨_, hp, _⟩ := h.pend
  have := own_lt hp k he.symm
  omega
theorem VarP.set {b j : Nat} {u : Value} {cs : Array Value} (h : VarP w b g) (hg : w.heap[g]? = some (.cells cs 106 (0, 0))) : VarP (w.setCell ⟨g, j, none⟩ u) b g :=
  (Below.heap_setCell _ _ _ _ (blk_ne h hg (by decide))).trans h
theorem VarS.set {b j : Nat} {u : Value} {cs : Array Value} {name : ByteArray} (h : VarS w b name) (hg : w.heap[g]? = some (.cells cs 106 (0, 0))) : VarS (w.setCell ⟨g, j, none⟩ u) b name :=
  (Below.heap_setCell _ _ _ _ (blk_ne h hg (by decide))).trans h
set_option maxHeartbeats 1000000 in
/-- store.owned: the closure, over a variable of its own. -/
theorem owned_calls (name : ByteArray) (w : World) : Calls Try.prog 76 #[.string name] w fun e w' => e = .returned (.func (.func 95) #[] #[.pointer (some ⟨w.heap.size, 0, none⟩)]) ∧ VarS w' w.heap.size name ∧ Below w.heap.size w w' := by
  have hv : VarS (w.alloc (Obj.cells #[.string name] 9)) w.heap.size name := heap_alloc_new _ _
  have HV := Aside0.mk hv
  clear hv
  go_enter Try.func76, Try.ntmps76
  go_wp2
  go_ret
  exact ⟨rfl, HV.out, below_alloc (Below.refl _ _) _⟩
/-- What Sync does, plainly. -/
def syncD (s : SSt) (name : ByteArray) : SSt := { s with safe := doneL (fun _ => -1) 0 s.safe (s.pend.filter fun x => !othW name x), pend := s.pend.filter fun x => !ownW name x }
def dropD (s : SSt) (name : ByteArray) : SSt := { s with safe := s.safe.filter fun x => !named name x, pend := s.pend.filter fun x => !ownW name x }
theorem rep_keepB (h : RepAt B g s w mv sv pv) (j : Nat) (u : Value) (hb : Below B w w1) : Below B w (w1.setCell ⟨g, j, none⟩ u) := belowB_set hb h.hg j u


set_option maxHeartbeats 8000000 in
set_option maxRecDepth 100000 in
/-- The closure of Drop. -/
theorem drop1_calls (name : ByteArray) (v0 : Value) (b0 b1 : Nat) (h : Rep B g s w) (hf : Fit s) (hBw : B ≤ w.heap.size) (hp : VarP w b0 g) (hn : VarS w b1 name) :
    Calls Try.prog 96 #[v0, .pointer (some ⟨b0, 0, none⟩), .pointer (some ⟨b1, 0, none⟩)] w fun e w' => ∃ r, e = .returned (.int .i64 r) ∧ r = 0 ∧ Rep B g (dropD s name) w' ∧ Below B w w' := by
  obtain ⟨mv, sv, pv, h⟩ := h
  obtain ⟨As, cs, rfl⟩ := Kd.V_slice h.safe
  obtain ⟨Ap, cp, rfl⟩ := O_slice h.pend
  have hlen := hf.len
  go_enter Try.func96, Try.ntmps96
  go_wp2_with fail

  refine start_ (n := 10) (S := (fun w' => w'.cell? ⟨b0, 0, none⟩ = some (.pointer (some ⟨g, 0, none⟩)) ∧ w'.cell? ⟨b1, 0, none⟩ = some (.string name) ∧ w'.cell? ⟨g, 3, none⟩ = some (.slice As s.safe.length cs))) (ds := [9]) #[false, false, false, false, false, false, false, false, false, false] (by kernel_rfl) rfl rfl ⟨(hp.below (below_drew1 (Below.refl _ _))).cell, (hn.below (below_drew1 (Below.refl _ _))).cell, (h.below (below_drew1 (Below.refl _ _))).cells.2.2.2.1⟩ (fun hHeld => ?_)
  refine take_ (i := 0) (N := some 5) (v := ?_) (a' := ?_) #[true, false, false, false, false, false, false, false, false, false] rfl rfl (by kernel_rfl) (fun _ _ _ h => h) (Or.inl ⟨by rfl, ?_⟩) hHeld ?_ ?_
  rotate_left
  · rintro w' ⟨s0, s1, s2⟩
    go_simp
    with_reducible rfl
  rotate_left
  · simp only [Act.put, List.setIfInBounds_toArray, List.set_cons_zero, List.set_cons_succ, i64_w, i32_w]
    rfl
  refine take_ (i := 1) (N := some 6) (v := ?_) (a' := ?_) #[true, true, false, false, false, false, false, false, false, false] rfl rfl (by kernel_rfl) (fun _ _ _ h => h) (Or.inl ⟨by rfl, ?_⟩) hHeld ?_ ?_
  rotate_left
  · rintro w' ⟨s0, s1, s2⟩
    go_simp
    with_reducible rfl
  rotate_left
  · simp only [Act.put, List.setIfInBounds_toArray, List.set_cons_zero, List.set_cons_succ, i64_w, i32_w]
    rfl
  refine pure_ (i := 2) (N := some 7) (v := ?_) (a' := ?_) #[true, true, true, false, false, false, false, false, false, false] rfl rfl (by kernel_rfl) (fun _ _ _ h => h) (Or.inl ⟨by rfl, ?_⟩) ?_ ?_
  rotate_left
  · intro w'
    go_simp
    with_reducible rfl
  rotate_left
  · simp only [Act.put, List.setIfInBounds_toArray, List.set_cons_zero, List.set_cons_succ, i64_w, i32_w]
    rfl
  refine pure_ (i := 3) (N := some 8) (v := ?_) (a' := ?_) #[true, true, true, true, false, false, false, false, false, false] rfl rfl (by kernel_rfl) (fun _ _ _ h => h) (Or.inl ⟨by rfl, ?_⟩) ?_ ?_
  rotate_left
  · intro w'
    go_simp
    with_reducible rfl
  rotate_left
  · simp only [Act.put, List.setIfInBounds_toArray, List.set_cons_zero, List.set_cons_succ, i64_w, i32_w]
    rfl
  refine take_ (i := 4) (N := some 9) (v := ?_) (a' := ?_) #[true, true, true, true, true, false, false, false, false, false] rfl rfl (by kernel_rfl) (fun _ _ _ h => h) (Or.inl ⟨by rfl, ?_⟩) hHeld ?_ ?_
  rotate_left
  · rintro w' ⟨s0, s1, s2⟩
    go_simp
    with_reducible rfl
  rotate_left
  · simp only [Act.put, List.setIfInBounds_toArray, List.set_cons_zero, List.set_cons_succ, i64_w, i32_w]
    rfl
  refine take_ (i := 5) (N := some 10) (v := ?_) (a' := ?_) #[true, true, true, true, true, true, false, false, false, false] rfl rfl (by kernel_rfl) (fun _ _ _ h => h) (Or.inl ⟨by rfl, ?_⟩) hHeld ?_ ?_
  rotate_left
  · rintro w' ⟨s0, s1, s2⟩
    go_simp
    with_reducible rfl
  rotate_left
  · simp only [Act.put, List.setIfInBounds_toArray, List.set_cons_zero, List.set_cons_succ, i64_w, i32_w]
    rfl
  refine one_ (i := 6) (N := some 11) #[true, true, true, true, true, true, true, false, false, false] rfl rfl (by kernel_rfl) (by decide) (fun K hK => ?_)
  refine goes_ Try.func25 (by kernel_rfl) rfl #[.slice As s.safe.length cs, .string name] (by rfl) rfl rfl (by (try simp only [List.map_toArray, List.map_cons, List.map_nil]); first | done | rfl) ?_
  refine (files_Drop.calls (fun k => k ≠ g ∧ some k ≠ (Value.slice Ap s.pend.length cp).ownBlock) As cs s.safe name (s.safe.filter fun x => !named name x) _ (V_base (Kd.V_drew h.safe)) (by unfold files_Drop.f; rw [if_pos (by omega)])).mono ?_
  rintro e w5 ⟨v5, rfl, hV5, hb5⟩
  refine ⟨_, rfl, ?_⟩
  have hb05 : Below w.heap.size w w5 := below_step (below_drew1 (Below.refl _ _)) hb5
  refine hK.out _ _ ⟨(hp.below hb05).cell, (hn.below hb05).cell, (h.below hb05).cells.2.2.2.1⟩ (fun hHeld => ?_)
  have hR5 := h.below hb05
  clear hK K
  refine norm_ (a' := ?_) ?_ ?_
  rotate_left
  · show Act.put _ (some 11) _ = _
    simp only [Act.put, List.setIfInBounds_toArray, List.set_cons_zero, List.set_cons_succ, i64_w, i32_w]
    rfl
  refine pure_ (i := 7) (N := some 12) (v := ?_) (a' := ?_) #[true, true, true, true, true, true, true, true, false, false] rfl rfl (by kernel_rfl) (fun _ _ _ h => h) (Or.inl ⟨by rfl, ?_⟩) ?_ ?_
  rotate_left
  · intro w'
    go_simp
    with_reducible rfl
  rotate_left
  · simp only [Act.put, List.setIfInBounds_toArray, List.set_cons_zero, List.set_cons_succ, i64_w, i32_w]
    rfl
  refine pure_ (i := 8) (N := some 13) (v := ?_) (a' := ?_) #[true, true, true, true, true, true, true, true, true, false] rfl rfl (by kernel_rfl) (fun _ _ _ h => h) (Or.inl ⟨by rfl, ?_⟩) ?_ ?_
  rotate_left
  · intro w'
    go_simp
    with_reducible rfl
  rotate_left
  · simp only [Act.put, List.setIfInBounds_toArray, List.set_cons_zero, List.set_cons_succ, i64_w, i32_w]
    rfl
  refine last_ (i := 9) (N := none) #[true, true, true, true, true, true, true, true, true, true] rfl rfl (by kernel_rfl) (by decide) (fun K hK => ?_)
  have hfr := blk_frozen hR5.blk 3
  have hcl := hR5.cells.2.2.2.1
  obtain ⟨A5, c5, rfl⟩ := Kd.V_slice hV5
  refine skip_ (w1 := ?_) (by rfl) rfl ?_ ?_
  rotate_left
  · go_simp
    rfl
  refine hK.out _ _ ?_
  clear hK K
  refine done_ (by kernel_rfl) ?_
  have hv5 : Kd.V k38 38 w5 B (fun k => k ≠ g ∧ some k ≠ (Value.slice Ap s.pend.length cp).ownBlock) (.slice A5 (s.safe.filter fun x => !named name x).length c5) (s.safe.filter fun x => !named name x) := V_base (Kd.V_mono hV5 (fun k hk => hk.elim id (fun hk => h.fresh hk)))
  have hR := hR5.setSafe hv5
  have hVP := (hp.below hb05).set (j := 3) (u := (.slice A5 (s.safe.filter fun x => !named name x).length c5)) hR5.blk
  have hVS := (hn.below hb05).set (j := 3) (u := (.slice A5 (s.safe.filter fun x => !named name x).length c5)) hR5.blk
  have hBB : Below B w (w5.setCell ⟨g, 3, none⟩ (.slice A5 (s.safe.filter fun x => !named name x).length c5)) := belowB_set (belowB_of hBw hb05) h.hg 3 _
  have hBW : B ≤ (w5.setCell ⟨g, 3, none⟩ (.slice A5 (s.safe.filter fun x => !named name x).length c5)).heap.size := Nat.le_trans hBw hBB.size
  have hPL : s.pend.length ≤ 1000001 := by omega
  go_wp2_with fail
  clear hfr hcl hHeld
  generalize w5.setCell ⟨g, 3, none⟩ (.slice A5 (s.safe.filter fun x => !named name x).length c5) = w6 at hR hVP hVS hBB hBW ⊢
  obtain ⟨s1, hs1⟩ : ∃ s1 : SSt, s1 = { s with safe := s.safe.filter fun x => !named name x } := ⟨_, rfl⟩
  rw [← hs1] at hR
  have hpl1 : s1.pend = s.pend := by rw [hs1]
  rw [← hpl1] at hPL
  refine start_ (n := 11) (S := (fun w' => w'.cell? ⟨b0, 0, none⟩ = some (.pointer (some ⟨g, 0, none⟩)) ∧ w'.cell? ⟨b1, 0, none⟩ = some (.string name) ∧ w'.cell? ⟨g, 4, none⟩ = some (.slice Ap s.pend.length cp))) (ds := [10]) #[false, false, false, false, false, false, false, false, false, false, false] (by kernel_rfl) rfl rfl ⟨(hVP.below (below_drew1 (Below.refl _ _))).cell, (hVS.below (below_drew1 (Below.refl _ _))).cell, (hR.below (below_drew1 (Below.refl _ _))).cells.2.2.2.2.1⟩ (fun hHeld => ?_)
  refine take_ (i := 0) (N := some 14) (v := ?_) (a' := ?_) #[true, false, false, false, false, false, false, false, false, false, false] rfl rfl (by kernel_rfl) (fun _ _ _ h => h) (Or.inl ⟨by rfl, ?_⟩) hHeld ?_ ?_
  rotate_left
  · rintro w' ⟨s0, s1, s2⟩
    go_simp
    with_reducible rfl
  rotate_left
  · simp only [Act.put, List.setIfInBounds_toArray, List.set_cons_zero, List.set_cons_succ, i64_w, i32_w]
    rfl
  refine take_ (i := 1) (N := some 15) (v := ?_) (a' := ?_) #[true, true, false, false, false, false, false, false, false, false, false] rfl rfl (by kernel_rfl) (fun _ _ _ h => h) (Or.inl ⟨by rfl, ?_⟩) hHeld ?_ ?_
  rotate_left
  · rintro w' ⟨s0, s1, s2⟩
    go_simp
    with_reducible rfl
  rotate_left
  · simp only [Act.put, List.setIfInBounds_toArray, List.set_cons_zero, List.set_cons_succ, i64_w, i32_w]
    rfl
  refine pure_ (i := 2) (N := some 16) (v := ?_) (a' := ?_) #[true, true, true, false, false, false, false, false, false, false, false] rfl rfl (by kernel_rfl) (fun _ _ _ h => h) (Or.inl ⟨by rfl, ?_⟩) ?_ ?_
  rotate_left
  · intro w'
    go_simp
    with_reducible rfl
  rotate_left
  · simp only [Act.put, List.setIfInBounds_toArray, List.set_cons_zero, List.set_cons_succ, i64_w, i32_w]
    rfl
  refine pure_ (i := 3) (N := some 17) (v := ?_) (a' := ?_) #[true, true, true, true, false, false, false, false, false, false, false] rfl rfl (by kernel_rfl) (fun _ _ _ h => h) (Or.inl ⟨by rfl, ?_⟩) ?_ ?_
  rotate_left
  · intro w'
    go_simp
    with_reducible rfl
  rotate_left
  · simp only [Act.put, List.setIfInBounds_toArray, List.set_cons_zero, List.set_cons_succ, i64_w, i32_w]
    rfl
  refine take_ (i := 4) (N := some 18) (v := ?_) (a' := ?_) #[true, true, true, true, true, false, false, false, false, false, false] rfl rfl (by kernel_rfl) (fun _ _ _ h => h) (Or.inl ⟨by rfl, ?_⟩) hHeld ?_ ?_
  rotate_left
  · rintro w' ⟨s0, s1, s2⟩
    go_simp
    with_reducible rfl
  rotate_left
  · simp only [Act.put, List.setIfInBounds_toArray, List.set_cons_zero, List.set_cons_succ, i64_w, i32_w]
    rfl
  refine take_ (i := 5) (N := some 19) (v := ?_) (a' := ?_) #[true, true, true, true, true, true, false, false, false, false, false] rfl rfl (by kernel_rfl) (fun _ _ _ h => h) (Or.inl ⟨by rfl, ?_⟩) hHeld ?_ ?_
  rotate_left
  · rintro w' ⟨s0, s1, s2⟩
    go_simp
    with_reducible rfl
  rotate_left
  · simp only [Act.put, List.setIfInBounds_toArray, List.set_cons_zero, List.set_cons_succ, i64_w, i32_w]
    rfl
  refine one_ (i := 6) (N := some 20) #[true, true, true, true, true, true, true, false, false, false, false] rfl rfl (by kernel_rfl) (by decide) (fun K hK => ?_)
  refine goes_ Try.func76 (by kernel_rfl) rfl #[.string name] (by rfl) rfl rfl (by (try simp only [List.map_toArray, List.map_cons, List.map_nil]); first | done | rfl) ?_
  refine (owned_calls name _).mono ?_
  rintro e w8 ⟨rfl, hv8, hb8⟩
  refine ⟨_, rfl, ?_⟩
  refine hK.out _ _ ⟨(hVP.below (below_step (below_drew1 (Below.refl _ _)) hb8)).cell, (hVS.below (below_step (below_drew1 (Below.refl _ _)) hb8)).cell, (hR.below (below_step (below_drew1 (Below.refl _ _)) hb8)).cells.2.2.2.2.1⟩ (fun hHeld => ?_)
  have hR8 := hR.below (below_step (below_drew1 (Below.refl _ _)) hb8)
  have hB8 : Below B w w8 := belowB_trans hBB (belowB_of hBW (below_step (below_drew1 (Below.refl _ _)) hb8))
  have hVP8 := hVP.below (below_step (below_drew1 (Below.refl _ _)) hb8)
  have hVS8 := hVS.below (below_step (below_drew1 (Below.refl _ _)) hb8)
  clear hK K
  refine norm_ (a' := ?_) ?_ ?_
  rotate_left
  · show Act.put _ (some 20) _ = _
    simp only [Act.put, List.setIfInBounds_toArray, List.set_cons_zero, List.set_cons_succ, i64_w, i32_w]
    rfl
  refine one_ (i := 7) (N := some 21) #[true, true, true, true, true, true, true, true, false, false, false] rfl rfl (by kernel_rfl) (by decide) (fun K hK => ?_)
  refine goes_ Try.func72 (by kernel_rfl) rfl #[.slice Ap s.pend.length cp, .func (.func 95) #[] #[.pointer (some ⟨w6.drew.heap.size, 0, none⟩)]] (by rfl) rfl rfl (by (try simp only [List.map_toArray, List.map_cons, List.map_nil]); first | done | rfl) ?_
  refine (delete_ownW (fun k => k ≠ g) B name _ (.slice Ap s.pend.length cp) s1.pend _ hR8.pend (Nat.le_trans hBW (by have := hb8.size; have hz : w6.drew.heap.size = w6.heap.size := rfl; omega)) hPL hv8).mono ?_
  rintro e w9 ⟨v9, rfl, hO9, hg9, ha9⟩
  refine ⟨_, rfl, ?_⟩
  have hP9 : ∀ b t (cs : Array Value) (f : Nat × Nat), w8.heap[b]? = some (Obj.cells cs t f) → t ≠ 31 → w9.heap[b]? = some (Obj.cells cs t f) := fun b t cs f hb ht => (hg9.block b (blk_lt hb) (fun he => O_ne hR8.pend hb ht he.symm)).trans hb
  refine hK.out _ _ ⟨VarP.cell (hP9 _ _ _ _ hVP8 (by decide)), VarS.cell (hP9 _ _ _ _ hVS8 (by decide)), by rw [cell_of_row w9 g _ _ 106 (0, 0) (hP9 _ _ _ _ hR8.blk (by decide))]; rfl⟩ (fun hHeld => ?_)
  have hR9 := hR8.setPend hO9 hg9 (.inl ha9)
  have hblk9 := hP9 _ _ _ _ hR8.blk (by decide)
  have hB9 : Below B w w9 := belowB_trans hB8 ⟨hg9.os, hg9.tape, hg9.output, hg9.size, fun k hk => hg9.block k (Nat.lt_of_lt_of_le hk (Nat.le_trans hBW (by have := hb8.size; have hz : w6.drew.heap.size = w6.heap.size := rfl; omega))) (fun he => by have := O_base hR8.pend k he.symm; omega)⟩
  clear hK K
  refine norm_ (a' := ?_) ?_ ?_
  rotate_left
  · show Act.put _ (some 21) _ = _
    simp only [Act.put, List.setIfInBounds_toArray, List.set_cons_zero, List.set_cons_succ, i64_w, i32_w]
    rfl
  refine pure_ (i := 8) (N := some 22) (v := ?_) (a' := ?_) #[true, true, true, true, true, true, true, true, true, false, false] rfl rfl (by kernel_rfl) (fun _ _ _ h => h) (Or.inl ⟨by rfl, ?_⟩) ?_ ?_
  rotate_left
  · intro w'
    go_simp
    with_reducible rfl
  rotate_left
  · simp only [Act.put, List.setIfInBounds_toArray, List.set_cons_zero, List.set_cons_succ, i64_w, i32_w]
    rfl
  refine pure_ (i := 9) (N := some 23) (v := ?_) (a' := ?_) #[true, true, true, true, true, true, true, true, true, true, false] rfl rfl (by kernel_rfl) (fun _ _ _ h => h) (Or.inl ⟨by rfl, ?_⟩) ?_ ?_
  rotate_left
  · intro w'
    go_simp
    with_reducible rfl
  rotate_left
  · simp only [Act.put, List.setIfInBounds_toArray, List.set_cons_zero, List.set_cons_succ, i64_w, i32_w]
    rfl
  refine last_ (i := 10) (N := none) #[true, true, true, true, true, true, true, true, true, true, true] rfl rfl (by kernel_rfl) (by decide) (fun K hK => ?_)
  have hfr := blk_frozen hblk9 4
  have hcl : w9.cell? ⟨g, 4, none⟩ = some (.slice Ap s.pend.length cp) := by rw [cell_of_row w9 g _ _ 106 (0, 0) hblk9]; rfl
  obtain ⟨A9, c9, rfl⟩ := O_slice hO9
  refine skip_ (w1 := ?_) (by rfl) rfl ?_ ?_
  rotate_left
  · go_simp
    rfl
  refine hK.out _ _ ?_
  clear hK K
  refine done_ (by kernel_rfl) ?_
  have hgl := h.hg
  clear hfr hcl hHeld
  go_wp2_with fail
  all_goals go_ret
  exact ⟨0, rfl, rfl, ⟨mv, _, _, by rw [hs1] at hR9; exact hR9⟩, belowB_set hB9 hgl 4 _⟩


theorem not_oth (name : ByteArray) (x : S31) : (!othW name x) = ownW name x := by
  unfold othW ownW
  cases h : (x.f0.toList == name.toList) <;> simp [bne, h]
set_option maxHeartbeats 8000000 in
set_option maxRecDepth 100000 in
/-- The closure of Sync. -/
theorem sync1_calls (name : ByteArray) (v0 : Value) (b0 b1 : Nat) (h : Rep B g s w) (hf : Fit s) (hBw : B ≤ w.heap.size) (hp : VarP w b0 g) (hn : VarS w b1 name) :
    Calls Try.prog 70 #[v0, .pointer (some ⟨b0, 0, none⟩), .pointer (some ⟨b1, 0, none⟩)] w fun e w' => ∃ r, e = .returned (.int .i64 r) ∧ r = 0 ∧ Rep B g (syncD s name) w' ∧ Below B w w' := by
  obtain ⟨mv, sv, pv, h⟩ := h
  obtain ⟨As, cs, rfl⟩ := Kd.V_slice h.safe
  obtain ⟨Ap, cp, rfl⟩ := O_slice h.pend
  have hlen := hf.len
  have hp0 := hp.cell
  have hcp := h.cells.2.2.2.2.1
  have HF := Aside0.mk hf
  clear hf
  go_enter Try.func70, Try.ntmps70
  go_wp2_with (first
    | (go_at_call 71; refine (cloneW (fun _ => True) Ap cp s.pend _ (Kd.F_mono (Kd.V_F (O_V h.pend)) (fun _ _ => trivial)) (by omega)).mono ?_; rintro e w1 ⟨v1, rfl, hO1, hb1⟩; have HO1 := Aside0.mk hO1; have HB1 := Aside0.mk hb1; clear hO1 hb1)
    | (go_at_call 72; refine (delete_othW (fun k => True ∧ k < w.heap.size) w.heap.size name b1 v1 s.pend _ HO1.out HB1.out.size (by omega) (hn.below HB1.out)).mono ?_; rintro e w2 ⟨v2, rfl, hO2, hg2, ha2⟩; obtain ⟨A2, c2, rfl⟩ := O_slice hO2; have HO2 := Aside0.mk hO2; have HB2 : Aside0 (Below w.heap.size w w2) := ⟨pw_below_grown HB1.out v1.ownBlock HB1.out.size hg2 (O_base HO1.out)⟩; clear hO2 hg2 ha2))
  have hb2 := HB2.out
  have hO2 := HO2.out
  have hR2 := h.below hb2
  have hp2 := hp.below hb2
  have hn2 := hn.below hb2
  have hfil : (s.pend.filter fun x => !othW name x).length ≤ s.pend.length := List.length_filter_le _ _
  have hBw2 : B ≤ w2.heap.size := Nat.le_trans hBw hb2.size
  clear hp0 hcp
  refine start_ (n := 10) (S := (fun w' => w'.cell? ⟨b0, 0, none⟩ = some (.pointer (some ⟨g, 0, none⟩)) ∧ w'.cell? ⟨b1, 0, none⟩ = some (.string name) ∧ w'.cell? ⟨g, 3, none⟩ = some (.slice As s.safe.length cs))) (ds := [9]) #[false, false, false, false, false, false, false, false, false, false] (by kernel_rfl) rfl rfl ⟨(hp2.below (below_drew1 (Below.refl _ _))).cell, (hn2.below (below_drew1 (Below.refl _ _))).cell, (hR2.below (below_drew1 (Below.refl _ _))).cells.2.2.2.1⟩ (fun hHeld => ?_)
  refine pure_ (i := 5) (N := some 19) (v := ?_) (a' := ?_) #[false, false, false, false, false, true, false, false, false, false] rfl rfl (by kernel_rfl) (fun _ _ _ h => h) (Or.inl ⟨by rfl, ?_⟩) ?_ ?_
  rotate_left
  · intro w'
    go_simp
    with_reducible rfl
  rotate_left
  · simp only [Act.put, List.setIfInBounds_toArray, List.set_cons_zero, List.set_cons_succ, i64_w, i32_w]
    rfl
  refine take_ (i := 0) (N := some 14) (v := ?_) (a' := ?_) #[true, false, false, false, false, true, false, false, false, false] rfl rfl (by kernel_rfl) (fun _ _ _ h => h) (Or.inl ⟨by rfl, ?_⟩) hHeld ?_ ?_
  rotate_left
  · rintro w' ⟨s0, s1, s2⟩
    go_simp
    with_reducible rfl
  rotate_left
  · simp only [Act.put, List.setIfInBounds_toArray, List.set_cons_zero, List.set_cons_succ, i64_w, i32_w]
    rfl
  refine take_ (i := 1) (N := some 15) (v := ?_) (a' := ?_) #[true, true, false, false, false, true, false, false, false, false] rfl rfl (by kernel_rfl) (fun _ _ _ h => h) (Or.inl ⟨by rfl, ?_⟩) hHeld ?_ ?_
  rotate_left
  · rintro w' ⟨s0, s1, s2⟩
    go_simp
    with_reducible rfl
  rotate_left
  · simp only [Act.put, List.setIfInBounds_toArray, List.set_cons_zero, List.set_cons_succ, i64_w, i32_w]
    rfl
  refine pure_ (i := 2) (N := some 16) (v := ?_) (a' := ?_) #[true, true, true, false, false, true, false, false, false, false] rfl rfl (by kernel_rfl) (fun _ _ _ h => h) (Or.inl ⟨by rfl, ?_⟩) ?_ ?_
  rotate_left
  · intro w'
    go_simp
    with_reducible rfl
  rotate_left
  · simp only [Act.put, List.setIfInBounds_toArray, List.set_cons_zero, List.set_cons_succ, i64_w, i32_w]
    rfl
  refine pure_ (i := 3) (N := some 17) (v := ?_) (a' := ?_) #[true, true, true, true, false, true, false, false, false, false] rfl rfl (by kernel_rfl) (fun _ _ _ h => h) (Or.inl ⟨by rfl, ?_⟩) ?_ ?_
  rotate_left
  · intro w'
    go_simp
    with_reducible rfl
  rotate_left
  · simp only [Act.put, List.setIfInBounds_toArray, List.set_cons_zero, List.set_cons_succ, i64_w, i32_w]
    rfl
  refine take_ (i := 4) (N := some 18) (v := ?_) (a' := ?_) #[true, true, true, true, true, true, false, false, false, false] rfl rfl (by kernel_rfl) (fun _ _ _ h => h) (Or.inl ⟨by rfl, ?_⟩) hHeld ?_ ?_
  rotate_left
  · rintro w' ⟨s0, s1, s2⟩
    go_simp
    with_reducible rfl
  rotate_left
  · simp only [Act.put, List.setIfInBounds_toArray, List.set_cons_zero, List.set_cons_succ, i64_w, i32_w]
    rfl
  refine one_ (i := 6) (N := some 20) #[true, true, true, true, true, true, true, false, false, false] rfl rfl (by kernel_rfl) (by decide) (fun K hK => ?_)
  refine goes_ Try.func74 (by kernel_rfl) rfl #[.slice As s.safe.length cs, .slice A2 (s.pend.filter fun x => !othW name x).length c2, .func (.func 75) #[] #[]] (by rfl) rfl rfl (by (try simp only [List.map_toArray, List.map_cons, List.map_nil]); first | done | rfl) ?_
  refine (done_all (fun k => k ≠ g ∧ some k ≠ (Value.slice Ap s.pend.length cp).ownBlock) As cs s.safe A2 c2 (s.pend.filter fun x => !othW name x) _ (V_base (Kd.V_drew hR2.safe)) (Kd.V_reads' (O_V (O_below hO2 (below_drew1 (Below.refl _ _))))).2.2 (Kd.V_reads' (O_V hO2)).2.1 (by omega) HF.out.safe (fun x hx => HF.out.pend x (List.mem_filter.1 hx).1)).mono ?_
  rintro e w5 ⟨v5, rfl, hV5, hb5⟩
  refine ⟨_, rfl, ?_⟩
  have hb25 : Below w2.heap.size w2 w5 := below_step (below_drew1 (Below.refl _ _)) hb5
  refine hK.out _ _ ⟨(hp2.below hb25).cell, (hn2.below hb25).cell, (hR2.below hb25).cells.2.2.2.1⟩ (fun hHeld => ?_)
  have hR5 := hR2.below hb25
  clear hK K
  refine norm_ (a' := ?_) ?_ ?_
  rotate_left
  · show Act.put _ (some 20) _ = _
    simp only [Act.put, List.setIfInBounds_toArray, List.set_cons_zero, List.set_cons_succ, i64_w, i32_w]
    rfl
  refine pure_ (i := 7) (N := some 21) (v := ?_) (a' := ?_) #[true, true, true, true, true, true, true, true, false, false] rfl rfl (by kernel_rfl) (fun _ _ _ h => h) (Or.inl ⟨by rfl, ?_⟩) ?_ ?_
  rotate_left
  · intro w'
    go_simp
    with_reducible rfl
  rotate_left
  · simp only [Act.put, List.setIfInBounds_toArray, List.set_cons_zero, List.set_cons_succ, i64_w, i32_w]
    rfl
  refine pure_ (i := 8) (N := some 22) (v := ?_) (a' := ?_) #[true, true, true, true, true, true, true, true, true, false] rfl rfl (by kernel_rfl) (fun _ _ _ h => h) (Or.inl ⟨by rfl, ?_⟩) ?_ ?_
  rotate_left
  · intro w'
    go_simp
    with_reducible rfl
  rotate_left
  · simp only [Act.put, List.setIfInBounds_toArray, List.set_cons_zero, List.set_cons_succ, i64_w, i32_w]
    rfl
  refine last_ (i := 9) (N := none) #[true, true, true, true, true, true, true, true, true, true] rfl rfl (by kernel_rfl) (by decide) (fun K hK => ?_)
  have hfr := blk_frozen hR5.blk 3
  have hcl := hR5.cells.2.2.2.1
  obtain ⟨A5, c5, rfl⟩ := Kd.V_slice hV5
  refine skip_ (w1 := ?_) (by rfl) rfl ?_ ?_
  rotate_left
  · go_simp
    rfl
  refine hK.out _ _ ?_
  clear hK K
  refine done_ (by kernel_rfl) ?_
  have hv5 : Kd.V k38 38 w5 B (fun k => k ≠ g ∧ some k ≠ (Value.slice Ap s.pend.length cp).ownBlock) (.slice A5 (doneL (fun _ => -1) 0 s.safe (s.pend.filter fun x => !othW name x)).length c5) (doneL (fun _ => -1) 0 s.safe (s.pend.filter fun x => !othW name x)) := V_base (Kd.V_mono hV5 (fun k hk => hk.elim id (fun hk => hR2.fresh hk)))
  have hR := hR5.setSafe hv5
  have hVP := (hp2.below hb25).set (j := 3) (u := (.slice A5 (doneL (fun _ => -1) 0 s.safe (s.pend.filter fun x => !othW name x)).length c5)) hR5.blk
  have hVS := (hn2.below hb25).set (j := 3) (u := (.slice A5 (doneL (fun _ => -1) 0 s.safe (s.pend.filter fun x => !othW name x)).length c5)) hR5.blk
  have hBB : Below B w (w5.setCell ⟨g, 3, none⟩ (.slice A5 (doneL (fun _ => -1) 0 s.safe (s.pend.filter fun x => !othW name x)).length c5)) := belowB_set (belowB_trans (belowB_of hBw hb2) (belowB_of hBw2 hb25)) h.hg 3 _
  have hBW : B ≤ (w5.setCell ⟨g, 3, none⟩ (.slice A5 (doneL (fun _ => -1) 0 s.safe (s.pend.filter fun x => !othW name x)).length c5)).heap.size := Nat.le_trans hBw hBB.size
  have hPL : s.pend.length ≤ 1000001 := by omega
  go_wp2_with fail
  clear hfr hcl hHeld
  generalize w5.setCell ⟨g, 3, none⟩ (.slice A5 (doneL (fun _ => -1) 0 s.safe (s.pend.filter fun x => !othW name x)).length c5) = w6 at hR hVP hVS hBB hBW ⊢
  obtain ⟨s1, hs1⟩ : ∃ s1 : SSt, s1 = { s with safe := (doneL (fun _ => -1) 0 s.safe (s.pend.filter fun x => !othW name x)) } := ⟨_, rfl⟩
  rw [← hs1] at hR
  have hpl1 : s1.pend = s.pend := by rw [hs1]
  rw [← hpl1] at hPL
  refine start_ (n := 11) (S := (fun w' => w'.cell? ⟨b0, 0, none⟩ = some (.pointer (some ⟨g, 0, none⟩)) ∧ w'.cell? ⟨b1, 0, none⟩ = some (.string name) ∧ w'.cell? ⟨g, 4, none⟩ = some (.slice Ap s.pend.length cp))) (ds := [10]) #[false, false, false, false, false, false, false, false, false, false, false] (by kernel_rfl) rfl rfl ⟨(hVP.below (below_drew1 (Below.refl _ _))).cell, (hVS.below (below_drew1 (Below.refl _ _))).cell, (hR.below (below_drew1 (Below.refl _ _))).cells.2.2.2.2.1⟩ (fun hHeld => ?_)
  refine take_ (i := 0) (N := some 23) (v := ?_) (a' := ?_) #[true, false, false, false, false, false, false, false, false, false, false] rfl rfl (by kernel_rfl) (fun _ _ _ h => h) (Or.inl ⟨by rfl, ?_⟩) hHeld ?_ ?_
  rotate_left
  · rintro w' ⟨s0, s1, s2⟩
    go_simp
    with_reducible rfl
  rotate_left
  · simp only [Act.put, List.setIfInBounds_toArray, List.set_cons_zero, List.set_cons_succ, i64_w, i32_w]
    rfl
  refine take_ (i := 1) (N := some 24) (v := ?_) (a' := ?_) #[true, true, false, false, false, false, false, false, false, false, false] rfl rfl (by kernel_rfl) (fun _ _ _ h => h) (Or.inl ⟨by rfl, ?_⟩) hHeld ?_ ?_
  rotate_left
  · rintro w' ⟨s0, s1, s2⟩
    go_simp
    with_reducible rfl
  rotate_left
  · simp only [Act.put, List.setIfInBounds_toArray, List.set_cons_zero, List.set_cons_succ, i64_w, i32_w]
    rfl
  refine pure_ (i := 2) (N := some 25) (v := ?_) (a' := ?_) #[true, true, true, false, false, false, false, false, false, false, false] rfl rfl (by kernel_rfl) (fun _ _ _ h => h) (Or.inl ⟨by rfl, ?_⟩) ?_ ?_
  rotate_left
  · intro w'
    go_simp
    with_reducible rfl
  rotate_left
  · simp only [Act.put, List.setIfInBounds_toArray, List.set_cons_zero, List.set_cons_succ, i64_w, i32_w]
    rfl
  refine pure_ (i := 3) (N := some 26) (v := ?_) (a' := ?_) #[true, true, true, true, false, false, false, false, false, false, false] rfl rfl (by kernel_rfl) (fun _ _ _ h => h) (Or.inl ⟨by rfl, ?_⟩) ?_ ?_
  rotate_left
  · intro w'
    go_simp
    with_reducible rfl
  rotate_left
  · simp only [Act.put, List.setIfInBounds_toArray, List.set_cons_zero, List.set_cons_succ, i64_w, i32_w]
    rfl
  refine take_ (i := 4) (N := some 27) (v := ?_) (a' := ?_) #[true, true, true, true, true, false, false, false, false, false, false] rfl rfl (by kernel_rfl) (fun _ _ _ h => h) (Or.inl ⟨by rfl, ?_⟩) hHeld ?_ ?_
  rotate_left
  · rintro w' ⟨s0, s1, s2⟩
    go_simp
    with_reducible rfl
  rotate_left
  · simp only [Act.put, List.setIfInBounds_toArray, List.set_cons_zero, List.set_cons_succ, i64_w, i32_w]
    rfl
  refine take_ (i := 5) (N := some 28) (v := ?_) (a' := ?_) #[true, true, true, true, true, true, false, false, false, false, false] rfl rfl (by kernel_rfl) (fun _ _ _ h => h) (Or.inl ⟨by rfl, ?_⟩) hHeld ?_ ?_
  rotate_left
  · rintro w' ⟨s0, s1, s2⟩
    go_simp
    with_reducible rfl
  rotate_left
  · simp only [Act.put, List.setIfInBounds_toArray, List.set_cons_zero, List.set_cons_succ, i64_w, i32_w]
    rfl
  refine one_ (i := 6) (N := some 29) #[true, true, true, true, true, true, true, false, false, false, false] rfl rfl (by kernel_rfl) (by decide) (fun K hK => ?_)
  refine goes_ Try.func76 (by kernel_rfl) rfl #[.string name] (by rfl) rfl rfl (by (try simp only [List.map_toArray, List.map_cons, List.map_nil]); first | done | rfl) ?_
  refine (owned_calls name _).mono ?_
  rintro e w8 ⟨rfl, hv8, hb8⟩
  refine ⟨_, rfl, ?_⟩
  refine hK.out _ _ ⟨(hVP.below (below_step (below_drew1 (Below.refl _ _)) hb8)).cell, (hVS.below (below_step (below_drew1 (Below.refl _ _)) hb8)).cell, (hR.below (below_step (below_drew1 (Below.refl _ _)) hb8)).cells.2.2.2.2.1⟩ (fun hHeld => ?_)
  have hR8 := hR.below (below_step (below_drew1 (Below.refl _ _)) hb8)
  have hB8 : Below B w w8 := belowB_trans hBB (belowB_of hBW (below_step (below_drew1 (Below.refl _ _)) hb8))
  have hVP8 := hVP.below (below_step (below_drew1 (Below.refl _ _)) hb8)
  have hVS8 := hVS.below (below_step (below_drew1 (Below.refl _ _)) hb8)
  clear hK K
  refine norm_ (a' := ?_) ?_ ?_
  rotate_left
  · show Act.put _ (some 29) _ = _
    simp only [Act.put, List.setIfInBounds_toArray, List.set_cons_zero, List.set_cons_succ, i64_w, i32_w]
    rfl
  refine one_ (i := 7) (N := some 30) #[true, true, true, true, true, true, true, true, false, false, false] rfl rfl (by kernel_rfl) (by decide) (fun K hK => ?_)
  refine goes_ Try.func72 (by kernel_rfl) rfl #[.slice Ap s.pend.length cp, .func (.func 95) #[] #[.pointer (some ⟨w6.drew.heap.size, 0, none⟩)]] (by rfl) rfl rfl (by (try simp only [List.map_toArray, List.map_cons, List.map_nil]); first | done | rfl) ?_
  refine (delete_ownW (fun k => k ≠ g) B name _ (.slice Ap s.pend.length cp) s1.pend _ hR8.pend (Nat.le_trans hBW (by have := hb8.size; have hz : w6.drew.heap.size = w6.heap.size := rfl; omega)) hPL hv8).mono ?_
  rintro e w9 ⟨v9, rfl, hO9, hg9, ha9⟩
  refine ⟨_, rfl, ?_⟩
  have hP9 : ∀ b t (cs : Array Value) (f : Nat × Nat), w8.heap[b]? = some (Obj.cells cs t f) → t ≠ 31 → w9.heap[b]? = some (Obj.cells cs t f) := fun b t cs f hb ht => (hg9.block b (blk_lt hb) (fun he => O_ne hR8.pend hb ht he.symm)).trans hb
  refine hK.out _ _ ⟨VarP.cell (hP9 _ _ _ _ hVP8 (by decide)), VarS.cell (hP9 _ _ _ _ hVS8 (by decide)), by rw [cell_of_row w9 g _ _ 106 (0, 0) (hP9 _ _ _ _ hR8.blk (by decide))]; rfl⟩ (fun hHeld => ?_)
  have hR9 := hR8.setPend hO9 hg9 (.inl ha9)
  have hblk9 := hP9 _ _ _ _ hR8.blk (by decide)
  have hB9 : Below B w w9 := belowB_trans hB8 ⟨hg9.os, hg9.tape, hg9.output, hg9.size, fun k hk => hg9.block k (Nat.lt_of_lt_of_le hk (Nat.le_trans hBW (by have := hb8.size; have hz : w6.drew.heap.size = w6.heap.size := rfl; omega))) (fun he => by have := O_base hR8.pend k he.symm; omega)⟩
  clear hK K
  refine norm_ (a' := ?_) ?_ ?_
  rotate_left
  · show Act.put _ (some 30) _ = _
    simp only [Act.put, List.setIfInBounds_toArray, List.set_cons_zero, List.set_cons_succ, i64_w, i32_w]
    rfl
  refine pure_ (i := 8) (N := some 31) (v := ?_) (a' := ?_) #[true, true, true, true, true, true, true, true, true, false, false] rfl rfl (by kernel_rfl) (fun _ _ _ h => h) (Or.inl ⟨by rfl, ?_⟩) ?_ ?_
  rotate_left
  · intro w'
    go_simp
    with_reducible rfl
  rotate_left
  · simp only [Act.put, List.setIfInBounds_toArray, List.set_cons_zero, List.set_cons_succ, i64_w, i32_w]
    rfl
  refine pure_ (i := 9) (N := some 32) (v := ?_) (a' := ?_) #[true, true, true, true, true, true, true, true, true, true, false] rfl rfl (by kernel_rfl) (fun _ _ _ h => h) (Or.inl ⟨by rfl, ?_⟩) ?_ ?_
  rotate_left
  · intro w'
    go_simp
    with_reducible rfl
  rotate_left
  · simp only [Act.put, List.setIfInBounds_toArray, List.set_cons_zero, List.set_cons_succ, i64_w, i32_w]
    rfl
  refine last_ (i := 10) (N := none) #[true, true, true, true, true, true, true, true, true, true, true] rfl rfl (by kernel_rfl) (by decide) (fun K hK => ?_)
  have hfr := blk_frozen hblk9 4
  have hcl : w9.cell? ⟨g, 4, none⟩ = some (.slice Ap s.pend.length cp) := by rw [cell_of_row w9 g _ _ 106 (0, 0) hblk9]; rfl
  obtain ⟨A9, c9, rfl⟩ := O_slice hO9
  refine skip_ (w1 := ?_) (by rfl) rfl ?_ ?_
  rotate_left
  · go_simp
    rfl
  refine hK.out _ _ ?_
  clear hK K
  refine done_ (by kernel_rfl) ?_
  have hgl := h.hg
  clear hfr hcl hHeld
  go_wp2_with fail
  all_goals go_ret
  exact ⟨0, rfl, rfl, ⟨mv, _, _, by rw [hs1] at hR9; exact hR9⟩, belowB_set hB9 hgl 4 _⟩

end
end Go.Proofs.Ytcgeioingikeeaa.P
