/- The closure of Move: what it does. By a program of this seat (wip/tools/mkK6.py). -/
import Derived.Test.YtcgeioingikeeaaK5
import Derived.Test.YtcgeioingikeeaaPf21
namespace Go.Proofs.Ytcgeioingikeeaa.P
open Go.RowKit Go.Proofs.YtcgeioingikeeaaW.PrintWords Go.Proofs.YtcgeioingikeeaaW.PrintLast Go.Proofs.YtcgeioingikeeaaW.PrintMore
set_option linter.unusedVariables false
set_option linter.unusedSimpArgs false


/-- Files with one of another name. -/
def moveT (l : List S38) (a b : ByteArray) : List S38 := match l.find? (named a) with
  | some x => putL (l.filter fun y => !named a y) b x.f1
  | none => l
theorem move_f (l : List S38) (a b : ByteArray) (hl : l.length ≤ 1000000) (hd : okL l) : ∃ r, files_Move.f l a b = some (moveT l a b, r) := by
  unfold files_Move.f files_Get.f moveT
  rw [if_pos ⟨hl, fun x hx => by have := hd x hx; omega⟩]
  cases hf : l.find? (named a) with
  | none =>
    refine ⟨false, ?_⟩
    simp only [Option.bind_some]
    unfold slices_CloneF.f
    rw [if_neg (by simp), if_pos hl]
    rfl
  | some x =>
    refine ⟨true, ?_⟩
    have hx := hd x (List.mem_of_find?_eq_some hf)
    simp only [Option.bind_some]
    unfold files_Drop.f files_Put.f
    have h2 := List.length_filter_le (fun y => !named a y) l
    rw [if_pos trivial, if_pos hl, Option.bind_some, if_pos ⟨by omega, by omega⟩, Option.bind_some]
/-- A write of another name. -/
def renW (a b : ByteArray) (x : S31) : S31 := if ownW a x then { x with f0 := b } else x
/-- What Move does, plainly. -/
def moveD (s : SSt) (a b : ByteArray) : SSt := { s with safe := moveT (s.safe.filter fun x => !named b x) a b, pend := (s.pend.filter fun x => !ownW b x).map (renW a b) }
theorem set1of4 (cur : Array Value) (a : Nat) (v x y z : Value) (h : a + 4 ≤ cur.size) (h1 : cur[a + 1]? = some x) (h2 : cur[a + 2]? = some y) (h3 : cur[a + 3]? = some z) :
    cur.setIfInBounds a v = (cur.toList.take a ++ [v, x, y, z] ++ cur.toList.drop (a + [v, x, y, z].length)).toArray := by
  apply Array.ext'
  simp only [Array.toList_setIfInBounds]
  apply List.ext_getElem?
  intro k
  simp only [List.getElem?_set, List.length_set, Array.length_toList, List.append_assoc, List.getElem?_append, List.length_take, List.length_cons, List.length_nil, List.getElem?_take, List.getElem?_drop]
  rw [Nat.min_eq_left (by omega : a ≤ cur.size)]
  by_cases g1 : k < a
  · simp [g1, show ¬ a = k by omega]
  · by_cases g2 : k = a
    · subst g2; simp [show k < cur.size by omega]
    · by_cases g3 : k = a + 1
      · subst g3; simp [h1, show ¬ a + 1 < a by omega]
      · by_cases g4 : k = a + 2
        · subst g4; simp [h2, show ¬ a + 2 < a by omega]
        · by_cases g5 : k = a + 3
          · subst g5; simp [h3, show ¬ a + 3 < a by omega]
          · simp [g1, show ¬ a = k by omega, show ¬ k - a < 4 by omega, show a + 4 + (k - a - 4) = k by omega]
section
variable {B g : Nat} {s : SSt} {w w1 : World} {mv sv pv : Value}
/-- The row of writes is written, by its own block. -/
theorem RepAt.rowed {l : List S31} (h : RepAt B g s w mv sv pv) (ho : O k31 31 w1 B (fun k => k ≠ g) pv l) (hgr : w.grownBy w1 pv.ownBlock) : RepAt B g { s with pend := l } w1 mv sv pv := by
  refine ⟨h.hg, (hgr.block g (blk_lt h.blk) (fun he => h.pend_ne he.symm)).trans h.blk, ?_, Kd.V_grown h.safe hgr (fun k hk => hk.2), ho⟩
  rcases h.map with hm | ⟨b, n, D, h1, h2, h3, h4, h5⟩
  · exact .inl hm
  · refine .inr ⟨b, n, D, h1, h2, h3, ?_, h5⟩
    obtain ⟨es, clock, h6, h7⟩ := h4
    refine ⟨es, clock, (hgr.block b (blk_lt h6) (fun he => ?_)).trans h6, h7⟩
    obtain ⟨_, hp, _⟩ := h.pend
    obtain ⟨cells, hc⟩ := own_typed hp b he.symm
    rw [h6] at hc
    cases hc
/-- One write of the row has another name now. -/
theorem RepAt.renamed {gp c : Nat} (h : RepAt B g s w mv sv (.slice (some ⟨gp, 0, none⟩) s.pend.length c)) (i : Nat) (hi : i < s.pend.length) (to_ : ByteArray) :
    RepAt B g { s with pend := s.pend.set i { (s.pend.getD i z31) with f0 := to_ } } (w.setCell ⟨gp, i * 4, none⟩ (.string to_)) mv sv (.slice (some ⟨gp, 0, none⟩) s.pend.length c) := by
  obtain ⟨A1, c1, hx0, hx1, hx2, hx3, hfk⟩ := O_at31 h.pend i hi
  obtain ⟨cur, hcur⟩ := O_block h.pend
  have hpos : 0 < s.pend.length := by omega
  obtain ⟨g', cap', cur', he, hg, hlt, hh, h3, h4, h5, hr⟩ := O_open h.pend hpos
  injection he with he1 he2 he3
  injection he1 with he1
  injection he1 with he1
  subst he1
  rw [hcur] at hh
  injection hh with hh
  injection hh with hh
  subst hh
  have hsz : cur.size = cap' * 4 := h5
  have hcell : ∀ j u, w.cell? ⟨gp, j, none⟩ = some u → cur[j]? = some u := fun j u hu => by rw [cell_of_row w gp j cur 31 (0, 0) hcur] at hu; exact hu
  have hset := set1of4 cur (i * 4) (.string to_) _ _ _ (by omega) (hcell _ _ hx1) (hcell _ _ hx2) (hcell _ _ hx3)
  have hblk := blk_set hcur (i * 4) (.string to_)
  rw [hset] at hblk
  have hx' : Kd.FK k31 w (fun k => k ≠ g ∧ k ≠ gp) { (s.pend.getD i z31) with f0 := to_ } [.string to_, .int .i64 (s.pend.getD i z31).f1, .int .i64 (s.pend.getD i z31).f2, .slice A1 (s.pend.getD i z31).f3.length c1] := by
    obtain ⟨A3, c3, he, hl3, hF⟩ := k31_openF hfk
    have e3 := Option.some.inj (show some (Value.slice A1 (s.pend.getD i z31).f3.length c1) = some (Value.slice A3 (s.pend.getD i z31).f3.length c3) from congrArg (fun l => l[3]?) he)
    injection e3 with e4 _ e5
    subst e4
    subst e5
    exact k31_mkF _ _ _ hl3 hF
  have hO := O_set (w1 := w.setCell ⟨gp, i * 4, none⟩ (.string to_)) h.pend i hi { (s.pend.getD i z31) with f0 := to_ } _ cur hcur hx' hblk (fun k _ hk => Below.heap_setCell _ _ _ _ hk)
  exact h.rowed hO ⟨rfl, rfl, rfl, by simp [World.setCell], fun k _ hk => Below.heap_setCell _ _ _ _ (fun he => hk (by rw [show k = gp from he]; rfl))⟩
theorem ren_step (a b : ByteArray) (l : List S31) (i : Nat) (hi : i < l.length) : ((l.take i).map (renW a b) ++ l.drop i).getD i z31 = l[i] ∧ ((l.take i).map (renW a b) ++ l.drop i).set i (renW a b l[i]) = (l.take (i + 1)).map (renW a b) ++ l.drop (i + 1) := by
  have hl : ((l.take i).map (renW a b)).length = i := by simp; omega
  constructor
  · rw [List.getD_eq_getElem?_getD, List.getElem?_append_right (by omega), hl, Nat.sub_self, List.getElem?_drop, Nat.add_zero, List.getElem?_eq_getElem hi]
    rfl
  · rw [List.set_append_right _ _ (by omega), hl, Nat.sub_self, List.drop_eq_getElem_cons hi, List.set_cons_zero, List.take_succ_eq_append_getElem hi, List.map_append, List.append_assoc]
    rfl
theorem O_shape {w : World} {base : Nat} {ok : Nat → Prop} {A : Option Addr} {n c : Nat} {xs : List S31} (h : O k31 31 w base ok (.slice A n c) xs) (hp : 0 < xs.length) : ∃ gp, A = some ⟨gp, 0, none⟩ := by
  obtain ⟨gp, cap, _, he, _⟩ := O_open h hp
  injection he with he1 _ _
  exact ⟨gp, he1⟩
theorem RepAt.renamedN {gp c n : Nat} (h : RepAt B g s w mv sv (.slice (some ⟨gp, 0, none⟩) n c)) (hn : s.pend.length = n) (i : Nat) (hi : i < n) (to_ : ByteArray) :
    RepAt B g { s with pend := s.pend.set i { (s.pend.getD i z31) with f0 := to_ } } (w.setCell ⟨gp, i * 4, none⟩ (.string to_)) mv sv (.slice (some ⟨gp, 0, none⟩) n c) := by
  subst hn
  exact h.renamed i hi to_
theorem ren_skip (a b : ByteArray) (l : List S31) (i : Nat) (hi : i < l.length) (h : ownW a l[i] = false) : (l.take i).map (renW a b) ++ l.drop i = (l.take (i + 1)).map (renW a b) ++ l.drop (i + 1) := by
  rw [← (ren_step a b l i hi).2]
  have hr : renW a b l[i] = ((l.take i).map (renW a b) ++ l.drop i).getD i z31 := by
    rw [(ren_step a b l i hi).1]
    unfold renW
    rw [h]
    rfl
  rw [hr, List.getD_eq_getElem?_getD]
  have hlt : i < ((l.take i).map (renW a b) ++ l.drop i).length := by simp; omega
  rw [List.getElem?_eq_getElem hlt]
  simp
set_option maxHeartbeats 4000000 in
set_option maxRecDepth 100000 in
/-- The closure of Move, at a name that may not be. -/
theorem move1_bad (from_ to_ : ByteArray) (v0 : Value) (b0 b1 b2 : Nat) (h0 : VarS w b0 to_) (hbad : to_.size < 1 ∨ 40 < to_.size) :
    Calls Try.prog 77 #[v0, .pointer (some ⟨b0, 0, none⟩), .pointer (some ⟨b1, 0, none⟩), .pointer (some ⟨b2, 0, none⟩)] w fun e w' => e = .returned (.int .i64 1) ∧ Below w.heap.size w w' := by
  have hc := h0.cell
  clear h0
  rcases hbad with hb | hb
  · have hb0 : to_.size = 0 := by omega
    clear hb
    go_enter Try.func77, Try.ntmps77
    go_wp2
    go_ret
    exact ⟨rfl, Below.refl _ _⟩
  · go_enter Try.func77, Try.ntmps77
    go_wp2
    go_ret
    exact ⟨rfl, Below.refl _ _⟩
set_option maxHeartbeats 4000000 in
set_option maxRecDepth 100000 in
/-- The closure of Move, at one name. -/
theorem move1_same (from_ to_ : ByteArray) (v0 : Value) (b0 b1 b2 : Nat) (h0 : VarS w b0 to_) (h1 : VarS w b1 from_) (hok : 1 ≤ to_.size ∧ to_.size ≤ 40) (he : (from_.toList == to_.toList) = true) :
    Calls Try.prog 77 #[v0, .pointer (some ⟨b0, 0, none⟩), .pointer (some ⟨b1, 0, none⟩), .pointer (some ⟨b2, 0, none⟩)] w fun e w' => e = .returned (.int .i64 0) ∧ Below w.heap.size w w' := by
  have hc := h0.cell
  have hc1 := h1.cell
  obtain ⟨ho1, ho2⟩ := hok
  clear h0 h1
  go_enter Try.func77, Try.ntmps77
  go_wp2
  go_ret
  exact ⟨rfl, Below.refl _ _⟩


set_option maxHeartbeats 16000000 in
set_option maxRecDepth 100000 in
/-- The closure of Move. -/
theorem move1_calls (from_ to_ : ByteArray) (v0 : Value) (b0 b1 b2 : Nat) (h : Rep B g s w) (hf : Fit s) (hBw : B ≤ w.heap.size) (h0 : VarS w b0 to_) (h1 : VarS w b1 from_) (hp : VarP w b2 g) (hok : 1 ≤ to_.size ∧ to_.size ≤ 40) (hne : (from_.toList == to_.toList) = false) :
    Calls Try.prog 77 #[v0, .pointer (some ⟨b0, 0, none⟩), .pointer (some ⟨b1, 0, none⟩), .pointer (some ⟨b2, 0, none⟩)] w fun e w' => ∃ r, e = .returned (.int .i64 r) ∧ r = 0 ∧ Rep B g (moveD s from_ to_) w' ∧ Below B w w' := by
  obtain ⟨mv, sv, pv, h⟩ := h
  obtain ⟨As, cs, rfl⟩ := Kd.V_slice h.safe
  obtain ⟨Ap, cp, rfl⟩ := O_slice h.pend
  have hlen := hf.len
  have hc0 := h0.cell
  have hc1 := h1.cell
  obtain ⟨ho1, ho2⟩ := hok
  have hfl := List.length_filter_le (fun x => !named to_ x) s.safe
  obtain ⟨rm, hmv⟩ := move_f (s.safe.filter fun x => !named to_ x) from_ to_ (by omega) (fun x hx => hf.safe x (List.mem_filter.1 hx).1)
  obtain ⟨ml, hml⟩ : ∃ ml, ml = moveT (s.safe.filter fun x => !named to_ x) from_ to_ := ⟨_, rfl⟩
  rw [← hml] at hmv
  have HML := Aside0.mk hml
  have HMV := Aside0.mk hmv
  clear hml hmv
  go_enter Try.func77, Try.ntmps77
  go_wp2_with fail
  clear hc0 hc1 hne
  refine start_ (n := 16) (S := (fun w' => w'.cell? ⟨b2, 0, none⟩ = some (.pointer (some ⟨g, 0, none⟩)) ∧ w'.cell? ⟨b0, 0, none⟩ = some (.string to_) ∧ w'.cell? ⟨b1, 0, none⟩ = some (.string from_) ∧ w'.cell? ⟨g, 3, none⟩ = some (.slice As s.safe.length cs))) (ds := [15]) #[false, false, false, false, false, false, false, false, false, false, false, false, false, false, false, false] (by kernel_rfl) rfl rfl ⟨(hp.below (below_drew1 (Below.refl _ _))).cell, (h0.below (below_drew1 (Below.refl _ _))).cell, (h1.below (below_drew1 (Below.refl _ _))).cell, (h.below (below_drew1 (Below.refl _ _))).cells.2.2.2.1⟩ (fun hHeld => ?_)
  refine take_ (i := 0) (N := some 22) (v := ?_) (a' := ?_) #[true, false, false, false, false, false, false, false, false, false, false, false, false, false, false, false] rfl rfl (by kernel_rfl) (fun _ _ _ h => h) (Or.inl ⟨by rfl, ?_⟩) hHeld ?_ ?_
  rotate_left
  · rintro w' ⟨s0, s1, s2, s3⟩
    go_simp
    with_reducible rfl
  rotate_left
  · simp only [Act.put, List.setIfInBounds_toArray, List.set_cons_zero, List.set_cons_succ, i64_w, i32_w]
    rfl
  refine take_ (i := 1) (N := some 23) (v := ?_) (a' := ?_) #[true, true, false, false, false, false, false, false, false, false, false, false, false, false, false, false] rfl rfl (by kernel_rfl) (fun _ _ _ h => h) (Or.inl ⟨by rfl, ?_⟩) hHeld ?_ ?_
  rotate_left
  · rintro w' ⟨s0, s1, s2, s3⟩
    go_simp
    with_reducible rfl
  rotate_left
  · simp only [Act.put, List.setIfInBounds_toArray, List.set_cons_zero, List.set_cons_succ, i64_w, i32_w]
    rfl
  refine pure_ (i := 2) (N := some 24) (v := ?_) (a' := ?_) #[true, true, true, false, false, false, false, false, false, false, false, false, false, false, false, false] rfl rfl (by kernel_rfl) (fun _ _ _ h => h) (Or.inl ⟨by rfl, ?_⟩) ?_ ?_
  rotate_left
  · intro w'
    go_simp
    with_reducible rfl
  rotate_left
  · simp only [Act.put, List.setIfInBounds_toArray, List.set_cons_zero, List.set_cons_succ, i64_w, i32_w]
    rfl
  refine pure_ (i := 3) (N := some 25) (v := ?_) (a' := ?_) #[true, true, true, true, false, false, false, false, false, false, false, false, false, false, false, false] rfl rfl (by kernel_rfl) (fun _ _ _ h => h) (Or.inl ⟨by rfl, ?_⟩) ?_ ?_
  rotate_left
  · intro w'
    go_simp
    with_reducible rfl
  rotate_left
  · simp only [Act.put, List.setIfInBounds_toArray, List.set_cons_zero, List.set_cons_succ, i64_w, i32_w]
    rfl
  refine take_ (i := 4) (N := some 26) (v := ?_) (a' := ?_) #[true, true, true, true, true, false, false, false, false, false, false, false, false, false, false, false] rfl rfl (by kernel_rfl) (fun _ _ _ h => h) (Or.inl ⟨by rfl, ?_⟩) hHeld ?_ ?_
  rotate_left
  · rintro w' ⟨s0, s1, s2, s3⟩
    go_simp
    with_reducible rfl
  rotate_left
  · simp only [Act.put, List.setIfInBounds_toArray, List.set_cons_zero, List.set_cons_succ, i64_w, i32_w]
    rfl
  refine take_ (i := 5) (N := some 27) (v := ?_) (a' := ?_) #[true, true, true, true, true, true, false, false, false, false, false, false, false, false, false, false] rfl rfl (by kernel_rfl) (fun _ _ _ h => h) (Or.inl ⟨by rfl, ?_⟩) hHeld ?_ ?_
  rotate_left
  · rintro w' ⟨s0, s1, s2, s3⟩
    go_simp
    with_reducible rfl
  rotate_left
  · simp only [Act.put, List.setIfInBounds_toArray, List.set_cons_zero, List.set_cons_succ, i64_w, i32_w]
    rfl
  refine take_ (i := 7) (N := some 29) (v := ?_) (a' := ?_) #[true, true, true, true, true, true, false, true, false, false, false, false, false, false, false, false] rfl rfl (by kernel_rfl) (fun _ _ _ h => h) (Or.inl ⟨by rfl, ?_⟩) hHeld ?_ ?_
  rotate_left
  · rintro w' ⟨s0, s1, s2, s3⟩
    go_simp
    with_reducible rfl
  rotate_left
  · simp only [Act.put, List.setIfInBounds_toArray, List.set_cons_zero, List.set_cons_succ, i64_w, i32_w]
    rfl
  refine take_ (i := 8) (N := some 30) (v := ?_) (a' := ?_) #[true, true, true, true, true, true, false, true, true, false, false, false, false, false, false, false] rfl rfl (by kernel_rfl) (fun _ _ _ h => h) (Or.inl ⟨by rfl, ?_⟩) hHeld ?_ ?_
  rotate_left
  · rintro w' ⟨s0, s1, s2, s3⟩
    go_simp
    with_reducible rfl
  rotate_left
  · simp only [Act.put, List.setIfInBounds_toArray, List.set_cons_zero, List.set_cons_succ, i64_w, i32_w]
    rfl
  refine one_ (i := 6) (N := some 28) #[true, true, true, true, true, true, true, true, true, false, false, false, false, false, false, false] rfl rfl (by kernel_rfl) (by decide) (fun K hK => ?_)
  refine goes_ Try.func25 (by kernel_rfl) rfl #[.slice As s.safe.length cs, .string to_] (by rfl) rfl rfl (by (try simp only [List.map_toArray, List.map_cons, List.map_nil]); first | done | rfl) ?_
  refine (files_Drop.calls (fun k => k ≠ g ∧ some k ≠ (Value.slice Ap s.pend.length cp).ownBlock) As cs s.safe to_ (s.safe.filter fun x => !named to_ x) _ (V_base (Kd.V_drew h.safe)) (by unfold files_Drop.f; rw [if_pos (by omega)])).mono ?_
  rintro e w3 ⟨v3, rfl, hV3, hb3⟩
  obtain ⟨A3, c3, rfl⟩ := Kd.V_slice hV3
  refine ⟨_, rfl, ?_⟩
  have hb03 : Below w.heap.size w w3 := below_step (below_drew1 (Below.refl _ _)) hb3
  refine hK.out _ _ ⟨(hp.below hb03).cell, (h0.below hb03).cell, (h1.below hb03).cell, (h.below hb03).cells.2.2.2.1⟩ (fun hHeld => ?_)
  clear hK K
  refine norm_ (a' := ?_) ?_ ?_
  rotate_left
  · show Act.put _ (some 28) _ = _
    simp only [Act.put, List.setIfInBounds_toArray, List.set_cons_zero, List.set_cons_succ, i64_w, i32_w]
    rfl
  refine one_ (i := 9) (N := some 31) #[true, true, true, true, true, true, true, true, true, true, false, false, false, false, false, false] rfl rfl (by kernel_rfl) (by decide) (fun K hK => ?_)
  refine goes_ Try.func21 (by kernel_rfl) rfl #[.slice A3 (s.safe.filter fun x => !named to_ x).length c3, .string from_, .string to_] (by rfl) rfl rfl (by (try simp only [List.map_toArray, List.map_cons, List.map_nil]); first | done | rfl) ?_
  refine (files_Move.calls (fun k => k ≠ g ∧ some k ≠ (Value.slice Ap s.pend.length cp).ownBlock) A3 c3 (s.safe.filter fun x => !named to_ x) from_ to_ ml rm _ (V_base (Kd.V_mono hV3 (fun k hk => hk.elim id (fun hk => h.fresh hk)))) HMV.out).mono ?_
  rintro e w5 ⟨v5, rfl, hV5, hb5⟩
  refine ⟨_, rfl, ?_⟩
  have hb05 : Below w.heap.size w w5 := below_step hb03 hb5
  refine hK.out _ _ ⟨(hp.below hb05).cell, (h0.below hb05).cell, (h1.below hb05).cell, (h.below hb05).cells.2.2.2.1⟩ (fun hHeld => ?_)
  have hR5 := h.below hb05
  clear hK K
  refine norm_ (a' := ?_) ?_ ?_
  rotate_left
  · show Act.put _ (some 31) _ = _
    simp only [Act.put, List.setIfInBounds_toArray, List.set_cons_zero, List.set_cons_succ, i64_w, i32_w]
    rfl
  refine pure_ (i := 10) (N := some 21) (v := ?_) (a' := ?_) #[true, true, true, true, true, true, true, true, true, true, true, false, false, false, false, false] rfl rfl (by kernel_rfl) (fun _ _ _ h => h) (Or.inl ⟨by rfl, ?_⟩) ?_ ?_
  rotate_left
  · intro w'
    go_simp
    with_reducible rfl
  rotate_left
  · simp only [Act.put, List.setIfInBounds_toArray, List.set_cons_zero, List.set_cons_succ, i64_w, i32_w]
    rfl
  refine pure_ (i := 11) (N := some 32) (v := ?_) (a' := ?_) #[true, true, true, true, true, true, true, true, true, true, true, true, false, false, false, false] rfl rfl (by kernel_rfl) (fun _ _ _ h => h) (Or.inl ⟨by rfl, ?_⟩) ?_ ?_
  rotate_left
  · intro w'
    go_simp
    with_reducible rfl
  rotate_left
  · simp only [Act.put, List.setIfInBounds_toArray, List.set_cons_zero, List.set_cons_succ, i64_w, i32_w]
    rfl
  refine pure_ (i := 12) (N := some 33) (v := ?_) (a' := ?_) #[true, true, true, true, true, true, true, true, true, true, true, true, true, false, false, false] rfl rfl (by kernel_rfl) (fun _ _ _ h => h) (Or.inl ⟨by rfl, ?_⟩) ?_ ?_
  rotate_left
  · intro w'
    go_simp
    with_reducible rfl
  rotate_left
  · simp only [Act.put, List.setIfInBounds_toArray, List.set_cons_zero, List.set_cons_succ, i64_w, i32_w]
    rfl
  refine pure_ (i := 13) (N := some 34) (v := ?_) (a' := ?_) #[true, true, true, true, true, true, true, true, true, true, true, true, true, true, false, false] rfl rfl (by kernel_rfl) (fun _ _ _ h => h) (Or.inl ⟨by rfl, ?_⟩) ?_ ?_
  rotate_left
  · intro w'
    go_simp
    with_reducible rfl
  rotate_left
  · simp only [Act.put, List.setIfInBounds_toArray, List.set_cons_zero, List.set_cons_succ, i64_w, i32_w]
    rfl
  refine pure_ (i := 14) (N := some 35) (v := ?_) (a' := ?_) #[true, true, true, true, true, true, true, true, true, true, true, true, true, true, true, false] rfl rfl (by kernel_rfl) (fun _ _ _ h => h) (Or.inl ⟨by rfl, ?_⟩) ?_ ?_
  rotate_left
  · intro w'
    go_simp
    with_reducible rfl
  rotate_left
  · simp only [Act.put, List.setIfInBounds_toArray, List.set_cons_zero, List.set_cons_succ, i64_w, i32_w]
    rfl
  refine last_ (i := 15) (N := none) #[true, true, true, true, true, true, true, true, true, true, true, true, true, true, true, true] rfl rfl (by kernel_rfl) (by decide) (fun K hK => ?_)
  have hfr := blk_frozen hR5.blk 3
  have hcl := hR5.cells.2.2.2.1
  obtain ⟨A5, c5, rfl⟩ := Kd.V_slice hV5
  refine skip_ (w1 := ?_) (by rfl) rfl ?_ ?_
  rotate_left
  · go_simp
    rfl
  refine hK.out _ _ ?_
  clear hK K
  refine done_ (by kernel_rfl) ?_
  have hv5 : Kd.V k38 38 w5 B (fun k => k ≠ g ∧ some k ≠ (Value.slice Ap s.pend.length cp).ownBlock) (.slice A5 ml.length c5) ml := V_base (Kd.V_mono hV5 (fun k hk => hk.elim id (fun hk => h.fresh (Nat.le_trans hb03.size hk))))
  have hR := hR5.setSafe hv5
  have hVP := (hp.below hb05).set (j := 3) (u := (.slice A5 ml.length c5)) hR5.blk
  have hVS := (h0.below hb05).set (j := 3) (u := (.slice A5 ml.length c5)) hR5.blk
  have hVT := (h1.below hb05).set (j := 3) (u := (.slice A5 ml.length c5)) hR5.blk
  have hBB : Below B w (w5.setCell ⟨g, 3, none⟩ (.slice A5 ml.length c5)) := belowB_set (belowB_of hBw hb05) h.hg 3 _
  have hBW : B ≤ (w5.setCell ⟨g, 3, none⟩ (.slice A5 ml.length c5)).heap.size := Nat.le_trans hBw hBB.size
  have hPL : s.pend.length ≤ 1000001 := by omega
  go_wp2_with fail
  clear hfr hcl hHeld
  generalize w5.setCell ⟨g, 3, none⟩ (.slice A5 ml.length c5) = w6 at hR hVP hVS hVT hBB hBW ⊢
  obtain ⟨s1, hs1⟩ : ∃ s1 : SSt, s1 = { s with safe := ml } := ⟨_, rfl⟩
  rw [← hs1] at hR
  have hpl1 : s1.pend = s.pend := by rw [hs1]
  rw [← hpl1] at hPL
  have HPL1 := Aside0.mk hpl1
  clear hpl1
  refine start_ (n := 11) (S := (fun w' => w'.cell? ⟨b2, 0, none⟩ = some (.pointer (some ⟨g, 0, none⟩)) ∧ w'.cell? ⟨b0, 0, none⟩ = some (.string to_) ∧ w'.cell? ⟨g, 4, none⟩ = some (.slice Ap s.pend.length cp))) (ds := [10]) #[false, false, false, false, false, false, false, false, false, false, false] (by kernel_rfl) rfl rfl ⟨(hVP.below (below_drew1 (Below.refl _ _))).cell, (hVS.below (below_drew1 (Below.refl _ _))).cell, (hR.below (below_drew1 (Below.refl _ _))).cells.2.2.2.2.1⟩ (fun hHeld => ?_)
  refine take_ (i := 0) (N := some 36) (v := ?_) (a' := ?_) #[true, false, false, false, false, false, false, false, false, false, false] rfl rfl (by kernel_rfl) (fun _ _ _ h => h) (Or.inl ⟨by rfl, ?_⟩) hHeld ?_ ?_
  rotate_left
  · rintro w' ⟨s0, s1, s2⟩
    go_simp
    with_reducible rfl
  rotate_left
  · simp only [Act.put, List.setIfInBounds_toArray, List.set_cons_zero, List.set_cons_succ, i64_w, i32_w]
    rfl
  refine take_ (i := 1) (N := some 37) (v := ?_) (a' := ?_) #[true, true, false, false, false, false, false, false, false, false, false] rfl rfl (by kernel_rfl) (fun _ _ _ h => h) (Or.inl ⟨by rfl, ?_⟩) hHeld ?_ ?_
  rotate_left
  · rintro w' ⟨s0, s1, s2⟩
    go_simp
    with_reducible rfl
  rotate_left
  · simp only [Act.put, List.setIfInBounds_toArray, List.set_cons_zero, List.set_cons_succ, i64_w, i32_w]
    rfl
  refine pure_ (i := 2) (N := some 38) (v := ?_) (a' := ?_) #[true, true, true, false, false, false, false, false, false, false, false] rfl rfl (by kernel_rfl) (fun _ _ _ h => h) (Or.inl ⟨by rfl, ?_⟩) ?_ ?_
  rotate_left
  · intro w'
    go_simp
    with_reducible rfl
  rotate_left
  · simp only [Act.put, List.setIfInBounds_toArray, List.set_cons_zero, List.set_cons_succ, i64_w, i32_w]
    rfl
  refine pure_ (i := 3) (N := some 39) (v := ?_) (a' := ?_) #[true, true, true, true, false, false, false, false, false, false, false] rfl rfl (by kernel_rfl) (fun _ _ _ h => h) (Or.inl ⟨by rfl, ?_⟩) ?_ ?_
  rotate_left
  · intro w'
    go_simp
    with_reducible rfl
  rotate_left
  · simp only [Act.put, List.setIfInBounds_toArray, List.set_cons_zero, List.set_cons_succ, i64_w, i32_w]
    rfl
  refine take_ (i := 4) (N := some 40) (v := ?_) (a' := ?_) #[true, true, true, true, true, false, false, false, false, false, false] rfl rfl (by kernel_rfl) (fun _ _ _ h => h) (Or.inl ⟨by rfl, ?_⟩) hHeld ?_ ?_
  rotate_left
  · rintro w' ⟨s0, s1, s2⟩
    go_simp
    with_reducible rfl
  rotate_left
  · simp only [Act.put, List.setIfInBounds_toArray, List.set_cons_zero, List.set_cons_succ, i64_w, i32_w]
    rfl
  refine take_ (i := 5) (N := some 41) (v := ?_) (a' := ?_) #[true, true, true, true, true, true, false, false, false, false, false] rfl rfl (by kernel_rfl) (fun _ _ _ h => h) (Or.inl ⟨by rfl, ?_⟩) hHeld ?_ ?_
  rotate_left
  · rintro w' ⟨s0, s1, s2⟩
    go_simp
    with_reducible rfl
  rotate_left
  · simp only [Act.put, List.setIfInBounds_toArray, List.set_cons_zero, List.set_cons_succ, i64_w, i32_w]
    rfl
  refine one_ (i := 6) (N := some 42) #[true, true, true, true, true, true, true, false, false, false, false] rfl rfl (by kernel_rfl) (by decide) (fun K hK => ?_)
  refine goes_ Try.func76 (by kernel_rfl) rfl #[.string to_] (by rfl) rfl rfl (by (try simp only [List.map_toArray, List.map_cons, List.map_nil]); first | done | rfl) ?_
  refine (owned_calls to_ _).mono ?_
  rintro e w8 ⟨rfl, hv8, hb8⟩
  refine ⟨_, rfl, ?_⟩
  refine hK.out _ _ ⟨(hVP.below (below_step (below_drew1 (Below.refl _ _)) hb8)).cell, (hVS.below (below_step (below_drew1 (Below.refl _ _)) hb8)).cell, (hR.below (below_step (below_drew1 (Below.refl _ _)) hb8)).cells.2.2.2.2.1⟩ (fun hHeld => ?_)
  have hR8 := hR.below (below_step (below_drew1 (Below.refl _ _)) hb8)
  have hB8 : Below B w w8 := belowB_trans hBB (belowB_of hBW (below_step (below_drew1 (Below.refl _ _)) hb8))
  have hVP8 := hVP.below (below_step (below_drew1 (Below.refl _ _)) hb8)
  have hVS8 := hVS.below (below_step (below_drew1 (Below.refl _ _)) hb8)
  clear hK K
  refine norm_ (a' := ?_) ?_ ?_
  rotate_left
  · show Act.put _ (some 42) _ = _
    simp only [Act.put, List.setIfInBounds_toArray, List.set_cons_zero, List.set_cons_succ, i64_w, i32_w]
    rfl
  refine one_ (i := 7) (N := some 43) #[true, true, true, true, true, true, true, true, false, false, false] rfl rfl (by kernel_rfl) (by decide) (fun K hK => ?_)
  refine goes_ Try.func72 (by kernel_rfl) rfl #[.slice Ap s.pend.length cp, .func (.func 95) #[] #[.pointer (some ⟨w6.drew.heap.size, 0, none⟩)]] (by rfl) rfl rfl (by (try simp only [List.map_toArray, List.map_cons, List.map_nil]); first | done | rfl) ?_
  refine (delete_ownW (fun k => k ≠ g) B to_ _ (.slice Ap s.pend.length cp) s1.pend _ hR8.pend (Nat.le_trans hBW (by have := hb8.size; have hz : w6.drew.heap.size = w6.heap.size := rfl; omega)) hPL hv8).mono ?_
  rintro e w9 ⟨v9, rfl, hO9, hg9, ha9⟩
  refine ⟨_, rfl, ?_⟩
  have hP9 : ∀ b t (cs : Array Value) (f : Nat × Nat), w8.heap[b]? = some (Obj.cells cs t f) → t ≠ 31 → w9.heap[b]? = some (Obj.cells cs t f) := fun b t cs f hb ht => (hg9.block b (blk_lt hb) (fun he => O_ne hR8.pend hb ht he.symm)).trans hb
  refine hK.out _ _ ⟨VarP.cell (hP9 _ _ _ _ hVP8 (by decide)), VarS.cell (hP9 _ _ _ _ hVS8 (by decide)), by rw [cell_of_row w9 g _ _ 106 (0, 0) (hP9 _ _ _ _ hR8.blk (by decide))]; rfl⟩ (fun hHeld => ?_)
  have hR9 := hR8.setPend hO9 hg9 (.inl ha9)
  have hblk9 := hP9 _ _ _ _ hR8.blk (by decide)
  have hB9 : Below B w w9 := belowB_trans hB8 ⟨hg9.os, hg9.tape, hg9.output, hg9.size, fun k hk => hg9.block k (Nat.lt_of_lt_of_le hk (Nat.le_trans hBW (by have := hb8.size; have hz : w6.drew.heap.size = w6.heap.size := rfl; omega))) (fun he => by have := O_base hR8.pend k he.symm; omega)⟩
  clear hK K
  refine norm_ (a' := ?_) ?_ ?_
  rotate_left
  · show Act.put _ (some 43) _ = _
    simp only [Act.put, List.setIfInBounds_toArray, List.set_cons_zero, List.set_cons_succ, i64_w, i32_w]
    rfl
  refine pure_ (i := 8) (N := some 44) (v := ?_) (a' := ?_) #[true, true, true, true, true, true, true, true, true, false, false] rfl rfl (by kernel_rfl) (fun _ _ _ h => h) (Or.inl ⟨by rfl, ?_⟩) ?_ ?_
  rotate_left
  · intro w'
    go_simp
    with_reducible rfl
  rotate_left
  · simp only [Act.put, List.setIfInBounds_toArray, List.set_cons_zero, List.set_cons_succ, i64_w, i32_w]
    rfl
  refine pure_ (i := 9) (N := some 45) (v := ?_) (a' := ?_) #[true, true, true, true, true, true, true, true, true, true, false] rfl rfl (by kernel_rfl) (fun _ _ _ h => h) (Or.inl ⟨by rfl, ?_⟩) ?_ ?_
  rotate_left
  · intro w'
    go_simp
    with_reducible rfl
  rotate_left
  · simp only [Act.put, List.setIfInBounds_toArray, List.set_cons_zero, List.set_cons_succ, i64_w, i32_w]
    rfl
  refine last_ (i := 10) (N := none) #[true, true, true, true, true, true, true, true, true, true, true] rfl rfl (by kernel_rfl) (by decide) (fun K hK => ?_)
  have hfr := blk_frozen hblk9 4
  have hcl : w9.cell? ⟨g, 4, none⟩ = some (.slice Ap s.pend.length cp) := by rw [cell_of_row w9 g _ _ 106 (0, 0) hblk9]; rfl
  obtain ⟨A9, c9, rfl⟩ := O_slice hO9
  refine skip_ (w1 := ?_) (by rfl) rfl ?_ ?_
  rotate_left
  · go_simp
    rfl
  refine hK.out _ _ ?_
  clear hK K
  refine done_ (by kernel_rfl) ?_
  have hVT8 := hVT.below (below_step (below_drew1 (Below.refl _ _)) hb8)
  have hVP10 := VarP.set (j := 4) (u := (.slice A9 (s1.pend.filter fun x => !ownW to_ x).length c9)) (hP9 _ _ _ _ hVP8 (by decide)) hblk9
  have hVS10 := VarS.set (j := 4) (u := (.slice A9 (s1.pend.filter fun x => !ownW to_ x).length c9)) (hP9 _ _ _ _ hVS8 (by decide)) hblk9
  have hVT10 := VarS.set (j := 4) (u := (.slice A9 (s1.pend.filter fun x => !ownW to_ x).length c9)) (hP9 _ _ _ _ hVT8 (by decide)) hblk9
  have hB10 : Below B w (w9.setCell ⟨g, 4, none⟩ (.slice A9 (s1.pend.filter fun x => !ownW to_ x).length c9)) := belowB_set hB9 h.hg 4 _
  obtain ⟨pl, hpl⟩ : ∃ pl, pl = s1.pend.filter fun x => !ownW to_ x := ⟨_, rfl⟩
  have hpll : pl.length ≤ 1000 := by
    have := List.length_filter_le (fun x => !ownW to_ x) s1.pend
    rw [hpl, HPL1.out] at *
    omega
  rw [← hpl] at hR9 hVP10 hVS10 hVT10 hB10 ⊢
  obtain ⟨s2, hs2⟩ : ∃ s2 : SSt, s2 = { s1 with pend := pl } := ⟨_, rfl⟩
  rw [← hs2] at hR9
  have hs2p : s2.pend = pl := by rw [hs2]
  have hcp10 := hR9.cells.2.2.2.2.1
  have hc210 := hVP10.cell
  have hc010 := hVS10.cell
  have hc110 := hVT10.cell
  have HPL := Aside0.mk hpl
  have HS2 := Aside0.mk hs2
  have HS2P := Aside0.mk hs2p
  have hzz : s.pend = s1.pend := HPL1.out.symm
  clear hfr hcl hHeld hs2p hpl hs2
  try rw [hzz]
  try rw [← HPL.out]
  clear hzz
  generalize w9.setCell ⟨g, 4, none⟩ (.slice A9 pl.length c9) = w10 at hR9 hVP10 hVS10 hVT10 hB10 hcp10 hc210 hc010 hc110 ⊢
  go_wp2_with fail
  have HPL2 := Aside0.mk hpll
  have HS1 := Aside0.mk hs1
  have HB0 := Aside0.mk h.hg
  clear hpll hHeld h0 h1 hp h hf hfl hb3 hV3 hb03 hb5 hb05 hR5 hV5 hv5 hVP hVS hVT hBB hBW hPL hR hs1 hv8 hb8 hR8 hB8 hVP8 hVS8 hg9 hP9 hblk9 hB9 hO9 ha9 hVT8 hlen
  go_loopg [51] pl.length (fun kq v51 w' => ∃ (i : Nat) (cur : List S31), v51 = .int .i64 i ∧ i + kq = pl.length ∧ Aside0 (cur.length = pl.length) ∧ Aside0 (cur = (pl.take i).map (renW from_ to_) ++ pl.drop i) ∧ Aside0 (RepAt B g { s2 with pend := cur } w' mv (.slice A5 ml.length c5) (.slice A9 pl.length c9)) ∧ Aside0 (VarP w' b2 g) ∧ Aside0 (VarS w' b0 to_) ∧ Aside0 (VarS w' b1 from_) ∧ Aside0 (Below B w w'))
  case atStart => exact ⟨0, pl, rfl, by omega, ⟨rfl⟩, ⟨by simp⟩, ⟨by have h2 := hR9; rw [show ({ s2 with pend := pl } : SSt) = s2 from by rw [HS2.out]]; exact h2⟩, ⟨hVP10⟩, ⟨hVS10⟩, ⟨hVT10⟩, ⟨hB10⟩⟩
  case round =>
    clear hR9 hVP10 hVS10 hVT10 hB10 hcp10 hc210 hc010 hc110
    obtain ⟨i, cur, rfl, hi, HCL, HC, HR, HVP, HVS, HVT, HB⟩ := hrel
    have hpll := HPL2.out
    by_cases hlt : i < pl.length
    · obtain ⟨k1, rfl⟩ : ∃ k1, gk = k1 + 1 := ⟨gk - 1, by omega⟩
      have hcl2 := HCL.out
      obtain ⟨gp, rfl⟩ := O_shape HR.out.pend (by show 0 < cur.length; omega)
      obtain ⟨A1, c1, hx0, hx1, hx2, hx3, hfk⟩ := O_at31 HR.out.pend i (by show i < cur.length; omega)
      have hxp : cur.getD i z31 = pl[i] := by rw [HC.out]; exact (ren_step from_ to_ pl i hlt).1
      obtain ⟨x, hxe⟩ : ∃ x, pl[i] = x := ⟨_, rfl⟩
      rw [hxe] at hxp
      have hxp2 : ({ s2 with pend := cur } : SSt).pend.getD i z31 = x := hxp
      rw [hxp2] at hx0 hx1 hx2 hx3
      have HXE := Aside0.mk hxe
      have HXP := Aside0.mk hxp
      have hR12 := HR.out.below (below_alloc (Below.refl _ _) (Obj.cells #[.string x.f0, .int .i64 x.f1, .int .i64 x.f2, .slice A1 x.f3.length c1] 31))
      have hVP12 := HVP.out.below (below_alloc (Below.refl _ _) (Obj.cells #[.string x.f0, .int .i64 x.f1, .int .i64 x.f2, .slice A1 x.f3.length c1] 31))
      have hVS12 := HVS.out.below (below_alloc (Below.refl _ _) (Obj.cells #[.string x.f0, .int .i64 x.f1, .int .i64 x.f2, .slice A1 x.f3.length c1] 31))
      have hVT12 := HVT.out.below (below_alloc (Below.refl _ _) (Obj.cells #[.string x.f0, .int .i64 x.f1, .int .i64 x.f2, .slice A1 x.f3.length c1] 31))
      have hB12 : Below B w (wr.alloc (Obj.cells #[.string x.f0, .int .i64 x.f1, .int .i64 x.f2, .slice A1 x.f3.length c1] 31)) := belowB_trans HB.out (belowB_of (Nat.le_trans hBw HB.out.size) (below_alloc (Below.refl _ _) _))
      have hc112 := hVT12.cell
      have HR12 := Aside0.mk hR12
      have HVP12 := Aside0.mk hVP12
      have HVS12 := Aside0.mk hVS12
      have HVT12 := Aside0.mk hVT12
      have HB12 := Aside0.mk hB12
      clear hfk hxp hxp2 hxe hcl2 hR12 hVP12 hVS12 hVT12 hB12
      cases hown : ownW from_ x
      · have hp' : (x.f0.toList == from_.toList) = false := hown
        have HOW := Aside0.mk hown
        clear hown
        go_wp2_with fail
        go_roundg k1
        case measure => omega
        case rel => exact ⟨i + 1, cur, by go_num, by omega, HCL, ⟨by rw [HC.out]; exact ren_skip from_ to_ pl i hlt (by rw [HXE.out]; exact HOW.out)⟩, HR12, HVP12, HVS12, HVT12, HB12⟩
      · have hp' : (x.f0.toList == from_.toList) = true := hown
        have HOW := Aside0.mk hown
        clear hown
        go_wp2_with fail
        have hR12 := HR12.out
        have hVP12 := HVP12.out
        have hVS12 := HVS12.out
        have hVT12 := HVT12.out
        have hB12 := HB12.out
        clear hx0 hx1 hx2 hx3 hc112 hp'
        generalize wr.alloc (Obj.cells #[.string x.f0, .int .i64 x.f1, .int .i64 x.f2, .slice A1 x.f3.length c1] 31) = w12 at hR12 hVP12 hVS12 hVT12 hB12 HR12 HVP12 HVS12 HVT12 HB12 ⊢
        have hi0 : (0 : Int) ≤ (i : Int) := by omega
        have hi1 : (i : Int) < (pl.length : Int) := by omega

        refine start_ (n := 9) (S := (fun w' => w'.cell? ⟨b2, 0, none⟩ = some (.pointer (some ⟨g, 0, none⟩)) ∧ w'.cell? ⟨b0, 0, none⟩ = some (.string to_) ∧ w'.cell? ⟨g, 4, none⟩ = some (.slice (some ⟨gp, 0, none⟩) pl.length c9))) (ds := [8]) #[false, false, false, false, false, false, false, false, false] (by kernel_rfl) rfl rfl ⟨(hVP12.below (below_drew1 (Below.refl _ _))).cell, (hVS12.below (below_drew1 (Below.refl _ _))).cell, (hR12.below (below_drew1 (Below.refl _ _))).cells.2.2.2.2.1⟩ (fun hHeld => ?_)
        refine pure_ (i := 4) (N := some 64) (v := ?_) (a' := ?_) #[false, false, false, false, true, false, false, false, false] rfl rfl (by kernel_rfl) (fun _ _ _ h => h) (Or.inl ⟨by rfl, ?_⟩) ?_ ?_
        rotate_left
        · intro w'
          go_simp
          with_reducible rfl
        rotate_left
        · simp only [Act.put, List.setIfInBounds_toArray, List.set_cons_zero, List.set_cons_succ, i64_w, i32_w]
          rfl
        refine take_ (i := 0) (N := some 60) (v := ?_) (a' := ?_) #[true, false, false, false, true, false, false, false, false] rfl rfl (by kernel_rfl) (fun _ _ _ h => h) (Or.inl ⟨by rfl, ?_⟩) hHeld ?_ ?_
        rotate_left
        · rintro w' ⟨s0, s1, s2⟩
          go_simp
          with_reducible rfl
        rotate_left
        · simp only [Act.put, List.setIfInBounds_toArray, List.set_cons_zero, List.set_cons_succ, i64_w, i32_w]
          rfl
        refine pure_ (i := 1) (N := some 61) (v := ?_) (a' := ?_) #[true, true, false, false, true, false, false, false, false] rfl rfl (by kernel_rfl) (fun _ _ _ h => h) (Or.inl ⟨by rfl, ?_⟩) ?_ ?_
        rotate_left
        · intro w'
          go_simp
          with_reducible rfl
        rotate_left
        · simp only [Act.put, List.setIfInBounds_toArray, List.set_cons_zero, List.set_cons_succ, i64_w, i32_w]
          rfl
        refine pure_ (i := 2) (N := some 62) (v := ?_) (a' := ?_) #[true, true, true, false, true, false, false, false, false] rfl rfl (by kernel_rfl) (fun _ _ _ h => h) (Or.inl ⟨by rfl, ?_⟩) ?_ ?_
        rotate_left
        · intro w'
          go_simp
          with_reducible rfl
        rotate_left
        · simp only [Act.put, List.setIfInBounds_toArray, List.set_cons_zero, List.set_cons_succ, i64_w, i32_w]
          rfl
        refine take_ (i := 3) (N := some 63) (v := ?_) (a' := ?_) #[true, true, true, true, true, false, false, false, false] rfl rfl (by kernel_rfl) (fun _ _ _ h => h) (Or.inl ⟨by rfl, ?_⟩) hHeld ?_ ?_
        rotate_left
        · rintro w' ⟨s0, s1, s2⟩
          go_simp
          with_reducible rfl
        rotate_left
        · simp only [Act.put, List.setIfInBounds_toArray, List.set_cons_zero, List.set_cons_succ, i64_w, i32_w]
          rfl
        refine take_ (i := 5) (N := some 65) (v := ?_) (a' := ?_) #[true, true, true, true, true, true, false, false, false] rfl rfl (by kernel_rfl) (fun _ _ _ h => h) (Or.inl ⟨by rfl, ?_⟩) hHeld ?_ ?_
        rotate_left
        · rintro w' ⟨s0, s1, s2⟩
          go_simp
          with_reducible rfl
        rotate_left
        · simp only [Act.put, List.setIfInBounds_toArray, List.set_cons_zero, List.set_cons_succ, i64_w, i32_w]
          rfl
        refine pure_ (i := 6) (N := some 66) (v := ?_) (a' := ?_) #[true, true, true, true, true, true, true, false, false] rfl rfl (by kernel_rfl) (fun _ _ _ h => h) (Or.inl ⟨by rfl, ?_⟩) ?_ ?_
        rotate_left
        · intro w'
          go_simp
          with_reducible rfl
        rotate_left
        · simp only [Act.put, List.setIfInBounds_toArray, List.set_cons_zero, List.set_cons_succ, i64_w, i32_w]
          rfl
        refine pure_ (i := 7) (N := some 67) (v := ?_) (a' := ?_) #[true, true, true, true, true, true, true, true, false] rfl rfl (by kernel_rfl) (fun _ _ _ h => h) (Or.inl ⟨by rfl, ?_⟩) ?_ ?_
        rotate_left
        · intro w'
          go_simp
          with_reducible rfl
        rotate_left
        · simp only [Act.put, List.setIfInBounds_toArray, List.set_cons_zero, List.set_cons_succ, i64_w, i32_w]
          rfl
        refine last_ (i := 8) (N := none) #[true, true, true, true, true, true, true, true, true] rfl rfl (by kernel_rfl) (by decide) (fun K hK => ?_)
        have hR13 := hR12.below (below_drew1 (Below.refl _ _))
        have hcell := (O_at31 hR13.pend i (by show i < cur.length; have := HCL.out; omega)).choose_spec.choose_spec.1
        have hfr := blk_frozen (O_block hR13.pend).choose_spec (i * 4)
        refine skip_ (w1 := ?_) (by rfl) rfl ?_ ?_
        rotate_left
        · go_simp
          rfl
        refine hK.out _ _ ?_
        clear hK K
        refine done_ (by kernel_rfl) ?_
        have hgpb := (O_block hR12.pend).choose_spec
        have hR14 := (hR12.renamedN HCL.out i hlt to_).below (below_drew1 (Below.refl _ _))
        have hVP14 : VarP ((w12.setCell ⟨gp, i * 4, none⟩ (.string to_)).drew) b2 g := (Below.heap_setCell _ _ _ _ (blk_ne hVP12 hgpb (by decide))).trans hVP12
        have hVS14 : VarS ((w12.setCell ⟨gp, i * 4, none⟩ (.string to_)).drew) b0 to_ := (Below.heap_setCell _ _ _ _ (blk_ne hVS12 hgpb (by decide))).trans hVS12
        have hVT14 : VarS ((w12.setCell ⟨gp, i * 4, none⟩ (.string to_)).drew) b1 from_ := (Below.heap_setCell _ _ _ _ (blk_ne hVT12 hgpb (by decide))).trans hVT12
        have hB14 : Below B w ((w12.setCell ⟨gp, i * 4, none⟩ (.string to_)).drew) := below_drew (belowB_set hB12 (O_base hR12.pend gp rfl) _ _)
        have hst := (ren_step from_ to_ pl i hlt).2
        have hcn : cur.set i { (cur.getD i z31) with f0 := to_ } = (pl.take (i + 1)).map (renW from_ to_) ++ pl.drop (i + 1) := by
          rw [← hst, ← HC.out, HXP.out, HXE.out]
          unfold renW
          rw [HOW.out]
          rfl
        have hlen2 : (cur.set i { (cur.getD i z31) with f0 := to_ }).length = pl.length := by rw [List.length_set]; exact HCL.out
        obtain ⟨cur2, hcur2⟩ : ∃ cur2, cur2 = cur.set i { (cur.getD i z31) with f0 := to_ } := ⟨_, rfl⟩
        have hR15 : RepAt B g { s2 with pend := cur2 } ((w12.setCell ⟨gp, i * 4, none⟩ (.string to_)).drew) mv (.slice A5 ml.length c5) (.slice (some ⟨gp, 0, none⟩) pl.length c9) := by rw [hcur2]; exact hR14
        rw [← hcur2] at hcn hlen2
        have HR15 := Aside0.mk hR15
        have HVP14 := Aside0.mk hVP14
        have HVS14 := Aside0.mk hVS14
        have HVT14 := Aside0.mk hVT14
        have HB14 := Aside0.mk hB14
        have HCN := Aside0.mk hcn
        have HLN := Aside0.mk hlen2
        clear hgpb hR14 hR15 hVP14 hVS14 hVT14 hB14 hst hcn hlen2 hcur2 hR12 hVP12 hVS12 hVT12 hB12 hHeld hR13 hcell hfr
        go_wp2_with fail
        go_roundg k1
        case measure => omega
        case rel => exact ⟨i + 1, cur2, by go_num, by omega, HLN, HCN, HR15, HVP14, HVS14, HVT14, HB14⟩
    · have hge : pl.length ≤ i := by omega
      have hend : { s2 with pend := cur } = moveD s from_ to_ := by
        rw [HC.out, List.take_of_length_le hge, List.drop_eq_nil_of_le hge, List.append_nil]
        unfold moveD
        rw [HS2.out, HPL.out, HS1.out, HML.out]
      have HEND := Aside0.mk hend
      clear hlt hend
      go_wp2_with fail
      all_goals go_ret
      exact ⟨0, rfl, rfl, ⟨mv, _, _, by rw [← HEND.out]; exact HR.out⟩, HB.out⟩
end
end Go.Proofs.Ytcgeioingikeeaa.P
