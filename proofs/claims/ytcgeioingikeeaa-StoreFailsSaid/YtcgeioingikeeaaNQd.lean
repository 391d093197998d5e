/- The law StoreFails: what is told, plainly; its walk: it tells true. The law StoreFails walked. By a program of this seat (wip/tools/q/mkQK.py). -/
import Derived.Test.YtcgeioingikeeaaNQc
import Derived.Deep.QuietTactic
import Derived.BigQuiet
namespace Go.Proofs.Ytcgeioingikeeaa.P
open Go.RowKit Go.Proofs.YtcgeioingikeeaaW.PrintWords Go.Proofs.YtcgeioingikeeaaW.PrintLast Go.Proofs.YtcgeioingikeeaaW.PrintMore
set_option linter.unusedVariables false
set_option linter.unusedSimpArgs false
/-- The store for which a call is said to fail. -/
def failS (S : SSt) (down : Bool) : SSt := if down = true then planD S [] 1 else planD S [1] 0
theorem doS_err {s : SSt} {d : S76} (h1 : 1 ≤ d.f0) (h6 : d.f0 ≤ 6) (ha : (asked s).2 ≠ 0) : doS s d = ((asked s).1, (asked s).2, [], []) := by
  have hk : d.f0 = 1 ∨ d.f0 = 2 ∨ d.f0 = 3 ∨ d.f0 = 4 ∨ d.f0 = 5 ∨ d.f0 = 6 := by omega
  unfold doS
  rcases hk with hk | hk | hk | hk | hk | hk <;> rw [hk]
  · show ((doR s (wOf d)).1, (doR s (wOf d)).2, [], []) = _
    unfold doR; rw [if_pos ha]
  · show ((syncR s d.f2).1, (syncR s d.f2).2, [], []) = _
    unfold syncR; rw [ofR_err ha]
  · show ((moveR s d.f2 d.f3).1, (moveR s d.f2 d.f3).2, [], []) = _
    unfold moveR; rw [ofR_err ha]
  · show ((dropR s d.f2).1, (dropR s d.f2).2, [], []) = _
    unfold dropR; rw [ofR_err ha]
  · show ((readR s d.f2).1, (readR s d.f2).2.1, (readR s d.f2).2.2, []) = _
    unfold readR; rw [if_pos ha]
  · show ((listR s).1, (listR s).2.1, [], (listR s).2.2) = _
    unfold listR; rw [if_pos ha]
/-- What the law asks for. -/
structure FailsOk (S : SSt) (d : S76) (down : Bool) (s2 s3 : SSt) (want : Int) (r : Int) : Prop where
  told : doS (failS S down) d = (s2, want, [], [])
  list : (doS s2 dList).1 = s3
  err : (doS s2 dList).2.1 = r
  files : filesOf s3 = filesOf S
  safe : s3.safe = S.safe
  pend : s3.pend.length = S.pend.length
  dn : s3.down = (down || S.down)
theorem files_eq {s t : SSt} (h1 : s.safe = t.safe) (h2 : s.pend = t.pend) : filesOf s = filesOf t := by unfold filesOf; rw [h1, h2]
theorem doS_list (s : SSt) : doS s dList = ((listR s).1, (listR s).2.1, [], (listR s).2.2) := rfl
theorem listR_1 (s : SSt) : (listR s).1 = (asked s).1 := by unfold listR; split <;> rfl
theorem listR_2 (s : SSt) : (listR s).2.1 = (asked s).2 := by
  unfold listR
  split
  · rfl
  · rename_i h
    show 0 = (asked s).2
    omega
theorem fails_ok (S : SSt) (d : S76) (down : Bool) (h1 : 1 ≤ d.f0) (h6 : d.f0 ≤ 6) : ∃ s2 s3, FailsOk S d down s2 s3 (if (down || S.down) = true then 9 else 7) (if (down || S.down) = true then 9 else 0) := by
  cases hS : S.down
  · cases down
    · have ha : asked (failS S false) = ({ planD S [1] 0 with calls := 1 }, 7) := by
        show asked (planD S [1] 0) = _
        unfold asked
        rw [if_neg (by simp [planD, hS]), if_neg (by simp [planD]), if_pos (by simp [planD])]
        rfl
      have hb : asked { planD S [1] 0 with calls := 1 } = ({ planD S [1] 0 with calls := 2 }, 0) := by
        unfold asked
        rw [if_neg (by simp [planD, hS]), if_neg (by simp [planD]), if_neg (by simp [planD])]
        rfl
      refine ⟨{ planD S [1] 0 with calls := 1 }, _, ?_, rfl, ?_, ?_, ?_, ?_, ?_⟩
      · rw [doS_err h1 h6 (by rw [ha]; simp), ha]; rfl
      all_goals rw [doS_list]
      · show (listR _).2.1 = _
        rw [listR_2, hb]; rfl
      · show filesOf (listR _).1 = _
        rw [listR_1, hb]; exact files_eq rfl rfl
      · show (listR _).1.safe = _
        rw [listR_1, hb]; rfl
      · show (listR _).1.pend.length = _
        rw [listR_1, hb]; rfl
      · show (listR _).1.down = _
        rw [listR_1, hb, hS]; exact hS
    · have ha : asked (failS S true) = ({ planD S [] 1 with calls := 1, down := true }, 9) := by
        show asked (planD S [] 1) = _
        unfold asked
        rw [if_neg (by simp [planD, hS]), if_pos (by simp [planD])]
        rfl
      have hb : asked { planD S [] 1 with calls := 1, down := true } = ({ planD S [] 1 with calls := 1, down := true }, 9) := by
        unfold asked
        rw [if_pos rfl]
      refine ⟨{ planD S [] 1 with calls := 1, down := true }, _, ?_, rfl, ?_, ?_, ?_, ?_, ?_⟩
      · rw [doS_err h1 h6 (by rw [ha]; simp), ha]; rfl
      all_goals rw [doS_list]
      · show (listR _).2.1 = _
        rw [listR_2, hb]; rfl
      · show filesOf (listR _).1 = _
        rw [listR_1, hb]; exact files_eq rfl rfl
      · show (listR _).1.safe = _
        rw [listR_1, hb]; rfl
      · show (listR _).1.pend.length = _
        rw [listR_1, hb]; rfl
      · show (listR _).1.down = _
        rw [listR_1, hb]; rfl
  · have hd : (failS S down).down = true := by unfold failS; split <;> exact hS
    have ha : asked (failS S down) = (failS S down, 9) := by unfold asked; rw [if_pos hd]
    have hs : (failS S down).safe = S.safe ∧ (failS S down).pend = S.pend := by unfold failS; split <;> exact ⟨rfl, rfl⟩
    refine ⟨failS S down, _, ?_, rfl, ?_, ?_, ?_, ?_, ?_⟩
    · rw [doS_err h1 h6 (by rw [ha]; simp), ha, if_pos (by simp)]
    all_goals rw [doS_list]
    · show (listR _).2.1 = _
      rw [listR_2, ha]; simp
    · show filesOf (listR _).1 = _
      rw [listR_1, ha]; exact files_eq hs.1 hs.2
    · show (listR _).1.safe = _
      rw [listR_1, ha]; exact hs.1
    · show (listR _).1.pend.length = _
      rw [listR_1, ha]; show (failS S down).pend.length = _; rw [hs.2]
    · show (listR _).1.down = _
      rw [listR_1, ha]; show (failS S down).down = _; rw [hd, hS]; simp
end Go.Proofs.Ytcgeioingikeeaa.P
namespace Go.Proofs.Ytcgeioingikeeaa.P
open Go.RowKit Go.Proofs.YtcgeioingikeeaaW.PrintWords Go.Proofs.YtcgeioingikeeaaW.PrintLast Go.Proofs.YtcgeioingikeeaaW.PrintMore
set_option linter.unusedVariables false
set_option linter.unusedSimpArgs false
section
variable {w : World} {B : Nat → Prop} {g : Nat} {s : SSt}
theorem files_at {F : List S38} (h : Rep B g s w) (hf : Fit s) (hF : filesOf s = F) :
    Calls Try.prog 42 #[.pointer (some ⟨g, 0, none⟩)] w fun e w' => ∃ A c, e = .returned (.slice A F.length c) ∧ Kd.V k38 38 w' 0 (fun k => w.heap.size ≤ k) (.slice A F.length c) F ∧ Below w.heap.size w w' := by
  subst hF
  refine (files_calls h hf).mono ?_
  rintro e w' ⟨v, rfl, hv, hb⟩
  obtain ⟨A, c, rfl⟩ := Kd.V_slice hv
  exact ⟨A, c, rfl, V_base hv, hb⟩
theorem safe_at {F : List S38} (h : Rep B g s w) (hf : Fit s) (hF : s.safe = F) :
    Calls Try.prog 45 #[.pointer (some ⟨g, 0, none⟩)] w fun e w' => ∃ A c, e = .returned (.slice A F.length c) ∧ Kd.V k38 38 w' 0 (fun k => w.heap.size ≤ k) (.slice A F.length c) F ∧ Below w.heap.size w w' := by
  subst hF
  refine (safe_calls h (by have := hf.len; omega) hf.safe).mono ?_
  rintro e w' ⟨v, rfl, hv, hb⟩
  obtain ⟨A, c, rfl⟩ := O_slice hv
  exact ⟨A, c, rfl, V_base (Kd.V_mono (O_V hv) fun k hk => hk.elim id id), hb⟩
theorem pend_at {n : Nat} (h : Rep B g s w) (hn : s.pend.length = n) : Calls Try.prog 46 #[.pointer (some ⟨g, 0, none⟩)] w fun e w' => e = .returned (.int .i64 (n : Int)) ∧ Below w.heap.size w w' := by
  subst hn
  exact pending_calls h
theorem down_at {b : Bool} (h : Rep B g s w) (hn : s.down = b) : Calls Try.prog 53 #[.pointer (some ⟨g, 0, none⟩)] w fun e w' => e = .returned (.bool b) ∧ Below w.heap.size w w' := by
  subst hn
  exact down_calls h
set_option maxHeartbeats 1000000 in
theorem down_same {b : Bool} (h : Rep B g s w) (hn : s.down = b) : Calls Try.prog 53 #[.pointer (some ⟨g, 0, none⟩)] w fun e w' => e = .returned (.bool b) ∧ w' = w := by
  subst hn
  obtain ⟨mv, sv, pv, h⟩ := h
  obtain ⟨_, _, _, _, _, _, _, hc⟩ := h.cells
  clear h
  go_enter Try.func53, Try.ntmps53
  go_wp2
  go_ret
  exact ⟨rfl, rfl⟩
/-- A deed that tells an error. -/
theorem do_told {w0 : World} {n : Nat} {s2 : SSt} {want : Int} (d : S76) (A4 : Option Addr) (c4 : Nat) (A7 : Option Addr) (c7 : Nat) (ht : doS s d = (s2, want, [], [])) (hr : Rep B g s w) (hi : Inv n s) (hn : n ≤ 999) (hB : Up B w.heap.size) (hd : okD d) (hb0 : Below w0.heap.size w0 w) (hg : w0.heap.size ≤ g)
    (hC4 : (Kd.int .u8).C w0 A4 d.f1.f3.length d.f1.f3) (hc4 : d.f1.f3.length ≤ c4) (hC7 : (Kd.int .i64).C w0 A7 d.f4.length d.f4) (hw7 : ∀ n ∈ d.f4, (Lit.int .i64 n).wf = true) :
    Calls Try.prog 48 #[.pointer (some ⟨g, 0, none⟩), .agg #[.int .i64 d.f0, .string d.f1.f0, .int .i64 d.f1.f1, .int .i64 d.f1.f2, .slice A4 d.f1.f3.length c4, .string d.f2, .string d.f3, .slice A7 d.f4.length c7, .int .i64 d.f5]] w fun e w' => ∃ Ay cy Az cz, e = .returned (.agg #[.int .i64 want, .slice Ay 0 cy, .slice Az 0 cz]) ∧ Rep B g s2 w' ∧ BelS B w w' := by
  refine (do_at d A4 c4 A7 c7 hr hi hn hB hd (fun k hk => hb0.block k hk) hg hC4 hc4 hC7 hw7).mono ?_
  rintro e w' ⟨y, z, rfl, hy, hz, hr, hb⟩
  rw [ht] at hy hz hr ⊢
  obtain ⟨Ay, cy, rfl⟩ := Kd.R_slice hy
  obtain ⟨Az, cz, rfl⟩ := Kd.R_slice hz
  exact ⟨Ay, cy, Az, cz, rfl, hr, hb⟩
/-- List, as a deed. -/
theorem do_list {n : Nat} {s3 : SSt} {r : Int} (h1 : (doS s dList).1 = s3) (h2 : (doS s dList).2.1 = r) (hr : Rep B g s w) (hi : Inv n s) (hn : n ≤ 999) (hB : Up B w.heap.size) :
    Calls Try.prog 48 #[.pointer (some ⟨g, 0, none⟩), .agg #[.int .i64 6, .string ⟨#[]⟩, .int .i64 0, .int .i64 0, .slice none 0 0, .string ⟨#[]⟩, .string ⟨#[]⟩, .slice none 0 0, .int .i64 0]] w fun e w' => ∃ Ay ny cy Az nz cz, e = .returned (.agg #[.int .i64 r, .slice Ay ny cy, .slice Az nz cz]) ∧ Rep B g s3 w' ∧ BelS B w w' := by
  refine (do_real dList none 0 none 0 hr (hi.fit (by omega)) (hi.fitA hn) hB (Kd.F_nil _ _ _) (Nat.le_refl _) (Kd.F_nil _ _ _) (by decide) (by decide) (fun n hn => absurd hn List.not_mem_nil) (by decide) (by decide)).mono ?_
  rintro e w' ⟨y, z, rfl, hy, hz, hr, hb⟩
  rw [h1] at hr
  rw [h2]
  obtain ⟨Ay, cy, rfl⟩ := Kd.R_slice hy
  obtain ⟨Az, cz, rfl⟩ := Kd.R_slice hz
  exact ⟨Ay, _, cy, Az, _, cz, rfl, hr, hb⟩
theorem VarT.cells {b : Nat} {x y z : Value} (h : VarT w b x y z) : w.cell? ⟨b, 0, none⟩ = some x ∧ w.cell? ⟨b, 1, none⟩ = some y ∧ w.cell? ⟨b, 2, none⟩ = some z := by
  refine ⟨?_, ?_, ?_⟩ <;> (rw [cell_of_row w b _ _ 73 (0, 0) h]; rfl)
theorem VarT.below {w1 : World} {b : Nat} {x y z : Value} (h : VarT w b x y z) (hb : Below w.heap.size w w1) : VarT w1 b x y z := blk_stays hb h
/-- What is older than the store is as it was. -/
theorem mid_below {a n m : Nat} {w0 w1 : World} (h0 : Below w0.heap.size w0 w) (h : BelS (Mid a n m) w w1) (h1 : w0.heap.size ≤ a) (h2 : a ≤ m) : Below w0.heap.size w0 w1 :=
  ⟨h.os.trans h0.os, h.tape.trans h0.tape, h.output.trans h0.output, Nat.le_trans h0.size h.size, fun k hk => (h.block k (Nat.lt_of_lt_of_le hk h0.size) (fun hM => by have := mid_since h2 hM; unfold Since at this; omega)).trans (h0.block k hk)⟩
/-- A box of the law's own, beside the store. -/
theorem rep_box (o : Obj) (h : Rep B g s w) : Rep (NotB B w.heap.size) g s (w.alloc o) := (h.less fun k hk hlt => ⟨hk, by omega⟩).below (below_alloc (Below.refl _ _) _)
theorem up_box {o : Obj} (h : Up B w.heap.size) : Up (NotB B w.heap.size) (w.alloc o).heap.size := fun k hk => by
  rw [World.size_alloc] at hk
  exact ⟨h k (by omega), by omega⟩
theorem bels_box {b : Nat} {w1 : World} (h : BelS (NotB B b) w w1) : BelS B w w1 := h.more fun k _ hk => hk.1
theorem rep_unbox {b : Nat} (h : Rep (NotB B b) g s w) : Rep B g s w := h.less fun k hk _ => hk.1
theorem plan_none (cr : Int) (h : Rep B g s w) (hB : Up B w.heap.size) : Calls Try.prog 40 #[.pointer (some ⟨g, 0, none⟩), .slice none 0 0, .int .i64 cr] w fun e w' => e = .returned (.tuple #[]) ∧ Rep B g (planD s [] cr) w' ∧ BelS B w w' :=
  plan_calls none 0 [] cr h hB (Kd.F_nil _ _ _) (Nat.zero_le _) (fun n hn => absurd hn List.not_mem_nil)
theorem plan_one (b : Nat) {fr : Nat × Nat} (h : Rep B g s w) (hB : Up B w.heap.size) (hb : w.heap[b]? = some (.cells #[.int .i64 1] 3 fr)) (hne : b ≠ g) : Calls Try.prog 40 #[.pointer (some ⟨g, 0, none⟩), .slice (some ⟨b, 0, none⟩) 1 1, .int .i64 0] w fun e w' => e = .returned (.tuple #[]) ∧ Rep B g (planD s [1] 0) w' ∧ BelS B w w' :=
  plan_calls (some ⟨b, 0, none⟩) 1 [1] 0 h hB (F_one hb hne) (by decide) (by decide)
theorem one_wf : ∀ n ∈ [(1 : Int)], (Lit.int .i64 n).wf = true := by decide
theorem bels_then {w1 w2 : World} (h : BelS B w w1) (hB : Up B w1.heap.size) (hb : Below w1.heap.size w1 w2) : BelS B w w2 := belowB_trans h (belowB_of hB hb)
set_option maxHeartbeats 8000000 in
set_option maxRecDepth 100000 in
theorem fails_out (A : Option Addr) (c : Nat) (l : List S76) (hC : Kd.C k76 w A l.length l) (hc : l.length ≤ c) (hw : ∀ d ∈ l, ∀ n ∈ d.f4, (Lit.int .i64 n).wf = true) (d : S76) (A4 : Option Addr) (c4 : Nat) (A7 : Option Addr) (c7 : Nat) (hC4 : (Kd.int .u8).C w A4 d.f1.f3.length d.f1.f3) (hc4 : d.f1.f3.length ≤ c4) (hC7 : (Kd.int .i64).C w A7 d.f4.length d.f4) (hc7 : d.f4.length ≤ c7) (hw7 : ∀ n ∈ d.f4, (Lit.int .i64 n).wf = true) (down : Bool) {kf kf2 : Nat} {b b2 : Bool} (hkf : gambrelref18_Few.f kf l = some b) (hk2 : gambrelref18_Few.f kf2 [d] = some b2) (h : b = false ∨ b2 = false ∨ 6 < d.f0) : Calls Try.prog 12 #[.slice A l.length c, .agg #[.int .i64 d.f0, .string d.f1.f0, .int .i64 d.f1.f1, .int .i64 d.f1.f2, .slice A4 d.f1.f3.length c4, .string d.f2, .string d.f3, .slice A7 d.f4.length c7, .int .i64 d.f5], .bool down] w fun e w' => e = .returned (.bool true) ∧ Below w.heap.size w w' := by
  have hw1 : Below w.heap.size w (w.alloc (Obj.cells #[.int .i64 d.f0, .string d.f1.f0, .int .i64 d.f1.f1, .int .i64 d.f1.f2, .slice A4 d.f1.f3.length c4, .string d.f2, .string d.f3, .slice A7 d.f4.length c7, .int .i64 d.f5] 76)) := below_alloc (Below.refl _ _) _
  have hd1 : VarD (w.alloc (Obj.cells #[.int .i64 d.f0, .string d.f1.f0, .int .i64 d.f1.f1, .int .i64 d.f1.f2, .slice A4 d.f1.f3.length c4, .string d.f2, .string d.f3, .slice A7 d.f4.length c7, .int .i64 d.f5] 76)) w.heap.size d A4 c4 A7 c7 := heap_alloc_new _ _
  have HW1 := Aside0.mk hw1
  have HD1 := Aside0.mk hd1
  have HC := Aside0.mk hC
  have HWF := Aside0.mk hw
  have HC4 := Aside0.mk hC4
  have HC7 := Aside0.mk hC7
  have HW7 := Aside0.mk hw7
  have HKF := Aside0.mk hkf
  have HK2 := Aside0.mk hk2
  clear hw1 hd1 hC hw hC4 hC7 hw7 hkf hk2
  cases b
  · go_enter Try.func12, Try.ntmps12
    go_wp2_with (first
      | (go_at_call 37; refine (awake18 _).mono ?_; rintro e w2 ⟨rfl, hb2⟩; have HB2 := Aside0.mk (below_step HW1.out hb2); have HD2 := Aside0.mk (HD1.out.below hb2); clear hb2)
      | (go_at_call 38; (with_reducible refine (gambrelref18_Few.calls kf A c l false _ (Kd.C_below HC.out HB2.out) hc HKF.out).mono ?_); rintro e w3 ⟨rfl, hb3⟩; have HB3 := Aside0.mk (below_step HB2.out hb3); have HD3 := Aside0.mk (HD2.out.below hb3); obtain ⟨y0, y1, y2, y3, y4, y5, y6, y7, y8⟩ := HD3.out.cell; clear hb3))
    go_ret
    exact ⟨rfl, HB3.out⟩
  · cases b2
    · go_enter Try.func12, Try.ntmps12
      go_wp2_with (first
        | (go_at_call 37; refine (awake18 _).mono ?_; rintro e w2 ⟨rfl, hb2⟩; have HB2 := Aside0.mk (below_step HW1.out hb2); have HD2 := Aside0.mk (HD1.out.below hb2); clear hb2)
        | (go_at_call 38; (with_reducible refine (gambrelref18_Few.calls kf A c l true _ (Kd.C_below HC.out HB2.out) hc HKF.out).mono ?_); rintro e w3 ⟨rfl, hb3⟩; have HB3 := Aside0.mk (below_step HB2.out hb3); have HD3 := Aside0.mk (HD2.out.below hb3); obtain ⟨y0, y1, y2, y3, y4, y5, y6, y7, y8⟩ := HD3.out.cell; clear hb3)
        | (go_at_call 38; refine (few_at (heap_alloc_new w3 _) (Kd.C_below HC4.out (below_alloc HB3.out _)) hc4 (Kd.C_below HC7.out (below_alloc HB3.out _)) hc7 HK2.out).mono ?_; rintro e w4 ⟨rfl, hb4⟩; have HB4 := Aside0.mk (below_step (below_alloc HB3.out _) hb4); have HD4 := Aside0.mk ((HD3.out.below (below_alloc (Below.refl _ _) _)).below hb4); clear y0 y1 y2 y3 y4 y5 y6 y7 y8; obtain ⟨y0, y1, y2, y3, y4, y5, y6, y7, y8⟩ := HD4.out.cell; clear hb4))
      go_ret
      exact ⟨rfl, HB4.out⟩
    · have h6 : 6 < d.f0 := by simpa using h
      go_enter Try.func12, Try.ntmps12
      go_wp2_with (first
        | (go_at_call 37; refine (awake18 _).mono ?_; rintro e w2 ⟨rfl, hb2⟩; have HB2 := Aside0.mk (below_step HW1.out hb2); have HD2 := Aside0.mk (HD1.out.below hb2); clear hb2)
        | (go_at_call 38; (with_reducible refine (gambrelref18_Few.calls kf A c l true _ (Kd.C_below HC.out HB2.out) hc HKF.out).mono ?_); rintro e w3 ⟨rfl, hb3⟩; have HB3 := Aside0.mk (below_step HB2.out hb3); have HD3 := Aside0.mk (HD2.out.below hb3); obtain ⟨y0, y1, y2, y3, y4, y5, y6, y7, y8⟩ := HD3.out.cell; clear hb3)
        | (go_at_call 38; refine (few_at (heap_alloc_new w3 _) (Kd.C_below HC4.out (below_alloc HB3.out _)) hc4 (Kd.C_below HC7.out (below_alloc HB3.out _)) hc7 HK2.out).mono ?_; rintro e w4 ⟨rfl, hb4⟩; have HB4 := Aside0.mk (below_step (below_alloc HB3.out _) hb4); have HD4 := Aside0.mk ((HD3.out.below (below_alloc (Below.refl _ _) _)).below hb4); clear y0 y1 y2 y3 y4 y5 y6 y7 y8; obtain ⟨y0, y1, y2, y3, y4, y5, y6, y7, y8⟩ := HD4.out.cell; clear hb4))
      go_ret
      exact ⟨rfl, HB4.out⟩
set_option maxHeartbeats 16000000 in
set_option maxRecDepth 100000 in
theorem fails_in (A : Option Addr) (c : Nat) (l : List S76) (hC : Kd.C k76 w A l.length l) (hc : l.length ≤ c) (hw : ∀ d ∈ l, ∀ n ∈ d.f4, (Lit.int .i64 n).wf = true) (d : S76) (A4 : Option Addr) (c4 : Nat) (A7 : Option Addr) (c7 : Nat) (hC4 : (Kd.int .u8).C w A4 d.f1.f3.length d.f1.f3) (hc4 : d.f1.f3.length ≤ c4) (hC7 : (Kd.int .i64).C w A7 d.f4.length d.f4) (hc7 : d.f4.length ≤ c7) (hw7 : ∀ n ∈ d.f4, (Lit.int .i64 n).wf = true) (down already : Bool) (want r : Int) (hwr : (want = 9 ∧ r = 9 ∧ (down || already) = true) ∨ (want = 7 ∧ r = 0 ∧ (down || already) = false)) {kf kf2 : Nat} (hkf : gambrelref18_Few.f kf l = some true) (hk2 : gambrelref18_Few.f kf2 [d] = some true) (h6 : d.f0 ≤ 6) (hl : l.length ≤ 20) (hok : ∀ d ∈ l, okD d) (hok1 : okD d) (S s2 s3 : SSt) (F T : List S38) (n : Nat) (hS : runS (newD 500) l = S) (hF : filesOf S = F) (hT : S.safe = T) (hn : S.pend.length = n) (hdn : S.down = already) (hinv : Inv 20 S) (ho : FailsOk S d down s2 s3 want r) : Calls Try.prog 12 #[.slice A l.length c, .agg #[.int .i64 d.f0, .string d.f1.f0, .int .i64 d.f1.f1, .int .i64 d.f1.f2, .slice A4 d.f1.f3.length c4, .string d.f2, .string d.f3, .slice A7 d.f4.length c7, .int .i64 d.f5], .bool down] w fun e w' => e = .returned (.bool true) ∧ Below w.heap.size w w' := by
  have hi1 : Inv 20 (failS S down) := by unfold failS; split <;> exact hinv.plan _ _
  have hi2 : Inv 21 s2 := by have h := hi1.done hok1; rw [ho.told] at h; exact h
  have hi3 : Inv 22 s3 := by have h := hi2.done okD_list; rw [ho.list] at h; exact h
  have HFIT := Aside0.mk (hinv.fit (by omega))
  have HFIT3 := Aside0.mk (hi3.fit (by omega))
  have HLF := Aside0.mk (show F.length ≤ 1000000 by have := (files_ok HFIT.out).2; rw [hF] at this; omega)
  have HLT := Aside0.mk (show T.length ≤ 1000000 by have := HFIT.out.len; rw [hT] at this; omega)
  have HF3 := Aside0.mk (ho.files.trans hF)
  have HT3 := Aside0.mk (ho.safe.trans hT)
  have HN3 := Aside0.mk (ho.pend.trans hn)
  have HDN3 := Aside0.mk (show s3.down = (down || already) by rw [ho.dn, hdn])
  have HS := Aside0.mk hS
  have HF := Aside0.mk hF
  have HT := Aside0.mk hT
  have HN := Aside0.mk hn
  have HDN := Aside0.mk hdn
  have HI1 := Aside0.mk hi1
  have HI2 := Aside0.mk hi2
  have HOK := Aside0.mk ho
  have HOKD := Aside0.mk hok
  have HOK1 := Aside0.mk hok1
  clear hi1 hi2 hi3 hS hF hT hn hdn hinv ho hok hok1
  have hw1 : Below w.heap.size w (w.alloc (Obj.cells #[.int .i64 d.f0, .string d.f1.f0, .int .i64 d.f1.f1, .int .i64 d.f1.f2, .slice A4 d.f1.f3.length c4, .string d.f2, .string d.f3, .slice A7 d.f4.length c7, .int .i64 d.f5] 76)) := below_alloc (Below.refl _ _) _
  have hd1 : VarD (w.alloc (Obj.cells #[.int .i64 d.f0, .string d.f1.f0, .int .i64 d.f1.f1, .int .i64 d.f1.f2, .slice A4 d.f1.f3.length c4, .string d.f2, .string d.f3, .slice A7 d.f4.length c7, .int .i64 d.f5] 76)) w.heap.size d A4 c4 A7 c7 := heap_alloc_new _ _
  have HW1 := Aside0.mk hw1
  have HD1 := Aside0.mk hd1
  have HC := Aside0.mk hC
  have HWF := Aside0.mk hw
  have HC4 := Aside0.mk hC4
  have HC7 := Aside0.mk hC7
  have HW7 := Aside0.mk hw7
  have HKF := Aside0.mk hkf
  have HK2 := Aside0.mk hk2
  clear hw1 hd1 hC hw hC4 hC7 hw7 hkf hk2
  cases down <;> cases already <;> simp at hwr <;> obtain ⟨rfl, rfl⟩ := hwr <;> simp only [Bool.or_false, Bool.or_true, Bool.false_or, Bool.true_or] at HDN3
  all_goals
   go_enter Try.func12, Try.ntmps12
   go_wp2_with (first
     | (go_at_call 37; refine (awake18 _).mono ?_; rintro e w2 ⟨rfl, hb2⟩; have HB2 := Aside0.mk (below_step HW1.out hb2); have HD2 := Aside0.mk (HD1.out.below hb2); clear hb2)
     | (go_at_call 38; (with_reducible refine (gambrelref18_Few.calls kf A c l true _ (Kd.C_below HC.out HB2.out) hc HKF.out).mono ?_); rintro e w3 ⟨rfl, hb3⟩; have HB3 := Aside0.mk (below_step HB2.out hb3); have HD3 := Aside0.mk (HD2.out.below hb3); obtain ⟨y0, y1, y2, y3, y4, y5, y6, y7, y8⟩ := HD3.out.cell; clear hb3)
     | (go_at_call 38; refine (few_at (heap_alloc_new w3 _) (Kd.C_below HC4.out (below_alloc HB3.out _)) hc4 (Kd.C_below HC7.out (below_alloc HB3.out _)) hc7 HK2.out).mono ?_; rintro e w4 ⟨rfl, hb4⟩; have HB4 := Aside0.mk (below_step (below_alloc HB3.out _) hb4); have HD4 := Aside0.mk ((HD3.out.below (below_alloc (Below.refl _ _) _)).below hb4); clear y0 y1 y2 y3 y4 y5 y6 y7 y8; obtain ⟨y0, y1, y2, y3, y4, y5, y6, y7, y8⟩ := HD4.out.cell; clear hb4)
     | (go_at_call 39; (with_reducible refine (played_calls A c l (Kd.C_below HC.out HB4.out) hl HOKD.out HWF.out).mono ?_); rintro e w5 ⟨rfl, hr5, hb5⟩; rw [HS.out] at hr5; have HQ5 := Aside0.mk hb5; have HR5 := Aside0.mk hr5; clear hb5 hr5)
     | (go_at_call 42; (with_reducible refine (files_at HR5.out HFIT.out HF.out).mono ?_); rintro e w6 ⟨A6, c6, rfl, hv6, hb6⟩; have HV6 := Aside0.mk hv6; have HB56 := Aside0.mk hb6; clear hb6 hv6)
     | (go_at_call 45; (with_reducible refine (safe_at (HR5.out.below HB56.out) HFIT.out HT.out).mono ?_); rintro e w7 ⟨A7s, c7s, rfl, hv7, hb7⟩; have HV7 := Aside0.mk hv7; have HB57 := Aside0.mk (below_step HB56.out hb7); have HB67 := Aside0.mk hb7; clear hb7 hv7)
     | (go_at_call 46; (with_reducible refine (pend_at (HR5.out.below HB57.out) HN.out).mono ?_); rintro e w8 ⟨rfl, hb8⟩; have HB58 := Aside0.mk (below_step HB57.out hb8); have HB78 := Aside0.mk hb8; clear hb8)
     | (go_at_call 53; (with_reducible refine (down_at (HR5.out.below HB58.out) HDN.out).mono ?_); rintro e w9 ⟨rfl, hb9⟩; have HB59 := Aside0.mk (below_step HB58.out hb9); have HQ9 := Aside0.mk (below_step HQ5.out HB59.out); have HR9 := Aside0.mk (rep_mid w9.heap.size HR5.out HB59.out); have HV69 := Aside0.mk (Kd.V_below (Kd.V_below (Kd.V_below HV6.out HB67.out) HB78.out) hb9); have HV79 := Aside0.mk (Kd.V_mono (Kd.V_below (Kd.V_below HV7.out HB78.out) hb9) (fun k hk => Nat.le_trans HB56.out.size hk)); clear hb9)
     | (go_at_call 40; (with_reducible refine (plan_none 1 HR9.out (up_mid (Nat.le_refl _))).mono ?_); rintro e w10 ⟨rfl, hr10, hb10⟩; have HM10 := Aside0.mk (hb10); have HR10 := Aside0.mk (show Rep (Mid w4.heap.size w5.heap.size w9.heap.size) w4.heap.size (failS S true) w10 from hr10); have HQ10 := Aside0.mk (mid_below HQ9.out HM10.out (Nat.le_refl _) HQ9.out.size); have HD10 := Aside0.mk (HD4.out.below HQ10.out); clear y0 y1 y2 y3 y4 y5 y6 y7 y8; obtain ⟨y0, y1, y2, y3, y4, y5, y6, y7, y8⟩ := HD10.out.cell; clear hb10 hr10)
     | (go_at_call 40; (with_reducible refine (plan_one w9.heap.size (HR9.out.below (below_alloc (Below.refl _ _) _)) (up_mid (by rw [World.size_alloc]; omega)) (heap_alloc_new w9 _) (by have := HR9.out.lt; omega)).mono ?_); rintro e w10 ⟨rfl, hr10, hb10⟩; have HM10 := Aside0.mk (belowB_trans (belowB_of (up_mid (Nat.le_refl _)) (below_alloc (Below.refl _ _) _)) hb10); have HR10 := Aside0.mk (show Rep (Mid w4.heap.size w5.heap.size w9.heap.size) w4.heap.size (failS S false) w10 from hr10); have HQ10 := Aside0.mk (mid_below HQ9.out HM10.out (Nat.le_refl _) HQ9.out.size); have HD10 := Aside0.mk (HD4.out.below HQ10.out); clear y0 y1 y2 y3 y4 y5 y6 y7 y8; obtain ⟨y0, y1, y2, y3, y4, y5, y6, y7, y8⟩ := HD10.out.cell; clear hb10 hr10)
     | (go_at_call 48; (with_reducible refine (do_told (w0 := w) d A4 c4 A7 c7 HOK.out.told HR10.out HI1.out (by omega) (up_mid HM10.out.size) HOK1.out (below_step HB4.out HQ10.out) HB4.out.size HC4.out hc4 HC7.out HW7.out).mono ?_); rintro e w11 ⟨Ay, cy, Az, cz, rfl, hr11, hb11⟩; have HM11 := Aside0.mk (belowB_trans HM10.out hb11); have HR11 := Aside0.mk hr11; clear hb11 hr11)
     | (go_at_call 48; (with_reducible refine (do_list HOK.out.list HOK.out.err (rep_box _ HR11.out) HI2.out (by omega) (up_box (up_mid HM11.out.size))).mono ?_); rintro e w12 ⟨Ay2, ny2, cy2, Az2, nz2, cz2, rfl, hr12, hb12⟩; have ht12 : VarT w12 w11.heap.size _ (.slice Ay 0 cy) (.slice Az 0 cz) := (hb12.block _ (by rw [World.size_alloc]; omega) (fun h => h.2 rfl)).trans (heap_alloc_new w11 _); have HT12 := Aside0.mk ht12; have HM12 := Aside0.mk (belowB_trans (bels_then HM11.out (up_mid HM11.out.size) (below_alloc (Below.refl _ _) _)) (bels_box hb12)); have HR12 := Aside0.mk (rep_unbox hr12); clear hb12 hr12 ht12)
     | (go_at_call 42; (with_reducible refine (files_at (HR12.out.below (below_alloc (Below.refl _ _) _)) HFIT3.out HF3.out).mono ?_); rintro e w13 ⟨A13, c13, rfl, hv13, hb13⟩; have hb13' := below_step (below_alloc (Below.refl w12.heap.size w12) _) hb13; have hu13 : VarT w13 w12.heap.size _ (.slice Ay2 ny2 cy2) (.slice Az2 nz2 cz2) := blk_stays hb13 (heap_alloc_new w12 _); have HU13 := Aside0.mk hu13; have HR13 := Aside0.mk (HR12.out.below hb13'); have HM13 := Aside0.mk (bels_then HM12.out (up_mid HM12.out.size) hb13'); have HT13 := Aside0.mk (HT12.out.below hb13'); have HV13 := Aside0.mk hv13; clear hv13 hb13 hb13' hu13)
     | (go_at_call 20; (with_reducible refine (same_calls F HLF.out HV13.out (V_mid HV69.out (Nat.le_refl _) HM13.out)).mono ?_); rintro e w14 ⟨rfl, hb14⟩; have HU14 := Aside0.mk (HU13.out.below hb14); have HR14 := Aside0.mk (HR13.out.below hb14); have HM14 := Aside0.mk (bels_then HM13.out (up_mid HM13.out.size) hb14); have HT14 := Aside0.mk (HT13.out.below hb14); clear hb14)
     | (go_at_call 45; (with_reducible refine (safe_at HR14.out HFIT3.out HT3.out).mono ?_); rintro e w15 ⟨A15, c15, rfl, hv15, hb15⟩; have HU15 := Aside0.mk (HU14.out.below hb15); have HR15 := Aside0.mk (HR14.out.below hb15); have HM15 := Aside0.mk (bels_then HM14.out (up_mid HM14.out.size) hb15); have HT15 := Aside0.mk (HT14.out.below hb15); have HV15 := Aside0.mk hv15; clear hb15 hv15)
     | (go_at_call 20; (with_reducible refine (same_calls T HLT.out HV15.out (V_mid HV79.out (Nat.le_refl _) HM15.out)).mono ?_); rintro e w16 ⟨rfl, hb16⟩; have HU16 := Aside0.mk (HU15.out.below hb16); have HR16 := Aside0.mk (HR15.out.below hb16); have HM16 := Aside0.mk (bels_then HM15.out (up_mid HM15.out.size) hb16); have HT16 := Aside0.mk (HT15.out.below hb16); clear hb16)
     | (go_at_call 46; (with_reducible refine (pend_at HR16.out HN3.out).mono ?_); rintro e w17 ⟨rfl, hb17⟩; have HU17 := Aside0.mk (HU16.out.below hb17); have HR17 := Aside0.mk (HR16.out.below hb17); have HM17 := Aside0.mk (bels_then HM16.out (up_mid HM16.out.size) hb17); have HT17 := Aside0.mk (HT16.out.below hb17); obtain ⟨x0, x1, x2⟩ := HT17.out.cells; obtain ⟨z0, _, _⟩ := HU17.out.cells; clear hb17))
   go_quiet (first | (go_at_call 53; refine Calls.quiet_of_same (down_same (HR17.out.below (pw_below_drewN (Below.refl _ _) _)) HDN3.out)))
   go_wp2
   go_ret
   exact ⟨rfl, pw_below_drewN (below_step HB4.out (mid_below HQ9.out HM17.out (Nat.le_refl _) HQ9.out.size)) _⟩
theorem fails_calls (A : Option Addr) (c : Nat) (l : List S76) (hC : Kd.C k76 w A l.length l) (hc : l.length ≤ c) (hw : ∀ d ∈ l, ∀ n ∈ d.f4, (Lit.int .i64 n).wf = true) (d : S76) (A4 : Option Addr) (c4 : Nat) (A7 : Option Addr) (c7 : Nat) (hC4 : (Kd.int .u8).C w A4 d.f1.f3.length d.f1.f3) (hc4 : d.f1.f3.length ≤ c4) (hC7 : (Kd.int .i64).C w A7 d.f4.length d.f4) (hc7 : d.f4.length ≤ c7) (hw7 : ∀ n ∈ d.f4, (Lit.int .i64 n).wf = true) (down : Bool) : Calls Try.prog 12 #[.slice A l.length c, .agg #[.int .i64 d.f0, .string d.f1.f0, .int .i64 d.f1.f1, .int .i64 d.f1.f2, .slice A4 d.f1.f3.length c4, .string d.f2, .string d.f3, .slice A7 d.f4.length c7, .int .i64 d.f5], .bool down] w fun e w' => e = .returned (.bool true) ∧ Below w.heap.size w w' := by
  obtain ⟨kf, b, hkf, hb⟩ := fewD l
  obtain ⟨kf2, b2, hk2, hb2⟩ := fewD [d]
  cases b
  · exact fails_out A c l hC hc hw d A4 c4 A7 c7 hC4 hc4 hC7 hc7 hw7 down hkf hk2 (.inl rfl)
  cases b2
  · exact fails_out A c l hC hc hw d A4 c4 A7 c7 hC4 hc4 hC7 hc7 hw7 down hkf hk2 (.inr (.inl rfl))
  by_cases h6 : d.f0 ≤ 6
  · obtain ⟨hl, hok⟩ := hb rfl
    have hok1 := (hb2 rfl).2 d (List.mem_singleton.2 rfl)
    have hinv : Inv 20 (runS (newD 500) l) := by
      have h := (Inv.new 500).run hok l.length
      rw [List.take_length] at h
      exact h.more (by omega)
    obtain ⟨s2, s3, ho⟩ := fails_ok (runS (newD 500) l) d down hok1.k1 h6
    exact fails_in A c l hC hc hw d A4 c4 A7 c7 hC4 hc4 hC7 hc7 hw7 down _ _ _ (by cases down <;> cases (runS (newD 500) l).down <;> simp) hkf hk2 h6 hl hok hok1 _ s2 s3 _ _ _ rfl rfl rfl rfl rfl hinv ho
  · exact fails_out A c l hC hc hw d A4 c4 A7 c7 hC4 hc4 hC7 hc7 hw7 down hkf hk2 (.inr (.inr (by omega)))
end
end Go.Proofs.Ytcgeioingikeeaa.P
