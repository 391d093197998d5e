/- What the walks of the store's laws share: each method at what it tells; boxes beside the store; the blocks that are kept. Files, by the bytes that each name has: what writes, Sync, Move and Crash do to them. The law StoreMoves walked. By a program of this seat (wip/tools/q/mkQN.py). -/
import Derived.Test.YtcgeioingikeeaaNQc
import Derived.Deep.QuietTactic
import Derived.BigQuiet
import Derived.Test.YtcgeioingikeeaaGX
import Derived.Deep.RegionHeld3
namespace Go.Proofs.Ytcgeioingikeeaa.P
open Go.RowKit Go.Proofs.YtcgeioingikeeaaW.PrintWords Go.Proofs.YtcgeioingikeeaaW.PrintLast Go.Proofs.YtcgeioingikeeaaW.PrintMore
set_option linter.unusedVariables false
set_option linter.unusedSimpArgs false
section
variable {w : World} {B : Nat → Prop} {g : Nat} {s : SSt}
theorem files_at {F : List S38} (h : Rep B g s w) (hf : Fit s) (hF : filesOf s = F) :
    Calls Try.prog 42 #[.pointer (some ⟨g, 0, none⟩)] w fun e w' => ∃ A c, e = .returned (.slice A F.length c) ∧ Kd.V k38 38 w' 0 (fun k => w.heap.size ≤ k) (.slice A F.length c) F ∧ Below w.heap.size w w' := by
  subst hF
  refine (files_calls h hf).mono ?_
  rintro e w' ⟨v, rfl, hv, hb⟩
  obtain ⟨A, c, rfl⟩ := Kd.V_slice hv
  exact ⟨A, c, rfl, V_base hv, hb⟩
theorem safe_at {F : List S38} (h : Rep B g s w) (hf : Fit s) (hF : s.safe = F) :
    Calls Try.prog 45 #[.pointer (some ⟨g, 0, none⟩)] w fun e w' => ∃ A c, e = .returned (.slice A F.length c) ∧ Kd.V k38 38 w' 0 (fun k => w.heap.size ≤ k) (.slice A F.length c) F ∧ Below w.heap.size w w' := by
  subst hF
  refine (safe_calls h (by have := hf.len; omega) hf.safe).mono ?_
  rintro e w' ⟨v, rfl, hv, hb⟩
  obtain ⟨A, c, rfl⟩ := O_slice hv
  exact ⟨A, c, rfl, V_base (Kd.V_mono (O_V hv) fun k hk => hk.elim id id), hb⟩
theorem pend_at {n : Nat} (h : Rep B g s w) (hn : s.pend.length = n) : Calls Try.prog 46 #[.pointer (some ⟨g, 0, none⟩)] w fun e w' => e = .returned (.int .i64 (n : Int)) ∧ Below w.heap.size w w' := by
  subst hn
  exact pending_calls h
theorem down_at {b : Bool} (h : Rep B g s w) (hn : s.down = b) : Calls Try.prog 53 #[.pointer (some ⟨g, 0, none⟩)] w fun e w' => e = .returned (.bool b) ∧ Below w.heap.size w w' := by
  subst hn
  exact down_calls h
set_option maxHeartbeats 1000000 in
theorem down_same {b : Bool} (h : Rep B g s w) (hn : s.down = b) : Calls Try.prog 53 #[.pointer (some ⟨g, 0, none⟩)] w fun e w' => e = .returned (.bool b) ∧ w' = w := by
  subst hn
  obtain ⟨mv, sv, pv, h⟩ := h
  obtain ⟨_, _, _, _, _, _, _, hc⟩ := h.cells
  clear h
  go_enter Try.func53, Try.ntmps53
  go_wp2
  go_ret
  exact ⟨rfl, rfl⟩
/-- A deed that tells an error. -/
theorem do_told {w0 : World} {n : Nat} {s2 : SSt} {want : Int} (d : S76) (A4 : Option Addr) (c4 : Nat) (A7 : Option Addr) (c7 : Nat) (ht : doS s d = (s2, want, [], [])) (hr : Rep B g s w) (hi : Inv n s) (hn : n ≤ 999) (hB : Up B w.heap.size) (hd : okD d) (hb0 : Below w0.heap.size w0 w) (hg : w0.heap.size ≤ g)
    (hC4 : (Kd.int .u8).C w0 A4 d.f1.f3.length d.f1.f3) (hc4 : d.f1.f3.length ≤ c4) (hC7 : (Kd.int .i64).C w0 A7 d.f4.length d.f4) (hw7 : ∀ n ∈ d.f4, (Lit.int .i64 n).wf = true) :
    Calls Try.prog 48 #[.pointer (some ⟨g, 0, none⟩), .agg #[.int .i64 d.f0, .string d.f1.f0, .int .i64 d.f1.f1, .int .i64 d.f1.f2, .slice A4 d.f1.f3.length c4, .string d.f2, .string d.f3, .slice A7 d.f4.length c7, .int .i64 d.f5]] w fun e w' => ∃ Ay cy Az cz, e = .returned (.agg #[.int .i64 want, .slice Ay 0 cy, .slice Az 0 cz]) ∧ Rep B g s2 w' ∧ BelS B w w' := by
  refine (do_at d A4 c4 A7 c7 hr hi hn hB hd (fun k hk => hb0.block k hk) hg hC4 hc4 hC7 hw7).mono ?_
  rintro e w' ⟨y, z, rfl, hy, hz, hr, hb⟩
  rw [ht] at hy hz hr ⊢
  obtain ⟨Ay, cy, rfl⟩ := Kd.R_slice hy
  obtain ⟨Az, cz, rfl⟩ := Kd.R_slice hz
  exact ⟨Ay, cy, Az, cz, rfl, hr, hb⟩
/-- List, as a deed. -/
theorem do_list {n : Nat} {s3 : SSt} {r : Int} (h1 : (doS s dList).1 = s3) (h2 : (doS s dList).2.1 = r) (hr : Rep B g s w) (hi : Inv n s) (hn : n ≤ 999) (hB : Up B w.heap.size) :
    Calls Try.prog 48 #[.pointer (some ⟨g, 0, none⟩), .agg #[.int .i64 6, .string ⟨#[]⟩, .int .i64 0, .int .i64 0, .slice none 0 0, .string ⟨#[]⟩, .string ⟨#[]⟩, .slice none 0 0, .int .i64 0]] w fun e w' => ∃ Ay ny cy Az nz cz, e = .returned (.agg #[.int .i64 r, .slice Ay ny cy, .slice Az nz cz]) ∧ Rep B g s3 w' ∧ BelS B w w' := by
  refine (do_real dList none 0 none 0 hr (hi.fit (by omega)) (hi.fitA hn) hB (Kd.F_nil _ _ _) (Nat.le_refl _) (Kd.F_nil _ _ _) (by decide) (by decide) (fun n hn => absurd hn List.not_mem_nil) (by decide) (by decide)).mono ?_
  rintro e w' ⟨y, z, rfl, hy, hz, hr, hb⟩
  rw [h1] at hr
  rw [h2]
  obtain ⟨Ay, cy, rfl⟩ := Kd.R_slice hy
  obtain ⟨Az, cz, rfl⟩ := Kd.R_slice hz
  exact ⟨Ay, _, cy, Az, _, cz, rfl, hr, hb⟩
theorem VarT.cells {b : Nat} {x y z : Value} (h : VarT w b x y z) : w.cell? ⟨b, 0, none⟩ = some x ∧ w.cell? ⟨b, 1, none⟩ = some y ∧ w.cell? ⟨b, 2, none⟩ = some z := by
  refine ⟨?_, ?_, ?_⟩ <;> (rw [cell_of_row w b _ _ 73 (0, 0) h]; rfl)
theorem VarT.below {w1 : World} {b : Nat} {x y z : Value} (h : VarT w b x y z) (hb : Below w.heap.size w w1) : VarT w1 b x y z := blk_stays hb h
/-- What is older than the store is as it was. -/
theorem mid_below {a n m : Nat} {w0 w1 : World} (h0 : Below w0.heap.size w0 w) (h : BelS (Mid a n m) w w1) (h1 : w0.heap.size ≤ a) (h2 : a ≤ m) : Below w0.heap.size w0 w1 :=
  ⟨h.os.trans h0.os, h.tape.trans h0.tape, h.output.trans h0.output, Nat.le_trans h0.size h.size, fun k hk => (h.block k (Nat.lt_of_lt_of_le hk h0.size) (fun hM => by have := mid_since h2 hM; unfold Since at this; omega)).trans (h0.block k hk)⟩
/-- A box of the law's own, beside the store. -/
theorem rep_box (o : Obj) (h : Rep B g s w) : Rep (NotB B w.heap.size) g s (w.alloc o) := (h.less fun k hk hlt => ⟨hk, by omega⟩).below (below_alloc (Below.refl _ _) _)
theorem up_box {o : Obj} (h : Up B w.heap.size) : Up (NotB B w.heap.size) (w.alloc o).heap.size := fun k hk => by
  rw [World.size_alloc] at hk
  exact ⟨h k (by omega), by omega⟩
theorem bels_box {b : Nat} {w1 : World} (h : BelS (NotB B b) w w1) : BelS B w w1 := h.more fun k _ hk => hk.1
theorem rep_unbox {b : Nat} (h : Rep (NotB B b) g s w) : Rep B g s w := h.less fun k hk _ => hk.1
theorem plan_none (cr : Int) (h : Rep B g s w) (hB : Up B w.heap.size) : Calls Try.prog 40 #[.pointer (some ⟨g, 0, none⟩), .slice none 0 0, .int .i64 cr] w fun e w' => e = .returned (.tuple #[]) ∧ Rep B g (planD s [] cr) w' ∧ BelS B w w' :=
  plan_calls none 0 [] cr h hB (Kd.F_nil _ _ _) (Nat.zero_le _) (fun n hn => absurd hn List.not_mem_nil)
theorem plan_one (b : Nat) {fr : Nat × Nat} (h : Rep B g s w) (hB : Up B w.heap.size) (hb : w.heap[b]? = some (.cells #[.int .i64 1] 3 fr)) (hne : b ≠ g) : Calls Try.prog 40 #[.pointer (some ⟨g, 0, none⟩), .slice (some ⟨b, 0, none⟩) 1 1, .int .i64 0] w fun e w' => e = .returned (.tuple #[]) ∧ Rep B g (planD s [1] 0) w' ∧ BelS B w w' :=
  plan_calls (some ⟨b, 0, none⟩) 1 [1] 0 h hB (F_one hb hne) (by decide) (by decide)
theorem one_wf : ∀ n ∈ [(1 : Int)], (Lit.int .i64 n).wf = true := by decide
theorem bels_then {w1 w2 : World} (h : BelS B w w1) (hB : Up B w1.heap.size) (hb : Below w1.heap.size w1 w2) : BelS B w w2 := belowB_trans h (belowB_of hB hb)
/-- A method that tells an error, at what it tells. -/
theorem sync_told {name : ByteArray} {s1 : SSt} {e : Int} (ht : syncR s name = (s1, e)) (h : Rep B g s w) (hf : Fit s) (hf1 : Fit (asked s).1) (hB : Up B w.heap.size) :
    Calls Try.prog 41 #[.pointer (some ⟨g, 0, none⟩), .string name] w fun v w' => v = .returned (.int .i64 e) ∧ Rep B g s1 w' ∧ BelS B w w' := by
  have := sync_calls name h hf hf1 hB
  rw [ht] at this
  exact this
theorem move_told {a b : ByteArray} {s1 : SSt} {e : Int} (ht : moveR s a b = (s1, e)) (h : Rep B g s w) (hf : Fit s) (hf1 : Fit (asked s).1) (hB : Up B w.heap.size) :
    Calls Try.prog 43 #[.pointer (some ⟨g, 0, none⟩), .string a, .string b] w fun v w' => v = .returned (.int .i64 e) ∧ Rep B g s1 w' ∧ BelS B w w' := by
  have := move_calls a b h hf hf1 hB
  rw [ht] at this
  exact this
/-- A file's bytes. -/
theorem get_at {F : List S38} {A : Option Addr} {c : Nat} {e base : Nat} {ok : Nat → Prop} {b : List Int} {i : Bool} (n : ByteArray) (hV : Kd.V k38 e w base ok (.slice A F.length c) F) (hl : F.length ≤ 1000000) (hd : okL F) (hg : getT F n = (b, i)) :
    Calls Try.prog 28 #[.slice A F.length c, .string n] w fun e w' => ∃ Ab cb, e = .returned (.tuple #[.slice Ab b.length cb, .bool i]) ∧ Kd.V (Kd.int .u8) 5 w' 0 (fun k => w.heap.size ≤ k) (.slice Ab b.length cb) b ∧ Below w.heap.size w w' := by
  obtain ⟨_, hc, hC⟩ := Kd.V_reads' hV
  refine (files_Get.calls A c F n b i w hC hc (by rw [get_f F n hl hd, hg])).mono ?_
  rintro e w' ⟨v, rfl, hR, hb⟩
  obtain ⟨Ab, cb, rfl⟩ := Kd.R_slice hR
  exact ⟨Ab, cb, rfl, Kd.R_V (Kd.R_mono (Kd.R_bound hR) fun k hk => hk.2.1), hb⟩
theorem V_midG {α : Type} {d : Kd α} {a n m : Nat} {l : List α} {v : Value} {e b : Nat} {w1 : World} (h : Kd.V d e w b (fun k => n ≤ k) v l) (hm : w.heap.size ≤ m) (hb : BelS (Mid a n m) w w1) : Kd.V d e w1 b (fun k => n ≤ k) v l :=
  Kd.V_step h fun k hk hlt => hb.block k hlt fun hM => by
    rcases hM with hM | hM
    · omega
    · omega
theorem V_str {A : Option Addr} {c : Nat} {e base : Nat} {ok : Nat → Prop} {b : List Int} (h : Kd.V (Kd.int .u8) e w base ok (.slice A b.length c) b) : (convert 23 9 (.slice A b.length c)).run Try.prog w = .ok (.string (strOfNums b)) w :=
  Kd.C_string Try.underlying23 Try.underlying5 Try.underlying9 (Kd.V_reads' h).2.2
theorem files_small (hf : Fit s) : (filesOf s).length ≤ 1000000 ∧ okL (filesOf s) := by
  obtain ⟨h1, h2⟩ := files_ok hf
  exact ⟨by omega, h1⟩
theorem played_inv {l : List S76} (hl : l.length ≤ 20) (hok : ∀ d ∈ l, okD d) : Inv 20 (runS (newD 500) l) := by
  have h := (Inv.new 500).run hok l.length
  rw [List.take_length] at h
  exact h.more (by omega)
end
end Go.Proofs.Ytcgeioingikeeaa.P
namespace Go.Proofs.Ytcgeioingikeeaa.P
open Go.RowKit Go.Proofs.YtcgeioingikeeaaW.PrintWords Go.Proofs.YtcgeioingikeeaaW.PrintLast Go.Proofs.YtcgeioingikeeaaW.PrintMore
set_option linter.unusedVariables false
set_option linter.unusedSimpArgs false
/-- A name's bytes, if it is there. -/
def val (l : List S38) (n : ByteArray) : Option (List Int) := (l.find? (named n)).map (·.f1)
theorem find_filter {p q : S38 → Bool} (h : ∀ x, q x = true → p x = true) : ∀ l : List S38, (l.filter p).find? q = l.find? q
  | [] => rfl
  | x :: l => by
    cases hq : q x
    · rw [List.find?_cons, hq]
      cases hp : p x
      · rw [List.filter_cons_of_neg (by simp [hp])]; exact find_filter h l
      · rw [List.filter_cons_of_pos hp, List.find?_cons, hq]; exact find_filter h l
    · rw [List.filter_cons_of_pos (h x hq), List.find?_cons, List.find?_cons, hq]
theorem named_iff {n : ByteArray} {x : S38} : named n x = true ↔ x.f0 = n := by
  unfold named
  rw [beq_iff_eq]
  exact ⟨bytes_inj, fun h => by rw [h]⟩
theorem ownW_iff {n : ByteArray} {x : S31} : ownW n x = true ↔ x.f0 = n := by
  unfold ownW
  rw [beq_iff_eq]
  exact ⟨bytes_inj, fun h => by rw [h]⟩
theorem val_filter_self (l : List S38) (n : ByteArray) : val (l.filter fun x => !named n x) n = none := by unfold val; rw [find_filter_self]; rfl
theorem val_filter_other (l : List S38) {n m : ByteArray} (h : n ≠ m) : val (l.filter fun x => !named n x) m = val l m := by
  unfold val
  rw [find_filter fun x hx => ?_]
  have hm := named_iff.1 hx
  cases hn : named n x
  · rfl
  · exact absurd ((named_iff.1 hn).symm.trans hm) h
theorem val_put (l : List S38) (n : ByteArray) (d : List Int) (m : ByteArray) : val (putL l n d) m = if n = m then some d else val l m := by
  by_cases h : n = m
  · subst h
    rw [if_pos rfl]
    unfold val
    rw [find_put]
    rfl
  · rw [if_neg h]
    have h1 := val_filter_other l h
    unfold val at h1 ⊢
    rw [find_put_other l d (fun he => h (bytes_inj he)), h1]
theorem oldOf_val (l : List S38) (n : ByteArray) : oldOf l n = (val l n).getD [] := by
  unfold oldOf val
  cases l.find? (named n) <;> rfl
theorem getT_val (l : List S38) (n : ByteArray) : getT l n = ((val l n).getD [], (val l n).isSome) := by
  unfold getT val
  cases l.find? (named n) <;> rfl
/-- What a write does to the bytes of its own name. -/
def stepV (v : Option (List Int)) (x : S31) (keep : Int) : Option (List Int) :=
  if x.f1 < 1 ∨ x.f1 > 3 ∨ x.f0.size < 1 ∨ x.f0.size > 40 ∨ (x.f1 = 3 ∧ x.f2 < 0) then v else
    if frmOf x.f1 x.f2 (v.getD []) > 65536 ∨ frmOf x.f1 x.f2 (v.getD []) + (keptOf x.f3 keep).length > 65536 ∨ (x.f1.toNat = 3 ∧ (v.getD []).length > 65536) then v else
      if (keptOf x.f3 keep).length = 0 ∧ x.f3.length > 0 then v else some (overlay (if x.f1.toNat = 1 then [] else v.getD []) (frmOf x.f1 x.f2 (v.getD [])).toNat (keptOf x.f3 keep))
theorem val_dn (l : List S38) (x : S31) (keep : Int) (m : ByteArray) : val (dn l x keep) m = if x.f0 = m then stepV (val l m) x keep else val l m := by
  by_cases hm : x.f0 = m
  · subst hm
    rw [if_pos rfl]
    unfold dn doT stepV
    rw [oldOf_val]
    by_cases h1 : x.f1 < 1 ∨ x.f1 > 3 ∨ x.f0.size < 1 ∨ x.f0.size > 40 ∨ (x.f1 = 3 ∧ x.f2 < 0)
    · rw [if_pos h1, if_pos h1, if_neg (by simp)]
    · rw [if_neg h1, if_neg h1]
      unfold doRes
      by_cases h2 : frmOf x.f1 x.f2 ((val l x.f0).getD []) > 65536 ∨ frmOf x.f1 x.f2 ((val l x.f0).getD []) + (keptOf x.f3 keep).length > 65536 ∨ (x.f1.toNat = 3 ∧ ((val l x.f0).getD []).length > 65536)
      · rw [if_pos h2, if_pos h2, if_neg (by simp)]
      · rw [if_neg h2, if_neg h2]
        by_cases h3 : (keptOf x.f3 keep).length = 0 ∧ x.f3.length > 0
        · rw [if_pos h3, if_pos h3, if_pos rfl]
        · rw [if_neg h3, if_neg h3, if_pos rfl, val_put, if_pos rfl]
  · rw [if_neg hm]
    unfold dn
    split
    · rename_i h0
      unfold doT at h0 ⊢
      split at h0
      · simp at h0
      · rename_i h1
        rw [if_neg h1]
        unfold doRes at h0 ⊢
        split at h0
        · simp at h0
        · rename_i h2
          rw [if_neg h2]
          split
          · rfl
          · rw [val_put, if_neg hm]
    · rfl
theorem val_done_none (keep : Nat → Int) (n : ByteArray) : ∀ (xs : List S31) (i : Nat) (l : List S38), (∀ x ∈ xs, x.f0 ≠ n) → val (doneL keep i l xs) n = val l n
  | [], i, l, h => rfl
  | x :: xs, i, l, h => by
    rw [doneL, val_done_none keep n xs (i + 1) _ fun y hy => h y (List.mem_cons_of_mem _ hy), val_dn, if_neg (h x List.mem_cons_self)]
/-- What writes do to the bytes of a name. -/
def foldV (n : ByteArray) : Option (List Int) → List S31 → Option (List Int)
  | v, [] => v
  | v, x :: xs => foldV n (if x.f0 = n then stepV v x (-1) else v) xs
theorem val_all (n : ByteArray) : ∀ (xs : List S31) (i : Nat) (l : List S38), val (doneL (fun _ => -1) i l xs) n = foldV n (val l n) xs
  | [], i, l => rfl
  | x :: xs, i, l => by rw [doneL, val_all n xs, val_dn]; rfl
theorem foldV_none (n : ByteArray) : ∀ (xs : List S31) (v : Option (List Int)), (∀ x ∈ xs, x.f0 ≠ n) → foldV n v xs = v
  | [], v, _ => rfl
  | x :: xs, v, h => by rw [foldV, if_neg (h x List.mem_cons_self), foldV_none n xs v fun y hy => h y (List.mem_cons_of_mem _ hy)]
theorem foldV_filter (n : ByteArray) (p : S31 → Bool) (hp : ∀ x, x.f0 = n → p x = true) : ∀ (xs : List S31) (v : Option (List Int)), foldV n v (xs.filter p) = foldV n v xs
  | [], v => rfl
  | x :: xs, v => by
    cases h : p x
    · rw [List.filter_cons_of_neg (by simp [h]), foldV, if_neg (fun he => by rw [hp x he] at h; cases h), foldV_filter n p hp xs]
    · rw [List.filter_cons_of_pos h, foldV, foldV, foldV_filter n p hp xs]
theorem val_files (s : SSt) (n : ByteArray) : val (filesOf s) n = foldV n (val s.safe n) s.pend := val_all n s.pend 0 s.safe
theorem pend_not (xs : List S31) (n : ByteArray) : ∀ x ∈ xs.filter (fun x => !ownW n x), x.f0 ≠ n := fun x hx he => by
  have := (List.mem_filter.1 hx).2
  rw [ownW_iff.2 he] at this
  cases this
/-- Sync keeps a name's bytes: they are the safe ones then. -/
theorem val_sync (s : SSt) (n m : ByteArray) : val (filesOf (syncD s n)) m = val (filesOf s) m ∧ val (syncD s n).safe n = val (filesOf s) n := by
  have h1 : ∀ k, val (syncD s n).safe k = foldV k (val s.safe k) (s.pend.filter fun x => !othW n x) := fun k => val_all k _ 0 s.safe
  have hself : val (syncD s n).safe n = val (filesOf s) n := by
    rw [h1, val_files, foldV_filter n _ fun x hx => by rw [not_oth]; exact ownW_iff.2 hx]
  refine ⟨?_, hself⟩
  rw [val_files]
  by_cases hm : n = m
  · subst hm
    rw [hself]
    exact foldV_none n _ _ (pend_not s.pend n)
  · rw [h1, foldV_none m (s.pend.filter fun x => !othW n x) _ fun x hx he => by
      have := (List.mem_filter.1 hx).2
      rw [not_oth] at this
      exact hm ((ownW_iff.1 this).symm.trans he), val_files]
    exact foldV_filter m _ (fun x hx => by
      cases ho : ownW n x
      · rfl
      · exact absurd ((ownW_iff.1 ho).symm.trans hx) hm) _ _
/-- A crash keeps the safe bytes of a name of which no write is pending. -/
theorem val_crash (s : SSt) (ks : List Int) (n : ByteArray) (h : ∀ x ∈ s.pend, x.f0 ≠ n) : val (filesOf (crashD s ks)) n = val s.safe n := val_done_none (keepN ks) n s.pend 0 s.safe h
theorem asked_plan (S : SSt) : asked (planD S [] 0) = if S.down = true then (planD S [] 0, 9) else ({ planD S [] 0 with calls := 1 }, 0) := by
  unfold asked
  by_cases hd : S.down = true
  · rw [if_pos hd, if_pos (show (planD S [] 0).down = true from hd)]
  · rw [if_neg hd, if_neg (show ¬ (planD S [] 0).down = true from hd), if_neg (by simp [planD]), if_neg (by simp [planD])]
    rfl
/-- What StoreSynced asks for. -/
structure SyncOk (S : SSt) (n : ByteArray) (ks : List Int) (s1 : SSt) (e : Int) (was safe now : List Int × Bool) : Prop where
  told : syncR (planD S [] 0) n = (s1, e)
  hwas : getT (filesOf s1) n = was
  hsafe : getT s1.safe n = safe
  hnow : getT (filesOf (crashD s1 ks)) n = now
  way : e = 9 ∨ (e = 4 ∧ was.2 = false) ∨ (e = 0 ∧ was.2 = true ∧ safe = was ∧ now = was)
theorem sync_ok (S : SSt) (n : ByteArray) (ks : List Int) : ∃ s1 e w sf nw, SyncOk S n ks s1 e w sf nw := by
  by_cases hd : S.down = true
  · have ha : asked (planD S [] 0) = (planD S [] 0, 9) := by rw [asked_plan, if_pos hd]
    exact ⟨_, _, _, _, _, by unfold syncR; rw [ofR_err (by rw [ha]; simp), ha], rfl, rfl, rfl, .inl rfl⟩
  · have ha : asked (planD S [] 0) = ({ planD S [] 0 with calls := 1 }, 0) := by rw [asked_plan, if_neg hd]
    cases hg : (getT (filesOf (planD S [] 0)) n).2
    · refine ⟨_, _, _, _, _, by unfold syncR; rw [ofR_none (by rw [ha]) hg, ha], rfl, rfl, rfl, .inr (.inl ⟨rfl, ?_⟩)⟩
      exact hg
    · refine ⟨_, _, _, _, _, by unfold syncR; rw [ofR_ok (by rw [ha]) hg, ha], rfl, rfl, rfl, .inr (.inr ⟨rfl, ?_, ?_, ?_⟩)⟩
      · rw [getT_val, (val_sync _ n n).1]
        rw [getT_val] at hg
        exact hg
      · rw [getT_val, getT_val, (val_sync _ n n).1, (val_sync _ n n).2]
      · rw [getT_val, getT_val, val_crash _ _ _ (pend_not _ n), (val_sync _ n n).1, (val_sync _ n n).2]
/-- Move: the bytes of the other name are those of the one, the one is gone. -/
theorem val_move (l : List S38) (a b m : ByteArray) (hab : a ≠ b) : val (moveT (l.filter fun x => !named b x) a b) m = if m = b then val l a else if m = a then none else val l m := by
  unfold moveT
  cases hf : (l.filter fun x => !named b x).find? (named a) with
  | none =>
    have hv : val l a = none := by
      have := val_filter_other l (Ne.symm hab)
      unfold val at this
      rw [hf] at this
      exact this.symm
    by_cases h1 : m = b
    · subst h1; rw [if_pos rfl, hv]; exact val_filter_self l m
    · rw [if_neg h1]
      show val (l.filter _) m = _
      rw [val_filter_other l (Ne.symm h1)]
      by_cases h2 : m = a
      · subst h2; rw [if_pos rfl, hv]
      · rw [if_neg h2]
  | some x =>
    have hv : val l a = some x.f1 := by
      have := val_filter_other l (Ne.symm hab)
      unfold val at this
      rw [hf] at this
      exact this.symm
    show val (putL _ b x.f1) m = _
    rw [val_put]
    by_cases h1 : m = b
    · subst h1; rw [if_pos rfl, if_pos rfl, hv]
    · rw [if_neg (Ne.symm h1), if_neg h1]
      by_cases h2 : m = a
      · subst h2; rw [if_pos rfl]; exact val_filter_self _ m
      · rw [if_neg h2, val_filter_other _ (Ne.symm h2), val_filter_other _ (Ne.symm h1)]
/-- What StoreMoves asks for. -/
structure MoveOk (S : SSt) (a b : ByteArray) (ks : List Int) (s1 : SSt) (e : Int) (was : List Int × Bool) (s2 : SSt) (g : Int) (now old : List Int × Bool) : Prop where
  told : syncR (planD S [] 0) a = (s1, e)
  hwas : getT (filesOf s1) a = was
  moved : moveR s1 a b = (s2, g)
  hnow : getT (filesOf (crashD s2 ks)) b = now
  hold : getT (filesOf (crashD s2 ks)) a = old
  way : (e = 9 ∧ g = 9) ∨ (e = 4 ∧ g = 4) ∨ (e = 0 ∧ g = 0 ∧ now.2 = true ∧ old.2 = false ∧ now.1 = was.1)
theorem move_ok (S : SSt) (a b : ByteArray) (ks : List Int) (hab : a ≠ b) (h1 : 1 ≤ b.size) (h40 : b.size ≤ 40) : ∃ s1 e w s2 g nw ol, MoveOk S a b ks s1 e w s2 g nw ol := by
  by_cases hd : S.down = true
  · have ha : asked (planD S [] 0) = (planD S [] 0, 9) := by rw [asked_plan, if_pos hd]
    exact ⟨_, _, _, _, _, _, _, by unfold syncR; rw [ofR_err (by rw [ha]; simp), ha], rfl, by unfold moveR; rw [ofR_err (by rw [ha]; simp), ha], rfl, rfl, .inl ⟨rfl, rfl⟩⟩
  · have ha : asked (planD S [] 0) = ({ planD S [] 0 with calls := 1 }, 0) := by rw [asked_plan, if_neg hd]
    have hask : ∀ s : SSt, s.down = false → s.calls = 1 → s.crash = 0 → s.fails = [] → asked s = ({ s with calls := 2 }, 0) := fun s h1 h2 h3 h4 => by
      unfold asked
      rw [if_neg (by rw [h1]; simp), h2, h3, h4, if_neg (by decide), if_neg (by simp)]
      rfl
    have hd2 : S.down = false := by simpa using hd
    cases hg : (getT (filesOf (planD S [] 0)) a).2
    · obtain ⟨s0, hs0⟩ : ∃ s0 : SSt, { planD S [] 0 with calls := 1 } = s0 := ⟨_, rfl⟩
      have hs1 : s0.down = false ∧ s0.calls = 1 ∧ s0.crash = 0 ∧ s0.fails = [] := by subst hs0; exact ⟨hd2, rfl, rfl, rfl⟩
      have hb := hask s0 hs1.1 hs1.2.1 hs1.2.2.1 hs1.2.2.2
      have hgs : (getT (filesOf s0) a).2 = false := by subst hs0; exact hg
      exact ⟨_, _, _, _, _, _, _, by unfold syncR; rw [ofR_none (by rw [ha]) hg, ha, hs0], rfl, by unfold moveR; rw [ofR_none (by rw [hb]) hgs, hb], rfl, rfl, .inr (.inl ⟨rfl, rfl⟩)⟩
    · obtain ⟨s0, hs0⟩ : ∃ s0 : SSt, { planD S [] 0 with calls := 1 } = s0 := ⟨_, rfl⟩
      have hs1 : (syncD s0 a).down = false ∧ (syncD s0 a).calls = 1 ∧ (syncD s0 a).crash = 0 ∧ (syncD s0 a).fails = [] := by subst hs0; exact ⟨hd2, rfl, rfl, rfl⟩
      have hb := hask (syncD s0 a) hs1.1 hs1.2.1 hs1.2.2.1 hs1.2.2.2
      have hgs : (getT (filesOf s0) a).2 = true := by subst hs0; exact hg
      have hg2 : (getT (filesOf (syncD s0 a)) a).2 = true := by
        rw [getT_val] at hgs ⊢
        rw [(val_sync s0 a a).1]
        exact hgs
      obtain ⟨s1, h1e⟩ : ∃ s1 : SSt, { syncD s0 a with calls := 2 } = s1 := ⟨_, rfl⟩
      have hsafe : s1.safe = (syncD s0 a).safe := by subst h1e; rfl
      have hpend : s1.pend = s0.pend.filter fun x => !ownW a x := by subst h1e; rfl
      refine ⟨_, _, _, moveD s1 a b, _, _, _, by unfold syncR; rw [ofR_ok (by rw [ha]) hg, ha, hs0], rfl, ?_, rfl, rfl, .inr (.inr ⟨rfl, rfl, ?_, ?_, ?_⟩)⟩
      · unfold moveR
        rw [ofR_ok (by rw [hb]) hg2, hb, if_neg (by omega), if_neg (fun h => hab (bytes_inj (beq_iff_eq.1 h))), h1e]
      · have hp : ∀ x ∈ (moveD s1 a b).pend, x.f0 ≠ b := by
          intro x hx
          obtain ⟨y, hy, rfl⟩ := List.mem_map.1 hx
          have hy2 := (List.mem_filter.1 hy).1
          rw [hpend] at hy2
          have hya : ownW a y = false := by simpa using (List.mem_filter.1 hy2).2
          unfold renW
          rw [if_neg (by rw [hya]; simp)]
          exact pend_not _ b y hy
        rw [getT_val, val_crash _ _ _ hp]
        show (val (moveT _ a b) b).isSome = true
        rw [val_move _ _ _ _ hab, if_pos rfl, hsafe, (val_sync s0 a a).2]
        rw [getT_val] at hgs
        exact hgs
      · have hp : ∀ x ∈ (moveD s1 a b).pend, x.f0 ≠ a := by
          intro x hx
          obtain ⟨y, hy, rfl⟩ := List.mem_map.1 hx
          unfold renW
          split
          · exact Ne.symm hab
          · rename_i h
            exact fun he => h (ownW_iff.2 he)
        rw [getT_val, val_crash _ _ _ hp]
        show (val (moveT _ a b) a).isSome = false
        rw [val_move _ _ _ _ hab, if_neg hab, if_pos rfl]
        rfl
      · have hp : ∀ x ∈ (moveD s1 a b).pend, x.f0 ≠ b := by
          intro x hx
          obtain ⟨y, hy, rfl⟩ := List.mem_map.1 hx
          have hy2 := (List.mem_filter.1 hy).1
          rw [hpend] at hy2
          have hya : ownW a y = false := by simpa using (List.mem_filter.1 hy2).2
          unfold renW
          rw [if_neg (by rw [hya]; simp)]
          exact pend_not _ b y hy
        rw [getT_val, val_crash _ _ _ hp, getT_val, (val_sync s0 a a).1]
        show (val (moveT _ a b) b).getD [] = _
        rw [val_move _ _ _ _ hab, if_pos rfl, hsafe, (val_sync s0 a a).2]
end Go.Proofs.Ytcgeioingikeeaa.P
namespace Go.Proofs.Ytcgeioingikeeaa.P
open Go.RowKit Go.Proofs.YtcgeioingikeeaaW.PrintWords Go.Proofs.YtcgeioingikeeaaW.PrintLast Go.Proofs.YtcgeioingikeeaaW.PrintMore
set_option linter.unusedVariables false
set_option linter.unusedSimpArgs false
section
variable {w : World}
/-- A variable that holds two names. -/
def VarN (w : World) (b : Nat) (x y : ByteArray) : Prop := w.heap[b]? = some (.cells #[.string x, .string y] 55 (0, 0))
theorem VarN.below {w1 : World} {b : Nat} {x y : ByteArray} (h : VarN w b x y) (hb : Below w.heap.size w w1) : VarN w1 b x y := blk_stays hb h
theorem VarN.cell {b : Nat} {x y : ByteArray} (h : VarN w b x y) : w.cell? ⟨b, 0, none⟩ = some (.string x) ∧ w.cell? ⟨b, 1, none⟩ = some (.string y) := by
  refine ⟨?_, ?_⟩ <;> (rw [cell_of_row w b _ _ 55 (0, 0) h]; rfl)
/-- The names, while a region runs. -/
structure NmS (b : Nat) (x y : ByteArray) (w w' : World) : Prop where
  blk : VarN w' b x y
  below : Below w.heap.size w w'
theorem NmS.step {b : Nat} {x y : ByteArray} {u v : World} (h : NmS b x y w u) (hb : Below u.heap.size u v) : NmS b x y w v := ⟨h.blk.below hb, below_step h.below hb⟩
theorem NmS.all {b : Nat} {x y : ByteArray} {u : World} (h : NmS b x y w u) : u.cell? ⟨b, 0, none⟩ = some (.string x) ∧ u.cell? ⟨b, 1, none⟩ = some (.string y) ∧ NmS b x y w u := ⟨h.blk.cell.1, h.blk.cell.2, h⟩
set_option maxHeartbeats 8000000 in
set_option maxRecDepth 100000 in
theorem moves_out (A : Option Addr) (c : Nat) (l : List S76) (hC : Kd.C k76 w A l.length l) (hc : l.length ≤ c) (hw : ∀ d ∈ l, ∀ n ∈ d.f4, (Lit.int .i64 n).wf = true) (n0 n1 : ByteArray) (A2 : Option Addr) (c2 : Nat) (ks : List Int) (hC2 : (Kd.int .i64).C w A2 ks.length ks) (hc2 : ks.length ≤ c2) (hw2 : ∀ n ∈ ks, (Lit.int .i64 n).wf = true) {kf : Nat} {b : Bool} (hkf : gambrelref18_Few.f kf l = some b) (h : b = false ∨ 60 < n0.size ∨ 40 < n1.size ∨ n1.size = 0 ∨ (n0.toList == n1.toList) = true ∨ 20 < ks.length) : Calls Try.prog 9 #[.slice A l.length c, .agg #[.string n0, .string n1], .slice A2 ks.length c2] w fun e w' => e = .returned (.bool true) ∧ Below w.heap.size w w' := by
  have hw0 : Below w.heap.size w (w.alloc (Obj.cells #[.string n0, .string n1] 55)) := below_alloc (Below.refl _ _) _
  have hn0 : VarN (w.alloc (Obj.cells #[.string n0, .string n1] 55)) w.heap.size n0 n1 := heap_alloc_new _ _
  have HW0 := Aside0.mk hw0
  have HN0 := Aside0.mk hn0
  have HC := Aside0.mk hC
  have HKF := Aside0.mk hkf
  clear hw0 hn0 hC hkf
  clear hC2 hw hw2
  cases b
  · go_enter Try.func9, Try.ntmps9
    go_wp2_with (first
      | (go_at_call 37; refine (awake18 _).mono ?_; rintro e w1 ⟨rfl, hb1⟩; have HB1 := Aside0.mk (below_step HW0.out hb1); have HN1 := Aside0.mk (HN0.out.below hb1); clear hb1)
      | (go_at_call 38; (with_reducible refine (gambrelref18_Few.calls kf A c l false _ (Kd.C_below HC.out HB1.out) hc HKF.out).mono ?_); rintro e w2 ⟨rfl, hb2⟩; have HB2 := Aside0.mk (below_step HB1.out hb2); have HN2 := Aside0.mk (HN1.out.below hb2); obtain ⟨y0, y1⟩ := HN2.out.cell; clear hb2))
    go_ret
    exact ⟨rfl, HB2.out⟩
  have hd : 60 < n0.size ∨ (¬ 60 < n0.size ∧ 40 < n1.size) ∨ (¬ 60 < n0.size ∧ ¬ 40 < n1.size ∧ n1.size = 0) ∨ (¬ 60 < n0.size ∧ ¬ 40 < n1.size ∧ ¬ n1.size = 0 ∧ (n0.toList == n1.toList) = true) ∨ (¬ 60 < n0.size ∧ ¬ 40 < n1.size ∧ ¬ n1.size = 0 ∧ (n0.toList == n1.toList) = false ∧ 20 < ks.length) := by
    cases h4 : n0.toList == n1.toList
    · simp only [h4] at h
      simp only [Bool.false_eq_true, false_or, and_false] at h ⊢
      simp only [Bool.true_eq_false, false_or, true_and] at h ⊢
      omega
    · simp only [true_and, and_true]
      omega
  rcases hd with h1 | ⟨h1, h2⟩ | ⟨h1, h2, h3⟩ | ⟨h1, h2, h3, h4⟩ | ⟨h1, h2, h3, h4, h5⟩
  all_goals
   clear h
   go_enter Try.func9, Try.ntmps9
   go_wp2_with (first
     | (go_at_call 37; refine (awake18 _).mono ?_; rintro e w1 ⟨rfl, hb1⟩; have HB1 := Aside0.mk (below_step HW0.out hb1); have HN1 := Aside0.mk (HN0.out.below hb1); clear hb1)
     | (go_at_call 38; (with_reducible refine (gambrelref18_Few.calls kf A c l true _ (Kd.C_below HC.out HB1.out) hc HKF.out).mono ?_); rintro e w2 ⟨rfl, hb2⟩; have HB2 := Aside0.mk (below_step HB1.out hb2); have HN2 := Aside0.mk (HN1.out.below hb2); obtain ⟨y0, y1⟩ := HN2.out.cell; clear hb2))
   go_ret
   exact ⟨rfl, HB2.out⟩
set_option maxHeartbeats 16000000 in
set_option maxRecDepth 100000 in
theorem moves_in (A : Option Addr) (c : Nat) (l : List S76) (hC : Kd.C k76 w A l.length l) (hc : l.length ≤ c) (hw : ∀ d ∈ l, ∀ n ∈ d.f4, (Lit.int .i64 n).wf = true) (n0 n1 : ByteArray) (A2 : Option Addr) (c2 : Nat) (ks : List Int) (hC2 : (Kd.int .i64).C w A2 ks.length ks) (hc2 : ks.length ≤ c2) (hw2 : ∀ n ∈ ks, (Lit.int .i64 n).wf = true) {kf : Nat} (hkf : gambrelref18_Few.f kf l = some true) (hn : n0.size ≤ 60) (hn1 : 1 ≤ n1.size) (hn40 : n1.size ≤ 40) (hne : (n0.toList == n1.toList) = false) (hk : ks.length ≤ 20) (hl : l.length ≤ 20) (hok : ∀ d ∈ l, okD d) (S s1 s2 : SSt) (e g : Int) (F Z : List S38) (wb nb ob : List Int) (wi ni oi : Bool) (hS : runS (newD 500) l = S) (hinv : Inv 20 S) (ho : MoveOk S n0 n1 ks s1 e (wb, wi) s2 g (nb, ni) (ob, oi)) (hF : filesOf s1 = F) (hZ : filesOf (crashD s2 ks) = Z) : Calls Try.prog 9 #[.slice A l.length c, .agg #[.string n0, .string n1], .slice A2 ks.length c2] w fun e w' => e = .returned (.bool true) ∧ Below w.heap.size w w' := by
  have hz : ((n1.size : Int) == 0) = false := beq_eq_false_iff_ne.mpr (by omega)
  have hd1 : decide ((60 : Int) < (n0.size : Int)) = false := decide_eq_false (by omega)
  have hd2 : decide ((40 : Int) < (n1.size : Int)) = false := decide_eq_false (by omega)
  have hd3 : decide ((20 : Int) < (ks.length : Int)) = false := decide_eq_false (by omega)
  have hi4 : Inv 20 (planD S [] 0) := hinv.plan _ _
  have hi1 : Inv 21 s1 := by have h := hi4.ofR n0 (fun s => (syncD s n0, 0)) (fun s h _ => h.sync n0); have h2 := ho.told; unfold syncR at h2; rw [h2] at h; exact h
  have hi2 : Inv 22 s2 := by
    have h := hi1.ofR n0 (fun s => if n1.size < 1 ∨ 40 < n1.size then (s, 1) else if (n0.toList == n1.toList) = true then (s, 0) else (moveD s n0 n1, 0)) (fun s h _ => by split; exact h; split; exact h; exact h.move n0 n1)
    have h2 := ho.moved
    unfold moveR at h2
    rw [h2] at h
    exact h
  have hi3 : Inv 22 (crashD s2 ks) := hi2.crash ks
  have HFIT1 := Aside0.mk (hi1.fit (by omega))
  have HFITA := Aside0.mk (hi1.fitA (by omega))
  have HFIT2 := Aside0.mk (hi2.fit (by omega))
  have HFIT3 := Aside0.mk (hi3.fit (by omega))
  have HL1 := Aside0.mk (show F.length ≤ 1000000 ∧ okL F by rw [← hF]; exact files_small HFIT1.out)
  have HL3 := Aside0.mk (show Z.length ≤ 1000000 ∧ okL Z by rw [← hZ]; exact files_small HFIT3.out)
  have HG1 := Aside0.mk (show getT F n0 = (wb, wi) by rw [← hF]; exact ho.hwas)
  have HG2 := Aside0.mk (show getT Z n1 = (nb, ni) by rw [← hZ]; exact ho.hnow)
  have HG3 := Aside0.mk (show getT Z n0 = (ob, oi) by rw [← hZ]; exact ho.hold)
  have HF1 := Aside0.mk hF
  have HF3 := Aside0.mk hZ
  have HS := Aside0.mk hS
  have HI4 := Aside0.mk hi4
  have HOK := Aside0.mk ho
  have HOKD := Aside0.mk hok
  have HC2 := Aside0.mk hC2
  have HWF := Aside0.mk hw
  have hway := ho.way
  clear hi4 hi1 hi2 hi3 hF hZ hS hinv ho hok hC2 hw hw2
  have hw0 : Below w.heap.size w (w.alloc (Obj.cells #[.string n0, .string n1] 55)) := below_alloc (Below.refl _ _) _
  have hn0 : VarN (w.alloc (Obj.cells #[.string n0, .string n1] 55)) w.heap.size n0 n1 := heap_alloc_new _ _
  have HW0 := Aside0.mk hw0
  have HN0 := Aside0.mk hn0
  have HC := Aside0.mk hC
  have HKF := Aside0.mk hkf
  clear hw0 hn0 hC hkf
  rcases hway with ⟨rfl, rfl⟩ | ⟨rfl, rfl⟩ | ⟨rfl, rfl, h2, h3, h4⟩
  all_goals first | (have h2' : ni = true := h2; have h3' : oi = false := h3; have h4' : nb = wb := h4; subst h2'; subst h3'; subst h4'; clear h2 h3 h4) | skip
  all_goals
   go_enter Try.func9, Try.ntmps9
   go_wp2_with (first
     | (go_at_call 37; refine (awake18 _).mono ?_; rintro e w1 ⟨rfl, hb1⟩; have HB1 := Aside0.mk (below_step HW0.out hb1); have HN1 := Aside0.mk (HN0.out.below hb1); clear hb1)
     | (go_at_call 38; (with_reducible refine (gambrelref18_Few.calls kf A c l true _ (Kd.C_below HC.out HB1.out) hc HKF.out).mono ?_); rintro e w2 ⟨rfl, hb2⟩; have HB2 := Aside0.mk (below_step HB1.out hb2); have HN2 := Aside0.mk (HN1.out.below hb2); obtain ⟨y0, y1⟩ := HN2.out.cell; clear hb2)
     | (go_at_call 39; (with_reducible refine (played_calls A c l (Kd.C_below HC.out HB2.out) hl HOKD.out HWF.out).mono ?_); rintro e w3 ⟨rfl, hr3, hb3⟩; rw [HS.out] at hr3; have HQ3 := Aside0.mk hb3; have HR3 := Aside0.mk hr3; clear hb3 hr3)
     | (go_at_call 40; (with_reducible refine (plan_none 0 HR3.out (up_since HQ3.out.size)).mono ?_); rintro e w4 ⟨rfl, hr4, hb4⟩; have HQ4 := Aside0.mk ((belowB_trans (bels_of (Nat.le_refl _) HQ3.out) hb4).below (Nat.le_refl _)); have HN4 := Aside0.mk (HN2.out.below HQ4.out); clear y0 y1; obtain ⟨y0, y1⟩ := HN4.out.cell; have HR4 := Aside0.mk hr4; clear hr4 hb4)
     | (go_at_call 41; (with_reducible refine (sync_told HOK.out.told HR4.out (HI4.out.fit (by omega)) (HI4.out.fitA (by omega)) (up_since HQ4.out.size)).mono ?_); rintro e w5 ⟨rfl, hr5, hb5⟩; have HQ5 := Aside0.mk ((belowB_trans (bels_of (Nat.le_refl _) HQ4.out) hb5).below (Nat.le_refl _)); have hn5 := HN2.out.below HQ5.out; have HN5 := Aside0.mk hn5; clear y0 y1; obtain ⟨y0, y1⟩ := HN5.out.cell; have HR5 := Aside0.mk hr5; clear hr5 hb5))
   go_region_held3 (fun w' => w'.cell? ⟨w.heap.size, 0, none⟩ = some (.string n0) ∧ w'.cell? ⟨w.heap.size, 1, none⟩ = some (.string n1) ∧ NmS w.heap.size n0 n1 w5 w')
     (first
       | exact (NmS.step (w := w5) (u := w5) ⟨hn5, Below.refl _ _⟩ (below_drew1 (Below.refl _ _))).all
       | (go_split_ands
          first
           | exact NmS.all (NmS.step (by assumption) hb7)
           | exact NmS.all (NmS.step (by assumption) hb6))
       | go_keep)
     (first
       | (go_at_call 42; (with_reducible refine (files_at (HR5.out.below (below_drew1 (Below.refl _ _))) HFIT1.out HF1.out).mono ?_); rintro e w6 ⟨A6, c6, rfl, hv6, hb6⟩)
       | (go_at_call 28; (with_reducible refine (get_at n0 hv6 HL1.out.1 HL1.out.2 HG1.out).mono ?_); rintro e w7 ⟨A7, c7, rfl, hv7, hb7⟩))
   have hnm7 : NmS w.heap.size n0 n1 w5 w7 := by go_split_ands; assumption
   have HB57 := Aside0.mk hnm7.below
   have HQ7 := Aside0.mk (below_step HQ5.out HB57.out)
   have HV7 := Aside0.mk (Kd.V_mono hv7 (fun k hk => Nat.le_trans (Nat.le_trans (below_drew1 (Below.refl w5.heap.size w5)).size hb6.size) hk))
   have HR7 := Aside0.mk (rep_mid w7.heap.size HR5.out HB57.out)
   have HN7 := Aside0.mk hnm7.blk
   clear hv6 hv7 hb6 hb7 hnm7 y0 y1
   obtain ⟨y0, y1⟩ := HN7.out.cell
  · go_wp2_with (go_at_call 43; (with_reducible refine (move_told HOK.out.moved HR7.out HFIT1.out HFITA.out (up_mid (Nat.le_refl _))).mono ?_); rintro e w8 ⟨rfl, hr8, hb8⟩; have HM8 := Aside0.mk hb8; have HR8 := Aside0.mk hr8; clear hb8 hr8)
    go_ret
    exact ⟨rfl, below_step HB2.out (mid_below HQ7.out HM8.out (Nat.le_refl _) HQ7.out.size)⟩
  · go_wp2_with (go_at_call 43; (with_reducible refine (move_told HOK.out.moved HR7.out HFIT1.out HFITA.out (up_mid (Nat.le_refl _))).mono ?_); rintro e w8 ⟨rfl, hr8, hb8⟩; have HM8 := Aside0.mk hb8; have HR8 := Aside0.mk hr8; clear hb8 hr8)
    go_ret
    exact ⟨rfl, below_step HB2.out (mid_below HQ7.out HM8.out (Nat.le_refl _) HQ7.out.size)⟩
  · go_wp2_with (first
      | (go_at_call 43; (with_reducible refine (move_told HOK.out.moved HR7.out HFIT1.out HFITA.out (up_mid (Nat.le_refl _))).mono ?_); rintro e w8 ⟨rfl, hr8, hb8⟩; have HM8 := Aside0.mk hb8; have HR8 := Aside0.mk hr8; clear hb8 hr8)
      | (go_at_call 44; (with_reducible refine (crash_calls A2 c2 ks HR8.out HFIT2.out (up_mid HM8.out.size) (Kd.C_below HC2.out (below_step HB2.out (mid_below HQ7.out HM8.out (Nat.le_refl _) HQ7.out.size)))).mono ?_); rintro e w9 ⟨rfl, hr9, hb9⟩; have HM9 := Aside0.mk (belowB_trans HM8.out hb9); have HR9 := Aside0.mk hr9; have hn9 := HN2.out.below (mid_below HQ7.out HM9.out (Nat.le_refl _) HQ7.out.size); have HN9 := Aside0.mk hn9; clear y0 y1; obtain ⟨y0, y1⟩ := HN9.out.cell; clear hb9 hr9))
    go_region_held3 (fun w' => w'.cell? ⟨w.heap.size, 0, none⟩ = some (.string n0) ∧ w'.cell? ⟨w.heap.size, 1, none⟩ = some (.string n1) ∧ NmS w.heap.size n0 n1 w9 w')
    (first
      | exact (NmS.step (w := w9) (u := w9) ⟨hn9, Below.refl _ _⟩ (below_drew1 (Below.refl _ _))).all
      | (go_split_ands
         first
          | exact NmS.all (NmS.step (by assumption) hb11)
          | exact NmS.all (NmS.step (by assumption) hb10))
      | go_keep)
    (first
      | (go_at_call 42; (with_reducible refine (files_at (HR9.out.below (below_drew1 (Below.refl _ _))) HFIT3.out HF3.out).mono ?_); rintro e w10 ⟨A10, c10, rfl, hv10, hb10⟩)
      | (go_at_call 28; (with_reducible refine (get_at n1 hv10 HL3.out.1 HL3.out.2 HG2.out).mono ?_); rintro e w11 ⟨A11, c11, rfl, hv11, hb11⟩))
    have hnm11 : NmS w.heap.size n0 n1 w9 w11 := by go_split_ands; assumption
    have HB911 := Aside0.mk hnm11.below
    have HM11 := Aside0.mk (bels_then HM9.out (up_mid HM9.out.size) HB911.out)
    have HR11 := Aside0.mk (HR9.out.below HB911.out)
    have HV11 := Aside0.mk hv11
    have hn11 := hnm11.blk
    have HN11 := Aside0.mk hn11
    clear hv10 hv11 hb10 hb11 hnm11 y0 y1 hn9
    obtain ⟨y0, y1⟩ := HN11.out.cell
    go_wp2
    go_region_held3 (fun w' => w'.cell? ⟨w.heap.size, 0, none⟩ = some (.string n0) ∧ w'.cell? ⟨w.heap.size, 1, none⟩ = some (.string n1) ∧ NmS w.heap.size n0 n1 w11 w')
    (first
      | exact (NmS.step (w := w11) (u := w11) ⟨hn11, Below.refl _ _⟩ (below_drew1 (Below.refl _ _))).all
      | (go_split_ands
         first
          | exact NmS.all (NmS.step (by assumption) hb13)
          | exact NmS.all (NmS.step (by assumption) hb12))
      | go_keep)
    (first
      | (go_at_call 42; (with_reducible refine (files_at (HR11.out.below (below_drew1 (Below.refl _ _))) HFIT3.out HF3.out).mono ?_); rintro e w12 ⟨A12, c12, rfl, hv12, hb12⟩)
      | (go_at_call 28; (with_reducible refine (get_at n0 hv12 HL3.out.1 HL3.out.2 HG3.out).mono ?_); rintro e w13 ⟨A13, c13, rfl, hv13, hb13⟩))
    have hnm13 : NmS w.heap.size n0 n1 w11 w13 := by go_split_ands; assumption
    have HB1113 := Aside0.mk hnm13.below
    have HM13 := Aside0.mk (bels_then HM11.out (up_mid HM11.out.size) HB1113.out)
    have hs1 := V_str (V_midG HV7.out (Nat.le_refl _) HM13.out)
    have hs2 := V_str (Kd.V_below HV11.out HB1113.out)
    clear hv12 hv13 hb12 hb13 hnm13 y0 y1 hn11
    go_wp2
    go_ret
    exact ⟨rfl, below_step HB2.out (mid_below HQ7.out HM13.out (Nat.le_refl _) HQ7.out.size)⟩
theorem moves_calls (A : Option Addr) (c : Nat) (l : List S76) (hC : Kd.C k76 w A l.length l) (hc : l.length ≤ c) (hw : ∀ d ∈ l, ∀ n ∈ d.f4, (Lit.int .i64 n).wf = true) (n0 n1 : ByteArray) (A2 : Option Addr) (c2 : Nat) (ks : List Int) (hC2 : (Kd.int .i64).C w A2 ks.length ks) (hc2 : ks.length ≤ c2) (hw2 : ∀ n ∈ ks, (Lit.int .i64 n).wf = true) : Calls Try.prog 9 #[.slice A l.length c, .agg #[.string n0, .string n1], .slice A2 ks.length c2] w fun e w' => e = .returned (.bool true) ∧ Below w.heap.size w w' := by
  obtain ⟨kf, b, hkf, hb⟩ := fewD l
  cases b
  · exact moves_out A c l hC hc hw n0 n1 A2 c2 ks hC2 hc2 hw2 hkf (.inl rfl)
  by_cases hn : 60 < n0.size
  · exact moves_out A c l hC hc hw n0 n1 A2 c2 ks hC2 hc2 hw2 hkf (.inr (.inl hn))
  by_cases hn4 : 40 < n1.size
  · exact moves_out A c l hC hc hw n0 n1 A2 c2 ks hC2 hc2 hw2 hkf (.inr (.inr (.inl hn4)))
  by_cases hn1 : n1.size = 0
  · exact moves_out A c l hC hc hw n0 n1 A2 c2 ks hC2 hc2 hw2 hkf (.inr (.inr (.inr (.inl hn1))))
  by_cases hnt : (n0.toList == n1.toList) = true
  · exact moves_out A c l hC hc hw n0 n1 A2 c2 ks hC2 hc2 hw2 hkf (.inr (.inr (.inr (.inr (.inl hnt)))))
  by_cases hk : 20 < ks.length
  · exact moves_out A c l hC hc hw n0 n1 A2 c2 ks hC2 hc2 hw2 hkf (.inr (.inr (.inr (.inr (.inr hk)))))
  have hne : (n0.toList == n1.toList) = false := by simpa using hnt
  obtain ⟨hl, hok⟩ := hb rfl
  obtain ⟨s1, e, ⟨wb, wi⟩, s2, g, ⟨nb, ni⟩, ⟨ob, oi⟩, ho⟩ := move_ok (runS (newD 500) l) n0 n1 ks (fun h => by rw [h] at hne; simp at hne) (by omega) (by omega)
  exact moves_in A c l hC hc hw n0 n1 A2 c2 ks hC2 hc2 hw2 hkf (by omega) (by omega) (by omega) hne (by omega) hl hok _ s1 s2 e g _ _ wb nb ob wi ni oi rfl (played_inv hl hok) ho rfl rfl
end
end Go.Proofs.Ytcgeioingikeeaa.P
