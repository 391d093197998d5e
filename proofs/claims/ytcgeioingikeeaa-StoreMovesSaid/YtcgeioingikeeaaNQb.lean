/- The closure of a store's Do: what it does. By a program of this seat (wip/tools/mkKA.py). The closure of a store's Do: what it does. By a program of this seat (wip/tools/mkKA.py). The closure of a store's Do: what it does. By a program of this seat (wip/tools/mkKA.py). The closure of a store's Do: what it does. By a program of this seat (wip/tools/mkKA.py). The closure of a store's Do: what it does. By a program of this seat (wip/tools/mkKA.py). The closure of a store's Do: what it does. By a program of this seat (wip/tools/mkKA.py). The closure of a store's Do: what it does. By a program of this seat (wip/tools/mkKA.py). The closure of a store's Do: what it does. By a program of this seat (wip/tools/mkKA.py). The closure of a store's Do: what it does. By a program of this seat (wip/tools/mkKA.py). The closure of a store's Do: what it does. By a program of this seat (wip/tools/mkKA.py). The closure of a store's Do: what it does. By a program of this seat (wip/tools/mkKA.py). Do and List of a store: what each does. Do and List of a store: what each does. Do and List of a store: what each does. Do and List of a store: what each does. Plan of a store: what it does. A block that holds no text and no byte is none that a store reads: it may be written beside the store. do of the store's law, with a store. By a program of this seat (wip/tools/q/mkQE.py). -/
import Derived.Test.YtcgeioingikeeaaNQa
import Derived.Maps.Views
import Derived.Test.YtcgeioingikeeaaPf79
namespace Go.Proofs.Ytcgeioingikeeaa.P
open Go.RowKit Go.Proofs.YtcgeioingikeeaaW.PrintWords Go.Proofs.YtcgeioingikeeaaW.PrintLast Go.Proofs.YtcgeioingikeeaaW.PrintMore
set_option linter.unusedVariables false
set_option linter.unusedSimpArgs false
section
variable {B : Nat → Prop} {g : Nat} {s : SSt} {w : World} {mv sv pv : Value}
/-- A captured variable that holds a write. -/
def VarW (w : World) (b : Nat) (x : S31) (A : Option Addr) (c : Nat) : Prop := w.heap[b]? = some (.cells #[.string x.f0, .int .i64 x.f1, .int .i64 x.f2, .slice A x.f3.length c] 31 (0, 0))
theorem VarW.below {w w1 : World} {b c : Nat} {x : S31} {A : Option Addr} (h : VarW w b x A c) (hb : Below w.heap.size w w1) : VarW w1 b x A c := blk_stays hb h
theorem VarW.cell {w : World} {b c : Nat} {x : S31} {A : Option Addr} (h : VarW w b x A c) : w.cell? ⟨b, 0, none⟩ = some (.string x.f0) ∧ w.cell? ⟨b, 1, none⟩ = some (.int .i64 x.f1) ∧ w.cell? ⟨b, 2, none⟩ = some (.int .i64 x.f2) ∧ w.cell? ⟨b, 3, none⟩ = some (.slice A x.f3.length c) := by
  refine ⟨?_, ?_, ?_, ?_⟩ <;> (rw [cell_of_row w b _ _ 31 (0, 0) h]; rfl)
/-- One more write, in a row of the store's own. -/
theorem O_snoc31 {W w1 : World} {ok : Nat → Prop} {v v1 : Value} {xs : List S31} {x : S31} {seg : List Value} {inner : List Value}
    (hr : Reps (fun x c => Kd.FK k31 W (fun k => ok k ∧ some k ≠ v.ownBlock) x c) 4 xs inner) (hx : Kd.FK k31 W (fun k => ok k ∧ some k ≠ v.ownBlock) x seg)
    (hown : w1.ownsRow 0 31 4 v1 (xs.length + 1) (inner ++ seg)) (hg : W.grownBy w1 v.ownBlock) (hat : v1.ownBlock = v.ownBlock ∨ v1.ownBlock = some W.heap.size) : O k31 31 w1 0 ok v1 (xs ++ [x]) := by
  refine ⟨inner ++ seg, by rw [List.length_append]; exact hown, ?_⟩
  exact O_put (hr.imp_ fun y c' hy => FK_after hy hg hat) (FK_after hx hg hat) (FK_one hx).1
theorem doT_len (l : List S38) (x : S31) (keep : Int) (_ : okL l) : (doT l x keep).1.length ≤ l.length + 1 := by
  unfold doT
  split
  · simp
  · unfold doRes
    split
    · simp
    · by_cases h0 : (keptOf x.f3 keep).length = 0 ∧ x.f3.length > 0
      · rw [if_pos h0]; simp
      · rw [if_neg h0]; exact putL_len _ _ _
/-- A write, done to a store that is up, plainly: what is told. -/
def doE (s : SSt) (x : S31) : Int :=
  if (getT (filesOf s) x.f0).2 = false ∧ (x.f1 = 2 ∨ x.f1 = 3) then 4 else
    if (doT (filesOf s) x (-1)).2 ≠ 0 then (doT (filesOf s) x (-1)).2 else
      if s.quota < sizeF (doT (filesOf s) x (-1)).1 ∧ sizeF (filesOf s) < sizeF (doT (filesOf s) x (-1)).1 then 8 else 0
def doB (s : SSt) (x : S31) : SSt × Int :=
  if doE s x = 0 then ({ s with pend := s.pend ++ [x], peak := mx s.peak (sizeF (doT (filesOf s) x (-1)).1) }, 0) else (s, doE s x)

end
end Go.Proofs.Ytcgeioingikeeaa.P
namespace Go.Proofs.Ytcgeioingikeeaa.P
open Go.RowKit Go.Proofs.YtcgeioingikeeaaW.PrintWords Go.Proofs.YtcgeioingikeeaaW.PrintLast Go.Proofs.YtcgeioingikeeaaW.PrintMore
set_option linter.unusedVariables false
set_option linter.unusedSimpArgs false
section
variable {B : Nat → Prop} {g : Nat} {s : SSt} {w : World} {mv sv pv : Value}
set_option maxHeartbeats 4000000 in
set_option maxRecDepth 100000 in
theorem do1_none2 (x : S31) (A3 : Option Addr) (c3 b0 b1 : Nat) {s0 : SSt} {w0 : World} (h0 : RepAt B g s0 w0 mv sv pv) (hk0 : KeptG g w0 w) (hb1 : w0.heap.size ≤ b1) (hB0 : Up B w0.heap.size) (e1 : s.safe = s0.safe) (e2 : s.pend = s0.pend) (e3 : s.fails = s0.fails)
    (h : RepAt B g s w mv sv pv) (hf : Fit s) (hx : x.f3.length ≤ 1000) (hp : VarP w b0 g) (hn : VarW w b1 x A3 c3) (hF : Kd.F (Kd.int .u8) w (fun k => k ≠ g) A3 x.f3.length x.f3) (hc3 : x.f3.length ≤ c3) (hok : (getT (filesOf s) x.f0).2 = false) (h2 : x.f1 = 2) :
    Calls Try.prog 91 #[.pointer (some ⟨b0, 0, none⟩), .pointer (some ⟨b1, 0, none⟩)] w fun e w' => ∃ r, e = .returned (.int .i64 r) ∧ r = (doB s x).2 ∧ Rep B g (doB s x).1 w' ∧ BelS B w w' := by
  obtain ⟨Ap, cp, rfl⟩ := O_slice h.pend
  have hBw : Up B w.heap.size := Up.le hB0 hk0.1
  have hg0 : g < w0.heap.size := blk_lt h0.blk
  have hlen := hf.len
  have hfl : okL (filesOf s) ∧ (filesOf s).length ≤ 1000 := files_ok hf
  have hget := get_f (filesOf s) x.f0 (by omega) hfl.1
  have hdo := doT_f (filesOf s) x (-1) (by omega) hfl.1 (by omega)
  have hdk := doT_ok (filesOf s) x (-1) hfl.1
  obtain ⟨kz, hkz⟩ := size_f (filesOf s) (by omega)
  have hE : doE s x = 4 := by unfold doE; rw [if_pos ⟨hok, by omega⟩]
  have hB : doB s x = (s, 4) := by unfold doB; rw [hE]; rfl
  rw [hB]
  rw [hok] at hget
  have hq2 : (x.f1 == 2) = true := by simpa using h2
  have HOK := Aside0.mk hok
  have HEB := Aside0.mk (And.intro hE hB)
  clear hok h2 hE hB
  have hp0 := hp.cell
  obtain ⟨hx0, hx1, hx2, hx3⟩ := hn.cell
  have H := Aside0.mk h
  have H0 := Aside0.mk h0
  have HK0 := Aside0.mk hk0
  have HE := Aside0.mk (And.intro e1 (And.intro e2 e3))
  have HF := Aside0.mk hf
  have HP := Aside0.mk hp
  have HN := Aside0.mk hn
  have HFx := Aside0.mk hF
  have HGET := Aside0.mk hget
  have HDO := Aside0.mk hdo
  have HDK := Aside0.mk hdk
  have HKZ := Aside0.mk hkz
  clear h h0 hk0 hf hp hn hF hget hdo hdk hkz e1 e2 e3
  go_enter Try.func91, Try.ntmps91
  go_wp2_with (first
    | (go_at_call 42; refine (files_calls ⟨mv, sv, _, H.out⟩ HF.out).mono ?_; rintro e w1 ⟨v1, rfl, hV1, hb1w⟩; obtain ⟨A1, c1, rfl⟩ := Kd.V_slice hV1; obtain ⟨hx0, hx1, hx2, hx3⟩ := (HN.out.below hb1w).cell; have HV1 := Aside0.mk hV1; have HB1 := Aside0.mk hb1w; clear hV1 hb1w)
    | (go_at_call 28; refine (files_Get.calls A1 c1 (filesOf s) x.f0 _ _ _ (Kd.V_reads' HV1.out).2.2 (Kd.V_reads' HV1.out).2.1 HGET.out).mono ?_; rintro e w2 ⟨v2, rfl, hR2, hb2⟩; obtain ⟨A2, c2, rfl⟩ := Kd.R_slice hR2; obtain ⟨hx0, hx1, hx2, hx3⟩ := (HN.out.below (below_step HB1.out hb2)).cell; have HB12 := Aside0.mk hb2; have HB2 := Aside0.mk (below_step HB1.out hb2); clear hR2 hb2))
  go_ret
  exact ⟨4, rfl, rfl, ⟨mv, sv, _, H.out.below HB2.out⟩, belowB_of hBw HB2.out⟩
end
end Go.Proofs.Ytcgeioingikeeaa.P
namespace Go.Proofs.Ytcgeioingikeeaa.P
open Go.RowKit Go.Proofs.YtcgeioingikeeaaW.PrintWords Go.Proofs.YtcgeioingikeeaaW.PrintLast Go.Proofs.YtcgeioingikeeaaW.PrintMore
set_option linter.unusedVariables false
set_option linter.unusedSimpArgs false
section
variable {B : Nat → Prop} {g : Nat} {s : SSt} {w : World} {mv sv pv : Value}
set_option maxHeartbeats 4000000 in
set_option maxRecDepth 100000 in
theorem do1_none3 (x : S31) (A3 : Option Addr) (c3 b0 b1 : Nat) {s0 : SSt} {w0 : World} (h0 : RepAt B g s0 w0 mv sv pv) (hk0 : KeptG g w0 w) (hb1 : w0.heap.size ≤ b1) (hB0 : Up B w0.heap.size) (e1 : s.safe = s0.safe) (e2 : s.pend = s0.pend) (e3 : s.fails = s0.fails)
    (h : RepAt B g s w mv sv pv) (hf : Fit s) (hx : x.f3.length ≤ 1000) (hp : VarP w b0 g) (hn : VarW w b1 x A3 c3) (hF : Kd.F (Kd.int .u8) w (fun k => k ≠ g) A3 x.f3.length x.f3) (hc3 : x.f3.length ≤ c3) (hok : (getT (filesOf s) x.f0).2 = false) (h2 : x.f1 = 3) :
    Calls Try.prog 91 #[.pointer (some ⟨b0, 0, none⟩), .pointer (some ⟨b1, 0, none⟩)] w fun e w' => ∃ r, e = .returned (.int .i64 r) ∧ r = (doB s x).2 ∧ Rep B g (doB s x).1 w' ∧ BelS B w w' := by
  obtain ⟨Ap, cp, rfl⟩ := O_slice h.pend
  have hBw : Up B w.heap.size := Up.le hB0 hk0.1
  have hg0 : g < w0.heap.size := blk_lt h0.blk
  have hlen := hf.len
  have hfl : okL (filesOf s) ∧ (filesOf s).length ≤ 1000 := files_ok hf
  have hget := get_f (filesOf s) x.f0 (by omega) hfl.1
  have hdo := doT_f (filesOf s) x (-1) (by omega) hfl.1 (by omega)
  have hdk := doT_ok (filesOf s) x (-1) hfl.1
  obtain ⟨kz, hkz⟩ := size_f (filesOf s) (by omega)
  have hE : doE s x = 4 := by unfold doE; rw [if_pos ⟨hok, by omega⟩]
  have hB : doB s x = (s, 4) := by unfold doB; rw [hE]; rfl
  rw [hB]
  rw [hok] at hget
  have hq2 : (x.f1 == 2) = false := by rw [h2]; rfl
  have hq3 : (x.f1 == 3) = true := by simpa using h2
  have HOK := Aside0.mk hok
  have HEB := Aside0.mk (And.intro hE hB)
  clear hok h2 hE hB
  have hp0 := hp.cell
  obtain ⟨hx0, hx1, hx2, hx3⟩ := hn.cell
  have H := Aside0.mk h
  have H0 := Aside0.mk h0
  have HK0 := Aside0.mk hk0
  have HE := Aside0.mk (And.intro e1 (And.intro e2 e3))
  have HF := Aside0.mk hf
  have HP := Aside0.mk hp
  have HN := Aside0.mk hn
  have HFx := Aside0.mk hF
  have HGET := Aside0.mk hget
  have HDO := Aside0.mk hdo
  have HDK := Aside0.mk hdk
  have HKZ := Aside0.mk hkz
  clear h h0 hk0 hf hp hn hF hget hdo hdk hkz e1 e2 e3
  go_enter Try.func91, Try.ntmps91
  go_wp2_with (first
    | (go_at_call 42; refine (files_calls ⟨mv, sv, _, H.out⟩ HF.out).mono ?_; rintro e w1 ⟨v1, rfl, hV1, hb1w⟩; obtain ⟨A1, c1, rfl⟩ := Kd.V_slice hV1; obtain ⟨hx0, hx1, hx2, hx3⟩ := (HN.out.below hb1w).cell; have HV1 := Aside0.mk hV1; have HB1 := Aside0.mk hb1w; clear hV1 hb1w)
    | (go_at_call 28; refine (files_Get.calls A1 c1 (filesOf s) x.f0 _ _ _ (Kd.V_reads' HV1.out).2.2 (Kd.V_reads' HV1.out).2.1 HGET.out).mono ?_; rintro e w2 ⟨v2, rfl, hR2, hb2⟩; obtain ⟨A2, c2, rfl⟩ := Kd.R_slice hR2; obtain ⟨hx0, hx1, hx2, hx3⟩ := (HN.out.below (below_step HB1.out hb2)).cell; have HB12 := Aside0.mk hb2; have HB2 := Aside0.mk (below_step HB1.out hb2); clear hR2 hb2))
  go_ret
  exact ⟨4, rfl, rfl, ⟨mv, sv, _, H.out.below HB2.out⟩, belowB_of hBw HB2.out⟩
end
end Go.Proofs.Ytcgeioingikeeaa.P
namespace Go.Proofs.Ytcgeioingikeeaa.P
open Go.RowKit Go.Proofs.YtcgeioingikeeaaW.PrintWords Go.Proofs.YtcgeioingikeeaaW.PrintLast Go.Proofs.YtcgeioingikeeaaW.PrintMore
set_option linter.unusedVariables false
set_option linter.unusedSimpArgs false
section
variable {B : Nat → Prop} {g : Nat} {s : SSt} {w : World} {mv sv pv : Value}
set_option maxHeartbeats 4000000 in
set_option maxRecDepth 100000 in
theorem do1_err_t (x : S31) (A3 : Option Addr) (c3 b0 b1 : Nat) {s0 : SSt} {w0 : World} (h0 : RepAt B g s0 w0 mv sv pv) (hk0 : KeptG g w0 w) (hb1 : w0.heap.size ≤ b1) (hB0 : Up B w0.heap.size) (e1 : s.safe = s0.safe) (e2 : s.pend = s0.pend) (e3 : s.fails = s0.fails)
    (h : RepAt B g s w mv sv pv) (hf : Fit s) (hx : x.f3.length ≤ 1000) (hp : VarP w b0 g) (hn : VarW w b1 x A3 c3) (hF : Kd.F (Kd.int .u8) w (fun k => k ≠ g) A3 x.f3.length x.f3) (hc3 : x.f3.length ≤ c3) (hok : (getT (filesOf s) x.f0).2 = true) (he : (doT (filesOf s) x (-1)).2 ≠ 0) :
    Calls Try.prog 91 #[.pointer (some ⟨b0, 0, none⟩), .pointer (some ⟨b1, 0, none⟩)] w fun e w' => ∃ r, e = .returned (.int .i64 r) ∧ r = (doB s x).2 ∧ Rep B g (doB s x).1 w' ∧ BelS B w w' := by
  obtain ⟨Ap, cp, rfl⟩ := O_slice h.pend
  have hBw : Up B w.heap.size := Up.le hB0 hk0.1
  have hg0 : g < w0.heap.size := blk_lt h0.blk
  have hlen := hf.len
  have hfl : okL (filesOf s) ∧ (filesOf s).length ≤ 1000 := files_ok hf
  have hget := get_f (filesOf s) x.f0 (by omega) hfl.1
  have hdo := doT_f (filesOf s) x (-1) (by omega) hfl.1 (by omega)
  have hdk := doT_ok (filesOf s) x (-1) hfl.1
  obtain ⟨kz, hkz⟩ := size_f (filesOf s) (by omega)
  have hno : ¬ ((getT (filesOf s) x.f0).2 = false ∧ (x.f1 = 2 ∨ x.f1 = 3)) := by simp [hok]
  rw [hok] at hget
  have hE : doE s x = (doT (filesOf s) x (-1)).2 := by unfold doE; rw [if_neg hno, if_pos he]
  have hB : doB s x = (s, (doT (filesOf s) x (-1)).2) := by unfold doB; rw [hE, if_neg he]
  rw [hB]
  obtain ⟨⟨n2, r2⟩, hdr⟩ : ∃ r, doT (filesOf s) x (-1) = r := ⟨_, rfl⟩
  rw [hdr] at hdo hdk he ⊢
  simp only at hdo hdk he ⊢
  have hn2 : n2.length ≤ 1001 := by
    have := doT_len (filesOf s) x (-1) hfl.1
    rw [hdr] at this
    simp only at this
    omega
  obtain ⟨kd, hkd⟩ := size_f n2 (by omega)
  have HKD := Aside0.mk hkd
  have hce : (r2 == 0) = false := by simpa using he
  have hcn : (r2 != 0) = true := by simpa using he
  have HEB := Aside0.mk (And.intro hE hB)
  have HDR := Aside0.mk hdr
  clear hok hno hE hB hdr he hkd
  have hp0 := hp.cell
  obtain ⟨hx0, hx1, hx2, hx3⟩ := hn.cell
  have H := Aside0.mk h
  have H0 := Aside0.mk h0
  have HK0 := Aside0.mk hk0
  have HE := Aside0.mk (And.intro e1 (And.intro e2 e3))
  have HF := Aside0.mk hf
  have HP := Aside0.mk hp
  have HN := Aside0.mk hn
  have HFx := Aside0.mk hF
  have HGET := Aside0.mk hget
  have HDO := Aside0.mk hdo
  have HDK := Aside0.mk hdk
  have HKZ := Aside0.mk hkz
  clear h h0 hk0 hf hp hn hF hget hdo hdk hkz e1 e2 e3
  go_enter Try.func91, Try.ntmps91
  go_wp2_with (first
    | (go_at_call 42; refine (files_calls ⟨mv, sv, _, H.out⟩ HF.out).mono ?_; rintro e w1 ⟨v1, rfl, hV1, hb1w⟩; obtain ⟨A1, c1, rfl⟩ := Kd.V_slice hV1; obtain ⟨hx0, hx1, hx2, hx3⟩ := (HN.out.below hb1w).cell; have HV1 := Aside0.mk hV1; have HB1 := Aside0.mk hb1w; clear hV1 hb1w)
    | (go_at_call 28; refine (files_Get.calls A1 c1 (filesOf s) x.f0 _ _ _ (Kd.V_reads' HV1.out).2.2 (Kd.V_reads' HV1.out).2.1 HGET.out).mono ?_; rintro e w2 ⟨v2, rfl, hR2, hb2⟩; obtain ⟨A2, c2, rfl⟩ := Kd.R_slice hR2; obtain ⟨hx0, hx1, hx2, hx3⟩ := (HN.out.below (below_step HB1.out hb2)).cell; have HB12 := Aside0.mk hb2; have HB2 := Aside0.mk (below_step HB1.out hb2); clear hR2 hb2)
    | (go_at_call 17; refine (files_Do.calls (fun k => w.heap.size ≤ k) A1 c1 (filesOf s) x.f0 x.f1 x.f2 A3 c3 x.f3 (-1) _ _ _ (V_base (Kd.V_below HV1.out HB12.out)) (Kd.F_now (Kd.F_below HFx.out HB2.out)) hc3 HDO.out).mono ?_; rintro e w3 ⟨v3, rfl, hV3, hb3⟩; obtain ⟨A4, c4, rfl⟩ := Kd.V_slice hV3; have hp0 := (HP.out.below (below_step HB2.out hb3)).cell; obtain ⟨hx0, hx1, hx2, hx3⟩ := (HN.out.below (below_step HB2.out hb3)).cell; have HV3 := Aside0.mk hV3; have HB13 := Aside0.mk (below_step HB12.out hb3); have HB3 := Aside0.mk (below_step HB2.out hb3); clear hV3 hb3)
    | (go_at_call 35; with_reducible refine (files_Size.calls kd A4 c4 _ (sizeF n2) _ (Kd.V_reads' HV3.out).2.2 (Kd.V_reads' HV3.out).2.1 HKD.out).mono ?_; rintro e w4 ⟨rfl, hb4⟩; have hp0 := (HP.out.below (below_step HB3.out hb4)).cell; obtain ⟨hx0, hx1, hx2, hx3⟩ := (HN.out.below (below_step HB3.out hb4)).cell; have hq := (H.out.below (below_step HB3.out hb4)).cells.2.2.2.2.2.1; have HB14 := Aside0.mk (below_step HB13.out hb4); have HB4 := Aside0.mk (below_step HB3.out hb4); clear hb4))
  go_ret
  exact ⟨_, rfl, rfl, ⟨mv, sv, _, H.out.below HB4.out⟩, belowB_of hBw HB4.out⟩
end
end Go.Proofs.Ytcgeioingikeeaa.P
namespace Go.Proofs.Ytcgeioingikeeaa.P
open Go.RowKit Go.Proofs.YtcgeioingikeeaaW.PrintWords Go.Proofs.YtcgeioingikeeaaW.PrintLast Go.Proofs.YtcgeioingikeeaaW.PrintMore
set_option linter.unusedVariables false
set_option linter.unusedSimpArgs false
section
variable {B : Nat → Prop} {g : Nat} {s : SSt} {w : World} {mv sv pv : Value}
set_option maxHeartbeats 4000000 in
set_option maxRecDepth 100000 in
theorem do1_full_t (x : S31) (A3 : Option Addr) (c3 b0 b1 : Nat) {s0 : SSt} {w0 : World} (h0 : RepAt B g s0 w0 mv sv pv) (hk0 : KeptG g w0 w) (hb1 : w0.heap.size ≤ b1) (hB0 : Up B w0.heap.size) (e1 : s.safe = s0.safe) (e2 : s.pend = s0.pend) (e3 : s.fails = s0.fails)
    (h : RepAt B g s w mv sv pv) (hf : Fit s) (hx : x.f3.length ≤ 1000) (hp : VarP w b0 g) (hn : VarW w b1 x A3 c3) (hF : Kd.F (Kd.int .u8) w (fun k => k ≠ g) A3 x.f3.length x.f3) (hc3 : x.f3.length ≤ c3) (hok : (getT (filesOf s) x.f0).2 = true) (he : (doT (filesOf s) x (-1)).2 = 0) (hq1 : s.quota < sizeF (doT (filesOf s) x (-1)).1) (hq4 : sizeF (filesOf s) < sizeF (doT (filesOf s) x (-1)).1) :
    Calls Try.prog 91 #[.pointer (some ⟨b0, 0, none⟩), .pointer (some ⟨b1, 0, none⟩)] w fun e w' => ∃ r, e = .returned (.int .i64 r) ∧ r = (doB s x).2 ∧ Rep B g (doB s x).1 w' ∧ BelS B w w' := by
  obtain ⟨Ap, cp, rfl⟩ := O_slice h.pend
  have hBw : Up B w.heap.size := Up.le hB0 hk0.1
  have hg0 : g < w0.heap.size := blk_lt h0.blk
  have hlen := hf.len
  have hfl : okL (filesOf s) ∧ (filesOf s).length ≤ 1000 := files_ok hf
  have hget := get_f (filesOf s) x.f0 (by omega) hfl.1
  have hdo := doT_f (filesOf s) x (-1) (by omega) hfl.1 (by omega)
  have hdk := doT_ok (filesOf s) x (-1) hfl.1
  obtain ⟨kz, hkz⟩ := size_f (filesOf s) (by omega)
  have hno : ¬ ((getT (filesOf s) x.f0).2 = false ∧ (x.f1 = 2 ∨ x.f1 = 3)) := by simp [hok]
  rw [hok] at hget
  have hE : doE s x = 8 := by unfold doE; rw [if_neg hno, if_neg (by simp [he]), if_pos ⟨hq1, hq4⟩]
  have hB : doB s x = (s, 8) := by unfold doB; rw [hE]; rfl
  rw [hB]
  obtain ⟨⟨n2, r2⟩, hdr⟩ : ∃ r, doT (filesOf s) x (-1) = r := ⟨_, rfl⟩
  rw [hdr] at hdo hdk he hq1 hq4 
  simp only at hdo hdk he hq1 hq4 
  obtain rfl := he
  have hn2 := (hdk rfl).2
  obtain ⟨kd, hkd⟩ := size_f n2 (by omega)
  have HKD := Aside0.mk hkd
  have HEB := Aside0.mk (And.intro hE hB)
  have HDR := Aside0.mk hdr
  clear hok hno hE hB hdr hkd
  have hp0 := hp.cell
  obtain ⟨hx0, hx1, hx2, hx3⟩ := hn.cell
  have H := Aside0.mk h
  have H0 := Aside0.mk h0
  have HK0 := Aside0.mk hk0
  have HE := Aside0.mk (And.intro e1 (And.intro e2 e3))
  have HF := Aside0.mk hf
  have HP := Aside0.mk hp
  have HN := Aside0.mk hn
  have HFx := Aside0.mk hF
  have HGET := Aside0.mk hget
  have HDO := Aside0.mk hdo
  have HDK := Aside0.mk hdk
  have HKZ := Aside0.mk hkz
  clear h h0 hk0 hf hp hn hF hget hdo hdk hkz e1 e2 e3
  go_enter Try.func91, Try.ntmps91
  go_wp2_with (first
    | (go_at_call 42; refine (files_calls ⟨mv, sv, _, H.out⟩ HF.out).mono ?_; rintro e w1 ⟨v1, rfl, hV1, hb1w⟩; obtain ⟨A1, c1, rfl⟩ := Kd.V_slice hV1; obtain ⟨hx0, hx1, hx2, hx3⟩ := (HN.out.below hb1w).cell; have HV1 := Aside0.mk hV1; have HB1 := Aside0.mk hb1w; clear hV1 hb1w)
    | (go_at_call 28; refine (files_Get.calls A1 c1 (filesOf s) x.f0 _ _ _ (Kd.V_reads' HV1.out).2.2 (Kd.V_reads' HV1.out).2.1 HGET.out).mono ?_; rintro e w2 ⟨v2, rfl, hR2, hb2⟩; obtain ⟨A2, c2, rfl⟩ := Kd.R_slice hR2; obtain ⟨hx0, hx1, hx2, hx3⟩ := (HN.out.below (below_step HB1.out hb2)).cell; have HB12 := Aside0.mk hb2; have HB2 := Aside0.mk (below_step HB1.out hb2); clear hR2 hb2)
    | (go_at_call 17; refine (files_Do.calls (fun k => w.heap.size ≤ k) A1 c1 (filesOf s) x.f0 x.f1 x.f2 A3 c3 x.f3 (-1) _ _ _ (V_base (Kd.V_below HV1.out HB12.out)) (Kd.F_now (Kd.F_below HFx.out HB2.out)) hc3 HDO.out).mono ?_; rintro e w3 ⟨v3, rfl, hV3, hb3⟩; obtain ⟨A4, c4, rfl⟩ := Kd.V_slice hV3; have hp0 := (HP.out.below (below_step HB2.out hb3)).cell; obtain ⟨hx0, hx1, hx2, hx3⟩ := (HN.out.below (below_step HB2.out hb3)).cell; have HV3 := Aside0.mk hV3; have HB13 := Aside0.mk (below_step HB12.out hb3); have HB3 := Aside0.mk (below_step HB2.out hb3); clear hV3 hb3)
    | (go_at_call 35; with_reducible refine (files_Size.calls kd A4 c4 _ (sizeF n2) _ (Kd.V_reads' HV3.out).2.2 (Kd.V_reads' HV3.out).2.1 HKD.out).mono ?_; rintro e w4 ⟨rfl, hb4⟩; have hp0 := (HP.out.below (below_step HB3.out hb4)).cell; obtain ⟨hx0, hx1, hx2, hx3⟩ := (HN.out.below (below_step HB3.out hb4)).cell; have hq := (H.out.below (below_step HB3.out hb4)).cells.2.2.2.2.2.1; have HB14 := Aside0.mk (below_step HB13.out hb4); have HB4 := Aside0.mk (below_step HB3.out hb4); clear hb4)
    | (go_at_call 35; with_reducible refine (files_Size.calls kz A1 c1 _ (sizeF (filesOf s)) _ (Kd.V_reads' (Kd.V_below HV1.out HB14.out)).2.2 (Kd.V_reads' HV1.out).2.1 HKZ.out).mono ?_; rintro e w5 ⟨rfl, hb5⟩; have HB5 := Aside0.mk (below_step HB4.out hb5); obtain ⟨hx0, hx1, hx2, hx3⟩ := (HN.out.below (below_step HB4.out hb5)).cell; clear hb5))
  go_ret
  exact ⟨_, rfl, rfl, ⟨mv, sv, _, H.out.below HB5.out⟩, belowB_of hBw HB5.out⟩
end
end Go.Proofs.Ytcgeioingikeeaa.P
namespace Go.Proofs.Ytcgeioingikeeaa.P
open Go.RowKit Go.Proofs.YtcgeioingikeeaaW.PrintWords Go.Proofs.YtcgeioingikeeaaW.PrintLast Go.Proofs.YtcgeioingikeeaaW.PrintMore
set_option linter.unusedVariables false
set_option linter.unusedSimpArgs false
section
variable {B : Nat → Prop} {g : Nat} {s : SSt} {w : World} {mv sv pv : Value}
set_option maxHeartbeats 4000000 in
set_option maxRecDepth 100000 in
theorem do1_in_t (x : S31) (A3 : Option Addr) (c3 b0 b1 : Nat) {s0 : SSt} {w0 : World} (h0 : RepAt B g s0 w0 mv sv pv) (hk0 : KeptG g w0 w) (hb1 : w0.heap.size ≤ b1) (hB0 : Up B w0.heap.size) (e1 : s.safe = s0.safe) (e2 : s.pend = s0.pend) (e3 : s.fails = s0.fails)
    (h : RepAt B g s w mv sv pv) (hf : Fit s) (hx : x.f3.length ≤ 1000) (hp : VarP w b0 g) (hn : VarW w b1 x A3 c3) (hF : Kd.F (Kd.int .u8) w (fun k => k ≠ g) A3 x.f3.length x.f3) (hc3 : x.f3.length ≤ c3) (hok : (getT (filesOf s) x.f0).2 = true) (he : (doT (filesOf s) x (-1)).2 = 0) (hq1 : ¬ s.quota < sizeF (doT (filesOf s) x (-1)).1) :
    Calls Try.prog 91 #[.pointer (some ⟨b0, 0, none⟩), .pointer (some ⟨b1, 0, none⟩)] w fun e w' => ∃ r, e = .returned (.int .i64 r) ∧ r = (doB s x).2 ∧ Rep B g (doB s x).1 w' ∧ BelS B w w' := by
  obtain ⟨Ap, cp, rfl⟩ := O_slice h.pend
  have hBw : Up B w.heap.size := Up.le hB0 hk0.1
  have hg0 : g < w0.heap.size := blk_lt h0.blk
  have hlen := hf.len
  have hfl : okL (filesOf s) ∧ (filesOf s).length ≤ 1000 := files_ok hf
  have hget := get_f (filesOf s) x.f0 (by omega) hfl.1
  have hdo := doT_f (filesOf s) x (-1) (by omega) hfl.1 (by omega)
  have hdk := doT_ok (filesOf s) x (-1) hfl.1
  obtain ⟨kz, hkz⟩ := size_f (filesOf s) (by omega)
  have hno : ¬ ((getT (filesOf s) x.f0).2 = false ∧ (x.f1 = 2 ∨ x.f1 = 3)) := by simp [hok]
  rw [hok] at hget
  have hE : doE s x = 0 := by unfold doE; rw [if_neg hno, if_neg (by simp [he]), if_neg (fun h => hq1 h.1)]
  have hB : doB s x = ({ s with pend := s.pend ++ [x], peak := mx s.peak (sizeF (doT (filesOf s) x (-1)).1) }, 0) := by unfold doB; rw [if_pos hE]
  rw [hB]
  obtain ⟨⟨n2, r2⟩, hdr⟩ : ∃ r, doT (filesOf s) x (-1) = r := ⟨_, rfl⟩
  rw [hdr] at hdo hdk he hq1 ⊢
  simp only at hdo hdk he hq1 ⊢
  obtain rfl := he
  have hn2 := (hdk rfl).2
  obtain ⟨kd, hkd⟩ := size_f n2 (by omega)
  have HKD := Aside0.mk hkd
  have HEB := Aside0.mk (And.intro hE hB)
  have HDR := Aside0.mk hdr
  clear hok hno hE hB hdr hkd
  have hp0 := hp.cell
  obtain ⟨hx0, hx1, hx2, hx3⟩ := hn.cell
  have H := Aside0.mk h
  have H0 := Aside0.mk h0
  have HK0 := Aside0.mk hk0
  have HE := Aside0.mk (And.intro e1 (And.intro e2 e3))
  have HF := Aside0.mk hf
  have HP := Aside0.mk hp
  have HN := Aside0.mk hn
  have HFx := Aside0.mk hF
  have HGET := Aside0.mk hget
  have HDO := Aside0.mk hdo
  have HDK := Aside0.mk hdk
  have HKZ := Aside0.mk hkz
  clear h h0 hk0 hf hp hn hF hget hdo hdk hkz e1 e2 e3
  go_enter Try.func91, Try.ntmps91
  go_wp2_with (first
    | (go_at_call 42; refine (files_calls ⟨mv, sv, _, H.out⟩ HF.out).mono ?_; rintro e w1 ⟨v1, rfl, hV1, hb1w⟩; obtain ⟨A1, c1, rfl⟩ := Kd.V_slice hV1; obtain ⟨hx0, hx1, hx2, hx3⟩ := (HN.out.below hb1w).cell; have HV1 := Aside0.mk hV1; have HB1 := Aside0.mk hb1w; clear hV1 hb1w)
    | (go_at_call 28; refine (files_Get.calls A1 c1 (filesOf s) x.f0 _ _ _ (Kd.V_reads' HV1.out).2.2 (Kd.V_reads' HV1.out).2.1 HGET.out).mono ?_; rintro e w2 ⟨v2, rfl, hR2, hb2⟩; obtain ⟨A2, c2, rfl⟩ := Kd.R_slice hR2; obtain ⟨hx0, hx1, hx2, hx3⟩ := (HN.out.below (below_step HB1.out hb2)).cell; have HB12 := Aside0.mk hb2; have HB2 := Aside0.mk (below_step HB1.out hb2); clear hR2 hb2)
    | (go_at_call 17; refine (files_Do.calls (fun k => w.heap.size ≤ k) A1 c1 (filesOf s) x.f0 x.f1 x.f2 A3 c3 x.f3 (-1) _ _ _ (V_base (Kd.V_below HV1.out HB12.out)) (Kd.F_now (Kd.F_below HFx.out HB2.out)) hc3 HDO.out).mono ?_; rintro e w3 ⟨v3, rfl, hV3, hb3⟩; obtain ⟨A4, c4, rfl⟩ := Kd.V_slice hV3; have hp0 := (HP.out.below (below_step HB2.out hb3)).cell; obtain ⟨hx0, hx1, hx2, hx3⟩ := (HN.out.below (below_step HB2.out hb3)).cell; have HV3 := Aside0.mk hV3; have HB13 := Aside0.mk (below_step HB12.out hb3); have HB3 := Aside0.mk (below_step HB2.out hb3); clear hV3 hb3)
    | (go_at_call 35; with_reducible refine (files_Size.calls kd A4 c4 _ (sizeF n2) _ (Kd.V_reads' HV3.out).2.2 (Kd.V_reads' HV3.out).2.1 HKD.out).mono ?_; rintro e w4 ⟨rfl, hb4⟩; have hp0 := (HP.out.below (below_step HB3.out hb4)).cell; obtain ⟨hx0, hx1, hx2, hx3⟩ := (HN.out.below (below_step HB3.out hb4)).cell; have hq := (H.out.below (below_step HB3.out hb4)).cells.2.2.2.2.2.1; have HB14 := Aside0.mk (below_step HB13.out hb4); have HB4 := Aside0.mk (below_step HB3.out hb4); clear hb4)
    | (go_at_call 61; refine (cloneB (fun k => k ≠ g) A3 c3 x.f3 _ (Kd.F_below HFx.out HB4.out) (by omega)).mono ?_; rintro e w6 ⟨v6, rfl, hO6, hb6⟩; obtain ⟨A6, c6, rfl⟩ := O_slice hO6; have hb26 : Below w.heap.size w w6 := below_step HB4.out hb6; obtain ⟨hx0, hx1, hx2, hx3⟩ := (HN.out.below hb26).cell; have hfb := blk_frozen (HN.out.below hb26) 3; have HO6 := Aside0.mk hO6; have HB6 := Aside0.mk hb26; clear hO6 hb6 hb26))

  have hn6' : w6.heap[b1]? = some (.cells #[.string x.f0, .int .i64 x.f1, .int .i64 x.f2, .slice A3 x.f3.length c3] 31 (0, 0)) := HN.out.below HB6.out
  have hp6' : w6.heap[b0]? = some (.cells #[.pointer (some ⟨g, 0, none⟩)] 58 (0, 0)) := HP.out.below HB6.out
  have hn6 := blk_set hn6' 3 (.slice A6 x.f3.length c6)
  have hF6 : Kd.F (Kd.int .u8) w6 (fun k => w.heap.size ≤ k) A6 x.f3.length x.f3 := Kd.F_mono (O_F_own HO6.out) fun k hk => Nat.le_trans HB4.out.size (O_base HO6.out k hk.symm)
  have hb1w : b1 < w.heap.size := blk_lt HN.out
  have hgb : g ≠ b1 := by omega
  have hsz6 : w.heap.size ≤ w6.heap.size := HB6.out.size
  have hF7 : Kd.F (Kd.int .u8) (w6.setCell ⟨b1, 3, none⟩ (.slice A6 x.f3.length c6)) (fun k => w.heap.size ≤ k) A6 x.f3.length x.f3 := Kd.F_step hF6 fun k hk _ => Below.heap_setCell _ _ _ _ (show k ≠ b1 by omega)
  have hR7 : RepAt B g s (w6.setCell ⟨b1, 3, none⟩ (.slice A6 x.f3.length c6)) mv sv (.slice Ap s.pend.length cp) := H0.out.beside (H.out.below HB6.out) (HK0.out.trans (KeptG.of_below HB6.out)) hb1 (fun k hk => Below.heap_setCell _ _ _ _ hk) HE.out.1 HE.out.2.1 HE.out.2.2
  have hP7 : VarP (w6.setCell ⟨b1, 3, none⟩ (.slice A6 x.f3.length c6)) b0 g := (Below.heap_setCell _ _ _ _ (show b0 ≠ b1 from blk_ne hp6' hn6' (by decide))).trans hp6'
  have hN7 : VarW (w6.setCell ⟨b1, 3, none⟩ (.slice A6 x.f3.length c6)) b1 x A6 c6 := hn6
  have hB7 : BelS B w (w6.setCell ⟨b1, 3, none⟩ (.slice A6 x.f3.length c6)) := belowB_set (belowB_of hBw HB6.out) (hB0 _ hb1) 3 _
  have hs7 : w.heap.size ≤ (w6.setCell ⟨b1, 3, none⟩ (.slice A6 x.f3.length c6)).heap.size := by rw [World.size_setCell]; exact hsz6
  clear hn6 hF6 hp0 hx0 hx1 hx2 hx3 hfb
  generalize w6.setCell ⟨b1, 3, none⟩ (.slice A6 x.f3.length c6) = w7 at hF7 hR7 hP7 hN7 hB7 hs7 ⊢
  obtain ⟨i0, hi, hz0, hz1, hz2⟩ := info_parts info31
  obtain ⟨inner, hown, hreps⟩ := hR7.pend
  have hd7 : Below w7.heap.size w7 w7.drew := below_drew1 (Below.refl _ _)
  refine start_ (n := 11) (S := (fun w' => w'.cell? ⟨b0, 0, none⟩ = some (.pointer (some ⟨g, 0, none⟩)) ∧ w'.cell? ⟨g, 4, none⟩ = some (.slice Ap s.pend.length cp) ∧ w'.cell? ⟨b1, 0, none⟩ = some (.string x.f0) ∧ w'.cell? ⟨b1, 1, none⟩ = some (.int .i64 x.f1) ∧ w'.cell? ⟨b1, 2, none⟩ = some (.int .i64 x.f2) ∧ w'.cell? ⟨b1, 3, none⟩ = some (.slice A6 x.f3.length c6))) (ds := [10]) #[false, false, false, false, false, false, false, false, false, false, false] (by kernel_rfl) rfl rfl ⟨(hP7.below hd7).cell, (hR7.below hd7).cells.2.2.2.2.1, (hN7.below hd7).cell.1, (hN7.below hd7).cell.2.1, (hN7.below hd7).cell.2.2.1, (hN7.below hd7).cell.2.2.2⟩ (fun hHeld => ?_)
  refine take_ (i := 0) (N := some 59) (v := ?_) (a' := ?_) #[true, false, false, false, false, false, false, false, false, false, false] rfl rfl (by kernel_rfl) (fun _ _ _ h => h) (Or.inl ⟨by rfl, ?_⟩) hHeld ?_ ?_
  rotate_left
  · rintro w' ⟨s0, s1, s2, s3, s4, s5⟩
    go_simp
    with_reducible rfl
  rotate_left
  · simp only [Act.put, List.setIfInBounds_toArray, List.set_cons_zero, List.set_cons_succ, i64_w, i32_w]
    rfl
  refine take_ (i := 1) (N := some 60) (v := ?_) (a' := ?_) #[true, true, false, false, false, false, false, false, false, false, false] rfl rfl (by kernel_rfl) (fun _ _ _ h => h) (Or.inl ⟨by rfl, ?_⟩) hHeld ?_ ?_
  rotate_left
  · rintro w' ⟨s0, s1, s2, s3, s4, s5⟩
    go_simp
    with_reducible rfl
  rotate_left
  · simp only [Act.put, List.setIfInBounds_toArray, List.set_cons_zero, List.set_cons_succ, i64_w, i32_w]
    rfl
  refine pure_ (i := 2) (N := some 61) (v := ?_) (a' := ?_) #[true, true, true, false, false, false, false, false, false, false, false] rfl rfl (by kernel_rfl) (fun _ _ _ h => h) (Or.inl ⟨by rfl, ?_⟩) ?_ ?_
  rotate_left
  · intro w'
    go_simp
    with_reducible rfl
  rotate_left
  · simp only [Act.put, List.setIfInBounds_toArray, List.set_cons_zero, List.set_cons_succ, i64_w, i32_w]
    rfl
  refine pure_ (i := 3) (N := some 62) (v := ?_) (a' := ?_) #[true, true, true, true, false, false, false, false, false, false, false] rfl rfl (by kernel_rfl) (fun _ _ _ h => h) (Or.inl ⟨by rfl, ?_⟩) ?_ ?_
  rotate_left
  · intro w'
    go_simp
    with_reducible rfl
  rotate_left
  · simp only [Act.put, List.setIfInBounds_toArray, List.set_cons_zero, List.set_cons_succ, i64_w, i32_w]
    rfl
  refine take_ (i := 4) (N := some 63) (v := ?_) (a' := ?_) #[true, true, true, true, true, false, false, false, false, false, false] rfl rfl (by kernel_rfl) (fun _ _ _ h => h) (Or.inl ⟨by rfl, ?_⟩) hHeld ?_ ?_
  rotate_left
  · rintro w' ⟨s0, s1, s2, s3, s4, s5⟩
    go_simp
    with_reducible rfl
  rotate_left
  · simp only [Act.put, List.setIfInBounds_toArray, List.set_cons_zero, List.set_cons_succ, i64_w, i32_w]
    rfl
  refine take_ (i := 5) (N := some 64) (v := ?_) (a' := ?_) #[true, true, true, true, true, true, false, false, false, false, false] rfl rfl (by kernel_rfl) (fun _ _ _ h => h) (Or.inl ⟨by rfl, ?_⟩) hHeld ?_ ?_
  rotate_left
  · rintro w' ⟨s0, s1, s2, s3, s4, s5⟩
    go_simp
    with_reducible rfl
  rotate_left
  · simp only [Act.put, List.setIfInBounds_toArray, List.set_cons_zero, List.set_cons_succ, i64_w, i32_w]
    rfl
  refine one_ (i := 6) (N := some 65) #[true, true, true, true, true, true, true, false, false, false, false] rfl rfl (by kernel_rfl) (by decide) (fun K hK => ?_)
  refine value_ (w1 := w7.drew.alloc (Obj.cells #[.string x.f0, .int .i64 x.f1, .int .i64 x.f2, .slice A6 x.f3.length c6] 31)) (v := .slice (some ⟨w7.drew.heap.size, 0, none⟩) 1 1) (by rfl) rfl ?_ ?_
  · go_simp
  have h78 : Below w7.heap.size w7 (w7.drew.alloc (Obj.cells #[.string x.f0, .int .i64 x.f1, .int .i64 x.f2, .slice A6 x.f3.length c6] 31)) := below_alloc hd7 _
  have hN8 := (hN7.below h78).cell
  refine hK.out _ _ ⟨(hP7.below h78).cell, (hR7.below h78).cells.2.2.2.2.1, hN8.1, hN8.2.1, hN8.2.2.1, hN8.2.2.2⟩ (fun hHeld => ?_)
  clear hK K
  refine norm_ (a' := ?_) ?_ ?_
  rotate_left
  · show Act.put _ (some 65) _ = _
    simp only [Act.put, List.setIfInBounds_toArray, List.set_cons_zero, List.set_cons_succ, i64_w, i32_w]
    rfl
  refine one_ (i := 7) (N := some 66) #[true, true, true, true, true, true, true, true, false, false, false] rfl rfl (by kernel_rfl) (by decide) (fun K hK => ?_)
  refine step_append_lies _ (by rfl) _ _ _ (by rfl) 0 31 i0 _ 4 56 Try.underlying104 hi hz0 hz1 hz2 rfl (by omega) (.slice Ap s.pend.length cp) s.pend.length inner (by rfl) (pw_own_below hown h78) ⟨w7.drew.heap.size, 0, none⟩ 1 1 [.string x.f0, .int .i64 x.f1, .int .i64 x.f2, .slice A6 x.f3.length c6] (by rfl) (by rfl) (World.news_of_block (cs := #[.string x.f0, .int .i64 x.f1, .int .i64 x.f2, .slice A6 x.f3.length c6]) (t := 31) (fr := (0, 0)) (heap_alloc_new _ _)) (by simp [Value.oneCell']) (by omega) (by unfold maxLen; omega) (by omega) (Nat.zero_le _) _ rfl ?_
  intro gg cap w8 hown8 hgrow hat hlt8
  have hR8 := hR7.below h78
  have hP8 : ∀ b t (cs : Array Value) (f : Nat × Nat), (w7.drew.alloc (Obj.cells #[.string x.f0, .int .i64 x.f1, .int .i64 x.f2, .slice A6 x.f3.length c6] 31)).heap[b]? = some (Obj.cells cs t f) → some b ≠ (Value.slice Ap s.pend.length cp).ownBlock → w8.heap[b]? = some (Obj.cells cs t f) := fun b t cs f hb ht => (hgrow.block b (blk_lt hb) ht).trans hb
  have hne1 : some b1 ≠ (Value.slice Ap s.pend.length cp).ownBlock := fun he => by
    obtain ⟨inner0, hown0, _⟩ := H0.out.pend
    have := own_lt hown0 b1 he.symm
    omega
  have hp8 := hP8 _ _ _ _ (hP7.below h78) (fun he => by exact O_ne hR8.pend (hP7.below h78) (by decide) he.symm)
  have hn8 : VarW w8 b1 x A6 c6 := hP8 _ _ _ _ (hN7.below h78) hne1
  have hg8 := hP8 _ _ _ _ hR8.blk (fun he => hR8.pend_ne he.symm)
  have hN8' := hn8.cell
  refine hK.out _ _ ⟨VarP.cell hp8, by rw [cell_of_row w8 g _ _ 106 (0, 0) hg8]; rfl, hN8'.1, hN8'.2.1, hN8'.2.2.1, hN8'.2.2.2⟩ (fun hHeld => ?_)
  have hO8 : O k31 31 w8 0 (fun k => k ≠ g) (.slice (some ⟨gg, 0, none⟩) (s.pend.length + 1) cap) (s.pend ++ [x]) := by
    refine O_snoc31 (W := w7.drew.alloc (Obj.cells #[.string x.f0, .int .i64 x.f1, .int .i64 x.f2, .slice A6 x.f3.length c6] 31)) (v := .slice Ap s.pend.length cp) (hreps.imp_ fun y c' hy => Kd.FK_below hy h78) ?_ hown8 hgrow ?_
    · refine k31_mkF _ _ x (Kd.V_reads' (O_V HO6.out)).2.1 (Kd.F_mono (Kd.F_below hF7 h78) fun k hk => ⟨?_, fun he => ?_⟩)
      · have := HK0.out.1
        omega
      · obtain ⟨inner0, hown0, _⟩ := H0.out.pend
        have := own_lt hown0 k he.symm
        have := HK0.out.1
        omega
    · rcases hat with hat | hat
      · exact .inl hat.symm
      · exact .inr (by rw [hat]; rfl)
  have hR9 := hR8.setPend hO8 hgrow (hat.elim (fun h => .inl h.symm) (fun h => .inr ⟨gg, rfl, by rw [h]; exact Nat.le_refl _, (Up.le (Up.le hBw hs7) h78.size) _ (by rw [h]; exact Nat.le_refl _)⟩))
  have hB9 : BelS B w w8 := belowB_trans (belowB_trans hB7 (belowB_of (Up.le hBw hs7) h78)) ⟨hgrow.os, hgrow.tape, hgrow.output, hgrow.size, fun k hk hn => hgrow.block k hk (fun he => hn (hR8.own k he.symm))⟩
  clear hK K
  refine norm_ (a' := ?_) ?_ ?_
  rotate_left
  · show Act.put _ (some 66) _ = _
    simp only [Act.put, List.setIfInBounds_toArray, List.set_cons_zero, List.set_cons_succ, i64_w, i32_w]
    rfl
  refine pure_ (i := 8) (N := some 67) (v := ?_) (a' := ?_) #[true, true, true, true, true, true, true, true, true, false, false] rfl rfl (by kernel_rfl) (fun _ _ _ h => h) (Or.inl ⟨by rfl, ?_⟩) ?_ ?_
  rotate_left
  · intro w'
    go_simp
    with_reducible rfl
  rotate_left
  · simp only [Act.put, List.setIfInBounds_toArray, List.set_cons_zero, List.set_cons_succ, i64_w, i32_w]
    rfl
  refine pure_ (i := 9) (N := some 68) (v := ?_) (a' := ?_) #[true, true, true, true, true, true, true, true, true, true, false] rfl rfl (by kernel_rfl) (fun _ _ _ h => h) (Or.inl ⟨by rfl, ?_⟩) ?_ ?_
  rotate_left
  · intro w'
    go_simp
    with_reducible rfl
  rotate_left
  · simp only [Act.put, List.setIfInBounds_toArray, List.set_cons_zero, List.set_cons_succ, i64_w, i32_w]
    rfl
  refine last_ (i := 10) (N := none) #[true, true, true, true, true, true, true, true, true, true, true] rfl rfl (by kernel_rfl) (by decide) (fun K hK => ?_)
  have hfr := blk_frozen hg8 4
  have hcl : w8.cell? ⟨g, 4, none⟩ = some (.slice Ap s.pend.length cp) := by rw [cell_of_row w8 g _ _ 106 (0, 0) hg8]; rfl
  refine skip_ (w1 := ?_) (by rfl) rfl ?_ ?_
  rotate_left
  · go_simp
    rfl
  refine hK.out _ _ ?_
  clear hK K
  refine done_ (by kernel_rfl) ?_
  have hp9 : VarP (w8.setCell ⟨g, 4, none⟩ (.slice (some ⟨gg, 0, none⟩) (s.pend.length + 1) cap)) b0 g := VarP.set hp8 hg8
  have hB10 := belowB_set hB9 H0.out.hg 4 (.slice (some ⟨gg, 0, none⟩) (s.pend.length + 1) cap)
  have HBS := Aside0.mk hB10
  clear hfr hcl hHeld hO8 hown8 hgrow hat hlt8 hreps hown hN8 hN8' hn8 hg8 hp8 hP8 hB9 hB10 hB7 hF7 hR8 hR7 hP7 hN7 h78 hd7 hi hz0 hz1 hz2
  go_wp2_with fail
  generalize w8.setCell ⟨g, 4, none⟩ (.slice (some ⟨gg, 0, none⟩) (s.pend.length + 1) cap) = w9 at hp9 hR9 HBS ⊢
  have hd9 : Below w9.heap.size w9 w9.drew := below_drew1 (Below.refl _ _)
  have hp9d := (hp9.below hd9).cell
  have hc6d := (hR9.below hd9).cells.2.2.2.2.2.2.1
  refine start_ (n := 10) (S := (fun w' => w'.cell? ⟨b0, 0, none⟩ = some (.pointer (some ⟨g, 0, none⟩)) ∧ w'.cell? ⟨g, 6, none⟩ = some (.int .i64 s.peak))) (ds := [9]) #[false, false, false, false, false, false, false, false, false, false] (by kernel_rfl) rfl rfl ⟨hp9d, hc6d⟩ (fun hHeld => ?_)
  refine pure_ (i := 5) (N := some 74) (v := ?_) (a' := ?_) #[false, false, false, false, false, true, false, false, false, false] rfl rfl (by kernel_rfl) (fun _ _ _ h => h) (Or.inl ⟨by rfl, ?_⟩) ?_ ?_
  rotate_left
  · intro w'
    go_simp
    with_reducible rfl
  rotate_left
  · simp only [Act.put, List.setIfInBounds_toArray, List.set_cons_zero, List.set_cons_succ, i64_w, i32_w]
    rfl
  refine take_ (i := 0) (N := some 69) (v := ?_) (a' := ?_) #[true, false, false, false, false, true, false, false, false, false] rfl rfl (by kernel_rfl) (fun _ _ _ h => h) (Or.inl ⟨by rfl, ?_⟩) hHeld ?_ ?_
  rotate_left
  · rintro w' ⟨s0, s1⟩
    go_simp
    with_reducible rfl
  rotate_left
  · simp only [Act.put, List.setIfInBounds_toArray, List.set_cons_zero, List.set_cons_succ, i64_w, i32_w]
    rfl
  refine take_ (i := 1) (N := some 70) (v := ?_) (a' := ?_) #[true, true, false, false, false, true, false, false, false, false] rfl rfl (by kernel_rfl) (fun _ _ _ h => h) (Or.inl ⟨by rfl, ?_⟩) hHeld ?_ ?_
  rotate_left
  · rintro w' ⟨s0, s1⟩
    go_simp
    with_reducible rfl
  rotate_left
  · simp only [Act.put, List.setIfInBounds_toArray, List.set_cons_zero, List.set_cons_succ, i64_w, i32_w]
    rfl
  refine pure_ (i := 2) (N := some 71) (v := ?_) (a' := ?_) #[true, true, true, false, false, true, false, false, false, false] rfl rfl (by kernel_rfl) (fun _ _ _ h => h) (Or.inl ⟨by rfl, ?_⟩) ?_ ?_
  rotate_left
  · intro w'
    go_simp
    with_reducible rfl
  rotate_left
  · simp only [Act.put, List.setIfInBounds_toArray, List.set_cons_zero, List.set_cons_succ, i64_w, i32_w]
    rfl
  refine pure_ (i := 3) (N := some 72) (v := ?_) (a' := ?_) #[true, true, true, true, false, true, false, false, false, false] rfl rfl (by kernel_rfl) (fun _ _ _ h => h) (Or.inl ⟨by rfl, ?_⟩) ?_ ?_
  rotate_left
  · intro w'
    go_simp
    with_reducible rfl
  rotate_left
  · simp only [Act.put, List.setIfInBounds_toArray, List.set_cons_zero, List.set_cons_succ, i64_w, i32_w]
    rfl
  refine take_ (i := 4) (N := some 73) (v := ?_) (a' := ?_) #[true, true, true, true, true, true, false, false, false, false] rfl rfl (by kernel_rfl) (fun _ _ _ h => h) (Or.inl ⟨by rfl, ?_⟩) hHeld ?_ ?_
  rotate_left
  · rintro w' ⟨s0, s1⟩
    go_simp
    with_reducible rfl
  rotate_left
  · simp only [Act.put, List.setIfInBounds_toArray, List.set_cons_zero, List.set_cons_succ, i64_w, i32_w]
    rfl
  refine pure_ (i := 6) (N := some 75) (v := ?_) (a' := ?_) #[true, true, true, true, true, true, true, false, false, false] rfl rfl (by kernel_rfl) (fun _ _ _ h => h) (Or.inl ⟨by rfl, ?_⟩) ?_ ?_
  rotate_left
  · intro w'
    go_simp
    with_reducible rfl
  rotate_left
  · simp only [Act.put, List.setIfInBounds_toArray, List.set_cons_zero, List.set_cons_succ, i64_w, i32_w]
    rfl
  refine pure_ (i := 7) (N := some 76) (v := ?_) (a' := ?_) #[true, true, true, true, true, true, true, true, false, false] rfl rfl (by kernel_rfl) (fun _ _ _ h => h) (Or.inl ⟨by rfl, ?_⟩) ?_ ?_
  rotate_left
  · intro w'
    go_simp
    with_reducible rfl
  rotate_left
  · simp only [Act.put, List.setIfInBounds_toArray, List.set_cons_zero, List.set_cons_succ, i64_w, i32_w]
    rfl
  refine pure_ (i := 8) (N := some 77) (v := ?_) (a' := ?_) #[true, true, true, true, true, true, true, true, true, false] rfl rfl (by kernel_rfl) (fun _ _ _ h => h) (Or.inl ⟨by rfl, ?_⟩) ?_ ?_
  rotate_left
  · intro w'
    go_simp
    with_reducible rfl
  rotate_left
  · simp only [Act.put, List.setIfInBounds_toArray, List.set_cons_zero, List.set_cons_succ, i64_w, i32_w]
    rfl
  refine last_ (i := 9) (N := none) #[true, true, true, true, true, true, true, true, true, true] rfl rfl (by kernel_rfl) (by decide) (fun K hK => ?_)
  have hfr := blk_frozen (hR9.below hd9).blk 6
  have hcl := hc6d
  refine skip_ (w1 := ?_) (by rfl) rfl ?_ ?_
  rotate_left
  · go_simp
    rfl
  refine hK.out _ _ ?_
  clear hK K
  refine done_ (by kernel_rfl) ?_
  have hend : RepAt B g { s with pend := s.pend ++ [x], peak := mx s.peak (sizeF n2) } (w9.drew.setCell ⟨g, 6, none⟩ (.int .i64 (mx s.peak (sizeF n2)))) mv sv (.slice (some ⟨gg, 0, none⟩) (s.pend.length + 1) cap) :=
    (hR9.below hd9).upd (fun k _ hk => Below.heap_setCell _ _ _ _ hk) (blk_set (hR9.below hd9).blk 6 _) rfl rfl rfl
  have hBe : BelS B w (w9.drew.setCell ⟨g, 6, none⟩ (.int .i64 (mx s.peak (sizeF n2)))) := belowB_set (belowB_trans HBS.out (belowB_of (Up.le hBw HBS.out.size) hd9)) H0.out.hg 6 _
  go_wp2_with fail
  all_goals go_ret
  · have hm : mx s.peak (sizeF n2) = sizeF n2 := by unfold mx; split <;> omega
    rw [hm] at hend hBe
    exact ⟨0, rfl, rfl, ⟨_, _, _, by rw [hm]; exact hend⟩, hBe⟩
  · have hm : mx s.peak (sizeF n2) = s.peak := by unfold mx; split <;> omega
    rw [hm] at hend hBe
    exact ⟨0, rfl, rfl, ⟨_, _, _, by rw [hm]; exact hend⟩, hBe⟩
end
end Go.Proofs.Ytcgeioingikeeaa.P
namespace Go.Proofs.Ytcgeioingikeeaa.P
open Go.RowKit Go.Proofs.YtcgeioingikeeaaW.PrintWords Go.Proofs.YtcgeioingikeeaaW.PrintLast Go.Proofs.YtcgeioingikeeaaW.PrintMore
set_option linter.unusedVariables false
set_option linter.unusedSimpArgs false
section
variable {B : Nat → Prop} {g : Nat} {s : SSt} {w : World} {mv sv pv : Value}
set_option maxHeartbeats 4000000 in
set_option maxRecDepth 100000 in
theorem do1_less_t (x : S31) (A3 : Option Addr) (c3 b0 b1 : Nat) {s0 : SSt} {w0 : World} (h0 : RepAt B g s0 w0 mv sv pv) (hk0 : KeptG g w0 w) (hb1 : w0.heap.size ≤ b1) (hB0 : Up B w0.heap.size) (e1 : s.safe = s0.safe) (e2 : s.pend = s0.pend) (e3 : s.fails = s0.fails)
    (h : RepAt B g s w mv sv pv) (hf : Fit s) (hx : x.f3.length ≤ 1000) (hp : VarP w b0 g) (hn : VarW w b1 x A3 c3) (hF : Kd.F (Kd.int .u8) w (fun k => k ≠ g) A3 x.f3.length x.f3) (hc3 : x.f3.length ≤ c3) (hok : (getT (filesOf s) x.f0).2 = true) (he : (doT (filesOf s) x (-1)).2 = 0) (hq1 : s.quota < sizeF (doT (filesOf s) x (-1)).1) (hq4 : ¬ sizeF (filesOf s) < sizeF (doT (filesOf s) x (-1)).1) :
    Calls Try.prog 91 #[.pointer (some ⟨b0, 0, none⟩), .pointer (some ⟨b1, 0, none⟩)] w fun e w' => ∃ r, e = .returned (.int .i64 r) ∧ r = (doB s x).2 ∧ Rep B g (doB s x).1 w' ∧ BelS B w w' := by
  obtain ⟨Ap, cp, rfl⟩ := O_slice h.pend
  have hBw : Up B w.heap.size := Up.le hB0 hk0.1
  have hg0 : g < w0.heap.size := blk_lt h0.blk
  have hlen := hf.len
  have hfl : okL (filesOf s) ∧ (filesOf s).length ≤ 1000 := files_ok hf
  have hget := get_f (filesOf s) x.f0 (by omega) hfl.1
  have hdo := doT_f (filesOf s) x (-1) (by omega) hfl.1 (by omega)
  have hdk := doT_ok (filesOf s) x (-1) hfl.1
  obtain ⟨kz, hkz⟩ := size_f (filesOf s) (by omega)
  have hno : ¬ ((getT (filesOf s) x.f0).2 = false ∧ (x.f1 = 2 ∨ x.f1 = 3)) := by simp [hok]
  rw [hok] at hget
  have hE : doE s x = 0 := by unfold doE; rw [if_neg hno, if_neg (by simp [he]), if_neg (fun h => hq4 h.2)]
  have hB : doB s x = ({ s with pend := s.pend ++ [x], peak := mx s.peak (sizeF (doT (filesOf s) x (-1)).1) }, 0) := by unfold doB; rw [if_pos hE]
  rw [hB]
  obtain ⟨⟨n2, r2⟩, hdr⟩ : ∃ r, doT (filesOf s) x (-1) = r := ⟨_, rfl⟩
  rw [hdr] at hdo hdk he hq1 hq4 ⊢
  simp only at hdo hdk he hq1 hq4 ⊢
  obtain rfl := he
  have hn2 := (hdk rfl).2
  obtain ⟨kd, hkd⟩ := size_f n2 (by omega)
  have HKD := Aside0.mk hkd
  have HEB := Aside0.mk (And.intro hE hB)
  have HDR := Aside0.mk hdr
  clear hok hno hE hB hdr hkd
  have hp0 := hp.cell
  obtain ⟨hx0, hx1, hx2, hx3⟩ := hn.cell
  have H := Aside0.mk h
  have H0 := Aside0.mk h0
  have HK0 := Aside0.mk hk0
  have HE := Aside0.mk (And.intro e1 (And.intro e2 e3))
  have HF := Aside0.mk hf
  have HP := Aside0.mk hp
  have HN := Aside0.mk hn
  have HFx := Aside0.mk hF
  have HGET := Aside0.mk hget
  have HDO := Aside0.mk hdo
  have HDK := Aside0.mk hdk
  have HKZ := Aside0.mk hkz
  clear h h0 hk0 hf hp hn hF hget hdo hdk hkz e1 e2 e3
  go_enter Try.func91, Try.ntmps91
  go_wp2_with (first
    | (go_at_call 42; refine (files_calls ⟨mv, sv, _, H.out⟩ HF.out).mono ?_; rintro e w1 ⟨v1, rfl, hV1, hb1w⟩; obtain ⟨A1, c1, rfl⟩ := Kd.V_slice hV1; obtain ⟨hx0, hx1, hx2, hx3⟩ := (HN.out.below hb1w).cell; have HV1 := Aside0.mk hV1; have HB1 := Aside0.mk hb1w; clear hV1 hb1w)
    | (go_at_call 28; refine (files_Get.calls A1 c1 (filesOf s) x.f0 _ _ _ (Kd.V_reads' HV1.out).2.2 (Kd.V_reads' HV1.out).2.1 HGET.out).mono ?_; rintro e w2 ⟨v2, rfl, hR2, hb2⟩; obtain ⟨A2, c2, rfl⟩ := Kd.R_slice hR2; obtain ⟨hx0, hx1, hx2, hx3⟩ := (HN.out.below (below_step HB1.out hb2)).cell; have HB12 := Aside0.mk hb2; have HB2 := Aside0.mk (below_step HB1.out hb2); clear hR2 hb2)
    | (go_at_call 17; refine (files_Do.calls (fun k => w.heap.size ≤ k) A1 c1 (filesOf s) x.f0 x.f1 x.f2 A3 c3 x.f3 (-1) _ _ _ (V_base (Kd.V_below HV1.out HB12.out)) (Kd.F_now (Kd.F_below HFx.out HB2.out)) hc3 HDO.out).mono ?_; rintro e w3 ⟨v3, rfl, hV3, hb3⟩; obtain ⟨A4, c4, rfl⟩ := Kd.V_slice hV3; have hp0 := (HP.out.below (below_step HB2.out hb3)).cell; obtain ⟨hx0, hx1, hx2, hx3⟩ := (HN.out.below (below_step HB2.out hb3)).cell; have HV3 := Aside0.mk hV3; have HB13 := Aside0.mk (below_step HB12.out hb3); have HB3 := Aside0.mk (below_step HB2.out hb3); clear hV3 hb3)
    | (go_at_call 35; with_reducible refine (files_Size.calls kd A4 c4 _ (sizeF n2) _ (Kd.V_reads' HV3.out).2.2 (Kd.V_reads' HV3.out).2.1 HKD.out).mono ?_; rintro e w4 ⟨rfl, hb4⟩; have hp0 := (HP.out.below (below_step HB3.out hb4)).cell; obtain ⟨hx0, hx1, hx2, hx3⟩ := (HN.out.below (below_step HB3.out hb4)).cell; have hq := (H.out.below (below_step HB3.out hb4)).cells.2.2.2.2.2.1; have HB14 := Aside0.mk (below_step HB13.out hb4); have HB4 := Aside0.mk (below_step HB3.out hb4); clear hb4)
    | (go_at_call 35; with_reducible refine (files_Size.calls kz A1 c1 _ (sizeF (filesOf s)) _ (Kd.V_reads' (Kd.V_below HV1.out HB14.out)).2.2 (Kd.V_reads' HV1.out).2.1 HKZ.out).mono ?_; rintro e w5 ⟨rfl, hb5⟩; have HB5 := Aside0.mk (below_step HB4.out hb5); obtain ⟨hx0, hx1, hx2, hx3⟩ := (HN.out.below (below_step HB4.out hb5)).cell; clear hb5)
    | (go_at_call 61; refine (cloneB (fun k => k ≠ g) A3 c3 x.f3 _ (Kd.F_below HFx.out HB5.out) (by omega)).mono ?_; rintro e w6 ⟨v6, rfl, hO6, hb6⟩; obtain ⟨A6, c6, rfl⟩ := O_slice hO6; have hb26 : Below w.heap.size w w6 := below_step HB5.out hb6; obtain ⟨hx0, hx1, hx2, hx3⟩ := (HN.out.below hb26).cell; have hfb := blk_frozen (HN.out.below hb26) 3; have HO6 := Aside0.mk hO6; have HB6 := Aside0.mk hb26; clear hO6 hb6 hb26))

  have hn6' : w6.heap[b1]? = some (.cells #[.string x.f0, .int .i64 x.f1, .int .i64 x.f2, .slice A3 x.f3.length c3] 31 (0, 0)) := HN.out.below HB6.out
  have hp6' : w6.heap[b0]? = some (.cells #[.pointer (some ⟨g, 0, none⟩)] 58 (0, 0)) := HP.out.below HB6.out
  have hn6 := blk_set hn6' 3 (.slice A6 x.f3.length c6)
  have hF6 : Kd.F (Kd.int .u8) w6 (fun k => w.heap.size ≤ k) A6 x.f3.length x.f3 := Kd.F_mono (O_F_own HO6.out) fun k hk => Nat.le_trans HB5.out.size (O_base HO6.out k hk.symm)
  have hb1w : b1 < w.heap.size := blk_lt HN.out
  have hgb : g ≠ b1 := by omega
  have hsz6 : w.heap.size ≤ w6.heap.size := HB6.out.size
  have hF7 : Kd.F (Kd.int .u8) (w6.setCell ⟨b1, 3, none⟩ (.slice A6 x.f3.length c6)) (fun k => w.heap.size ≤ k) A6 x.f3.length x.f3 := Kd.F_step hF6 fun k hk _ => Below.heap_setCell _ _ _ _ (show k ≠ b1 by omega)
  have hR7 : RepAt B g s (w6.setCell ⟨b1, 3, none⟩ (.slice A6 x.f3.length c6)) mv sv (.slice Ap s.pend.length cp) := H0.out.beside (H.out.below HB6.out) (HK0.out.trans (KeptG.of_below HB6.out)) hb1 (fun k hk => Below.heap_setCell _ _ _ _ hk) HE.out.1 HE.out.2.1 HE.out.2.2
  have hP7 : VarP (w6.setCell ⟨b1, 3, none⟩ (.slice A6 x.f3.length c6)) b0 g := (Below.heap_setCell _ _ _ _ (show b0 ≠ b1 from blk_ne hp6' hn6' (by decide))).trans hp6'
  have hN7 : VarW (w6.setCell ⟨b1, 3, none⟩ (.slice A6 x.f3.length c6)) b1 x A6 c6 := hn6
  have hB7 : BelS B w (w6.setCell ⟨b1, 3, none⟩ (.slice A6 x.f3.length c6)) := belowB_set (belowB_of hBw HB6.out) (hB0 _ hb1) 3 _
  have hs7 : w.heap.size ≤ (w6.setCell ⟨b1, 3, none⟩ (.slice A6 x.f3.length c6)).heap.size := by rw [World.size_setCell]; exact hsz6
  clear hn6 hF6 hp0 hx0 hx1 hx2 hx3 hfb
  generalize w6.setCell ⟨b1, 3, none⟩ (.slice A6 x.f3.length c6) = w7 at hF7 hR7 hP7 hN7 hB7 hs7 ⊢
  obtain ⟨i0, hi, hz0, hz1, hz2⟩ := info_parts info31
  obtain ⟨inner, hown, hreps⟩ := hR7.pend
  have hd7 : Below w7.heap.size w7 w7.drew := below_drew1 (Below.refl _ _)
  refine start_ (n := 11) (S := (fun w' => w'.cell? ⟨b0, 0, none⟩ = some (.pointer (some ⟨g, 0, none⟩)) ∧ w'.cell? ⟨g, 4, none⟩ = some (.slice Ap s.pend.length cp) ∧ w'.cell? ⟨b1, 0, none⟩ = some (.string x.f0) ∧ w'.cell? ⟨b1, 1, none⟩ = some (.int .i64 x.f1) ∧ w'.cell? ⟨b1, 2, none⟩ = some (.int .i64 x.f2) ∧ w'.cell? ⟨b1, 3, none⟩ = some (.slice A6 x.f3.length c6))) (ds := [10]) #[false, false, false, false, false, false, false, false, false, false, false] (by kernel_rfl) rfl rfl ⟨(hP7.below hd7).cell, (hR7.below hd7).cells.2.2.2.2.1, (hN7.below hd7).cell.1, (hN7.below hd7).cell.2.1, (hN7.below hd7).cell.2.2.1, (hN7.below hd7).cell.2.2.2⟩ (fun hHeld => ?_)
  refine take_ (i := 0) (N := some 59) (v := ?_) (a' := ?_) #[true, false, false, false, false, false, false, false, false, false, false] rfl rfl (by kernel_rfl) (fun _ _ _ h => h) (Or.inl ⟨by rfl, ?_⟩) hHeld ?_ ?_
  rotate_left
  · rintro w' ⟨s0, s1, s2, s3, s4, s5⟩
    go_simp
    with_reducible rfl
  rotate_left
  · simp only [Act.put, List.setIfInBounds_toArray, List.set_cons_zero, List.set_cons_succ, i64_w, i32_w]
    rfl
  refine take_ (i := 1) (N := some 60) (v := ?_) (a' := ?_) #[true, true, false, false, false, false, false, false, false, false, false] rfl rfl (by kernel_rfl) (fun _ _ _ h => h) (Or.inl ⟨by rfl, ?_⟩) hHeld ?_ ?_
  rotate_left
  · rintro w' ⟨s0, s1, s2, s3, s4, s5⟩
    go_simp
    with_reducible rfl
  rotate_left
  · simp only [Act.put, List.setIfInBounds_toArray, List.set_cons_zero, List.set_cons_succ, i64_w, i32_w]
    rfl
  refine pure_ (i := 2) (N := some 61) (v := ?_) (a' := ?_) #[true, true, true, false, false, false, false, false, false, false, false] rfl rfl (by kernel_rfl) (fun _ _ _ h => h) (Or.inl ⟨by rfl, ?_⟩) ?_ ?_
  rotate_left
  · intro w'
    go_simp
    with_reducible rfl
  rotate_left
  · simp only [Act.put, List.setIfInBounds_toArray, List.set_cons_zero, List.set_cons_succ, i64_w, i32_w]
    rfl
  refine pure_ (i := 3) (N := some 62) (v := ?_) (a' := ?_) #[true, true, true, true, false, false, false, false, false, false, false] rfl rfl (by kernel_rfl) (fun _ _ _ h => h) (Or.inl ⟨by rfl, ?_⟩) ?_ ?_
  rotate_left
  · intro w'
    go_simp
    with_reducible rfl
  rotate_left
  · simp only [Act.put, List.setIfInBounds_toArray, List.set_cons_zero, List.set_cons_succ, i64_w, i32_w]
    rfl
  refine take_ (i := 4) (N := some 63) (v := ?_) (a' := ?_) #[true, true, true, true, true, false, false, false, false, false, false] rfl rfl (by kernel_rfl) (fun _ _ _ h => h) (Or.inl ⟨by rfl, ?_⟩) hHeld ?_ ?_
  rotate_left
  · rintro w' ⟨s0, s1, s2, s3, s4, s5⟩
    go_simp
    with_reducible rfl
  rotate_left
  · simp only [Act.put, List.setIfInBounds_toArray, List.set_cons_zero, List.set_cons_succ, i64_w, i32_w]
    rfl
  refine take_ (i := 5) (N := some 64) (v := ?_) (a' := ?_) #[true, true, true, true, true, true, false, false, false, false, false] rfl rfl (by kernel_rfl) (fun _ _ _ h => h) (Or.inl ⟨by rfl, ?_⟩) hHeld ?_ ?_
  rotate_left
  · rintro w' ⟨s0, s1, s2, s3, s4, s5⟩
    go_simp
    with_reducible rfl
  rotate_left
  · simp only [Act.put, List.setIfInBounds_toArray, List.set_cons_zero, List.set_cons_succ, i64_w, i32_w]
    rfl
  refine one_ (i := 6) (N := some 65) #[true, true, true, true, true, true, true, false, false, false, false] rfl rfl (by kernel_rfl) (by decide) (fun K hK => ?_)
  refine value_ (w1 := w7.drew.alloc (Obj.cells #[.string x.f0, .int .i64 x.f1, .int .i64 x.f2, .slice A6 x.f3.length c6] 31)) (v := .slice (some ⟨w7.drew.heap.size, 0, none⟩) 1 1) (by rfl) rfl ?_ ?_
  · go_simp
  have h78 : Below w7.heap.size w7 (w7.drew.alloc (Obj.cells #[.string x.f0, .int .i64 x.f1, .int .i64 x.f2, .slice A6 x.f3.length c6] 31)) := below_alloc hd7 _
  have hN8 := (hN7.below h78).cell
  refine hK.out _ _ ⟨(hP7.below h78).cell, (hR7.below h78).cells.2.2.2.2.1, hN8.1, hN8.2.1, hN8.2.2.1, hN8.2.2.2⟩ (fun hHeld => ?_)
  clear hK K
  refine norm_ (a' := ?_) ?_ ?_
  rotate_left
  · show Act.put _ (some 65) _ = _
    simp only [Act.put, List.setIfInBounds_toArray, List.set_cons_zero, List.set_cons_succ, i64_w, i32_w]
    rfl
  refine one_ (i := 7) (N := some 66) #[true, true, true, true, true, true, true, true, false, false, false] rfl rfl (by kernel_rfl) (by decide) (fun K hK => ?_)
  refine step_append_lies _ (by rfl) _ _ _ (by rfl) 0 31 i0 _ 4 56 Try.underlying104 hi hz0 hz1 hz2 rfl (by omega) (.slice Ap s.pend.length cp) s.pend.length inner (by rfl) (pw_own_below hown h78) ⟨w7.drew.heap.size, 0, none⟩ 1 1 [.string x.f0, .int .i64 x.f1, .int .i64 x.f2, .slice A6 x.f3.length c6] (by rfl) (by rfl) (World.news_of_block (cs := #[.string x.f0, .int .i64 x.f1, .int .i64 x.f2, .slice A6 x.f3.length c6]) (t := 31) (fr := (0, 0)) (heap_alloc_new _ _)) (by simp [Value.oneCell']) (by omega) (by unfold maxLen; omega) (by omega) (Nat.zero_le _) _ rfl ?_
  intro gg cap w8 hown8 hgrow hat hlt8
  have hR8 := hR7.below h78
  have hP8 : ∀ b t (cs : Array Value) (f : Nat × Nat), (w7.drew.alloc (Obj.cells #[.string x.f0, .int .i64 x.f1, .int .i64 x.f2, .slice A6 x.f3.length c6] 31)).heap[b]? = some (Obj.cells cs t f) → some b ≠ (Value.slice Ap s.pend.length cp).ownBlock → w8.heap[b]? = some (Obj.cells cs t f) := fun b t cs f hb ht => (hgrow.block b (blk_lt hb) ht).trans hb
  have hne1 : some b1 ≠ (Value.slice Ap s.pend.length cp).ownBlock := fun he => by
    obtain ⟨inner0, hown0, _⟩ := H0.out.pend
    have := own_lt hown0 b1 he.symm
    omega
  have hp8 := hP8 _ _ _ _ (hP7.below h78) (fun he => by exact O_ne hR8.pend (hP7.below h78) (by decide) he.symm)
  have hn8 : VarW w8 b1 x A6 c6 := hP8 _ _ _ _ (hN7.below h78) hne1
  have hg8 := hP8 _ _ _ _ hR8.blk (fun he => hR8.pend_ne he.symm)
  have hN8' := hn8.cell
  refine hK.out _ _ ⟨VarP.cell hp8, by rw [cell_of_row w8 g _ _ 106 (0, 0) hg8]; rfl, hN8'.1, hN8'.2.1, hN8'.2.2.1, hN8'.2.2.2⟩ (fun hHeld => ?_)
  have hO8 : O k31 31 w8 0 (fun k => k ≠ g) (.slice (some ⟨gg, 0, none⟩) (s.pend.length + 1) cap) (s.pend ++ [x]) := by
    refine O_snoc31 (W := w7.drew.alloc (Obj.cells #[.string x.f0, .int .i64 x.f1, .int .i64 x.f2, .slice A6 x.f3.length c6] 31)) (v := .slice Ap s.pend.length cp) (hreps.imp_ fun y c' hy => Kd.FK_below hy h78) ?_ hown8 hgrow ?_
    · refine k31_mkF _ _ x (Kd.V_reads' (O_V HO6.out)).2.1 (Kd.F_mono (Kd.F_below hF7 h78) fun k hk => ⟨?_, fun he => ?_⟩)
      · have := HK0.out.1
        omega
      · obtain ⟨inner0, hown0, _⟩ := H0.out.pend
        have := own_lt hown0 k he.symm
        have := HK0.out.1
        omega
    · rcases hat with hat | hat
      · exact .inl hat.symm
      · exact .inr (by rw [hat]; rfl)
  have hR9 := hR8.setPend hO8 hgrow (hat.elim (fun h => .inl h.symm) (fun h => .inr ⟨gg, rfl, by rw [h]; exact Nat.le_refl _, (Up.le (Up.le hBw hs7) h78.size) _ (by rw [h]; exact Nat.le_refl _)⟩))
  have hB9 : BelS B w w8 := belowB_trans (belowB_trans hB7 (belowB_of (Up.le hBw hs7) h78)) ⟨hgrow.os, hgrow.tape, hgrow.output, hgrow.size, fun k hk hn => hgrow.block k hk (fun he => hn (hR8.own k he.symm))⟩
  clear hK K
  refine norm_ (a' := ?_) ?_ ?_
  rotate_left
  · show Act.put _ (some 66) _ = _
    simp only [Act.put, List.setIfInBounds_toArray, List.set_cons_zero, List.set_cons_succ, i64_w, i32_w]
    rfl
  refine pure_ (i := 8) (N := some 67) (v := ?_) (a' := ?_) #[true, true, true, true, true, true, true, true, true, false, false] rfl rfl (by kernel_rfl) (fun _ _ _ h => h) (Or.inl ⟨by rfl, ?_⟩) ?_ ?_
  rotate_left
  · intro w'
    go_simp
    with_reducible rfl
  rotate_left
  · simp only [Act.put, List.setIfInBounds_toArray, List.set_cons_zero, List.set_cons_succ, i64_w, i32_w]
    rfl
  refine pure_ (i := 9) (N := some 68) (v := ?_) (a' := ?_) #[true, true, true, true, true, true, true, true, true, true, false] rfl rfl (by kernel_rfl) (fun _ _ _ h => h) (Or.inl ⟨by rfl, ?_⟩) ?_ ?_
  rotate_left
  · intro w'
    go_simp
    with_reducible rfl
  rotate_left
  · simp only [Act.put, List.setIfInBounds_toArray, List.set_cons_zero, List.set_cons_succ, i64_w, i32_w]
    rfl
  refine last_ (i := 10) (N := none) #[true, true, true, true, true, true, true, true, true, true, true] rfl rfl (by kernel_rfl) (by decide) (fun K hK => ?_)
  have hfr := blk_frozen hg8 4
  have hcl : w8.cell? ⟨g, 4, none⟩ = some (.slice Ap s.pend.length cp) := by rw [cell_of_row w8 g _ _ 106 (0, 0) hg8]; rfl
  refine skip_ (w1 := ?_) (by rfl) rfl ?_ ?_
  rotate_left
  · go_simp
    rfl
  refine hK.out _ _ ?_
  clear hK K
  refine done_ (by kernel_rfl) ?_
  have hp9 : VarP (w8.setCell ⟨g, 4, none⟩ (.slice (some ⟨gg, 0, none⟩) (s.pend.length + 1) cap)) b0 g := VarP.set hp8 hg8
  have hB10 := belowB_set hB9 H0.out.hg 4 (.slice (some ⟨gg, 0, none⟩) (s.pend.length + 1) cap)
  have HBS := Aside0.mk hB10
  clear hfr hcl hHeld hO8 hown8 hgrow hat hlt8 hreps hown hN8 hN8' hn8 hg8 hp8 hP8 hB9 hB10 hB7 hF7 hR8 hR7 hP7 hN7 h78 hd7 hi hz0 hz1 hz2
  go_wp2_with fail
  generalize w8.setCell ⟨g, 4, none⟩ (.slice (some ⟨gg, 0, none⟩) (s.pend.length + 1) cap) = w9 at hp9 hR9 HBS ⊢
  have hd9 : Below w9.heap.size w9 w9.drew := below_drew1 (Below.refl _ _)
  have hp9d := (hp9.below hd9).cell
  have hc6d := (hR9.below hd9).cells.2.2.2.2.2.2.1
  refine start_ (n := 10) (S := (fun w' => w'.cell? ⟨b0, 0, none⟩ = some (.pointer (some ⟨g, 0, none⟩)) ∧ w'.cell? ⟨g, 6, none⟩ = some (.int .i64 s.peak))) (ds := [9]) #[false, false, false, false, false, false, false, false, false, false] (by kernel_rfl) rfl rfl ⟨hp9d, hc6d⟩ (fun hHeld => ?_)
  refine pure_ (i := 5) (N := some 74) (v := ?_) (a' := ?_) #[false, false, false, false, false, true, false, false, false, false] rfl rfl (by kernel_rfl) (fun _ _ _ h => h) (Or.inl ⟨by rfl, ?_⟩) ?_ ?_
  rotate_left
  · intro w'
    go_simp
    with_reducible rfl
  rotate_left
  · simp only [Act.put, List.setIfInBounds_toArray, List.set_cons_zero, List.set_cons_succ, i64_w, i32_w]
    rfl
  refine take_ (i := 0) (N := some 69) (v := ?_) (a' := ?_) #[true, false, false, false, false, true, false, false, false, false] rfl rfl (by kernel_rfl) (fun _ _ _ h => h) (Or.inl ⟨by rfl, ?_⟩) hHeld ?_ ?_
  rotate_left
  · rintro w' ⟨s0, s1⟩
    go_simp
    with_reducible rfl
  rotate_left
  · simp only [Act.put, List.setIfInBounds_toArray, List.set_cons_zero, List.set_cons_succ, i64_w, i32_w]
    rfl
  refine take_ (i := 1) (N := some 70) (v := ?_) (a' := ?_) #[true, true, false, false, false, true, false, false, false, false] rfl rfl (by kernel_rfl) (fun _ _ _ h => h) (Or.inl ⟨by rfl, ?_⟩) hHeld ?_ ?_
  rotate_left
  · rintro w' ⟨s0, s1⟩
    go_simp
    with_reducible rfl
  rotate_left
  · simp only [Act.put, List.setIfInBounds_toArray, List.set_cons_zero, List.set_cons_succ, i64_w, i32_w]
    rfl
  refine pure_ (i := 2) (N := some 71) (v := ?_) (a' := ?_) #[true, true, true, false, false, true, false, false, false, false] rfl rfl (by kernel_rfl) (fun _ _ _ h => h) (Or.inl ⟨by rfl, ?_⟩) ?_ ?_
  rotate_left
  · intro w'
    go_simp
    with_reducible rfl
  rotate_left
  · simp only [Act.put, List.setIfInBounds_toArray, List.set_cons_zero, List.set_cons_succ, i64_w, i32_w]
    rfl
  refine pure_ (i := 3) (N := some 72) (v := ?_) (a' := ?_) #[true, true, true, true, false, true, false, false, false, false] rfl rfl (by kernel_rfl) (fun _ _ _ h => h) (Or.inl ⟨by rfl, ?_⟩) ?_ ?_
  rotate_left
  · intro w'
    go_simp
    with_reducible rfl
  rotate_left
  · simp only [Act.put, List.setIfInBounds_toArray, List.set_cons_zero, List.set_cons_succ, i64_w, i32_w]
    rfl
  refine take_ (i := 4) (N := some 73) (v := ?_) (a' := ?_) #[true, true, true, true, true, true, false, false, false, false] rfl rfl (by kernel_rfl) (fun _ _ _ h => h) (Or.inl ⟨by rfl, ?_⟩) hHeld ?_ ?_
  rotate_left
  · rintro w' ⟨s0, s1⟩
    go_simp
    with_reducible rfl
  rotate_left
  · simp only [Act.put, List.setIfInBounds_toArray, List.set_cons_zero, List.set_cons_succ, i64_w, i32_w]
    rfl
  refine pure_ (i := 6) (N := some 75) (v := ?_) (a' := ?_) #[true, true, true, true, true, true, true, false, false, false] rfl rfl (by kernel_rfl) (fun _ _ _ h => h) (Or.inl ⟨by rfl, ?_⟩) ?_ ?_
  rotate_left
  · intro w'
    go_simp
    with_reducible rfl
  rotate_left
  · simp only [Act.put, List.setIfInBounds_toArray, List.set_cons_zero, List.set_cons_succ, i64_w, i32_w]
    rfl
  refine pure_ (i := 7) (N := some 76) (v := ?_) (a' := ?_) #[true, true, true, true, true, true, true, true, false, false] rfl rfl (by kernel_rfl) (fun _ _ _ h => h) (Or.inl ⟨by rfl, ?_⟩) ?_ ?_
  rotate_left
  · intro w'
    go_simp
    with_reducible rfl
  rotate_left
  · simp only [Act.put, List.setIfInBounds_toArray, List.set_cons_zero, List.set_cons_succ, i64_w, i32_w]
    rfl
  refine pure_ (i := 8) (N := some 77) (v := ?_) (a' := ?_) #[true, true, true, true, true, true, true, true, true, false] rfl rfl (by kernel_rfl) (fun _ _ _ h => h) (Or.inl ⟨by rfl, ?_⟩) ?_ ?_
  rotate_left
  · intro w'
    go_simp
    with_reducible rfl
  rotate_left
  · simp only [Act.put, List.setIfInBounds_toArray, List.set_cons_zero, List.set_cons_succ, i64_w, i32_w]
    rfl
  refine last_ (i := 9) (N := none) #[true, true, true, true, true, true, true, true, true, true] rfl rfl (by kernel_rfl) (by decide) (fun K hK => ?_)
  have hfr := blk_frozen (hR9.below hd9).blk 6
  have hcl := hc6d
  refine skip_ (w1 := ?_) (by rfl) rfl ?_ ?_
  rotate_left
  · go_simp
    rfl
  refine hK.out _ _ ?_
  clear hK K
  refine done_ (by kernel_rfl) ?_
  have hend : RepAt B g { s with pend := s.pend ++ [x], peak := mx s.peak (sizeF n2) } (w9.drew.setCell ⟨g, 6, none⟩ (.int .i64 (mx s.peak (sizeF n2)))) mv sv (.slice (some ⟨gg, 0, none⟩) (s.pend.length + 1) cap) :=
    (hR9.below hd9).upd (fun k _ hk => Below.heap_setCell _ _ _ _ hk) (blk_set (hR9.below hd9).blk 6 _) rfl rfl rfl
  have hBe : BelS B w (w9.drew.setCell ⟨g, 6, none⟩ (.int .i64 (mx s.peak (sizeF n2)))) := belowB_set (belowB_trans HBS.out (belowB_of (Up.le hBw HBS.out.size) hd9)) H0.out.hg 6 _
  go_wp2_with fail
  all_goals go_ret
  · have hm : mx s.peak (sizeF n2) = sizeF n2 := by unfold mx; split <;> omega
    rw [hm] at hend hBe
    exact ⟨0, rfl, rfl, ⟨_, _, _, by rw [hm]; exact hend⟩, hBe⟩
  · have hm : mx s.peak (sizeF n2) = s.peak := by unfold mx; split <;> omega
    rw [hm] at hend hBe
    exact ⟨0, rfl, rfl, ⟨_, _, _, by rw [hm]; exact hend⟩, hBe⟩
end
end Go.Proofs.Ytcgeioingikeeaa.P
namespace Go.Proofs.Ytcgeioingikeeaa.P
open Go.RowKit Go.Proofs.YtcgeioingikeeaaW.PrintWords Go.Proofs.YtcgeioingikeeaaW.PrintLast Go.Proofs.YtcgeioingikeeaaW.PrintMore
set_option linter.unusedVariables false
set_option linter.unusedSimpArgs false
section
variable {B : Nat → Prop} {g : Nat} {s : SSt} {w : World} {mv sv pv : Value}
set_option maxHeartbeats 4000000 in
set_option maxRecDepth 100000 in
theorem do1_err_f (x : S31) (A3 : Option Addr) (c3 b0 b1 : Nat) {s0 : SSt} {w0 : World} (h0 : RepAt B g s0 w0 mv sv pv) (hk0 : KeptG g w0 w) (hb1 : w0.heap.size ≤ b1) (hB0 : Up B w0.heap.size) (e1 : s.safe = s0.safe) (e2 : s.pend = s0.pend) (e3 : s.fails = s0.fails)
    (h : RepAt B g s w mv sv pv) (hf : Fit s) (hx : x.f3.length ≤ 1000) (hp : VarP w b0 g) (hn : VarW w b1 x A3 c3) (hF : Kd.F (Kd.int .u8) w (fun k => k ≠ g) A3 x.f3.length x.f3) (hc3 : x.f3.length ≤ c3) (hok : (getT (filesOf s) x.f0).2 = false) (h2 : x.f1 ≠ 2) (h3 : x.f1 ≠ 3) (he : (doT (filesOf s) x (-1)).2 ≠ 0) :
    Calls Try.prog 91 #[.pointer (some ⟨b0, 0, none⟩), .pointer (some ⟨b1, 0, none⟩)] w fun e w' => ∃ r, e = .returned (.int .i64 r) ∧ r = (doB s x).2 ∧ Rep B g (doB s x).1 w' ∧ BelS B w w' := by
  obtain ⟨Ap, cp, rfl⟩ := O_slice h.pend
  have hBw : Up B w.heap.size := Up.le hB0 hk0.1
  have hg0 : g < w0.heap.size := blk_lt h0.blk
  have hlen := hf.len
  have hfl : okL (filesOf s) ∧ (filesOf s).length ≤ 1000 := files_ok hf
  have hget := get_f (filesOf s) x.f0 (by omega) hfl.1
  have hdo := doT_f (filesOf s) x (-1) (by omega) hfl.1 (by omega)
  have hdk := doT_ok (filesOf s) x (-1) hfl.1
  obtain ⟨kz, hkz⟩ := size_f (filesOf s) (by omega)
  have hno : ¬ ((getT (filesOf s) x.f0).2 = false ∧ (x.f1 = 2 ∨ x.f1 = 3)) := by simp [h2, h3]
  have hq2 : (x.f1 == 2) = false := by simpa using h2
  have hq3 : (x.f1 == 3) = false := by simpa using h3
  rw [hok] at hget
  have hE : doE s x = (doT (filesOf s) x (-1)).2 := by unfold doE; rw [if_neg hno, if_pos he]
  have hB : doB s x = (s, (doT (filesOf s) x (-1)).2) := by unfold doB; rw [hE, if_neg he]
  rw [hB]
  obtain ⟨⟨n2, r2⟩, hdr⟩ : ∃ r, doT (filesOf s) x (-1) = r := ⟨_, rfl⟩
  rw [hdr] at hdo hdk he ⊢
  simp only at hdo hdk he ⊢
  have hn2 : n2.length ≤ 1001 := by
    have := doT_len (filesOf s) x (-1) hfl.1
    rw [hdr] at this
    simp only at this
    omega
  obtain ⟨kd, hkd⟩ := size_f n2 (by omega)
  have HKD := Aside0.mk hkd
  have hce : (r2 == 0) = false := by simpa using he
  have hcn : (r2 != 0) = true := by simpa using he
  have HEB := Aside0.mk (And.intro hE hB)
  have HDR := Aside0.mk hdr
  clear hok hno h2 h3 hE hB hdr he hkd
  have hp0 := hp.cell
  obtain ⟨hx0, hx1, hx2, hx3⟩ := hn.cell
  have H := Aside0.mk h
  have H0 := Aside0.mk h0
  have HK0 := Aside0.mk hk0
  have HE := Aside0.mk (And.intro e1 (And.intro e2 e3))
  have HF := Aside0.mk hf
  have HP := Aside0.mk hp
  have HN := Aside0.mk hn
  have HFx := Aside0.mk hF
  have HGET := Aside0.mk hget
  have HDO := Aside0.mk hdo
  have HDK := Aside0.mk hdk
  have HKZ := Aside0.mk hkz
  clear h h0 hk0 hf hp hn hF hget hdo hdk hkz e1 e2 e3
  go_enter Try.func91, Try.ntmps91
  go_wp2_with (first
    | (go_at_call 42; refine (files_calls ⟨mv, sv, _, H.out⟩ HF.out).mono ?_; rintro e w1 ⟨v1, rfl, hV1, hb1w⟩; obtain ⟨A1, c1, rfl⟩ := Kd.V_slice hV1; obtain ⟨hx0, hx1, hx2, hx3⟩ := (HN.out.below hb1w).cell; have HV1 := Aside0.mk hV1; have HB1 := Aside0.mk hb1w; clear hV1 hb1w)
    | (go_at_call 28; refine (files_Get.calls A1 c1 (filesOf s) x.f0 _ _ _ (Kd.V_reads' HV1.out).2.2 (Kd.V_reads' HV1.out).2.1 HGET.out).mono ?_; rintro e w2 ⟨v2, rfl, hR2, hb2⟩; obtain ⟨A2, c2, rfl⟩ := Kd.R_slice hR2; obtain ⟨hx0, hx1, hx2, hx3⟩ := (HN.out.below (below_step HB1.out hb2)).cell; have HB12 := Aside0.mk hb2; have HB2 := Aside0.mk (below_step HB1.out hb2); clear hR2 hb2)
    | (go_at_call 17; refine (files_Do.calls (fun k => w.heap.size ≤ k) A1 c1 (filesOf s) x.f0 x.f1 x.f2 A3 c3 x.f3 (-1) _ _ _ (V_base (Kd.V_below HV1.out HB12.out)) (Kd.F_now (Kd.F_below HFx.out HB2.out)) hc3 HDO.out).mono ?_; rintro e w3 ⟨v3, rfl, hV3, hb3⟩; obtain ⟨A4, c4, rfl⟩ := Kd.V_slice hV3; have hp0 := (HP.out.below (below_step HB2.out hb3)).cell; obtain ⟨hx0, hx1, hx2, hx3⟩ := (HN.out.below (below_step HB2.out hb3)).cell; have HV3 := Aside0.mk hV3; have HB13 := Aside0.mk (below_step HB12.out hb3); have HB3 := Aside0.mk (below_step HB2.out hb3); clear hV3 hb3)
    | (go_at_call 35; with_reducible refine (files_Size.calls kd A4 c4 _ (sizeF n2) _ (Kd.V_reads' HV3.out).2.2 (Kd.V_reads' HV3.out).2.1 HKD.out).mono ?_; rintro e w4 ⟨rfl, hb4⟩; have hp0 := (HP.out.below (below_step HB3.out hb4)).cell; obtain ⟨hx0, hx1, hx2, hx3⟩ := (HN.out.below (below_step HB3.out hb4)).cell; have hq := (H.out.below (below_step HB3.out hb4)).cells.2.2.2.2.2.1; have HB14 := Aside0.mk (below_step HB13.out hb4); have HB4 := Aside0.mk (below_step HB3.out hb4); clear hb4))
  go_ret
  exact ⟨_, rfl, rfl, ⟨mv, sv, _, H.out.below HB4.out⟩, belowB_of hBw HB4.out⟩
end
end Go.Proofs.Ytcgeioingikeeaa.P
namespace Go.Proofs.Ytcgeioingikeeaa.P
open Go.RowKit Go.Proofs.YtcgeioingikeeaaW.PrintWords Go.Proofs.YtcgeioingikeeaaW.PrintLast Go.Proofs.YtcgeioingikeeaaW.PrintMore
set_option linter.unusedVariables false
set_option linter.unusedSimpArgs false
section
variable {B : Nat → Prop} {g : Nat} {s : SSt} {w : World} {mv sv pv : Value}
set_option maxHeartbeats 4000000 in
set_option maxRecDepth 100000 in
theorem do1_full_f (x : S31) (A3 : Option Addr) (c3 b0 b1 : Nat) {s0 : SSt} {w0 : World} (h0 : RepAt B g s0 w0 mv sv pv) (hk0 : KeptG g w0 w) (hb1 : w0.heap.size ≤ b1) (hB0 : Up B w0.heap.size) (e1 : s.safe = s0.safe) (e2 : s.pend = s0.pend) (e3 : s.fails = s0.fails)
    (h : RepAt B g s w mv sv pv) (hf : Fit s) (hx : x.f3.length ≤ 1000) (hp : VarP w b0 g) (hn : VarW w b1 x A3 c3) (hF : Kd.F (Kd.int .u8) w (fun k => k ≠ g) A3 x.f3.length x.f3) (hc3 : x.f3.length ≤ c3) (hok : (getT (filesOf s) x.f0).2 = false) (h2 : x.f1 ≠ 2) (h3 : x.f1 ≠ 3) (he : (doT (filesOf s) x (-1)).2 = 0) (hq1 : s.quota < sizeF (doT (filesOf s) x (-1)).1) (hq4 : sizeF (filesOf s) < sizeF (doT (filesOf s) x (-1)).1) :
    Calls Try.prog 91 #[.pointer (some ⟨b0, 0, none⟩), .pointer (some ⟨b1, 0, none⟩)] w fun e w' => ∃ r, e = .returned (.int .i64 r) ∧ r = (doB s x).2 ∧ Rep B g (doB s x).1 w' ∧ BelS B w w' := by
  obtain ⟨Ap, cp, rfl⟩ := O_slice h.pend
  have hBw : Up B w.heap.size := Up.le hB0 hk0.1
  have hg0 : g < w0.heap.size := blk_lt h0.blk
  have hlen := hf.len
  have hfl : okL (filesOf s) ∧ (filesOf s).length ≤ 1000 := files_ok hf
  have hget := get_f (filesOf s) x.f0 (by omega) hfl.1
  have hdo := doT_f (filesOf s) x (-1) (by omega) hfl.1 (by omega)
  have hdk := doT_ok (filesOf s) x (-1) hfl.1
  obtain ⟨kz, hkz⟩ := size_f (filesOf s) (by omega)
  have hno : ¬ ((getT (filesOf s) x.f0).2 = false ∧ (x.f1 = 2 ∨ x.f1 = 3)) := by simp [h2, h3]
  have hq2 : (x.f1 == 2) = false := by simpa using h2
  have hq3 : (x.f1 == 3) = false := by simpa using h3
  rw [hok] at hget
  have hE : doE s x = 8 := by unfold doE; rw [if_neg hno, if_neg (by simp [he]), if_pos ⟨hq1, hq4⟩]
  have hB : doB s x = (s, 8) := by unfold doB; rw [hE]; rfl
  rw [hB]
  obtain ⟨⟨n2, r2⟩, hdr⟩ : ∃ r, doT (filesOf s) x (-1) = r := ⟨_, rfl⟩
  rw [hdr] at hdo hdk he hq1 hq4 
  simp only at hdo hdk he hq1 hq4 
  obtain rfl := he
  have hn2 := (hdk rfl).2
  obtain ⟨kd, hkd⟩ := size_f n2 (by omega)
  have HKD := Aside0.mk hkd
  have HEB := Aside0.mk (And.intro hE hB)
  have HDR := Aside0.mk hdr
  clear hok hno h2 h3 hE hB hdr hkd
  have hp0 := hp.cell
  obtain ⟨hx0, hx1, hx2, hx3⟩ := hn.cell
  have H := Aside0.mk h
  have H0 := Aside0.mk h0
  have HK0 := Aside0.mk hk0
  have HE := Aside0.mk (And.intro e1 (And.intro e2 e3))
  have HF := Aside0.mk hf
  have HP := Aside0.mk hp
  have HN := Aside0.mk hn
  have HFx := Aside0.mk hF
  have HGET := Aside0.mk hget
  have HDO := Aside0.mk hdo
  have HDK := Aside0.mk hdk
  have HKZ := Aside0.mk hkz
  clear h h0 hk0 hf hp hn hF hget hdo hdk hkz e1 e2 e3
  go_enter Try.func91, Try.ntmps91
  go_wp2_with (first
    | (go_at_call 42; refine (files_calls ⟨mv, sv, _, H.out⟩ HF.out).mono ?_; rintro e w1 ⟨v1, rfl, hV1, hb1w⟩; obtain ⟨A1, c1, rfl⟩ := Kd.V_slice hV1; obtain ⟨hx0, hx1, hx2, hx3⟩ := (HN.out.below hb1w).cell; have HV1 := Aside0.mk hV1; have HB1 := Aside0.mk hb1w; clear hV1 hb1w)
    | (go_at_call 28; refine (files_Get.calls A1 c1 (filesOf s) x.f0 _ _ _ (Kd.V_reads' HV1.out).2.2 (Kd.V_reads' HV1.out).2.1 HGET.out).mono ?_; rintro e w2 ⟨v2, rfl, hR2, hb2⟩; obtain ⟨A2, c2, rfl⟩ := Kd.R_slice hR2; obtain ⟨hx0, hx1, hx2, hx3⟩ := (HN.out.below (below_step HB1.out hb2)).cell; have HB12 := Aside0.mk hb2; have HB2 := Aside0.mk (below_step HB1.out hb2); clear hR2 hb2)
    | (go_at_call 17; refine (files_Do.calls (fun k => w.heap.size ≤ k) A1 c1 (filesOf s) x.f0 x.f1 x.f2 A3 c3 x.f3 (-1) _ _ _ (V_base (Kd.V_below HV1.out HB12.out)) (Kd.F_now (Kd.F_below HFx.out HB2.out)) hc3 HDO.out).mono ?_; rintro e w3 ⟨v3, rfl, hV3, hb3⟩; obtain ⟨A4, c4, rfl⟩ := Kd.V_slice hV3; have hp0 := (HP.out.below (below_step HB2.out hb3)).cell; obtain ⟨hx0, hx1, hx2, hx3⟩ := (HN.out.below (below_step HB2.out hb3)).cell; have HV3 := Aside0.mk hV3; have HB13 := Aside0.mk (below_step HB12.out hb3); have HB3 := Aside0.mk (below_step HB2.out hb3); clear hV3 hb3)
    | (go_at_call 35; with_reducible refine (files_Size.calls kd A4 c4 _ (sizeF n2) _ (Kd.V_reads' HV3.out).2.2 (Kd.V_reads' HV3.out).2.1 HKD.out).mono ?_; rintro e w4 ⟨rfl, hb4⟩; have hp0 := (HP.out.below (below_step HB3.out hb4)).cell; obtain ⟨hx0, hx1, hx2, hx3⟩ := (HN.out.below (below_step HB3.out hb4)).cell; have hq := (H.out.below (below_step HB3.out hb4)).cells.2.2.2.2.2.1; have HB14 := Aside0.mk (below_step HB13.out hb4); have HB4 := Aside0.mk (below_step HB3.out hb4); clear hb4)
    | (go_at_call 35; with_reducible refine (files_Size.calls kz A1 c1 _ (sizeF (filesOf s)) _ (Kd.V_reads' (Kd.V_below HV1.out HB14.out)).2.2 (Kd.V_reads' HV1.out).2.1 HKZ.out).mono ?_; rintro e w5 ⟨rfl, hb5⟩; have HB5 := Aside0.mk (below_step HB4.out hb5); obtain ⟨hx0, hx1, hx2, hx3⟩ := (HN.out.below (below_step HB4.out hb5)).cell; clear hb5))
  go_ret
  exact ⟨_, rfl, rfl, ⟨mv, sv, _, H.out.below HB5.out⟩, belowB_of hBw HB5.out⟩
end
end Go.Proofs.Ytcgeioingikeeaa.P
namespace Go.Proofs.Ytcgeioingikeeaa.P
open Go.RowKit Go.Proofs.YtcgeioingikeeaaW.PrintWords Go.Proofs.YtcgeioingikeeaaW.PrintLast Go.Proofs.YtcgeioingikeeaaW.PrintMore
set_option linter.unusedVariables false
set_option linter.unusedSimpArgs false
section
variable {B : Nat → Prop} {g : Nat} {s : SSt} {w : World} {mv sv pv : Value}
set_option maxHeartbeats 4000000 in
set_option maxRecDepth 100000 in
theorem do1_in_f (x : S31) (A3 : Option Addr) (c3 b0 b1 : Nat) {s0 : SSt} {w0 : World} (h0 : RepAt B g s0 w0 mv sv pv) (hk0 : KeptG g w0 w) (hb1 : w0.heap.size ≤ b1) (hB0 : Up B w0.heap.size) (e1 : s.safe = s0.safe) (e2 : s.pend = s0.pend) (e3 : s.fails = s0.fails)
    (h : RepAt B g s w mv sv pv) (hf : Fit s) (hx : x.f3.length ≤ 1000) (hp : VarP w b0 g) (hn : VarW w b1 x A3 c3) (hF : Kd.F (Kd.int .u8) w (fun k => k ≠ g) A3 x.f3.length x.f3) (hc3 : x.f3.length ≤ c3) (hok : (getT (filesOf s) x.f0).2 = false) (h2 : x.f1 ≠ 2) (h3 : x.f1 ≠ 3) (he : (doT (filesOf s) x (-1)).2 = 0) (hq1 : ¬ s.quota < sizeF (doT (filesOf s) x (-1)).1) :
    Calls Try.prog 91 #[.pointer (some ⟨b0, 0, none⟩), .pointer (some ⟨b1, 0, none⟩)] w fun e w' => ∃ r, e = .returned (.int .i64 r) ∧ r = (doB s x).2 ∧ Rep B g (doB s x).1 w' ∧ BelS B w w' := by
  obtain ⟨Ap, cp, rfl⟩ := O_slice h.pend
  have hBw : Up B w.heap.size := Up.le hB0 hk0.1
  have hg0 : g < w0.heap.size := blk_lt h0.blk
  have hlen := hf.len
  have hfl : okL (filesOf s) ∧ (filesOf s).length ≤ 1000 := files_ok hf
  have hget := get_f (filesOf s) x.f0 (by omega) hfl.1
  have hdo := doT_f (filesOf s) x (-1) (by omega) hfl.1 (by omega)
  have hdk := doT_ok (filesOf s) x (-1) hfl.1
  obtain ⟨kz, hkz⟩ := size_f (filesOf s) (by omega)
  have hno : ¬ ((getT (filesOf s) x.f0).2 = false ∧ (x.f1 = 2 ∨ x.f1 = 3)) := by simp [h2, h3]
  have hq2 : (x.f1 == 2) = false := by simpa using h2
  have hq3 : (x.f1 == 3) = false := by simpa using h3
  rw [hok] at hget
  have hE : doE s x = 0 := by unfold doE; rw [if_neg hno, if_neg (by simp [he]), if_neg (fun h => hq1 h.1)]
  have hB : doB s x = ({ s with pend := s.pend ++ [x], peak := mx s.peak (sizeF (doT (filesOf s) x (-1)).1) }, 0) := by unfold doB; rw [if_pos hE]
  rw [hB]
  obtain ⟨⟨n2, r2⟩, hdr⟩ : ∃ r, doT (filesOf s) x (-1) = r := ⟨_, rfl⟩
  rw [hdr] at hdo hdk he hq1 ⊢
  simp only at hdo hdk he hq1 ⊢
  obtain rfl := he
  have hn2 := (hdk rfl).2
  obtain ⟨kd, hkd⟩ := size_f n2 (by omega)
  have HKD := Aside0.mk hkd
  have HEB := Aside0.mk (And.intro hE hB)
  have HDR := Aside0.mk hdr
  clear hok hno h2 h3 hE hB hdr hkd
  have hp0 := hp.cell
  obtain ⟨hx0, hx1, hx2, hx3⟩ := hn.cell
  have H := Aside0.mk h
  have H0 := Aside0.mk h0
  have HK0 := Aside0.mk hk0
  have HE := Aside0.mk (And.intro e1 (And.intro e2 e3))
  have HF := Aside0.mk hf
  have HP := Aside0.mk hp
  have HN := Aside0.mk hn
  have HFx := Aside0.mk hF
  have HGET := Aside0.mk hget
  have HDO := Aside0.mk hdo
  have HDK := Aside0.mk hdk
  have HKZ := Aside0.mk hkz
  clear h h0 hk0 hf hp hn hF hget hdo hdk hkz e1 e2 e3
  go_enter Try.func91, Try.ntmps91
  go_wp2_with (first
    | (go_at_call 42; refine (files_calls ⟨mv, sv, _, H.out⟩ HF.out).mono ?_; rintro e w1 ⟨v1, rfl, hV1, hb1w⟩; obtain ⟨A1, c1, rfl⟩ := Kd.V_slice hV1; obtain ⟨hx0, hx1, hx2, hx3⟩ := (HN.out.below hb1w).cell; have HV1 := Aside0.mk hV1; have HB1 := Aside0.mk hb1w; clear hV1 hb1w)
    | (go_at_call 28; refine (files_Get.calls A1 c1 (filesOf s) x.f0 _ _ _ (Kd.V_reads' HV1.out).2.2 (Kd.V_reads' HV1.out).2.1 HGET.out).mono ?_; rintro e w2 ⟨v2, rfl, hR2, hb2⟩; obtain ⟨A2, c2, rfl⟩ := Kd.R_slice hR2; obtain ⟨hx0, hx1, hx2, hx3⟩ := (HN.out.below (below_step HB1.out hb2)).cell; have HB12 := Aside0.mk hb2; have HB2 := Aside0.mk (below_step HB1.out hb2); clear hR2 hb2)
    | (go_at_call 17; refine (files_Do.calls (fun k => w.heap.size ≤ k) A1 c1 (filesOf s) x.f0 x.f1 x.f2 A3 c3 x.f3 (-1) _ _ _ (V_base (Kd.V_below HV1.out HB12.out)) (Kd.F_now (Kd.F_below HFx.out HB2.out)) hc3 HDO.out).mono ?_; rintro e w3 ⟨v3, rfl, hV3, hb3⟩; obtain ⟨A4, c4, rfl⟩ := Kd.V_slice hV3; have hp0 := (HP.out.below (below_step HB2.out hb3)).cell; obtain ⟨hx0, hx1, hx2, hx3⟩ := (HN.out.below (below_step HB2.out hb3)).cell; have HV3 := Aside0.mk hV3; have HB13 := Aside0.mk (below_step HB12.out hb3); have HB3 := Aside0.mk (below_step HB2.out hb3); clear hV3 hb3)
    | (go_at_call 35; with_reducible refine (files_Size.calls kd A4 c4 _ (sizeF n2) _ (Kd.V_reads' HV3.out).2.2 (Kd.V_reads' HV3.out).2.1 HKD.out).mono ?_; rintro e w4 ⟨rfl, hb4⟩; have hp0 := (HP.out.below (below_step HB3.out hb4)).cell; obtain ⟨hx0, hx1, hx2, hx3⟩ := (HN.out.below (below_step HB3.out hb4)).cell; have hq := (H.out.below (below_step HB3.out hb4)).cells.2.2.2.2.2.1; have HB14 := Aside0.mk (below_step HB13.out hb4); have HB4 := Aside0.mk (below_step HB3.out hb4); clear hb4)
    | (go_at_call 61; refine (cloneB (fun k => k ≠ g) A3 c3 x.f3 _ (Kd.F_below HFx.out HB4.out) (by omega)).mono ?_; rintro e w6 ⟨v6, rfl, hO6, hb6⟩; obtain ⟨A6, c6, rfl⟩ := O_slice hO6; have hb26 : Below w.heap.size w w6 := below_step HB4.out hb6; obtain ⟨hx0, hx1, hx2, hx3⟩ := (HN.out.below hb26).cell; have hfb := blk_frozen (HN.out.below hb26) 3; have HO6 := Aside0.mk hO6; have HB6 := Aside0.mk hb26; clear hO6 hb6 hb26))

  have hn6' : w6.heap[b1]? = some (.cells #[.string x.f0, .int .i64 x.f1, .int .i64 x.f2, .slice A3 x.f3.length c3] 31 (0, 0)) := HN.out.below HB6.out
  have hp6' : w6.heap[b0]? = some (.cells #[.pointer (some ⟨g, 0, none⟩)] 58 (0, 0)) := HP.out.below HB6.out
  have hn6 := blk_set hn6' 3 (.slice A6 x.f3.length c6)
  have hF6 : Kd.F (Kd.int .u8) w6 (fun k => w.heap.size ≤ k) A6 x.f3.length x.f3 := Kd.F_mono (O_F_own HO6.out) fun k hk => Nat.le_trans HB4.out.size (O_base HO6.out k hk.symm)
  have hb1w : b1 < w.heap.size := blk_lt HN.out
  have hgb : g ≠ b1 := by omega
  have hsz6 : w.heap.size ≤ w6.heap.size := HB6.out.size
  have hF7 : Kd.F (Kd.int .u8) (w6.setCell ⟨b1, 3, none⟩ (.slice A6 x.f3.length c6)) (fun k => w.heap.size ≤ k) A6 x.f3.length x.f3 := Kd.F_step hF6 fun k hk _ => Below.heap_setCell _ _ _ _ (show k ≠ b1 by omega)
  have hR7 : RepAt B g s (w6.setCell ⟨b1, 3, none⟩ (.slice A6 x.f3.length c6)) mv sv (.slice Ap s.pend.length cp) := H0.out.beside (H.out.below HB6.out) (HK0.out.trans (KeptG.of_below HB6.out)) hb1 (fun k hk => Below.heap_setCell _ _ _ _ hk) HE.out.1 HE.out.2.1 HE.out.2.2
  have hP7 : VarP (w6.setCell ⟨b1, 3, none⟩ (.slice A6 x.f3.length c6)) b0 g := (Below.heap_setCell _ _ _ _ (show b0 ≠ b1 from blk_ne hp6' hn6' (by decide))).trans hp6'
  have hN7 : VarW (w6.setCell ⟨b1, 3, none⟩ (.slice A6 x.f3.length c6)) b1 x A6 c6 := hn6
  have hB7 : BelS B w (w6.setCell ⟨b1, 3, none⟩ (.slice A6 x.f3.length c6)) := belowB_set (belowB_of hBw HB6.out) (hB0 _ hb1) 3 _
  have hs7 : w.heap.size ≤ (w6.setCell ⟨b1, 3, none⟩ (.slice A6 x.f3.length c6)).heap.size := by rw [World.size_setCell]; exact hsz6
  clear hn6 hF6 hp0 hx0 hx1 hx2 hx3 hfb
  generalize w6.setCell ⟨b1, 3, none⟩ (.slice A6 x.f3.length c6) = w7 at hF7 hR7 hP7 hN7 hB7 hs7 ⊢
  obtain ⟨i0, hi, hz0, hz1, hz2⟩ := info_parts info31
  obtain ⟨inner, hown, hreps⟩ := hR7.pend
  have hd7 : Below w7.heap.size w7 w7.drew := below_drew1 (Below.refl _ _)
  refine start_ (n := 11) (S := (fun w' => w'.cell? ⟨b0, 0, none⟩ = some (.pointer (some ⟨g, 0, none⟩)) ∧ w'.cell? ⟨g, 4, none⟩ = some (.slice Ap s.pend.length cp) ∧ w'.cell? ⟨b1, 0, none⟩ = some (.string x.f0) ∧ w'.cell? ⟨b1, 1, none⟩ = some (.int .i64 x.f1) ∧ w'.cell? ⟨b1, 2, none⟩ = some (.int .i64 x.f2) ∧ w'.cell? ⟨b1, 3, none⟩ = some (.slice A6 x.f3.length c6))) (ds := [10]) #[false, false, false, false, false, false, false, false, false, false, false] (by kernel_rfl) rfl rfl ⟨(hP7.below hd7).cell, (hR7.below hd7).cells.2.2.2.2.1, (hN7.below hd7).cell.1, (hN7.below hd7).cell.2.1, (hN7.below hd7).cell.2.2.1, (hN7.below hd7).cell.2.2.2⟩ (fun hHeld => ?_)
  refine take_ (i := 0) (N := some 59) (v := ?_) (a' := ?_) #[true, false, false, false, false, false, false, false, false, false, false] rfl rfl (by kernel_rfl) (fun _ _ _ h => h) (Or.inl ⟨by rfl, ?_⟩) hHeld ?_ ?_
  rotate_left
  · rintro w' ⟨s0, s1, s2, s3, s4, s5⟩
    go_simp
    with_reducible rfl
  rotate_left
  · simp only [Act.put, List.setIfInBounds_toArray, List.set_cons_zero, List.set_cons_succ, i64_w, i32_w]
    rfl
  refine take_ (i := 1) (N := some 60) (v := ?_) (a' := ?_) #[true, true, false, false, false, false, false, false, false, false, false] rfl rfl (by kernel_rfl) (fun _ _ _ h => h) (Or.inl ⟨by rfl, ?_⟩) hHeld ?_ ?_
  rotate_left
  · rintro w' ⟨s0, s1, s2, s3, s4, s5⟩
    go_simp
    with_reducible rfl
  rotate_left
  · simp only [Act.put, List.setIfInBounds_toArray, List.set_cons_zero, List.set_cons_succ, i64_w, i32_w]
    rfl
  refine pure_ (i := 2) (N := some 61) (v := ?_) (a' := ?_) #[true, true, true, false, false, false, false, false, false, false, false] rfl rfl (by kernel_rfl) (fun _ _ _ h => h) (Or.inl ⟨by rfl, ?_⟩) ?_ ?_
  rotate_left
  · intro w'
    go_simp
    with_reducible rfl
  rotate_left
  · simp only [Act.put, List.setIfInBounds_toArray, List.set_cons_zero, List.set_cons_succ, i64_w, i32_w]
    rfl
  refine pure_ (i := 3) (N := some 62) (v := ?_) (a' := ?_) #[true, true, true, true, false, false, false, false, false, false, false] rfl rfl (by kernel_rfl) (fun _ _ _ h => h) (Or.inl ⟨by rfl, ?_⟩) ?_ ?_
  rotate_left
  · intro w'
    go_simp
    with_reducible rfl
  rotate_left
  · simp only [Act.put, List.setIfInBounds_toArray, List.set_cons_zero, List.set_cons_succ, i64_w, i32_w]
    rfl
  refine take_ (i := 4) (N := some 63) (v := ?_) (a' := ?_) #[true, true, true, true, true, false, false, false, false, false, false] rfl rfl (by kernel_rfl) (fun _ _ _ h => h) (Or.inl ⟨by rfl, ?_⟩) hHeld ?_ ?_
  rotate_left
  · rintro w' ⟨s0, s1, s2, s3, s4, s5⟩
    go_simp
    with_reducible rfl
  rotate_left
  · simp only [Act.put, List.setIfInBounds_toArray, List.set_cons_zero, List.set_cons_succ, i64_w, i32_w]
    rfl
  refine take_ (i := 5) (N := some 64) (v := ?_) (a' := ?_) #[true, true, true, true, true, true, false, false, false, false, false] rfl rfl (by kernel_rfl) (fun _ _ _ h => h) (Or.inl ⟨by rfl, ?_⟩) hHeld ?_ ?_
  rotate_left
  · rintro w' ⟨s0, s1, s2, s3, s4, s5⟩
    go_simp
    with_reducible rfl
  rotate_left
  · simp only [Act.put, List.setIfInBounds_toArray, List.set_cons_zero, List.set_cons_succ, i64_w, i32_w]
    rfl
  refine one_ (i := 6) (N := some 65) #[true, true, true, true, true, true, true, false, false, false, false] rfl rfl (by kernel_rfl) (by decide) (fun K hK => ?_)
  refine value_ (w1 := w7.drew.alloc (Obj.cells #[.string x.f0, .int .i64 x.f1, .int .i64 x.f2, .slice A6 x.f3.length c6] 31)) (v := .slice (some ⟨w7.drew.heap.size, 0, none⟩) 1 1) (by rfl) rfl ?_ ?_
  · go_simp
  have h78 : Below w7.heap.size w7 (w7.drew.alloc (Obj.cells #[.string x.f0, .int .i64 x.f1, .int .i64 x.f2, .slice A6 x.f3.length c6] 31)) := below_alloc hd7 _
  have hN8 := (hN7.below h78).cell
  refine hK.out _ _ ⟨(hP7.below h78).cell, (hR7.below h78).cells.2.2.2.2.1, hN8.1, hN8.2.1, hN8.2.2.1, hN8.2.2.2⟩ (fun hHeld => ?_)
  clear hK K
  refine norm_ (a' := ?_) ?_ ?_
  rotate_left
  · show Act.put _ (some 65) _ = _
    simp only [Act.put, List.setIfInBounds_toArray, List.set_cons_zero, List.set_cons_succ, i64_w, i32_w]
    rfl
  refine one_ (i := 7) (N := some 66) #[true, true, true, true, true, true, true, true, false, false, false] rfl rfl (by kernel_rfl) (by decide) (fun K hK => ?_)
  refine step_append_lies _ (by rfl) _ _ _ (by rfl) 0 31 i0 _ 4 56 Try.underlying104 hi hz0 hz1 hz2 rfl (by omega) (.slice Ap s.pend.length cp) s.pend.length inner (by rfl) (pw_own_below hown h78) ⟨w7.drew.heap.size, 0, none⟩ 1 1 [.string x.f0, .int .i64 x.f1, .int .i64 x.f2, .slice A6 x.f3.length c6] (by rfl) (by rfl) (World.news_of_block (cs := #[.string x.f0, .int .i64 x.f1, .int .i64 x.f2, .slice A6 x.f3.length c6]) (t := 31) (fr := (0, 0)) (heap_alloc_new _ _)) (by simp [Value.oneCell']) (by omega) (by unfold maxLen; omega) (by omega) (Nat.zero_le _) _ rfl ?_
  intro gg cap w8 hown8 hgrow hat hlt8
  have hR8 := hR7.below h78
  have hP8 : ∀ b t (cs : Array Value) (f : Nat × Nat), (w7.drew.alloc (Obj.cells #[.string x.f0, .int .i64 x.f1, .int .i64 x.f2, .slice A6 x.f3.length c6] 31)).heap[b]? = some (Obj.cells cs t f) → some b ≠ (Value.slice Ap s.pend.length cp).ownBlock → w8.heap[b]? = some (Obj.cells cs t f) := fun b t cs f hb ht => (hgrow.block b (blk_lt hb) ht).trans hb
  have hne1 : some b1 ≠ (Value.slice Ap s.pend.length cp).ownBlock := fun he => by
    obtain ⟨inner0, hown0, _⟩ := H0.out.pend
    have := own_lt hown0 b1 he.symm
    omega
  have hp8 := hP8 _ _ _ _ (hP7.below h78) (fun he => by exact O_ne hR8.pend (hP7.below h78) (by decide) he.symm)
  have hn8 : VarW w8 b1 x A6 c6 := hP8 _ _ _ _ (hN7.below h78) hne1
  have hg8 := hP8 _ _ _ _ hR8.blk (fun he => hR8.pend_ne he.symm)
  have hN8' := hn8.cell
  refine hK.out _ _ ⟨VarP.cell hp8, by rw [cell_of_row w8 g _ _ 106 (0, 0) hg8]; rfl, hN8'.1, hN8'.2.1, hN8'.2.2.1, hN8'.2.2.2⟩ (fun hHeld => ?_)
  have hO8 : O k31 31 w8 0 (fun k => k ≠ g) (.slice (some ⟨gg, 0, none⟩) (s.pend.length + 1) cap) (s.pend ++ [x]) := by
    refine O_snoc31 (W := w7.drew.alloc (Obj.cells #[.string x.f0, .int .i64 x.f1, .int .i64 x.f2, .slice A6 x.f3.length c6] 31)) (v := .slice Ap s.pend.length cp) (hreps.imp_ fun y c' hy => Kd.FK_below hy h78) ?_ hown8 hgrow ?_
    · refine k31_mkF _ _ x (Kd.V_reads' (O_V HO6.out)).2.1 (Kd.F_mono (Kd.F_below hF7 h78) fun k hk => ⟨?_, fun he => ?_⟩)
      · have := HK0.out.1
        omega
      · obtain ⟨inner0, hown0, _⟩ := H0.out.pend
        have := own_lt hown0 k he.symm
        have := HK0.out.1
        omega
    · rcases hat with hat | hat
      · exact .inl hat.symm
      · exact .inr (by rw [hat]; rfl)
  have hR9 := hR8.setPend hO8 hgrow (hat.elim (fun h => .inl h.symm) (fun h => .inr ⟨gg, rfl, by rw [h]; exact Nat.le_refl _, (Up.le (Up.le hBw hs7) h78.size) _ (by rw [h]; exact Nat.le_refl _)⟩))
  have hB9 : BelS B w w8 := belowB_trans (belowB_trans hB7 (belowB_of (Up.le hBw hs7) h78)) ⟨hgrow.os, hgrow.tape, hgrow.output, hgrow.size, fun k hk hn => hgrow.block k hk (fun he => hn (hR8.own k he.symm))⟩
  clear hK K
  refine norm_ (a' := ?_) ?_ ?_
  rotate_left
  · show Act.put _ (some 66) _ = _
    simp only [Act.put, List.setIfInBounds_toArray, List.set_cons_zero, List.set_cons_succ, i64_w, i32_w]
    rfl
  refine pure_ (i := 8) (N := some 67) (v := ?_) (a' := ?_) #[true, true, true, true, true, true, true, true, true, false, false] rfl rfl (by kernel_rfl) (fun _ _ _ h => h) (Or.inl ⟨by rfl, ?_⟩) ?_ ?_
  rotate_left
  · intro w'
    go_simp
    with_reducible rfl
  rotate_left
  · simp only [Act.put, List.setIfInBounds_toArray, List.set_cons_zero, List.set_cons_succ, i64_w, i32_w]
    rfl
  refine pure_ (i := 9) (N := some 68) (v := ?_) (a' := ?_) #[true, true, true, true, true, true, true, true, true, true, false] rfl rfl (by kernel_rfl) (fun _ _ _ h => h) (Or.inl ⟨by rfl, ?_⟩) ?_ ?_
  rotate_left
  · intro w'
    go_simp
    with_reducible rfl
  rotate_left
  · simp only [Act.put, List.setIfInBounds_toArray, List.set_cons_zero, List.set_cons_succ, i64_w, i32_w]
    rfl
  refine last_ (i := 10) (N := none) #[true, true, true, true, true, true, true, true, true, true, true] rfl rfl (by kernel_rfl) (by decide) (fun K hK => ?_)
  have hfr := blk_frozen hg8 4
  have hcl : w8.cell? ⟨g, 4, none⟩ = some (.slice Ap s.pend.length cp) := by rw [cell_of_row w8 g _ _ 106 (0, 0) hg8]; rfl
  refine skip_ (w1 := ?_) (by rfl) rfl ?_ ?_
  rotate_left
  · go_simp
    rfl
  refine hK.out _ _ ?_
  clear hK K
  refine done_ (by kernel_rfl) ?_
  have hp9 : VarP (w8.setCell ⟨g, 4, none⟩ (.slice (some ⟨gg, 0, none⟩) (s.pend.length + 1) cap)) b0 g := VarP.set hp8 hg8
  have hB10 := belowB_set hB9 H0.out.hg 4 (.slice (some ⟨gg, 0, none⟩) (s.pend.length + 1) cap)
  have HBS := Aside0.mk hB10
  clear hfr hcl hHeld hO8 hown8 hgrow hat hlt8 hreps hown hN8 hN8' hn8 hg8 hp8 hP8 hB9 hB10 hB7 hF7 hR8 hR7 hP7 hN7 h78 hd7 hi hz0 hz1 hz2
  go_wp2_with fail
  generalize w8.setCell ⟨g, 4, none⟩ (.slice (some ⟨gg, 0, none⟩) (s.pend.length + 1) cap) = w9 at hp9 hR9 HBS ⊢
  have hd9 : Below w9.heap.size w9 w9.drew := below_drew1 (Below.refl _ _)
  have hp9d := (hp9.below hd9).cell
  have hc6d := (hR9.below hd9).cells.2.2.2.2.2.2.1
  refine start_ (n := 10) (S := (fun w' => w'.cell? ⟨b0, 0, none⟩ = some (.pointer (some ⟨g, 0, none⟩)) ∧ w'.cell? ⟨g, 6, none⟩ = some (.int .i64 s.peak))) (ds := [9]) #[false, false, false, false, false, false, false, false, false, false] (by kernel_rfl) rfl rfl ⟨hp9d, hc6d⟩ (fun hHeld => ?_)
  refine pure_ (i := 5) (N := some 74) (v := ?_) (a' := ?_) #[false, false, false, false, false, true, false, false, false, false] rfl rfl (by kernel_rfl) (fun _ _ _ h => h) (Or.inl ⟨by rfl, ?_⟩) ?_ ?_
  rotate_left
  · intro w'
    go_simp
    with_reducible rfl
  rotate_left
  · simp only [Act.put, List.setIfInBounds_toArray, List.set_cons_zero, List.set_cons_succ, i64_w, i32_w]
    rfl
  refine take_ (i := 0) (N := some 69) (v := ?_) (a' := ?_) #[true, false, false, false, false, true, false, false, false, false] rfl rfl (by kernel_rfl) (fun _ _ _ h => h) (Or.inl ⟨by rfl, ?_⟩) hHeld ?_ ?_
  rotate_left
  · rintro w' ⟨s0, s1⟩
    go_simp
    with_reducible rfl
  rotate_left
  · simp only [Act.put, List.setIfInBounds_toArray, List.set_cons_zero, List.set_cons_succ, i64_w, i32_w]
    rfl
  refine take_ (i := 1) (N := some 70) (v := ?_) (a' := ?_) #[true, true, false, false, false, true, false, false, false, false] rfl rfl (by kernel_rfl) (fun _ _ _ h => h) (Or.inl ⟨by rfl, ?_⟩) hHeld ?_ ?_
  rotate_left
  · rintro w' ⟨s0, s1⟩
    go_simp
    with_reducible rfl
  rotate_left
  · simp only [Act.put, List.setIfInBounds_toArray, List.set_cons_zero, List.set_cons_succ, i64_w, i32_w]
    rfl
  refine pure_ (i := 2) (N := some 71) (v := ?_) (a' := ?_) #[true, true, true, false, false, true, false, false, false, false] rfl rfl (by kernel_rfl) (fun _ _ _ h => h) (Or.inl ⟨by rfl, ?_⟩) ?_ ?_
  rotate_left
  · intro w'
    go_simp
    with_reducible rfl
  rotate_left
  · simp only [Act.put, List.setIfInBounds_toArray, List.set_cons_zero, List.set_cons_succ, i64_w, i32_w]
    rfl
  refine pure_ (i := 3) (N := some 72) (v := ?_) (a' := ?_) #[true, true, true, true, false, true, false, false, false, false] rfl rfl (by kernel_rfl) (fun _ _ _ h => h) (Or.inl ⟨by rfl, ?_⟩) ?_ ?_
  rotate_left
  · intro w'
    go_simp
    with_reducible rfl
  rotate_left
  · simp only [Act.put, List.setIfInBounds_toArray, List.set_cons_zero, List.set_cons_succ, i64_w, i32_w]
    rfl
  refine take_ (i := 4) (N := some 73) (v := ?_) (a' := ?_) #[true, true, true, true, true, true, false, false, false, false] rfl rfl (by kernel_rfl) (fun _ _ _ h => h) (Or.inl ⟨by rfl, ?_⟩) hHeld ?_ ?_
  rotate_left
  · rintro w' ⟨s0, s1⟩
    go_simp
    with_reducible rfl
  rotate_left
  · simp only [Act.put, List.setIfInBounds_toArray, List.set_cons_zero, List.set_cons_succ, i64_w, i32_w]
    rfl
  refine pure_ (i := 6) (N := some 75) (v := ?_) (a' := ?_) #[true, true, true, true, true, true, true, false, false, false] rfl rfl (by kernel_rfl) (fun _ _ _ h => h) (Or.inl ⟨by rfl, ?_⟩) ?_ ?_
  rotate_left
  · intro w'
    go_simp
    with_reducible rfl
  rotate_left
  · simp only [Act.put, List.setIfInBounds_toArray, List.set_cons_zero, List.set_cons_succ, i64_w, i32_w]
    rfl
  refine pure_ (i := 7) (N := some 76) (v := ?_) (a' := ?_) #[true, true, true, true, true, true, true, true, false, false] rfl rfl (by kernel_rfl) (fun _ _ _ h => h) (Or.inl ⟨by rfl, ?_⟩) ?_ ?_
  rotate_left
  · intro w'
    go_simp
    with_reducible rfl
  rotate_left
  · simp only [Act.put, List.setIfInBounds_toArray, List.set_cons_zero, List.set_cons_succ, i64_w, i32_w]
    rfl
  refine pure_ (i := 8) (N := some 77) (v := ?_) (a' := ?_) #[true, true, true, true, true, true, true, true, true, false] rfl rfl (by kernel_rfl) (fun _ _ _ h => h) (Or.inl ⟨by rfl, ?_⟩) ?_ ?_
  rotate_left
  · intro w'
    go_simp
    with_reducible rfl
  rotate_left
  · simp only [Act.put, List.setIfInBounds_toArray, List.set_cons_zero, List.set_cons_succ, i64_w, i32_w]
    rfl
  refine last_ (i := 9) (N := none) #[true, true, true, true, true, true, true, true, true, true] rfl rfl (by kernel_rfl) (by decide) (fun K hK => ?_)
  have hfr := blk_frozen (hR9.below hd9).blk 6
  have hcl := hc6d
  refine skip_ (w1 := ?_) (by rfl) rfl ?_ ?_
  rotate_left
  · go_simp
    rfl
  refine hK.out _ _ ?_
  clear hK K
  refine done_ (by kernel_rfl) ?_
  have hend : RepAt B g { s with pend := s.pend ++ [x], peak := mx s.peak (sizeF n2) } (w9.drew.setCell ⟨g, 6, none⟩ (.int .i64 (mx s.peak (sizeF n2)))) mv sv (.slice (some ⟨gg, 0, none⟩) (s.pend.length + 1) cap) :=
    (hR9.below hd9).upd (fun k _ hk => Below.heap_setCell _ _ _ _ hk) (blk_set (hR9.below hd9).blk 6 _) rfl rfl rfl
  have hBe : BelS B w (w9.drew.setCell ⟨g, 6, none⟩ (.int .i64 (mx s.peak (sizeF n2)))) := belowB_set (belowB_trans HBS.out (belowB_of (Up.le hBw HBS.out.size) hd9)) H0.out.hg 6 _
  go_wp2_with fail
  all_goals go_ret
  · have hm : mx s.peak (sizeF n2) = sizeF n2 := by unfold mx; split <;> omega
    rw [hm] at hend hBe
    exact ⟨0, rfl, rfl, ⟨_, _, _, by rw [hm]; exact hend⟩, hBe⟩
  · have hm : mx s.peak (sizeF n2) = s.peak := by unfold mx; split <;> omega
    rw [hm] at hend hBe
    exact ⟨0, rfl, rfl, ⟨_, _, _, by rw [hm]; exact hend⟩, hBe⟩
end
end Go.Proofs.Ytcgeioingikeeaa.P
namespace Go.Proofs.Ytcgeioingikeeaa.P
open Go.RowKit Go.Proofs.YtcgeioingikeeaaW.PrintWords Go.Proofs.YtcgeioingikeeaaW.PrintLast Go.Proofs.YtcgeioingikeeaaW.PrintMore
set_option linter.unusedVariables false
set_option linter.unusedSimpArgs false
section
variable {B : Nat → Prop} {g : Nat} {s : SSt} {w : World} {mv sv pv : Value}
set_option maxHeartbeats 4000000 in
set_option maxRecDepth 100000 in
theorem do1_less_f (x : S31) (A3 : Option Addr) (c3 b0 b1 : Nat) {s0 : SSt} {w0 : World} (h0 : RepAt B g s0 w0 mv sv pv) (hk0 : KeptG g w0 w) (hb1 : w0.heap.size ≤ b1) (hB0 : Up B w0.heap.size) (e1 : s.safe = s0.safe) (e2 : s.pend = s0.pend) (e3 : s.fails = s0.fails)
    (h : RepAt B g s w mv sv pv) (hf : Fit s) (hx : x.f3.length ≤ 1000) (hp : VarP w b0 g) (hn : VarW w b1 x A3 c3) (hF : Kd.F (Kd.int .u8) w (fun k => k ≠ g) A3 x.f3.length x.f3) (hc3 : x.f3.length ≤ c3) (hok : (getT (filesOf s) x.f0).2 = false) (h2 : x.f1 ≠ 2) (h3 : x.f1 ≠ 3) (he : (doT (filesOf s) x (-1)).2 = 0) (hq1 : s.quota < sizeF (doT (filesOf s) x (-1)).1) (hq4 : ¬ sizeF (filesOf s) < sizeF (doT (filesOf s) x (-1)).1) :
    Calls Try.prog 91 #[.pointer (some ⟨b0, 0, none⟩), .pointer (some ⟨b1, 0, none⟩)] w fun e w' => ∃ r, e = .returned (.int .i64 r) ∧ r = (doB s x).2 ∧ Rep B g (doB s x).1 w' ∧ BelS B w w' := by
  obtain ⟨Ap, cp, rfl⟩ := O_slice h.pend
  have hBw : Up B w.heap.size := Up.le hB0 hk0.1
  have hg0 : g < w0.heap.size := blk_lt h0.blk
  have hlen := hf.len
  have hfl : okL (filesOf s) ∧ (filesOf s).length ≤ 1000 := files_ok hf
  have hget := get_f (filesOf s) x.f0 (by omega) hfl.1
  have hdo := doT_f (filesOf s) x (-1) (by omega) hfl.1 (by omega)
  have hdk := doT_ok (filesOf s) x (-1) hfl.1
  obtain ⟨kz, hkz⟩ := size_f (filesOf s) (by omega)
  have hno : ¬ ((getT (filesOf s) x.f0).2 = false ∧ (x.f1 = 2 ∨ x.f1 = 3)) := by simp [h2, h3]
  have hq2 : (x.f1 == 2) = false := by simpa using h2
  have hq3 : (x.f1 == 3) = false := by simpa using h3
  rw [hok] at hget
  have hE : doE s x = 0 := by unfold doE; rw [if_neg hno, if_neg (by simp [he]), if_neg (fun h => hq4 h.2)]
  have hB : doB s x = ({ s with pend := s.pend ++ [x], peak := mx s.peak (sizeF (doT (filesOf s) x (-1)).1) }, 0) := by unfold doB; rw [if_pos hE]
  rw [hB]
  obtain ⟨⟨n2, r2⟩, hdr⟩ : ∃ r, doT (filesOf s) x (-1) = r := ⟨_, rfl⟩
  rw [hdr] at hdo hdk he hq1 hq4 ⊢
  simp only at hdo hdk he hq1 hq4 ⊢
  obtain rfl := he
  have hn2 := (hdk rfl).2
  obtain ⟨kd, hkd⟩ := size_f n2 (by omega)
  have HKD := Aside0.mk hkd
  have HEB := Aside0.mk (And.intro hE hB)
  have HDR := Aside0.mk hdr
  clear hok hno h2 h3 hE hB hdr hkd
  have hp0 := hp.cell
  obtain ⟨hx0, hx1, hx2, hx3⟩ := hn.cell
  have H := Aside0.mk h
  have H0 := Aside0.mk h0
  have HK0 := Aside0.mk hk0
  have HE := Aside0.mk (And.intro e1 (And.intro e2 e3))
  have HF := Aside0.mk hf
  have HP := Aside0.mk hp
  have HN := Aside0.mk hn
  have HFx := Aside0.mk hF
  have HGET := Aside0.mk hget
  have HDO := Aside0.mk hdo
  have HDK := Aside0.mk hdk
  have HKZ := Aside0.mk hkz
  clear h h0 hk0 hf hp hn hF hget hdo hdk hkz e1 e2 e3
  go_enter Try.func91, Try.ntmps91
  go_wp2_with (first
    | (go_at_call 42; refine (files_calls ⟨mv, sv, _, H.out⟩ HF.out).mono ?_; rintro e w1 ⟨v1, rfl, hV1, hb1w⟩; obtain ⟨A1, c1, rfl⟩ := Kd.V_slice hV1; obtain ⟨hx0, hx1, hx2, hx3⟩ := (HN.out.below hb1w).cell; have HV1 := Aside0.mk hV1; have HB1 := Aside0.mk hb1w; clear hV1 hb1w)
    | (go_at_call 28; refine (files_Get.calls A1 c1 (filesOf s) x.f0 _ _ _ (Kd.V_reads' HV1.out).2.2 (Kd.V_reads' HV1.out).2.1 HGET.out).mono ?_; rintro e w2 ⟨v2, rfl, hR2, hb2⟩; obtain ⟨A2, c2, rfl⟩ := Kd.R_slice hR2; obtain ⟨hx0, hx1, hx2, hx3⟩ := (HN.out.below (below_step HB1.out hb2)).cell; have HB12 := Aside0.mk hb2; have HB2 := Aside0.mk (below_step HB1.out hb2); clear hR2 hb2)
    | (go_at_call 17; refine (files_Do.calls (fun k => w.heap.size ≤ k) A1 c1 (filesOf s) x.f0 x.f1 x.f2 A3 c3 x.f3 (-1) _ _ _ (V_base (Kd.V_below HV1.out HB12.out)) (Kd.F_now (Kd.F_below HFx.out HB2.out)) hc3 HDO.out).mono ?_; rintro e w3 ⟨v3, rfl, hV3, hb3⟩; obtain ⟨A4, c4, rfl⟩ := Kd.V_slice hV3; have hp0 := (HP.out.below (below_step HB2.out hb3)).cell; obtain ⟨hx0, hx1, hx2, hx3⟩ := (HN.out.below (below_step HB2.out hb3)).cell; have HV3 := Aside0.mk hV3; have HB13 := Aside0.mk (below_step HB12.out hb3); have HB3 := Aside0.mk (below_step HB2.out hb3); clear hV3 hb3)
    | (go_at_call 35; with_reducible refine (files_Size.calls kd A4 c4 _ (sizeF n2) _ (Kd.V_reads' HV3.out).2.2 (Kd.V_reads' HV3.out).2.1 HKD.out).mono ?_; rintro e w4 ⟨rfl, hb4⟩; have hp0 := (HP.out.below (below_step HB3.out hb4)).cell; obtain ⟨hx0, hx1, hx2, hx3⟩ := (HN.out.below (below_step HB3.out hb4)).cell; have hq := (H.out.below (below_step HB3.out hb4)).cells.2.2.2.2.2.1; have HB14 := Aside0.mk (below_step HB13.out hb4); have HB4 := Aside0.mk (below_step HB3.out hb4); clear hb4)
    | (go_at_call 35; with_reducible refine (files_Size.calls kz A1 c1 _ (sizeF (filesOf s)) _ (Kd.V_reads' (Kd.V_below HV1.out HB14.out)).2.2 (Kd.V_reads' HV1.out).2.1 HKZ.out).mono ?_; rintro e w5 ⟨rfl, hb5⟩; have HB5 := Aside0.mk (below_step HB4.out hb5); obtain ⟨hx0, hx1, hx2, hx3⟩ := (HN.out.below (below_step HB4.out hb5)).cell; clear hb5)
    | (go_at_call 61; refine (cloneB (fun k => k ≠ g) A3 c3 x.f3 _ (Kd.F_below HFx.out HB5.out) (by omega)).mono ?_; rintro e w6 ⟨v6, rfl, hO6, hb6⟩; obtain ⟨A6, c6, rfl⟩ := O_slice hO6; have hb26 : Below w.heap.size w w6 := below_step HB5.out hb6; obtain ⟨hx0, hx1, hx2, hx3⟩ := (HN.out.below hb26).cell; have hfb := blk_frozen (HN.out.below hb26) 3; have HO6 := Aside0.mk hO6; have HB6 := Aside0.mk hb26; clear hO6 hb6 hb26))

  have hn6' : w6.heap[b1]? = some (.cells #[.string x.f0, .int .i64 x.f1, .int .i64 x.f2, .slice A3 x.f3.length c3] 31 (0, 0)) := HN.out.below HB6.out
  have hp6' : w6.heap[b0]? = some (.cells #[.pointer (some ⟨g, 0, none⟩)] 58 (0, 0)) := HP.out.below HB6.out
  have hn6 := blk_set hn6' 3 (.slice A6 x.f3.length c6)
  have hF6 : Kd.F (Kd.int .u8) w6 (fun k => w.heap.size ≤ k) A6 x.f3.length x.f3 := Kd.F_mono (O_F_own HO6.out) fun k hk => Nat.le_trans HB5.out.size (O_base HO6.out k hk.symm)
  have hb1w : b1 < w.heap.size := blk_lt HN.out
  have hgb : g ≠ b1 := by omega
  have hsz6 : w.heap.size ≤ w6.heap.size := HB6.out.size
  have hF7 : Kd.F (Kd.int .u8) (w6.setCell ⟨b1, 3, none⟩ (.slice A6 x.f3.length c6)) (fun k => w.heap.size ≤ k) A6 x.f3.length x.f3 := Kd.F_step hF6 fun k hk _ => Below.heap_setCell _ _ _ _ (show k ≠ b1 by omega)
  have hR7 : RepAt B g s (w6.setCell ⟨b1, 3, none⟩ (.slice A6 x.f3.length c6)) mv sv (.slice Ap s.pend.length cp) := H0.out.beside (H.out.below HB6.out) (HK0.out.trans (KeptG.of_below HB6.out)) hb1 (fun k hk => Below.heap_setCell _ _ _ _ hk) HE.out.1 HE.out.2.1 HE.out.2.2
  have hP7 : VarP (w6.setCell ⟨b1, 3, none⟩ (.slice A6 x.f3.length c6)) b0 g := (Below.heap_setCell _ _ _ _ (show b0 ≠ b1 from blk_ne hp6' hn6' (by decide))).trans hp6'
  have hN7 : VarW (w6.setCell ⟨b1, 3, none⟩ (.slice A6 x.f3.length c6)) b1 x A6 c6 := hn6
  have hB7 : BelS B w (w6.setCell ⟨b1, 3, none⟩ (.slice A6 x.f3.length c6)) := belowB_set (belowB_of hBw HB6.out) (hB0 _ hb1) 3 _
  have hs7 : w.heap.size ≤ (w6.setCell ⟨b1, 3, none⟩ (.slice A6 x.f3.length c6)).heap.size := by rw [World.size_setCell]; exact hsz6
  clear hn6 hF6 hp0 hx0 hx1 hx2 hx3 hfb
  generalize w6.setCell ⟨b1, 3, none⟩ (.slice A6 x.f3.length c6) = w7 at hF7 hR7 hP7 hN7 hB7 hs7 ⊢
  obtain ⟨i0, hi, hz0, hz1, hz2⟩ := info_parts info31
  obtain ⟨inner, hown, hreps⟩ := hR7.pend
  have hd7 : Below w7.heap.size w7 w7.drew := below_drew1 (Below.refl _ _)
  refine start_ (n := 11) (S := (fun w' => w'.cell? ⟨b0, 0, none⟩ = some (.pointer (some ⟨g, 0, none⟩)) ∧ w'.cell? ⟨g, 4, none⟩ = some (.slice Ap s.pend.length cp) ∧ w'.cell? ⟨b1, 0, none⟩ = some (.string x.f0) ∧ w'.cell? ⟨b1, 1, none⟩ = some (.int .i64 x.f1) ∧ w'.cell? ⟨b1, 2, none⟩ = some (.int .i64 x.f2) ∧ w'.cell? ⟨b1, 3, none⟩ = some (.slice A6 x.f3.length c6))) (ds := [10]) #[false, false, false, false, false, false, false, false, false, false, false] (by kernel_rfl) rfl rfl ⟨(hP7.below hd7).cell, (hR7.below hd7).cells.2.2.2.2.1, (hN7.below hd7).cell.1, (hN7.below hd7).cell.2.1, (hN7.below hd7).cell.2.2.1, (hN7.below hd7).cell.2.2.2⟩ (fun hHeld => ?_)
  refine take_ (i := 0) (N := some 59) (v := ?_) (a' := ?_) #[true, false, false, false, false, false, false, false, false, false, false] rfl rfl (by kernel_rfl) (fun _ _ _ h => h) (Or.inl ⟨by rfl, ?_⟩) hHeld ?_ ?_
  rotate_left
  · rintro w' ⟨s0, s1, s2, s3, s4, s5⟩
    go_simp
    with_reducible rfl
  rotate_left
  · simp only [Act.put, List.setIfInBounds_toArray, List.set_cons_zero, List.set_cons_succ, i64_w, i32_w]
    rfl
  refine take_ (i := 1) (N := some 60) (v := ?_) (a' := ?_) #[true, true, false, false, false, false, false, false, false, false, false] rfl rfl (by kernel_rfl) (fun _ _ _ h => h) (Or.inl ⟨by rfl, ?_⟩) hHeld ?_ ?_
  rotate_left
  · rintro w' ⟨s0, s1, s2, s3, s4, s5⟩
    go_simp
    with_reducible rfl
  rotate_left
  · simp only [Act.put, List.setIfInBounds_toArray, List.set_cons_zero, List.set_cons_succ, i64_w, i32_w]
    rfl
  refine pure_ (i := 2) (N := some 61) (v := ?_) (a' := ?_) #[true, true, true, false, false, false, false, false, false, false, false] rfl rfl (by kernel_rfl) (fun _ _ _ h => h) (Or.inl ⟨by rfl, ?_⟩) ?_ ?_
  rotate_left
  · intro w'
    go_simp
    with_reducible rfl
  rotate_left
  · simp only [Act.put, List.setIfInBounds_toArray, List.set_cons_zero, List.set_cons_succ, i64_w, i32_w]
    rfl
  refine pure_ (i := 3) (N := some 62) (v := ?_) (a' := ?_) #[true, true, true, true, false, false, false, false, false, false, false] rfl rfl (by kernel_rfl) (fun _ _ _ h => h) (Or.inl ⟨by rfl, ?_⟩) ?_ ?_
  rotate_left
  · intro w'
    go_simp
    with_reducible rfl
  rotate_left
  · simp only [Act.put, List.setIfInBounds_toArray, List.set_cons_zero, List.set_cons_succ, i64_w, i32_w]
    rfl
  refine take_ (i := 4) (N := some 63) (v := ?_) (a' := ?_) #[true, true, true, true, true, false, false, false, false, false, false] rfl rfl (by kernel_rfl) (fun _ _ _ h => h) (Or.inl ⟨by rfl, ?_⟩) hHeld ?_ ?_
  rotate_left
  · rintro w' ⟨s0, s1, s2, s3, s4, s5⟩
    go_simp
    with_reducible rfl
  rotate_left
  · simp only [Act.put, List.setIfInBounds_toArray, List.set_cons_zero, List.set_cons_succ, i64_w, i32_w]
    rfl
  refine take_ (i := 5) (N := some 64) (v := ?_) (a' := ?_) #[true, true, true, true, true, true, false, false, false, false, false] rfl rfl (by kernel_rfl) (fun _ _ _ h => h) (Or.inl ⟨by rfl, ?_⟩) hHeld ?_ ?_
  rotate_left
  · rintro w' ⟨s0, s1, s2, s3, s4, s5⟩
    go_simp
    with_reducible rfl
  rotate_left
  · simp only [Act.put, List.setIfInBounds_toArray, List.set_cons_zero, List.set_cons_succ, i64_w, i32_w]
    rfl
  refine one_ (i := 6) (N := some 65) #[true, true, true, true, true, true, true, false, false, false, false] rfl rfl (by kernel_rfl) (by decide) (fun K hK => ?_)
  refine value_ (w1 := w7.drew.alloc (Obj.cells #[.string x.f0, .int .i64 x.f1, .int .i64 x.f2, .slice A6 x.f3.length c6] 31)) (v := .slice (some ⟨w7.drew.heap.size, 0, none⟩) 1 1) (by rfl) rfl ?_ ?_
  · go_simp
  have h78 : Below w7.heap.size w7 (w7.drew.alloc (Obj.cells #[.string x.f0, .int .i64 x.f1, .int .i64 x.f2, .slice A6 x.f3.length c6] 31)) := below_alloc hd7 _
  have hN8 := (hN7.below h78).cell
  refine hK.out _ _ ⟨(hP7.below h78).cell, (hR7.below h78).cells.2.2.2.2.1, hN8.1, hN8.2.1, hN8.2.2.1, hN8.2.2.2⟩ (fun hHeld => ?_)
  clear hK K
  refine norm_ (a' := ?_) ?_ ?_
  rotate_left
  · show Act.put _ (some 65) _ = _
    simp only [Act.put, List.setIfInBounds_toArray, List.set_cons_zero, List.set_cons_succ, i64_w, i32_w]
    rfl
  refine one_ (i := 7) (N := some 66) #[true, true, true, true, true, true, true, true, false, false, false] rfl rfl (by kernel_rfl) (by decide) (fun K hK => ?_)
  refine step_append_lies _ (by rfl) _ _ _ (by rfl) 0 31 i0 _ 4 56 Try.underlying104 hi hz0 hz1 hz2 rfl (by omega) (.slice Ap s.pend.length cp) s.pend.length inner (by rfl) (pw_own_below hown h78) ⟨w7.drew.heap.size, 0, none⟩ 1 1 [.string x.f0, .int .i64 x.f1, .int .i64 x.f2, .slice A6 x.f3.length c6] (by rfl) (by rfl) (World.news_of_block (cs := #[.string x.f0, .int .i64 x.f1, .int .i64 x.f2, .slice A6 x.f3.length c6]) (t := 31) (fr := (0, 0)) (heap_alloc_new _ _)) (by simp [Value.oneCell']) (by omega) (by unfold maxLen; omega) (by omega) (Nat.zero_le _) _ rfl ?_
  intro gg cap w8 hown8 hgrow hat hlt8
  have hR8 := hR7.below h78
  have hP8 : ∀ b t (cs : Array Value) (f : Nat × Nat), (w7.drew.alloc (Obj.cells #[.string x.f0, .int .i64 x.f1, .int .i64 x.f2, .slice A6 x.f3.length c6] 31)).heap[b]? = some (Obj.cells cs t f) → some b ≠ (Value.slice Ap s.pend.length cp).ownBlock → w8.heap[b]? = some (Obj.cells cs t f) := fun b t cs f hb ht => (hgrow.block b (blk_lt hb) ht).trans hb
  have hne1 : some b1 ≠ (Value.slice Ap s.pend.length cp).ownBlock := fun he => by
    obtain ⟨inner0, hown0, _⟩ := H0.out.pend
    have := own_lt hown0 b1 he.symm
    omega
  have hp8 := hP8 _ _ _ _ (hP7.below h78) (fun he => by exact O_ne hR8.pend (hP7.below h78) (by decide) he.symm)
  have hn8 : VarW w8 b1 x A6 c6 := hP8 _ _ _ _ (hN7.below h78) hne1
  have hg8 := hP8 _ _ _ _ hR8.blk (fun he => hR8.pend_ne he.symm)
  have hN8' := hn8.cell
  refine hK.out _ _ ⟨VarP.cell hp8, by rw [cell_of_row w8 g _ _ 106 (0, 0) hg8]; rfl, hN8'.1, hN8'.2.1, hN8'.2.2.1, hN8'.2.2.2⟩ (fun hHeld => ?_)
  have hO8 : O k31 31 w8 0 (fun k => k ≠ g) (.slice (some ⟨gg, 0, none⟩) (s.pend.length + 1) cap) (s.pend ++ [x]) := by
    refine O_snoc31 (W := w7.drew.alloc (Obj.cells #[.string x.f0, .int .i64 x.f1, .int .i64 x.f2, .slice A6 x.f3.length c6] 31)) (v := .slice Ap s.pend.length cp) (hreps.imp_ fun y c' hy => Kd.FK_below hy h78) ?_ hown8 hgrow ?_
    · refine k31_mkF _ _ x (Kd.V_reads' (O_V HO6.out)).2.1 (Kd.F_mono (Kd.F_below hF7 h78) fun k hk => ⟨?_, fun he => ?_⟩)
      · have := HK0.out.1
        omega
      · obtain ⟨inner0, hown0, _⟩ := H0.out.pend
        have := own_lt hown0 k he.symm
        have := HK0.out.1
        omega
    · rcases hat with hat | hat
      · exact .inl hat.symm
      · exact .inr (by rw [hat]; rfl)
  have hR9 := hR8.setPend hO8 hgrow (hat.elim (fun h => .inl h.symm) (fun h => .inr ⟨gg, rfl, by rw [h]; exact Nat.le_refl _, (Up.le (Up.le hBw hs7) h78.size) _ (by rw [h]; exact Nat.le_refl _)⟩))
  have hB9 : BelS B w w8 := belowB_trans (belowB_trans hB7 (belowB_of (Up.le hBw hs7) h78)) ⟨hgrow.os, hgrow.tape, hgrow.output, hgrow.size, fun k hk hn => hgrow.block k hk (fun he => hn (hR8.own k he.symm))⟩
  clear hK K
  refine norm_ (a' := ?_) ?_ ?_
  rotate_left
  · show Act.put _ (some 66) _ = _
    simp only [Act.put, List.setIfInBounds_toArray, List.set_cons_zero, List.set_cons_succ, i64_w, i32_w]
    rfl
  refine pure_ (i := 8) (N := some 67) (v := ?_) (a' := ?_) #[true, true, true, true, true, true, true, true, true, false, false] rfl rfl (by kernel_rfl) (fun _ _ _ h => h) (Or.inl ⟨by rfl, ?_⟩) ?_ ?_
  rotate_left
  · intro w'
    go_simp
    with_reducible rfl
  rotate_left
  · simp only [Act.put, List.setIfInBounds_toArray, List.set_cons_zero, List.set_cons_succ, i64_w, i32_w]
    rfl
  refine pure_ (i := 9) (N := some 68) (v := ?_) (a' := ?_) #[true, true, true, true, true, true, true, true, true, true, false] rfl rfl (by kernel_rfl) (fun _ _ _ h => h) (Or.inl ⟨by rfl, ?_⟩) ?_ ?_
  rotate_left
  · intro w'
    go_simp
    with_reducible rfl
  rotate_left
  · simp only [Act.put, List.setIfInBounds_toArray, List.set_cons_zero, List.set_cons_succ, i64_w, i32_w]
    rfl
  refine last_ (i := 10) (N := none) #[true, true, true, true, true, true, true, true, true, true, true] rfl rfl (by kernel_rfl) (by decide) (fun K hK => ?_)
  have hfr := blk_frozen hg8 4
  have hcl : w8.cell? ⟨g, 4, none⟩ = some (.slice Ap s.pend.length cp) := by rw [cell_of_row w8 g _ _ 106 (0, 0) hg8]; rfl
  refine skip_ (w1 := ?_) (by rfl) rfl ?_ ?_
  rotate_left
  · go_simp
    rfl
  refine hK.out _ _ ?_
  clear hK K
  refine done_ (by kernel_rfl) ?_
  have hp9 : VarP (w8.setCell ⟨g, 4, none⟩ (.slice (some ⟨gg, 0, none⟩) (s.pend.length + 1) cap)) b0 g := VarP.set hp8 hg8
  have hB10 := belowB_set hB9 H0.out.hg 4 (.slice (some ⟨gg, 0, none⟩) (s.pend.length + 1) cap)
  have HBS := Aside0.mk hB10
  clear hfr hcl hHeld hO8 hown8 hgrow hat hlt8 hreps hown hN8 hN8' hn8 hg8 hp8 hP8 hB9 hB10 hB7 hF7 hR8 hR7 hP7 hN7 h78 hd7 hi hz0 hz1 hz2
  go_wp2_with fail
  generalize w8.setCell ⟨g, 4, none⟩ (.slice (some ⟨gg, 0, none⟩) (s.pend.length + 1) cap) = w9 at hp9 hR9 HBS ⊢
  have hd9 : Below w9.heap.size w9 w9.drew := below_drew1 (Below.refl _ _)
  have hp9d := (hp9.below hd9).cell
  have hc6d := (hR9.below hd9).cells.2.2.2.2.2.2.1
  refine start_ (n := 10) (S := (fun w' => w'.cell? ⟨b0, 0, none⟩ = some (.pointer (some ⟨g, 0, none⟩)) ∧ w'.cell? ⟨g, 6, none⟩ = some (.int .i64 s.peak))) (ds := [9]) #[false, false, false, false, false, false, false, false, false, false] (by kernel_rfl) rfl rfl ⟨hp9d, hc6d⟩ (fun hHeld => ?_)
  refine pure_ (i := 5) (N := some 74) (v := ?_) (a' := ?_) #[false, false, false, false, false, true, false, false, false, false] rfl rfl (by kernel_rfl) (fun _ _ _ h => h) (Or.inl ⟨by rfl, ?_⟩) ?_ ?_
  rotate_left
  · intro w'
    go_simp
    with_reducible rfl
  rotate_left
  · simp only [Act.put, List.setIfInBounds_toArray, List.set_cons_zero, List.set_cons_succ, i64_w, i32_w]
    rfl
  refine take_ (i := 0) (N := some 69) (v := ?_) (a' := ?_) #[true, false, false, false, false, true, false, false, false, false] rfl rfl (by kernel_rfl) (fun _ _ _ h => h) (Or.inl ⟨by rfl, ?_⟩) hHeld ?_ ?_
  rotate_left
  · rintro w' ⟨s0, s1⟩
    go_simp
    with_reducible rfl
  rotate_left
  · simp only [Act.put, List.setIfInBounds_toArray, List.set_cons_zero, List.set_cons_succ, i64_w, i32_w]
    rfl
  refine take_ (i := 1) (N := some 70) (v := ?_) (a' := ?_) #[true, true, false, false, false, true, false, false, false, false] rfl rfl (by kernel_rfl) (fun _ _ _ h => h) (Or.inl ⟨by rfl, ?_⟩) hHeld ?_ ?_
  rotate_left
  · rintro w' ⟨s0, s1⟩
    go_simp
    with_reducible rfl
  rotate_left
  · simp only [Act.put, List.setIfInBounds_toArray, List.set_cons_zero, List.set_cons_succ, i64_w, i32_w]
    rfl
  refine pure_ (i := 2) (N := some 71) (v := ?_) (a' := ?_) #[true, true, true, false, false, true, false, false, false, false] rfl rfl (by kernel_rfl) (fun _ _ _ h => h) (Or.inl ⟨by rfl, ?_⟩) ?_ ?_
  rotate_left
  · intro w'
    go_simp
    with_reducible rfl
  rotate_left
  · simp only [Act.put, List.setIfInBounds_toArray, List.set_cons_zero, List.set_cons_succ, i64_w, i32_w]
    rfl
  refine pure_ (i := 3) (N := some 72) (v := ?_) (a' := ?_) #[true, true, true, true, false, true, false, false, false, false] rfl rfl (by kernel_rfl) (fun _ _ _ h => h) (Or.inl ⟨by rfl, ?_⟩) ?_ ?_
  rotate_left
  · intro w'
    go_simp
    with_reducible rfl
  rotate_left
  · simp only [Act.put, List.setIfInBounds_toArray, List.set_cons_zero, List.set_cons_succ, i64_w, i32_w]
    rfl
  refine take_ (i := 4) (N := some 73) (v := ?_) (a' := ?_) #[true, true, true, true, true, true, false, false, false, false] rfl rfl (by kernel_rfl) (fun _ _ _ h => h) (Or.inl ⟨by rfl, ?_⟩) hHeld ?_ ?_
  rotate_left
  · rintro w' ⟨s0, s1⟩
    go_simp
    with_reducible rfl
  rotate_left
  · simp only [Act.put, List.setIfInBounds_toArray, List.set_cons_zero, List.set_cons_succ, i64_w, i32_w]
    rfl
  refine pure_ (i := 6) (N := some 75) (v := ?_) (a' := ?_) #[true, true, true, true, true, true, true, false, false, false] rfl rfl (by kernel_rfl) (fun _ _ _ h => h) (Or.inl ⟨by rfl, ?_⟩) ?_ ?_
  rotate_left
  · intro w'
    go_simp
    with_reducible rfl
  rotate_left
  · simp only [Act.put, List.setIfInBounds_toArray, List.set_cons_zero, List.set_cons_succ, i64_w, i32_w]
    rfl
  refine pure_ (i := 7) (N := some 76) (v := ?_) (a' := ?_) #[true, true, true, true, true, true, true, true, false, false] rfl rfl (by kernel_rfl) (fun _ _ _ h => h) (Or.inl ⟨by rfl, ?_⟩) ?_ ?_
  rotate_left
  · intro w'
    go_simp
    with_reducible rfl
  rotate_left
  · simp only [Act.put, List.setIfInBounds_toArray, List.set_cons_zero, List.set_cons_succ, i64_w, i32_w]
    rfl
  refine pure_ (i := 8) (N := some 77) (v := ?_) (a' := ?_) #[true, true, true, true, true, true, true, true, true, false] rfl rfl (by kernel_rfl) (fun _ _ _ h => h) (Or.inl ⟨by rfl, ?_⟩) ?_ ?_
  rotate_left
  · intro w'
    go_simp
    with_reducible rfl
  rotate_left
  · simp only [Act.put, List.setIfInBounds_toArray, List.set_cons_zero, List.set_cons_succ, i64_w, i32_w]
    rfl
  refine last_ (i := 9) (N := none) #[true, true, true, true, true, true, true, true, true, true] rfl rfl (by kernel_rfl) (by decide) (fun K hK => ?_)
  have hfr := blk_frozen (hR9.below hd9).blk 6
  have hcl := hc6d
  refine skip_ (w1 := ?_) (by rfl) rfl ?_ ?_
  rotate_left
  · go_simp
    rfl
  refine hK.out _ _ ?_
  clear hK K
  refine done_ (by kernel_rfl) ?_
  have hend : RepAt B g { s with pend := s.pend ++ [x], peak := mx s.peak (sizeF n2) } (w9.drew.setCell ⟨g, 6, none⟩ (.int .i64 (mx s.peak (sizeF n2)))) mv sv (.slice (some ⟨gg, 0, none⟩) (s.pend.length + 1) cap) :=
    (hR9.below hd9).upd (fun k _ hk => Below.heap_setCell _ _ _ _ hk) (blk_set (hR9.below hd9).blk 6 _) rfl rfl rfl
  have hBe : BelS B w (w9.drew.setCell ⟨g, 6, none⟩ (.int .i64 (mx s.peak (sizeF n2)))) := belowB_set (belowB_trans HBS.out (belowB_of (Up.le hBw HBS.out.size) hd9)) H0.out.hg 6 _
  go_wp2_with fail
  all_goals go_ret
  · have hm : mx s.peak (sizeF n2) = sizeF n2 := by unfold mx; split <;> omega
    rw [hm] at hend hBe
    exact ⟨0, rfl, rfl, ⟨_, _, _, by rw [hm]; exact hend⟩, hBe⟩
  · have hm : mx s.peak (sizeF n2) = s.peak := by unfold mx; split <;> omega
    rw [hm] at hend hBe
    exact ⟨0, rfl, rfl, ⟨_, _, _, by rw [hm]; exact hend⟩, hBe⟩
end
end Go.Proofs.Ytcgeioingikeeaa.P
namespace Go.Proofs.Ytcgeioingikeeaa.P
open Go.RowKit Go.Proofs.YtcgeioingikeeaaW.PrintWords Go.Proofs.YtcgeioingikeeaaW.PrintLast Go.Proofs.YtcgeioingikeeaaW.PrintMore
set_option linter.unusedVariables false
set_option linter.unusedSimpArgs false
section
variable {B : Nat → Prop} {g : Nat} {s : SSt} {w : World} {mv sv pv : Value}
theorem do1_calls (x : S31) (A3 : Option Addr) (c3 b0 b1 : Nat) {s0 : SSt} {w0 : World} (h0 : RepAt B g s0 w0 mv sv pv) (hk0 : KeptG g w0 w) (hb1 : w0.heap.size ≤ b1) (hB0 : Up B w0.heap.size) (e1 : s.safe = s0.safe) (e2 : s.pend = s0.pend) (e3 : s.fails = s0.fails)
    (h : RepAt B g s w mv sv pv) (hf : Fit s) (hx : x.f3.length ≤ 1000) (hp : VarP w b0 g) (hn : VarW w b1 x A3 c3) (hF : Kd.F (Kd.int .u8) w (fun k => k ≠ g) A3 x.f3.length x.f3) (hc3 : x.f3.length ≤ c3) :
    Calls Try.prog 91 #[.pointer (some ⟨b0, 0, none⟩), .pointer (some ⟨b1, 0, none⟩)] w fun e w' => ∃ r, e = .returned (.int .i64 r) ∧ r = (doB s x).2 ∧ Rep B g (doB s x).1 w' ∧ BelS B w w' := by
  cases hok : (getT (filesOf s) x.f0).2
  · by_cases h2 : x.f1 = 2
    · exact do1_none2 x A3 c3 b0 b1 h0 hk0 hb1 hB0 e1 e2 e3 h hf hx hp hn hF hc3 hok h2
    · by_cases h3 : x.f1 = 3
      · exact do1_none3 x A3 c3 b0 b1 h0 hk0 hb1 hB0 e1 e2 e3 h hf hx hp hn hF hc3 hok h3
      · by_cases he : (doT (filesOf s) x (-1)).2 = 0
        · by_cases q1 : s.quota < sizeF (doT (filesOf s) x (-1)).1
          · by_cases q2 : sizeF (filesOf s) < sizeF (doT (filesOf s) x (-1)).1
            · exact do1_full_f x A3 c3 b0 b1 h0 hk0 hb1 hB0 e1 e2 e3 h hf hx hp hn hF hc3 hok h2 h3 he q1 q2
            · exact do1_less_f x A3 c3 b0 b1 h0 hk0 hb1 hB0 e1 e2 e3 h hf hx hp hn hF hc3 hok h2 h3 he q1 q2
          · exact do1_in_f x A3 c3 b0 b1 h0 hk0 hb1 hB0 e1 e2 e3 h hf hx hp hn hF hc3 hok h2 h3 he q1
        · exact do1_err_f x A3 c3 b0 b1 h0 hk0 hb1 hB0 e1 e2 e3 h hf hx hp hn hF hc3 hok h2 h3 he
  · by_cases he : (doT (filesOf s) x (-1)).2 = 0
    · by_cases q1 : s.quota < sizeF (doT (filesOf s) x (-1)).1
      · by_cases q2 : sizeF (filesOf s) < sizeF (doT (filesOf s) x (-1)).1
        · exact do1_full_t x A3 c3 b0 b1 h0 hk0 hb1 hB0 e1 e2 e3 h hf hx hp hn hF hc3 hok he q1 q2
        · exact do1_less_t x A3 c3 b0 b1 h0 hk0 hb1 hB0 e1 e2 e3 h hf hx hp hn hF hc3 hok he q1 q2
      · exact do1_in_t x A3 c3 b0 b1 h0 hk0 hb1 hB0 e1 e2 e3 h hf hx hp hn hF hc3 hok he q1
    · exact do1_err_t x A3 c3 b0 b1 h0 hk0 hb1 hB0 e1 e2 e3 h hf hx hp hn hF hc3 hok he
end
end Go.Proofs.Ytcgeioingikeeaa.P
namespace Go.Proofs.Ytcgeioingikeeaa.P
open Go.RowKit Go.Proofs.YtcgeioingikeeaaW.PrintWords Go.Proofs.YtcgeioingikeeaaW.PrintLast Go.Proofs.YtcgeioingikeeaaW.PrintMore
set_option linter.unusedVariables false
set_option linter.unusedSimpArgs false
section
variable {B : Nat → Prop} {g : Nat} {s : SSt} {w : World} {mv sv pv : Value}
def doR (s : SSt) (x : S31) : SSt × Int := if (asked s).2 ≠ 0 then asked s else doB (asked s).1 x
set_option maxHeartbeats 8000000 in
set_option maxRecDepth 100000 in
theorem do_calls (x : S31) (A3 : Option Addr) (c3 : Nat) (h : Rep B g s w) (hf : Fit s) (hf1 : Fit (asked s).1) (hBw : Up B w.heap.size) (hx : x.f3.length ≤ 1000) (hF : Kd.F (Kd.int .u8) w (fun k => k ≠ g) A3 x.f3.length x.f3) (hc3 : x.f3.length ≤ c3) :
    Calls Try.prog 67 #[.pointer (some ⟨g, 0, none⟩), .agg #[.string x.f0, .int .i64 x.f1, .int .i64 x.f2, .slice A3 x.f3.length c3]] w fun e w' => e = .returned (.int .i64 (doR s x).2) ∧ Rep B g (doR s x).1 w' ∧ BelS B w w' := by
  obtain ⟨mv, sv, pv, h⟩ := h
  have hw1 : Below w.heap.size w (w.alloc (Obj.cells #[.pointer (some ⟨g, 0, none⟩)] 58)) := below_alloc (Below.refl _ _) _
  have hp1 : VarP (w.alloc (Obj.cells #[.pointer (some ⟨g, 0, none⟩)] 58)) w.heap.size g := heap_alloc_new _ _
  generalize hW1 : w.alloc (Obj.cells #[.pointer (some ⟨g, 0, none⟩)] 58) = w1 at hw1 hp1
  have hsz : w1.heap.size = w.heap.size + 1 := by rw [← hW1, World.size_alloc]
  have hw2 : Below w1.heap.size w1 (w1.alloc (Obj.cells #[.string x.f0, .int .i64 x.f1, .int .i64 x.f2, .slice A3 x.f3.length c3] 31)) := below_alloc (Below.refl _ _) _
  have hn2 : VarW (w1.alloc (Obj.cells #[.string x.f0, .int .i64 x.f1, .int .i64 x.f2, .slice A3 x.f3.length c3] 31)) w1.heap.size x A3 c3 := heap_alloc_new _ _
  have hp2 := hp1.below hw2
  have hw02 := below_step hw1 hw2
  have H := Aside0.mk h
  have HF := Aside0.mk hf
  have HF1 := Aside0.mk hf1
  have HP := Aside0.mk hp2
  have HN := Aside0.mk hn2
  have HW := Aside0.mk hw02
  have HW1 := Aside0.mk hw1
  have HW2 := Aside0.mk hw2
  have HFx := Aside0.mk hF
  have hg0 : g < w.heap.size := blk_lt h.blk
  have hcell : (w1.alloc (Obj.cells #[.string x.f0, .int .i64 x.f1, .int .i64 x.f2, .slice A3 x.f3.length c3] 31)).cell? ⟨w.heap.size, 0, none⟩ = some (.pointer (some ⟨g, 0, none⟩)) := hp2.cell
  clear h hf hf1 hw1 hp1 hw2 hn2 hp2 hw02 hF
  by_cases ha : (asked s).2 = 0
  · have hR : doR s x = doB (asked s).1 x := by unfold doR; rw [if_neg (by simp [ha])]
    rw [hR]
    have hcall : Calls Try.prog 90 #[.pointer (some ⟨g, 0, none⟩), .func (.func 91) #[] #[.pointer (some ⟨w.heap.size, 0, none⟩), .pointer (some ⟨w1.heap.size, 0, none⟩)]] (w1.alloc (Obj.cells #[.string x.f0, .int .i64 x.f1, .int .i64 x.f2, .slice A3 x.f3.length c3] 31)) fun e w' => ∃ r, e = .returned (.int .i64 r) ∧ (r = (doB (asked s).1 x).2 ∧ Rep B g (doB (asked s).1 x).1 w' ∧ BelS B w w') := by
      refine call_ok91 _ _ (fun r w' => r = (doB (asked s).1 x).2 ∧ Rep B g (doB (asked s).1 x).1 w' ∧ BelS B w w') (H.out.below HW.out) HF.out ha ?_
      intro w3 hr3 hb3 hk3
      have hk03 := (KeptG.of_below HW.out (g := g)).trans hk3
      have hp3 : VarP w3 w.heap.size g := blk_keptG HP.out hk3 (by omega)
      have hn3 : VarW w3 w1.heap.size x A3 c3 := blk_keptG HN.out hk3 (by have := HW1.out.size; omega)
      have hF3 : Kd.F (Kd.int .u8) w3 (fun k => k ≠ g) A3 x.f3.length x.f3 := Kd.F_step HFx.out fun k hk hlt => hk03.2 k hlt hk
      have hao := asked_ok ha
      refine (do1_calls x A3 c3 _ _ H.out hk03 HW1.out.size hBw (by rw [hao]) (by rw [hao]) (by rw [hao]) hr3 HF1.out hx hp3 hn3 hF3 hc3).mono ?_
      rintro e w4 ⟨r, rfl, rfl, hr4, hb4⟩
      exact ⟨_, rfl, rfl, hr4, belowB_trans (belowB_trans (belowB_of hBw HW.out) hb3) hb4⟩
    rw [hsz] at hcall
    have HC := Aside0.mk hcall
    clear hcall hR ha
    subst hW1
    go_enter Try.func67, Try.ntmps67
    go_wp2_with (go_at_call 90; refine (Aside0.out HC).mono ?_; rintro e w7 ⟨r, rfl, rfl, hr7, hb7⟩; have HR7 := Aside0.mk hr7; have HB7 := Aside0.mk hb7; clear hr7 hb7)
    go_ret
    exact ⟨rfl, HR7.out, HB7.out⟩
  · have hR : doR s x = asked s := by unfold doR; rw [if_pos ha]
    rw [hR]
    have hce := (call_err (.func (.func 91) #[] #[.pointer (some ⟨w.heap.size, 0, none⟩), .pointer (some ⟨w1.heap.size, 0, none⟩)]) ⟨mv, sv, pv, H.out.below HW.out⟩ HF.out ha)
    rw [hsz] at hce
    have HC := Aside0.mk hce
    clear hR ha hce
    subst hW1
    go_enter Try.func67, Try.ntmps67
    go_wp2_with (go_at_call 90; refine (Aside0.out HC).mono ?_; rintro e w7 ⟨rfl, hr7, hb7, hk7⟩; have HR7 := Aside0.mk hr7; have HB7 := Aside0.mk (belowB_trans (belowB_of hBw HW.out) hb7); clear hr7 hb7 hk7)
    go_ret
    exact ⟨rfl, HR7.out, HB7.out⟩
end
end Go.Proofs.Ytcgeioingikeeaa.P
namespace Go.Proofs.Ytcgeioingikeeaa.P
open Go.RowKit Go.Proofs.YtcgeioingikeeaaW.PrintWords Go.Proofs.YtcgeioingikeeaaW.PrintLast Go.Proofs.YtcgeioingikeeaaW.PrintMore
set_option linter.unusedVariables false
set_option linter.unusedSimpArgs false
section
variable {B : Nat → Prop} {g : Nat} {s : SSt} {w : World} {mv sv pv : Value}
theorem names_f (l : List S38) (hl : l.length ≤ 1000000) : ∃ k, files_Names.f k l = some (l.map (·.f0)) := by
  obtain ⟨k, hk⟩ := namesA l hl l.length 0 [] (by omega) (by simp)
  rw [List.drop_zero, List.nil_append] at hk
  exact ⟨k, hk⟩
def listR (s : SSt) : SSt × Int × List ByteArray := if (asked s).2 ≠ 0 then ((asked s).1, (asked s).2, []) else ((asked s).1, 0, (filesOf s).map (·.f0))
set_option maxHeartbeats 4000000 in
theorem list1_calls (b0 b1 : Nat) (c : Value) (h : RepAt B g s w mv sv pv) (hf : Fit s) (hp : VarP w b0 g) (hb : w.heap[b1]? = some (.cells #[c] 48 (0, 0))) :
    Calls Try.prog 97 #[.pointer (some ⟨b0, 0, none⟩), .pointer (some ⟨b1, 0, none⟩)] w fun e w' => e = .returned (.int .i64 0) ∧ ∃ v w2, w' = w2.setCell ⟨b1, 0, none⟩ v ∧ Kd.R Kd.string 9 w2 w.heap.size (fun _ => True) v ((filesOf s).map (·.f0)) ∧ Below w.heap.size w w2 := by
  have hfl : okL (filesOf s) ∧ (filesOf s).length ≤ 1000 := files_ok hf
  obtain ⟨kn, hkn⟩ := names_f (filesOf s) (by omega)
  generalize (filesOf s).map (·.f0) = ns at hkn ⊢
  have hp0 := hp.cell
  have H := Aside0.mk h
  have HF := Aside0.mk hf
  have HB := Aside0.mk hb
  have HKN := Aside0.mk hkn
  clear h hf hp hb hkn hfl
  go_enter Try.func97, Try.ntmps97
  go_wp2_with (first
    | (go_at_call 42; refine (files_calls ⟨mv, sv, _, H.out⟩ HF.out).mono ?_; rintro e w1 ⟨v1, rfl, hV1, hb1w⟩; obtain ⟨A1, c1, rfl⟩ := Kd.V_slice hV1; have HV1 := Aside0.mk hV1; have HB1 := Aside0.mk hb1w; clear hV1 hb1w)
    | (go_at_call 33; refine (files_Names.calls kn A1 c1 (filesOf s) _ _ (Kd.V_reads' HV1.out).2.2 (Kd.V_reads' HV1.out).2.1 HKN.out).mono ?_; rintro e w2 ⟨v2, rfl, hR2, hb2⟩; obtain ⟨A2, c2, rfl⟩ := Kd.R_slice hR2; have hcb : w2.cell? ⟨b1, 0, none⟩ = some c := (by rw [cell_of_row w2 _ _ _ 48 (0, 0) (blk_stays (below_step HB1.out hb2) HB.out)]; rfl); have hfz := blk_frozen (blk_stays (below_step HB1.out hb2) HB.out) 0; have HR2 := Aside0.mk hR2; have HB2 := Aside0.mk (below_step HB1.out hb2); clear hR2 hb2))
  go_ret
  exact ⟨rfl, _, w2, rfl, Kd.R_lower HR2.out HB1.out.size, HB2.out⟩
end
end Go.Proofs.Ytcgeioingikeeaa.P
namespace Go.Proofs.Ytcgeioingikeeaa.P
open Go.RowKit Go.Proofs.YtcgeioingikeeaaW.PrintWords Go.Proofs.YtcgeioingikeeaaW.PrintLast Go.Proofs.YtcgeioingikeeaaW.PrintMore
set_option linter.unusedVariables false
set_option linter.unusedSimpArgs false
section
variable {B : Nat → Prop} {g : Nat} {s : SSt} {w : World} {mv sv pv : Value}
set_option maxHeartbeats 8000000 in
set_option maxRecDepth 100000 in
theorem list_calls (h : Rep B g s w) (hf : Fit s) (hf1 : Fit (asked s).1) (hBw : Up B w.heap.size) :
    Calls Try.prog 81 #[.pointer (some ⟨g, 0, none⟩)] w fun e w' => ∃ v, e = .returned (.tuple #[v, .int .i64 (listR s).2.1]) ∧ Kd.R Kd.string 9 w' w.heap.size (fun _ => True) v (listR s).2.2 ∧ Rep B g (listR s).1 w' ∧ BelS B w w' := by
  obtain ⟨mv, sv, pv, h⟩ := h
  have hw1 : Below w.heap.size w (w.alloc (Obj.cells #[.pointer (some ⟨g, 0, none⟩)] 58)) := below_alloc (Below.refl _ _) _
  have hp1 : VarP (w.alloc (Obj.cells #[.pointer (some ⟨g, 0, none⟩)] 58)) w.heap.size g := heap_alloc_new _ _
  generalize hW1 : w.alloc (Obj.cells #[.pointer (some ⟨g, 0, none⟩)] 58) = w1 at hw1 hp1
  have hsz : w1.heap.size = w.heap.size + 1 := by rw [← hW1, World.size_alloc]
  have hw2 : Below w1.heap.size w1 (w1.alloc (Obj.cells #[.slice none 0 0] 48)) := below_alloc (Below.refl _ _) _
  have hn2 : (w1.alloc (Obj.cells #[.slice none 0 0] 48)).heap[w1.heap.size]? = some (.cells #[.slice none 0 0] 48 (0, 0)) := heap_alloc_new _ _
  have hp2 := hp1.below hw2
  have hw02 := below_step hw1 hw2
  have H := Aside0.mk h
  have HF := Aside0.mk hf
  have HF1 := Aside0.mk hf1
  have HP := Aside0.mk hp2
  have HN := Aside0.mk hn2
  have HW := Aside0.mk hw02
  have HW1 := Aside0.mk hw1
  have hg0 : g < w.heap.size := blk_lt h.blk
  have hcell : (w1.alloc (Obj.cells #[.slice none 0 0] 48)).cell? ⟨w.heap.size, 0, none⟩ = some (.pointer (some ⟨g, 0, none⟩)) := hp2.cell
  clear h hf hf1 hw1 hp1 hw2 hn2 hp2 hw02
  by_cases ha : (asked s).2 = 0
  · have hR : listR s = ((asked s).1, 0, (filesOf s).map (·.f0)) := by unfold listR; rw [if_neg (by simp [ha])]
    rw [hR]
    have hcall : Calls Try.prog 90 #[.pointer (some ⟨g, 0, none⟩), .func (.func 97) #[] #[.pointer (some ⟨w.heap.size, 0, none⟩), .pointer (some ⟨w1.heap.size, 0, none⟩)]] (w1.alloc (Obj.cells #[.slice none 0 0] 48)) fun e w' => ∃ r, e = .returned (.int .i64 r) ∧ (r = 0 ∧ Rep B g (asked s).1 w' ∧ BelS B w w' ∧ ∃ A n c, w'.cell? ⟨w1.heap.size, 0, none⟩ = some (.slice A n c) ∧ Kd.R Kd.string 9 w' w.heap.size (fun _ => True) (.slice A n c) ((filesOf s).map (·.f0))) := by
      refine call_ok97 _ _ (fun r w' => r = 0 ∧ Rep B g (asked s).1 w' ∧ BelS B w w' ∧ ∃ A n c, w'.cell? ⟨w1.heap.size, 0, none⟩ = some (.slice A n c) ∧ Kd.R Kd.string 9 w' w.heap.size (fun _ => True) (.slice A n c) ((filesOf s).map (·.f0))) (H.out.below HW.out) HF.out ha ?_
      intro w3 hr3 hb3 hk3
      have hk03 := (KeptG.of_below HW.out (g := g)).trans hk3
      have hp3 : VarP w3 w.heap.size g := blk_keptG HP.out hk3 (by omega)
      have hn3 := blk_keptG HN.out hk3 (show w1.heap.size ≠ g by have := HW1.out.size; omega)
      have hao := asked_ok ha
      refine (list1_calls _ _ _ hr3 HF1.out hp3 hn3).mono ?_
      rw [asked_files]
      rintro e w4 ⟨rfl, v, w5, rfl, hR5, hb5⟩
      obtain ⟨A5, c5, rfl⟩ := Kd.R_slice hR5
      have hn5 := blk_stays hb5 hn3
      have hset := blk_set hn5 0 (.slice A5 ((filesOf s).map (·.f0)).length c5)
      have hB5 : BelS B w w5 := belowB_trans (belowB_trans (belowB_of hBw HW.out) hb3) (belowB_of (Up.le hBw hk03.1) hb5)
      refine ⟨0, rfl, rfl, ⟨mv, sv, pv, ?_⟩, belowB_set hB5 (hBw _ HW1.out.size) 0 _, A5, ((filesOf s).map (·.f0)).length, c5, ?_, ?_⟩
      · exact H.out.beside (hr3.below hb5) (hk03.trans (KeptG.of_below hb5)) HW1.out.size (fun k hk => Below.heap_setCell _ _ _ _ hk) (by rw [hao]) (by rw [hao]) (by rw [hao])
      · rw [cell_of_row _ _ _ _ 48 (0, 0) hset]; rfl
      · exact Kd.R_set (Kd.R_lower hR5 hk03.1) hn5 (by decide) 0 _
    generalize (filesOf s).map (·.f0) = ns at hcall ⊢
    rw [hsz] at hcall
    have HC := Aside0.mk hcall
    clear hcall hR ha
    subst hW1
    go_enter Try.func81, Try.ntmps81
    go_wp2_with (go_at_call 90; refine (Aside0.out HC).mono ?_; rintro e w7 ⟨r, rfl, rfl, hr7, hb7, A7, n7, c7, hc7, hv7⟩; have HR7 := Aside0.mk hr7; have HB7 := Aside0.mk hb7; have HV7 := Aside0.mk hv7; clear hr7 hb7 hv7)
    go_ret2
    exact ⟨_, rfl, HV7.out, HR7.out, HB7.out⟩
  · have hR : listR s = ((asked s).1, (asked s).2, []) := by unfold listR; rw [if_pos ha]
    rw [hR]
    have hce := (call_err (.func (.func 97) #[] #[.pointer (some ⟨w.heap.size, 0, none⟩), .pointer (some ⟨w1.heap.size, 0, none⟩)]) ⟨mv, sv, pv, H.out.below HW.out⟩ HF.out ha)
    have hz1 : g < w.heap.size + 1 := by omega
    have HN' := HN.out
    rw [hsz] at hce HN'
    have HN2 := Aside0.mk HN'
    have HC := Aside0.mk hce
    clear hR ha hce HN'
    subst hW1
    go_enter Try.func81, Try.ntmps81
    go_wp2_with (go_at_call 90; refine (Aside0.out HC).mono ?_; rintro e w7 ⟨rfl, hr7, hb7, hk7⟩; have hcb := (cell_of_row w7 _ 0 _ 48 (0, 0) (blk_keptG HN2.out hk7 (Nat.ne_of_gt hz1))); simp only [List.getElem?_toArray, List.getElem?_cons_zero] at hcb; have HR7 := Aside0.mk hr7; have HB7 := Aside0.mk (belowB_trans (belowB_of hBw HW.out) hb7); clear hr7 hb7 hk7)
    go_ret2
    exact ⟨_, rfl, Kd.R_nil _ _ _ _ _, HR7.out, HB7.out⟩
end
end Go.Proofs.Ytcgeioingikeeaa.P
namespace Go.Proofs.Ytcgeioingikeeaa.P
open Go.RowKit Go.Proofs.YtcgeioingikeeaaW.PrintWords Go.Proofs.YtcgeioingikeeaaW.PrintLast Go.Proofs.YtcgeioingikeeaaW.PrintMore
set_option linter.unusedVariables false
set_option linter.unusedSimpArgs false
section
variable {B : Nat → Prop} {g : Nat} {s : SSt} {w : World} {mv sv pv : Value}
def planD (s : SSt) (ks : List Int) (cr : Int) : SSt := { s with fails := ks, crash := cr, calls := 0 }
/-- While Plan runs. -/
structure PlS (B : Nat → Prop) (g : Nat) (s : SSt) (sv pv : Value) (ks : List Int) (cr : Int) (b i : Nat) (w w' : World) : Prop where
  blk : w'.heap[g]? = some (.cells #[.map (some b), .int .i64 cr, .int .i64 0, sv, pv, .int .i64 s.quota, .int .i64 s.peak, .bool s.down] 106 (0, 0))
  keep : KeptG g w w'
  below : BelS B w w'
  map : ∃ n D, n ≤ i ∧ w'.ownsMap (H := Unit) Try.prog 3 (plainElem Try.prog 4) b n D ∧ ∀ j : Int, (Lit.int .i64 j).wf = true → D.atKey (.int .i64 j) (.lit (.bool false)) = .lit (.bool (decide (j ∈ ks.take i)))
theorem PlS.rep {ks : List Int} {cr : Int} {b : Nat} {w' : World} (h : RepAt B g s w mv sv pv) (hBw : Up B w.heap.size) (hb : w.heap.size ≤ b) (hl : ks.length ≤ 1000) (p : PlS B g s sv pv ks cr b ks.length w w') : Rep B g (planD s ks cr) w' := by
  obtain ⟨n, D, hn, hown, hat⟩ := p.map
  rw [List.take_length] at hat
  have hpg := h.pend_ne
  refine ⟨.map (some b), sv, pv, h.hg, p.blk, .inr ⟨b, n, D, rfl, trivial, by omega, hown, hat⟩, ?_, ?_, h.own⟩
  · exact Kd.V_step h.safe (fun k h1 hlt => p.keep.2 k hlt h1.1)
  · exact O_step h.pend (fun k hlt h1 => p.keep.2 k hlt (h1.elim id (fun he hg => hpg (by rw [he, hg]))))
theorem PlS.put {ks : List Int} {cr : Int} {b i : Nat} {w' w2 : World} {n : Nat} {D : DataW Unit} (hb : w.heap.size ≤ b) (hBw : Up B w.heap.size) (p : PlS B g s sv pv ks cr b i w w') (hi : i < ks.length) (hn : n ≤ i) (hmap : w'.ownsMap (H := Unit) Try.prog 3 (plainElem Try.prog 4) b n D)
    (hat : ∀ j : Int, (Lit.int .i64 j).wf = true → D.atKey (.int .i64 j) (.lit (.bool false)) = .lit (.bool (decide (j ∈ ks.take i))))
    (hown : w2.ownsMap (H := Unit) Try.prog 3 (plainElem Try.prog 4) b (n + 1) (D.put (.int .i64 (rd ks (i : Int))) (.lit (.bool true)))) (hg : w'.grownBy w2 (some b)) : PlS B g s sv pv ks cr b (i + 1) w w2 := by
  have hgb : g ≠ b := fun he => by
    obtain ⟨es, clock, hb', _⟩ := hmap
    rw [← he, p.blk] at hb'
    cases hb'
  refine ⟨(hg.block g (blk_lt p.blk) (by simpa using hgb)).trans p.blk, ⟨Nat.le_trans p.keep.1 hg.size, fun k hlt hkg => (hg.block k (Nat.lt_of_lt_of_le hlt p.keep.1) (by simp; omega)).trans (p.keep.2 k hlt hkg)⟩, ?_, n + 1, _, by omega, hown, ?_⟩
  · exact belowB_trans p.below ⟨hg.os, hg.tape, hg.output, hg.size, fun k hk hn => hg.block k hk (fun he => hn (by injection he with he; exact he ▸ hBw _ hb))⟩
  · intro j hj
    have hr : rd ks (i : Int) = ks[i] := by simp [rd, hi, List.getD]
    rw [List.take_succ_eq_append_getElem hi]
    by_cases he : j = rd ks (i : Int)
    · subst he
      obtain ⟨es, clock, _, _, _, rfl⟩ := hmap
      rw [Go.Maps.atKey_put_same (k := .int .i64 (rd ks (i : Int))) ⟨_, rfl⟩ (by exact True.intro)]
      have hm : rd ks (i : Int) ∈ ks.take i ++ [ks[i]] := by rw [hr, List.mem_append]; exact .inr (List.mem_singleton.2 rfl)
      rw [decide_eq_true hm]
    · rw [Go.Maps.atKey_put_other (by intro h; injection h with _ h; exact he h), hat j hj]
      rw [hr] at he
      have hm : (j ∈ ks.take i ++ [ks[i]]) ↔ j ∈ ks.take i := by
        rw [List.mem_append, List.mem_singleton]
        exact ⟨fun h => h.elim id (fun h => absurd h he), .inl⟩
      rw [decide_eq_decide.2 hm]
set_option maxHeartbeats 8000000 in
set_option maxRecDepth 100000 in
theorem plan_calls (A : Option Addr) (c : Nat) (ks : List Int) (cr : Int) (h : Rep B g s w) (hBw : Up B w.heap.size) (hk : Kd.F (Kd.int .i64) w (fun k => k ≠ g) A ks.length ks) (hl : ks.length ≤ 1000) (hw : ∀ n ∈ ks, (Lit.int .i64 n).wf = true) :
    Calls Try.prog 40 #[.pointer (some ⟨g, 0, none⟩), .slice A ks.length c, .int .i64 cr] w fun e w' => e = .returned (.tuple #[]) ∧ Rep B g (planD s ks cr) w' ∧ BelS B w w' := by
  obtain ⟨mv, sv, pv, h⟩ := h
  have hg0 : g < w.heap.size := blk_lt h.blk
  have hb6 : (w.alloc (Obj.map #[] 0)).heap[g]? = some (.cells #[mv, .int .i64 s.crash, .int .i64 s.calls, sv, pv, .int .i64 s.quota, .int .i64 s.peak, .bool s.down] 106 (0, 0)) := blk_alloc h.blk _
  have hb7 := blk_set hb6 0 (.map (some w.heap.size))
  have hb8 := blk_set hb7 1 (.int .i64 cr)
  have hb9 := blk_set hb8 2 (.int .i64 0)
  have hal : Below w.heap.size w (w.alloc (Obj.map #[] 0)) := below_alloc (Below.refl _ _) _
  have hp : PlS B g s sv pv ks cr w.heap.size 0 w ((((w.alloc (Obj.map #[] 0)).setCell ⟨g, 0, none⟩ (.map (some w.heap.size))).setCell ⟨g, 1, none⟩ (.int .i64 cr)).setCell ⟨g, 2, none⟩ (.int .i64 0)) := by
    refine ⟨hb9, (((KeptG.of_below hal).setCell 0 _).setCell 1 _).setCell 2 _, belowB_set (belowB_set (belowB_set (belowB_of hBw hal) h.hg 0 _) h.hg 1 _) h.hg 2 _, 0, .map [], Nat.le_refl _, ?_, ?_⟩
    · have h0 := World.ownsMap_made (H := Unit) w Try.prog 3 (plainElem Try.prog 4)
      obtain ⟨es, clock, hb, hrest⟩ := h0
      refine ⟨es, clock, ?_, hrest⟩
      rw [Below.heap_setCell _ _ _ _ (show w.heap.size ≠ g by omega), Below.heap_setCell _ _ _ _ (show w.heap.size ≠ g by omega), Below.heap_setCell _ _ _ _ (show w.heap.size ≠ g by omega)]
      exact hb
    · intro j hj
      simp [DataW.atKey]
  have hf0 := blk_frozen hb6 0
  have hf1 := blk_frozen hb7 1
  have hf2 := blk_frozen hb8 2
  have hc0 : (w.alloc (Obj.map #[] 0)).cell? ⟨g, 0, none⟩ = some mv := by rw [cell_of_row _ g _ _ 106 (0, 0) hb6]; rfl
  have hc1 : ((w.alloc (Obj.map #[] 0)).setCell ⟨g, 0, none⟩ (.map (some w.heap.size))).cell? ⟨g, 1, none⟩ = some (.int .i64 s.crash) := by rw [cell_of_row _ g _ _ 106 (0, 0) hb7]; rfl
  have hc2 : (((w.alloc (Obj.map #[] 0)).setCell ⟨g, 0, none⟩ (.map (some w.heap.size))).setCell ⟨g, 1, none⟩ (.int .i64 cr)).cell? ⟨g, 2, none⟩ = some (.int .i64 s.calls) := by rw [cell_of_row _ g _ _ 106 (0, 0) hb8]; rfl
  have HP := Aside0.mk hp
  have H := Aside0.mk h
  have HK := Aside0.mk hk
  have HW := Aside0.mk hw
  clear hp h hk hw hb6 hb7 hb8 hb9 hal
  have hmk : (Instr.makeMap 101 none).run Try.prog w = .ok (.map (some w.heap.size)) (w.alloc (.map #[] 0)) := rfl
  obtain ⟨bm, hbm⟩ : ∃ b, w.heap.size = b := ⟨_, rfl⟩
  have HBM := Aside0.mk hbm
  rw [hbm] at hmk HP hc1 hc2 hf1 hf2
  generalize w.alloc (Obj.map #[] 0) = w1 at hmk HP hf0 hf1 hf2 hc0 hc1 hc2
  rw [hbm] at hg0
  clear hbm
  go_enter Try.func40, Try.ntmps40
  go_wp2
  clear hmk hf0 hf1 hf2 hc0 hc1 hc2
  generalize ((w1.setCell ⟨g, 0, none⟩ (.map (some bm))).setCell ⟨g, 1, none⟩ (.int .i64 cr)).setCell ⟨g, 2, none⟩ (.int .i64 0) = wS at HP ⊢
  rw [← HBM.out] at hg0
  go_loopg [18] ks.length (fun kq v18 w' => ∃ i : Nat, v18 = .int .i64 i ∧ i + kq = ks.length ∧ Aside0 (PlS B g s sv pv ks cr bm i w w'))
  case atStart => exact ⟨0, rfl, by omega, HP⟩
  case round =>
    obtain ⟨i, rfl, hi, HI⟩ := hrel
    by_cases hlt : i < ks.length
    · obtain ⟨k1, rfl⟩ : ∃ k1, gk = k1 + 1 := ⟨gk - 1, by omega⟩
      obtain ⟨ad, e1, hk⟩ := Kd.at_int (Kd.F_now (Kd.F_step HK.out fun k hk hlt => HI.out.keep.2 k hlt hk)) (i : Int) (by omega) (by omega)
      subst e1
      rw [Int.toNat_natCast] at hk
      obtain ⟨n, D, hn, hown, hat⟩ := HI.out.map
      obtain ⟨x, hx⟩ : ∃ x, rd ks (i : Int) = x := ⟨_, rfl⟩
      have hxm : x ∈ ks := by
        have hr : rd ks (i : Int) = ks[i] := by simp [rd, hlt, List.getD]
        rw [← hx, hr]
        exact List.getElem_mem hlt
      have HX := Aside0.mk hx
      have HXW := Aside0.mk (HW.out x hxm)
      rw [hx] at hk
      have hc0 : wr.cell? ⟨g, 0, none⟩ = some (.map (some bm)) := by rw [cell_of_row _ g _ _ 106 (0, 0) HI.out.blk]; rfl
      have HOWN := Aside0.mk hown
      have HAT := Aside0.mk hat
      have hnm : n < maxLen := by unfold maxLen; omega
      clear hown hat hx hxm
      go_wp2_with (at_mapUpdate; (refine wpList_mapUpdate_own (H := Unit) _ rfl _ _ _ 101 rfl 3 4 key3 Try.underlying101 (plainElem Try.prog 4) bm n D rfl HOWN.out hnm _ _ (.int .i64 x) rfl rfl (Go.Maps.keyOf_int_mk Try.underlying3 HXW.out) (.lit (.bool true)) [] (plainElem_bool Try.underlying4 true) ?_); intro w2 hown2 hgrow2; have HO2 := Aside0.mk hown2; have HG2 := Aside0.mk hgrow2; clear hown2 hgrow2)
      go_roundg k1
      case measure => omega
      case rel => exact ⟨i + 1, by go_num, by omega, ⟨HI.out.put (Nat.le_of_eq HBM.out) hBw hlt hn HOWN.out HAT.out (by rw [HX.out]; exact HO2.out) HG2.out⟩⟩
    · have hge : i = ks.length := by omega
      have HGE := Aside0.mk hge
      clear hge
      go_wp2
      go_end0
      have hp := HI.out
      rw [HGE.out] at hp
      exact ⟨rfl, hp.rep H.out hBw (Nat.le_of_eq HBM.out) hl, hp.below⟩
end
end Go.Proofs.Ytcgeioingikeeaa.P
namespace Go.Proofs.Ytcgeioingikeeaa.P
open Go.RowKit Go.Proofs.YtcgeioingikeeaaW.PrintWords Go.Proofs.YtcgeioingikeeaaW.PrintLast Go.Proofs.YtcgeioingikeeaaW.PrintMore
set_option linter.unusedVariables false
set_option linter.unusedSimpArgs false
/-- No cell is a text or a byte. -/
def Odd (cs : Array Value) : Prop := ∀ (j : Nat) (u : Value), cs[j]? = some u → (∀ s : ByteArray, u ≠ Value.string s) ∧ ∀ i : Int, u ≠ Value.int IntKind.u8 i
/-- The worlds differ at the block alone; in the first one it is odd. -/
structure But (b : Nat) (W W2 : World) : Prop where
  odd : ∃ cs t fr, W.heap[b]? = some (.cells cs t fr) ∧ Odd cs
  same : ∀ k, k ≠ b → W2.heap[k]? = W.heap[k]?
theorem But.cell {b : Nat} {W W2 : World} (h : But b W W2) {a : Addr} {u : Value} (hu : W.cell? a = some u) (ho : (∃ s : ByteArray, u = Value.string s) ∨ ∃ i : Int, u = Value.int IntKind.u8 i) : a.block ≠ b := by
  intro he
  obtain ⟨cs, t, fr, hb, hodd⟩ := h.odd
  unfold World.cell? at hu
  rw [he, hb] at hu
  simp only at hu
  split at hu
  · cases hu
  · obtain ⟨h1, h2⟩ := hodd _ _ hu
    rcases ho with ⟨s, rfl⟩ | ⟨i, rfl⟩
    · exact h1 s rfl
    · exact h2 i rfl
theorem But.cell2 {b : Nat} {W W2 : World} (h : But b W W2) {a : Addr} (ha : a.block ≠ b) : W2.cell? a = W.cell? a := by
  unfold World.cell?
  rw [h.same _ ha]
theorem add_blk (a : Addr) (n : Nat) : (a.add n).block = a.block := by
  unfold Addr.add
  split <;> rfl
/-- A row whose elements begin with a text or a byte is read just so. -/
theorem But.reads {α : Type} {d : Kd α} {b : Nat} {W W2 : World} (h : But b W W2) (hz : 0 < d.sz) (hK : ∀ x c, d.K W x c → d.K W2 x c ∧ ∃ u, c[0]? = some u ∧ ((∃ s : ByteArray, u = Value.string s) ∨ ∃ i : Int, u = Value.int IntKind.u8 i)) {A : Option Addr} {n : Nat} {xs : List α} (hC : d.C W A n xs) : d.C W2 A n xs := by
  obtain ⟨h1, h2, h3⟩ := hC
  refine ⟨h1, h2, fun hn => ?_⟩
  obtain ⟨ad, e, hc⟩ := h3 hn
  refine ⟨ad, e, fun j p hj => ?_⟩
  obtain ⟨c, hl, hk, hcell⟩ := hc j p hj
  obtain ⟨hk2, u, hu, ho⟩ := hK p c hk
  refine ⟨c, hl, hk2, fun i v hv => ?_⟩
  have hb := h.cell (hcell 0 u hu) ho
  rw [add_blk] at hb
  rw [h.cell2 (by rw [add_blk]; exact hb)]
  exact hcell i v hv
theorem But.bytes {b : Nat} {W W2 : World} (h : But b W W2) {A : Option Addr} {n : Nat} {xs : List Int} (hC : (Kd.int .u8).C W A n xs) : (Kd.int .u8).C W2 A n xs :=
  h.reads (d := Kd.int .u8) (by decide) (fun x c hk => by
    have hk' : c = [.int .u8 x] := hk
    subst hk'
    exact ⟨rfl, _, rfl, .inr ⟨x, rfl⟩⟩) hC
theorem But.K38 {b : Nat} {W W2 : World} (h : But b W W2) {x : S38} {c : List Value} (hk : k38.K W x c) : k38.K W2 x c ∧ ∃ u, c[0]? = some u ∧ ((∃ s : ByteArray, u = Value.string s) ∨ ∃ i : Int, u = Value.int IntKind.u8 i) := by
  obtain ⟨A, n, rfl, hl, hC⟩ := k38_open hk
  exact ⟨k38_mk W2 x hl (h.bytes hC), _, rfl, .inl ⟨_, rfl⟩⟩
theorem But.K31 {b : Nat} {W W2 : World} (h : But b W W2) {x : S31} {c : List Value} (hk : k31.K W x c) : k31.K W2 x c ∧ ∃ u, c[0]? = some u ∧ ((∃ s : ByteArray, u = Value.string s) ∨ ∃ i : Int, u = Value.int IntKind.u8 i) := by
  obtain ⟨A, n, rfl, hl, hC⟩ := k31_open hk
  exact ⟨k31_mk W2 x hl (h.bytes hC), _, rfl, .inl ⟨_, rfl⟩⟩
theorem But.C38 {b : Nat} {W W2 : World} (h : But b W W2) {A : Option Addr} {n : Nat} {xs : List S38} (hC : k38.C W A n xs) : k38.C W2 A n xs := h.reads (by decide) (fun _ _ hk => h.K38 hk) hC
theorem But.foot {P : World → Prop} {w w1 : World} {ok : Nat → Prop} {b : Nat} (h : But b w w1) (hsz : w1.heap.size = w.heap.size) (hf : Foot P w ok) (hP : ∀ W W2 : World, But b W W2 → P W → P W2) : Foot P w1 ok := by
  intro W' hW
  obtain ⟨cs, t, fr, hb, hodd⟩ := h.odd
  have hblt : b < w.heap.size := blk_lt hb
  by_cases hok : ok b
  · have hWb := hW b hok (by omega)
    have hlt : b < W'.heap.size := by
      have hx := Array.getElem?_eq_getElem (xs := w1.heap) (i := b) (by omega)
      rw [hx] at hWb
      exact (Array.getElem?_eq_some_iff.1 hWb).1
    have hpb : ({ W' with heap := W'.heap.set b (.cells cs t fr) hlt } : World).heap[b]? = some (.cells cs t fr) := by simp
    have hpo : ∀ k, k ≠ b → ({ W' with heap := W'.heap.set b (.cells cs t fr) hlt } : World).heap[k]? = W'.heap[k]? := fun k hk => by
      show (W'.heap.set b (.cells cs t fr) hlt)[k]? = _
      rw [Array.getElem?_set_ne hlt (Ne.symm hk)]
    refine hP _ W' ⟨⟨cs, t, fr, hpb, hodd⟩, fun k hk => (hpo k hk).symm⟩ (hf _ fun k hk hklt => ?_)
    by_cases hkb : k = b
    · subst hkb; rw [hpb, hb]
    · rw [hpo k hkb, hW k hk (by omega), h.same k hkb]
  · refine hf W' fun k hk hklt => ?_
    have hkb : k ≠ b := fun he => hok (he ▸ hk)
    rw [hW k hk (by omega), h.same k hkb]
theorem own_ne {w : World} {base e b : Nat} {size n : Nat} {v : Value} {xs : List Value} (h : w.ownsRow base e size v n xs) {cs : Array Value} {t : Nat} {fr : Nat × Nat} (hb : w.heap[b]? = some (.cells cs t fr)) (ht : t ≠ e) : v.ownBlock ≠ some b := fun he => by
  obtain ⟨cells, hc⟩ := own_typed h b he
  rw [hb] at hc
  injection hc with hc
  injection hc with _ hc
  exact ht hc
/-- The block is written: the store is as it was. -/
theorem RepAt.pokeB {B : Nat → Prop} {g b : Nat} {s : SSt} {w w1 : World} {mv sv pv : Value} (h : RepAt B g s w mv sv pv) (hB : But b w w1) (hsz : w1.heap.size = w.heap.size) {cs : Array Value} {t : Nat} {fr : Nat × Nat} (hb : w.heap[b]? = some (.cells cs t fr)) (h1 : t ≠ 106) (h2 : t ≠ 31) : RepAt B g s w1 mv sv pv := by
  have hgb : g ≠ b := fun he => by
    have := h.blk
    rw [he, hb] at this
    injection this with this
    injection this with _ this
    exact h1 this
  refine ⟨h.hg, (hB.same g hgb).trans h.blk, h.map.move ⟨_, _, _, hb⟩ (fun k _ hk => hB.same k hk), ?_, ?_, h.own⟩
  · exact Kd.V_map h.safe (fun A hf => hB.foot hsz hf (fun W W2 hb2 hc => hb2.C38 hc))
  · obtain ⟨inner, ho, hr⟩ := h.pend
    exact ⟨inner, own_move ho (fun k hk => hB.same k (fun he => own_ne ho hb h2 (by rw [hk, he]))), hr.imp_ fun x c hx => hB.foot hsz hx (fun W W2 hb2 hk => (hb2.K31 hk).1)⟩
/-- A row of the call's own, of another type, is as it was. -/
theorem But.R_bytes {b : Nat} {w w1 : World} (hB : But b w w1) {base : Nat} {ok : Nat → Prop} {v : Value} {xs : List Int} (h : (Kd.int .u8).R 5 w base ok v xs) {cs : Array Value} {t : Nat} {fr : Nat × Nat} (hb : w.heap[b]? = some (.cells cs t fr)) (ht : t ≠ 5) : (Kd.int .u8).R 5 w1 base ok v xs := by
  refine Kd.R_mono (Kd.R_move (Kd.R_bound h) fun k hk => hB.same k fun he => ?_) (fun _ hk => hk.1)
  obtain ⟨_, _, _, q, hq, cells, hc⟩ := hk
  have hq5 : q = 5 := by simpa [Kd.int, Kd.scalar] using hq
  rw [he, hb] at hc
  injection hc with hc
  injection hc with _ hc
  exact ht (hc.trans hq5)
theorem But.R_names {b : Nat} {w w1 : World} (hB : But b w w1) {base : Nat} {ok : Nat → Prop} {v : Value} {xs : List ByteArray} (h : Kd.string.R 9 w base ok v xs) {cs : Array Value} {t : Nat} {fr : Nat × Nat} (hb : w.heap[b]? = some (.cells cs t fr)) (ht : t ≠ 9) : Kd.string.R 9 w1 base ok v xs := by
  refine Kd.R_mono (Kd.R_move (Kd.R_bound h) fun k hk => hB.same k fun he => ?_) (fun _ hk => hk.1)
  obtain ⟨_, _, _, q, hq, cells, hc⟩ := hk
  have hq5 : q = 9 := by simpa [Kd.string, Kd.scalar] using hq
  rw [he, hb] at hc
  injection hc with hc
  injection hc with _ hc
  exact ht (hc.trans hq5)
end Go.Proofs.Ytcgeioingikeeaa.P
namespace Go.Proofs.Ytcgeioingikeeaa.P
open Go.RowKit Go.Proofs.YtcgeioingikeeaaW.PrintWords Go.Proofs.YtcgeioingikeeaaW.PrintLast Go.Proofs.YtcgeioingikeeaaW.PrintMore
set_option linter.unusedVariables false
set_option linter.unusedSimpArgs false
/-- A deed's write, as the program has it. -/
def wOf (d : S76) : S31 := ⟨d.f1.f0, d.f1.f1, d.f1.f2, d.f1.f3⟩
/-- A deed, done to a store: the store behind it; the error, the bytes and the names that are told. -/
def doS (s : SSt) (d : S76) : SSt × Int × List Int × List ByteArray :=
  if d.f0 = 1 then ((doR s (wOf d)).1, (doR s (wOf d)).2, [], []) else
  if d.f0 = 2 then ((syncR s d.f2).1, (syncR s d.f2).2, [], []) else
  if d.f0 = 3 then ((moveR s d.f2 d.f3).1, (moveR s d.f2 d.f3).2, [], []) else
  if d.f0 = 4 then ((dropR s d.f2).1, (dropR s d.f2).2, [], []) else
  if d.f0 = 5 then ((readR s d.f2).1, (readR s d.f2).2.1, (readR s d.f2).2.2, []) else
  if d.f0 = 6 then ((listR s).1, (listR s).2.1, [], (listR s).2.2) else
  if d.f0 = 7 then (crashD s d.f4, 0, [], []) else (planD s d.f4 d.f5, 0, [], [])
section
variable {B : Nat → Prop} {g : Nat} {s : SSt} {w : World} {mv sv pv : Value}
theorem results_told {fn : Func} (h : fn.results = #[.cell 4 73]) {tmps : Array Value} {b : Nat} {x y z : Value} (ht : tmps.getD 4 undef = .pointer (some ⟨b, 0, none⟩)) (hb : w.heap[b]? = some (.cells #[x, y, z] 73 (0, 0))) :
    (results fn tmps).run Try.prog w = .ok (.agg #[x, y, z]) w := by
  have hc0 : w.cell? ⟨b, 0, none⟩ = some x := by rw [cell_of_row w b _ _ 73 (0, 0) hb]; rfl
  have hc1 : w.cell? ⟨b, 1, none⟩ = some y := by rw [cell_of_row w b _ _ 73 (0, 0) hb]; rfl
  have hc2 : w.cell? ⟨b, 2, none⟩ = some z := by rw [cell_of_row w b _ _ 73 (0, 0) hb]; rfl
  rw [Array.getD_eq_getD_getElem?] at ht
  simp only [results, h]
  simp [asAddr]
  rw [ht]
  go_simp
/-- A variable that holds what is told. -/
def VarT (w : World) (b : Nat) (x y z : Value) : Prop := w.heap[b]? = some (.cells #[x, y, z] 73 (0, 0))
theorem VarT.facts {b : Nat} {x y z : Value} (h : VarT w b x y z) (x1 y1 z1 : Value) : w.frozen? ⟨b, 0, none⟩ = false ∧ w.cell? ⟨b, 0, none⟩ = some x ∧ (w.setCell ⟨b, 0, none⟩ x1).frozen? ⟨b, 1, none⟩ = false ∧ (w.setCell ⟨b, 0, none⟩ x1).cell? ⟨b, 1, none⟩ = some y ∧
    ((w.setCell ⟨b, 0, none⟩ x1).setCell ⟨b, 1, none⟩ y1).frozen? ⟨b, 2, none⟩ = false ∧ ((w.setCell ⟨b, 0, none⟩ x1).setCell ⟨b, 1, none⟩ y1).cell? ⟨b, 2, none⟩ = some z ∧ VarT (((w.setCell ⟨b, 0, none⟩ x1).setCell ⟨b, 1, none⟩ y1).setCell ⟨b, 2, none⟩ z1) b x1 y1 z1 := by
  have h1 := blk_set h 0 x1
  have h2 := blk_set h1 1 y1
  have h3 := blk_set h2 2 z1
  exact ⟨blk_frozen h 0, by rw [cell_of_row _ b _ _ 73 (0, 0) h]; rfl, blk_frozen h1 1, by rw [cell_of_row _ b _ _ 73 (0, 0) h1]; rfl, blk_frozen h2 2, by rw [cell_of_row _ b _ _ 73 (0, 0) h2]; rfl, h3⟩
theorem set_size (w : World) (a : Addr) (u : Value) : (w.setCell a u).heap.size = w.heap.size := by simp [World.setCell]
theorem odd_told : Odd #[.int .i64 0, .slice none 0 0, .slice none 0 0] := by
  intro j u hu
  match j, hu with
  | 0, hu => obtain rfl := Option.some.inj hu; exact ⟨by simp, by simp⟩
  | 1, hu => obtain rfl := Option.some.inj hu; exact ⟨by simp, by simp⟩
  | 2, hu => obtain rfl := Option.some.inj hu; exact ⟨by simp, by simp⟩
  | n + 3, hu => cases hu
theorem VarT.but {b : Nat} (h : VarT w b (.int .i64 0) (.slice none 0 0) (.slice none 0 0)) (x1 y1 z1 : Value) : But b w (((w.setCell ⟨b, 0, none⟩ x1).setCell ⟨b, 1, none⟩ y1).setCell ⟨b, 2, none⟩ z1) :=
  ⟨⟨_, _, _, h, odd_told⟩, fun k hk => by rw [Below.heap_setCell _ ⟨b, 2, none⟩ _ k hk, Below.heap_setCell _ ⟨b, 1, none⟩ _ k hk, Below.heap_setCell _ ⟨b, 0, none⟩ _ k hk]⟩
/-- The set of the store's blocks may be another one. -/
theorem RepAt.less {B' : Nat → Prop} (h : RepAt B g s w mv sv pv) (hB : ∀ k, B k → k < w.heap.size → B' k) : RepAt B' g s w mv sv pv := by
  refine ⟨hB g h.hg (blk_lt h.blk), h.blk, ?_, h.safe, h.pend, fun k hk => hB k (h.own k hk) ?_⟩
  · rcases h.map with h1 | h1
    · exact .inl h1
    · exact .inr h1
  · obtain ⟨inner, ho, _⟩ := h.pend
    exact own_lt ho k hk
theorem Rep.less {B' : Nat → Prop} (h : Rep B g s w) (hB : ∀ k, B k → k < w.heap.size → B' k) : Rep B' g s w := by
  obtain ⟨mv, sv, pv, h⟩ := h
  exact ⟨mv, sv, pv, h.less hB⟩
theorem Rep.lt (h : Rep B g s w) : g < w.heap.size := by
  obtain ⟨_, _, _, h⟩ := h
  exact blk_lt h.blk
theorem BelS.more {B' : Nat → Prop} {w1 : World} (h : BelS B w w1) (hB : ∀ k, k < w.heap.size → B k → B' k) : BelS B' w w1 := ⟨h.os, h.tape, h.output, h.size, fun k hk hn => h.block k hk (fun hb => hn (hB k hk hb))⟩
theorem do_callsW (d : S76) (A3 : Option Addr) (c3 : Nat) (h : Rep B g s w) (hf : Fit s) (hf1 : Fit (asked s).1) (hBw : Up B w.heap.size) (hx : d.f1.f3.length ≤ 1000) (hF : Kd.F (Kd.int .u8) w (fun k => k ≠ g) A3 d.f1.f3.length d.f1.f3) (hc3 : d.f1.f3.length ≤ c3) :
    Calls Try.prog 67 #[.pointer (some ⟨g, 0, none⟩), .agg #[.string d.f1.f0, .int .i64 d.f1.f1, .int .i64 d.f1.f2, .slice A3 d.f1.f3.length c3]] w fun e w' => e = .returned (.int .i64 (doR s (wOf d)).2) ∧ Rep B g (doR s (wOf d)).1 w' ∧ BelS B w w' :=
  do_calls (wOf d) A3 c3 h hf hf1 hBw hx hF hc3
/-- All blocks of B, but this one. -/
def NotB (B : Nat → Prop) (b : Nat) : Nat → Prop := fun k => B k ∧ k ≠ b
theorem rep_told {w1 w2 : World} {s1 : SSt} {b : Nat} (hw : Below w.heap.size w w1) (hBw : Up B w.heap.size) (hb : w.heap.size ≤ b) (hv : VarT w1 b (.int .i64 0) (.slice none 0 0) (.slice none 0 0)) (hr : Rep (NotB B b) g s1 w2) (hl : BelS (NotB B b) w1 w2) :
    VarT w2 b (.int .i64 0) (.slice none 0 0) (.slice none 0 0) ∧ ∀ x y z, Rep B g s1 (((w2.setCell ⟨b, 0, none⟩ x).setCell ⟨b, 1, none⟩ y).setCell ⟨b, 2, none⟩ z) ∧ BelS B w (((w2.setCell ⟨b, 0, none⟩ x).setCell ⟨b, 1, none⟩ y).setCell ⟨b, 2, none⟩ z) := by
  have hv2 : VarT w2 b (.int .i64 0) (.slice none 0 0) (.slice none 0 0) := (hl.block b (blk_lt hv) (fun h => h.2 rfl)).trans hv
  refine ⟨hv2, fun x y z => ⟨?_, ?_⟩⟩
  · obtain ⟨mv, sv, pv, hr⟩ := hr
    exact ⟨mv, sv, pv, (hr.pokeB (hv2.but x y z) (by rw [set_size, set_size, set_size]) hv2 (by decide) (by decide)).less fun k hk _ => hk.1⟩
  · exact belowB_set (belowB_set (belowB_set (belowB_trans (belowB_of hBw hw) (hl.more fun k _ hk => hk.1)) (hBw b hb) 0 _) (hBw b hb) 1 _) (hBw b hb) 2 _

set_option maxHeartbeats 4000000 in
theorem do_real1 (d : S76) (A4 : Option Addr) (c4 : Nat) (A7 : Option Addr) (c7 : Nat) (h : Rep B g s w) (hf : Fit s) (hf1 : Fit (asked s).1) (hBw : Up B w.heap.size) (hF4 : Kd.F (Kd.int .u8) w (fun k => k ≠ g) A4 d.f1.f3.length d.f1.f3) (hc4 : d.f1.f3.length ≤ c4) (hF7 : Kd.F (Kd.int .i64) w (fun k => k ≠ g) A7 d.f4.length d.f4) (hl4 : d.f1.f3.length ≤ 1000) (hl7 : d.f4.length ≤ 1000) (hw7 : ∀ n ∈ d.f4, (Lit.int .i64 n).wf = true) :
    Calls Try.prog 48 #[.pointer (some ⟨g, 0, none⟩), .agg #[.int .i64 1, .string d.f1.f0, .int .i64 d.f1.f1, .int .i64 d.f1.f2, .slice A4 d.f1.f3.length c4, .string d.f2, .string d.f3, .slice A7 d.f4.length c7, .int .i64 d.f5]] w fun e w' => ∃ y z, e = .returned (.agg #[.int .i64 (doR s (wOf d)).2, y, z]) ∧ (Kd.int .u8).R 5 w' w.heap.size (fun _ => True) y [] ∧ Kd.string.R 9 w' w.heap.size (fun _ => True) z [] ∧ Rep B g (doR s (wOf d)).1 w' ∧ BelS B w w' := by
  have hw2 : Below w.heap.size w ((w.alloc (Obj.cells #[.int .i64 1, .string d.f1.f0, .int .i64 d.f1.f1, .int .i64 d.f1.f2, .slice A4 d.f1.f3.length c4, .string d.f2, .string d.f3, .slice A7 d.f4.length c7, .int .i64 d.f5] 76)).alloc (Obj.cells #[.int .i64 0, .slice none 0 0, .slice none 0 0] 73)) := below_alloc (below_alloc (Below.refl _ _) _) _
  have hv2 : VarT ((w.alloc (Obj.cells #[.int .i64 1, .string d.f1.f0, .int .i64 d.f1.f1, .int .i64 d.f1.f2, .slice A4 d.f1.f3.length c4, .string d.f2, .string d.f3, .slice A7 d.f4.length c7, .int .i64 d.f5] 76)).alloc (Obj.cells #[.int .i64 0, .slice none 0 0, .slice none 0 0] 73)) (w.heap.size + 1) (.int .i64 0) (.slice none 0 0) (.slice none 0 0) := by
    have := heap_alloc_new (w.alloc (Obj.cells #[.int .i64 1, .string d.f1.f0, .int .i64 d.f1.f1, .int .i64 d.f1.f2, .slice A4 d.f1.f3.length c4, .string d.f2, .string d.f3, .slice A7 d.f4.length c7, .int .i64 d.f5] 76)) (Obj.cells #[.int .i64 0, .slice none 0 0, .slice none 0 0] 73)
    rw [World.size_alloc] at this
    exact this
  have hsz : ((w.alloc (Obj.cells #[.int .i64 1, .string d.f1.f0, .int .i64 d.f1.f1, .int .i64 d.f1.f2, .slice A4 d.f1.f3.length c4, .string d.f2, .string d.f3, .slice A7 d.f4.length c7, .int .i64 d.f5] 76)).alloc (Obj.cells #[.int .i64 0, .slice none 0 0, .slice none 0 0] 73)).heap.size = w.heap.size + 2 := by rw [World.size_alloc, World.size_alloc]
  have hlt := h.lt
  have hr2 : Rep (NotB B (w.heap.size + 1)) g s ((w.alloc (Obj.cells #[.int .i64 1, .string d.f1.f0, .int .i64 d.f1.f1, .int .i64 d.f1.f2, .slice A4 d.f1.f3.length c4, .string d.f2, .string d.f3, .slice A7 d.f4.length c7, .int .i64 d.f5] 76)).alloc (Obj.cells #[.int .i64 0, .slice none 0 0, .slice none 0 0] 73)) := (h.less (B' := NotB B (w.heap.size + 1)) fun k hk hlt2 => ⟨hk, by omega⟩).below hw2
  have hup : Up (NotB B (w.heap.size + 1)) ((w.alloc (Obj.cells #[.int .i64 1, .string d.f1.f0, .int .i64 d.f1.f1, .int .i64 d.f1.f2, .slice A4 d.f1.f3.length c4, .string d.f2, .string d.f3, .slice A7 d.f4.length c7, .int .i64 d.f5] 76)).alloc (Obj.cells #[.int .i64 0, .slice none 0 0, .slice none 0 0] 73)).heap.size := fun k hk => ⟨hBw k (by omega), by omega⟩
  have HW2 := Aside0.mk hw2
  have HV2 := Aside0.mk hv2
  have HR2 := Aside0.mk hr2
  have HUP := Aside0.mk hup
  have HSZ := Aside0.mk hsz
  have HF := Aside0.mk hf
  have HF1 := Aside0.mk hf1
  have H4 := Aside0.mk hF4
  have H7 := Aside0.mk hF7
  have HW7 := Aside0.mk hw7
  clear hw2 hv2 hr2 hup hsz hf hf1 hF4 hF7 hw7 h
  go_enter Try.func48, Try.ntmps48
  go_wp2_with (first
    | (go_at_call 79; refine (gambrellaw18_made.calls d.f1.f0 d.f1.f1 d.f1.f2 (fun k => k ≠ g) A4 c4 d.f1.f3 _ _ _ _ _ (Kd.V_below (show Kd.V (Kd.int .u8) 5 w 0 (fun k => k ≠ g) (.slice A4 d.f1.f3.length c4) d.f1.f3 from ⟨A4, c4, rfl, hc4, H4.out⟩) HW2.out) rfl).mono ?_; rintro e w0 ⟨v0, rfl, hV0, hb0⟩; obtain ⟨A0, c0, rfl⟩ := Kd.V_slice hV0; have HV0 := Aside0.mk hV0; have HB0 := Aside0.mk hb0; clear hb0 hV0)
    | (go_at_call 67; (with_reducible refine (do_callsW d A0 c0 (HR2.out.below HB0.out) HF.out HF1.out (HUP.out.le HB0.out.size) hl4 ?hF (Kd.V_at HV0.out).2.1).mono ?_); (case hF => refine Kd.F_mono (Kd.V_at HV0.out).2.2 ?_; intro k hk; rcases hk with hk | hk; exact hk; have := HSZ.out; omega); rintro e w1 ⟨rfl, hr1, hb1'⟩; have hb1 := belowB_trans (belowB_of HUP.out HB0.out) hb1'; clear hb1'; obtain ⟨hv3, hrest⟩ := rep_told HW2.out hBw (by omega) HV2.out hr1 hb1; obtain ⟨hf0, hg0, hf1, hg1, hf2, hg2, hT⟩ := VarT.facts hv3 (.int .i64 (doR s (wOf d)).2) (.slice none 0 0) (.slice none 0 0); have HT := Aside0.mk hT; have HV3 := Aside0.mk hv3; have HREST := Aside0.mk hrest; clear hr1 hb1 hT hv3 hrest))
  refine bodyPost_ret (results_told rfl rfl HT.out) rfl ?_
  exact ⟨_, _, rfl, Kd.R_nil _ _ _ _ _, Kd.R_nil _ _ _ _ _, (HREST.out _ _ _).1, (HREST.out _ _ _).2⟩
set_option maxHeartbeats 4000000 in
theorem do_real2 (d : S76) (A4 : Option Addr) (c4 : Nat) (A7 : Option Addr) (c7 : Nat) (h : Rep B g s w) (hf : Fit s) (hf1 : Fit (asked s).1) (hBw : Up B w.heap.size) (hF4 : Kd.F (Kd.int .u8) w (fun k => k ≠ g) A4 d.f1.f3.length d.f1.f3) (hc4 : d.f1.f3.length ≤ c4) (hF7 : Kd.F (Kd.int .i64) w (fun k => k ≠ g) A7 d.f4.length d.f4) (hl4 : d.f1.f3.length ≤ 1000) (hl7 : d.f4.length ≤ 1000) (hw7 : ∀ n ∈ d.f4, (Lit.int .i64 n).wf = true) :
    Calls Try.prog 48 #[.pointer (some ⟨g, 0, none⟩), .agg #[.int .i64 2, .string d.f1.f0, .int .i64 d.f1.f1, .int .i64 d.f1.f2, .slice A4 d.f1.f3.length c4, .string d.f2, .string d.f3, .slice A7 d.f4.length c7, .int .i64 d.f5]] w fun e w' => ∃ y z, e = .returned (.agg #[.int .i64 (syncR s d.f2).2, y, z]) ∧ (Kd.int .u8).R 5 w' w.heap.size (fun _ => True) y [] ∧ Kd.string.R 9 w' w.heap.size (fun _ => True) z [] ∧ Rep B g (syncR s d.f2).1 w' ∧ BelS B w w' := by
  have hw2 : Below w.heap.size w ((w.alloc (Obj.cells #[.int .i64 2, .string d.f1.f0, .int .i64 d.f1.f1, .int .i64 d.f1.f2, .slice A4 d.f1.f3.length c4, .string d.f2, .string d.f3, .slice A7 d.f4.length c7, .int .i64 d.f5] 76)).alloc (Obj.cells #[.int .i64 0, .slice none 0 0, .slice none 0 0] 73)) := below_alloc (below_alloc (Below.refl _ _) _) _
  have hv2 : VarT ((w.alloc (Obj.cells #[.int .i64 2, .string d.f1.f0, .int .i64 d.f1.f1, .int .i64 d.f1.f2, .slice A4 d.f1.f3.length c4, .string d.f2, .string d.f3, .slice A7 d.f4.length c7, .int .i64 d.f5] 76)).alloc (Obj.cells #[.int .i64 0, .slice none 0 0, .slice none 0 0] 73)) (w.heap.size + 1) (.int .i64 0) (.slice none 0 0) (.slice none 0 0) := by
    have := heap_alloc_new (w.alloc (Obj.cells #[.int .i64 2, .string d.f1.f0, .int .i64 d.f1.f1, .int .i64 d.f1.f2, .slice A4 d.f1.f3.length c4, .string d.f2, .string d.f3, .slice A7 d.f4.length c7, .int .i64 d.f5] 76)) (Obj.cells #[.int .i64 0, .slice none 0 0, .slice none 0 0] 73)
    rw [World.size_alloc] at this
    exact this
  have hsz : ((w.alloc (Obj.cells #[.int .i64 2, .string d.f1.f0, .int .i64 d.f1.f1, .int .i64 d.f1.f2, .slice A4 d.f1.f3.length c4, .string d.f2, .string d.f3, .slice A7 d.f4.length c7, .int .i64 d.f5] 76)).alloc (Obj.cells #[.int .i64 0, .slice none 0 0, .slice none 0 0] 73)).heap.size = w.heap.size + 2 := by rw [World.size_alloc, World.size_alloc]
  have hlt := h.lt
  have hr2 : Rep (NotB B (w.heap.size + 1)) g s ((w.alloc (Obj.cells #[.int .i64 2, .string d.f1.f0, .int .i64 d.f1.f1, .int .i64 d.f1.f2, .slice A4 d.f1.f3.length c4, .string d.f2, .string d.f3, .slice A7 d.f4.length c7, .int .i64 d.f5] 76)).alloc (Obj.cells #[.int .i64 0, .slice none 0 0, .slice none 0 0] 73)) := (h.less (B' := NotB B (w.heap.size + 1)) fun k hk hlt2 => ⟨hk, by omega⟩).below hw2
  have hup : Up (NotB B (w.heap.size + 1)) ((w.alloc (Obj.cells #[.int .i64 2, .string d.f1.f0, .int .i64 d.f1.f1, .int .i64 d.f1.f2, .slice A4 d.f1.f3.length c4, .string d.f2, .string d.f3, .slice A7 d.f4.length c7, .int .i64 d.f5] 76)).alloc (Obj.cells #[.int .i64 0, .slice none 0 0, .slice none 0 0] 73)).heap.size := fun k hk => ⟨hBw k (by omega), by omega⟩
  have HW2 := Aside0.mk hw2
  have HV2 := Aside0.mk hv2
  have HR2 := Aside0.mk hr2
  have HUP := Aside0.mk hup
  have HSZ := Aside0.mk hsz
  have HF := Aside0.mk hf
  have HF1 := Aside0.mk hf1
  have H4 := Aside0.mk hF4
  have H7 := Aside0.mk hF7
  have HW7 := Aside0.mk hw7
  clear hw2 hv2 hr2 hup hsz hf hf1 hF4 hF7 hw7 h
  go_enter Try.func48, Try.ntmps48
  go_wp2_with (go_at_call 41; (with_reducible refine (sync_calls d.f2 HR2.out HF.out HF1.out HUP.out).mono ?_); rintro e w1 ⟨rfl, hr1, hb1⟩; obtain ⟨hv3, hrest⟩ := rep_told HW2.out hBw (by omega) HV2.out hr1 hb1; obtain ⟨hf0, hg0, hf1, hg1, hf2, hg2, hT⟩ := VarT.facts hv3 (.int .i64 (syncR s d.f2).2) (.slice none 0 0) (.slice none 0 0); have HT := Aside0.mk hT; have HV3 := Aside0.mk hv3; have HREST := Aside0.mk hrest; clear hr1 hb1 hT hv3 hrest)
  refine bodyPost_ret (results_told rfl rfl HT.out) rfl ?_
  exact ⟨_, _, rfl, Kd.R_nil _ _ _ _ _, Kd.R_nil _ _ _ _ _, (HREST.out _ _ _).1, (HREST.out _ _ _).2⟩
set_option maxHeartbeats 4000000 in
theorem do_real3 (d : S76) (A4 : Option Addr) (c4 : Nat) (A7 : Option Addr) (c7 : Nat) (h : Rep B g s w) (hf : Fit s) (hf1 : Fit (asked s).1) (hBw : Up B w.heap.size) (hF4 : Kd.F (Kd.int .u8) w (fun k => k ≠ g) A4 d.f1.f3.length d.f1.f3) (hc4 : d.f1.f3.length ≤ c4) (hF7 : Kd.F (Kd.int .i64) w (fun k => k ≠ g) A7 d.f4.length d.f4) (hl4 : d.f1.f3.length ≤ 1000) (hl7 : d.f4.length ≤ 1000) (hw7 : ∀ n ∈ d.f4, (Lit.int .i64 n).wf = true) :
    Calls Try.prog 48 #[.pointer (some ⟨g, 0, none⟩), .agg #[.int .i64 3, .string d.f1.f0, .int .i64 d.f1.f1, .int .i64 d.f1.f2, .slice A4 d.f1.f3.length c4, .string d.f2, .string d.f3, .slice A7 d.f4.length c7, .int .i64 d.f5]] w fun e w' => ∃ y z, e = .returned (.agg #[.int .i64 (moveR s d.f2 d.f3).2, y, z]) ∧ (Kd.int .u8).R 5 w' w.heap.size (fun _ => True) y [] ∧ Kd.string.R 9 w' w.heap.size (fun _ => True) z [] ∧ Rep B g (moveR s d.f2 d.f3).1 w' ∧ BelS B w w' := by
  have hw2 : Below w.heap.size w ((w.alloc (Obj.cells #[.int .i64 3, .string d.f1.f0, .int .i64 d.f1.f1, .int .i64 d.f1.f2, .slice A4 d.f1.f3.length c4, .string d.f2, .string d.f3, .slice A7 d.f4.length c7, .int .i64 d.f5] 76)).alloc (Obj.cells #[.int .i64 0, .slice none 0 0, .slice none 0 0] 73)) := below_alloc (below_alloc (Below.refl _ _) _) _
  have hv2 : VarT ((w.alloc (Obj.cells #[.int .i64 3, .string d.f1.f0, .int .i64 d.f1.f1, .int .i64 d.f1.f2, .slice A4 d.f1.f3.length c4, .string d.f2, .string d.f3, .slice A7 d.f4.length c7, .int .i64 d.f5] 76)).alloc (Obj.cells #[.int .i64 0, .slice none 0 0, .slice none 0 0] 73)) (w.heap.size + 1) (.int .i64 0) (.slice none 0 0) (.slice none 0 0) := by
    have := heap_alloc_new (w.alloc (Obj.cells #[.int .i64 3, .string d.f1.f0, .int .i64 d.f1.f1, .int .i64 d.f1.f2, .slice A4 d.f1.f3.length c4, .string d.f2, .string d.f3, .slice A7 d.f4.length c7, .int .i64 d.f5] 76)) (Obj.cells #[.int .i64 0, .slice none 0 0, .slice none 0 0] 73)
    rw [World.size_alloc] at this
    exact this
  have hsz : ((w.alloc (Obj.cells #[.int .i64 3, .string d.f1.f0, .int .i64 d.f1.f1, .int .i64 d.f1.f2, .slice A4 d.f1.f3.length c4, .string d.f2, .string d.f3, .slice A7 d.f4.length c7, .int .i64 d.f5] 76)).alloc (Obj.cells #[.int .i64 0, .slice none 0 0, .slice none 0 0] 73)).heap.size = w.heap.size + 2 := by rw [World.size_alloc, World.size_alloc]
  have hlt := h.lt
  have hr2 : Rep (NotB B (w.heap.size + 1)) g s ((w.alloc (Obj.cells #[.int .i64 3, .string d.f1.f0, .int .i64 d.f1.f1, .int .i64 d.f1.f2, .slice A4 d.f1.f3.length c4, .string d.f2, .string d.f3, .slice A7 d.f4.length c7, .int .i64 d.f5] 76)).alloc (Obj.cells #[.int .i64 0, .slice none 0 0, .slice none 0 0] 73)) := (h.less (B' := NotB B (w.heap.size + 1)) fun k hk hlt2 => ⟨hk, by omega⟩).below hw2
  have hup : Up (NotB B (w.heap.size + 1)) ((w.alloc (Obj.cells #[.int .i64 3, .string d.f1.f0, .int .i64 d.f1.f1, .int .i64 d.f1.f2, .slice A4 d.f1.f3.length c4, .string d.f2, .string d.f3, .slice A7 d.f4.length c7, .int .i64 d.f5] 76)).alloc (Obj.cells #[.int .i64 0, .slice none 0 0, .slice none 0 0] 73)).heap.size := fun k hk => ⟨hBw k (by omega), by omega⟩
  have HW2 := Aside0.mk hw2
  have HV2 := Aside0.mk hv2
  have HR2 := Aside0.mk hr2
  have HUP := Aside0.mk hup
  have HSZ := Aside0.mk hsz
  have HF := Aside0.mk hf
  have HF1 := Aside0.mk hf1
  have H4 := Aside0.mk hF4
  have H7 := Aside0.mk hF7
  have HW7 := Aside0.mk hw7
  clear hw2 hv2 hr2 hup hsz hf hf1 hF4 hF7 hw7 h
  go_enter Try.func48, Try.ntmps48
  go_wp2_with (go_at_call 43; (with_reducible refine (move_calls d.f2 d.f3 HR2.out HF.out HF1.out HUP.out).mono ?_); rintro e w1 ⟨rfl, hr1, hb1⟩; obtain ⟨hv3, hrest⟩ := rep_told HW2.out hBw (by omega) HV2.out hr1 hb1; obtain ⟨hf0, hg0, hf1, hg1, hf2, hg2, hT⟩ := VarT.facts hv3 (.int .i64 (moveR s d.f2 d.f3).2) (.slice none 0 0) (.slice none 0 0); have HT := Aside0.mk hT; have HV3 := Aside0.mk hv3; have HREST := Aside0.mk hrest; clear hr1 hb1 hT hv3 hrest)
  refine bodyPost_ret (results_told rfl rfl HT.out) rfl ?_
  exact ⟨_, _, rfl, Kd.R_nil _ _ _ _ _, Kd.R_nil _ _ _ _ _, (HREST.out _ _ _).1, (HREST.out _ _ _).2⟩
set_option maxHeartbeats 4000000 in
theorem do_real4 (d : S76) (A4 : Option Addr) (c4 : Nat) (A7 : Option Addr) (c7 : Nat) (h : Rep B g s w) (hf : Fit s) (hf1 : Fit (asked s).1) (hBw : Up B w.heap.size) (hF4 : Kd.F (Kd.int .u8) w (fun k => k ≠ g) A4 d.f1.f3.length d.f1.f3) (hc4 : d.f1.f3.length ≤ c4) (hF7 : Kd.F (Kd.int .i64) w (fun k => k ≠ g) A7 d.f4.length d.f4) (hl4 : d.f1.f3.length ≤ 1000) (hl7 : d.f4.length ≤ 1000) (hw7 : ∀ n ∈ d.f4, (Lit.int .i64 n).wf = true) :
    Calls Try.prog 48 #[.pointer (some ⟨g, 0, none⟩), .agg #[.int .i64 4, .string d.f1.f0, .int .i64 d.f1.f1, .int .i64 d.f1.f2, .slice A4 d.f1.f3.length c4, .string d.f2, .string d.f3, .slice A7 d.f4.length c7, .int .i64 d.f5]] w fun e w' => ∃ y z, e = .returned (.agg #[.int .i64 (dropR s d.f2).2, y, z]) ∧ (Kd.int .u8).R 5 w' w.heap.size (fun _ => True) y [] ∧ Kd.string.R 9 w' w.heap.size (fun _ => True) z [] ∧ Rep B g (dropR s d.f2).1 w' ∧ BelS B w w' := by
  have hw2 : Below w.heap.size w ((w.alloc (Obj.cells #[.int .i64 4, .string d.f1.f0, .int .i64 d.f1.f1, .int .i64 d.f1.f2, .slice A4 d.f1.f3.length c4, .string d.f2, .string d.f3, .slice A7 d.f4.length c7, .int .i64 d.f5] 76)).alloc (Obj.cells #[.int .i64 0, .slice none 0 0, .slice none 0 0] 73)) := below_alloc (below_alloc (Below.refl _ _) _) _
  have hv2 : VarT ((w.alloc (Obj.cells #[.int .i64 4, .string d.f1.f0, .int .i64 d.f1.f1, .int .i64 d.f1.f2, .slice A4 d.f1.f3.length c4, .string d.f2, .string d.f3, .slice A7 d.f4.length c7, .int .i64 d.f5] 76)).alloc (Obj.cells #[.int .i64 0, .slice none 0 0, .slice none 0 0] 73)) (w.heap.size + 1) (.int .i64 0) (.slice none 0 0) (.slice none 0 0) := by
    have := heap_alloc_new (w.alloc (Obj.cells #[.int .i64 4, .string d.f1.f0, .int .i64 d.f1.f1, .int .i64 d.f1.f2, .slice A4 d.f1.f3.length c4, .string d.f2, .string d.f3, .slice A7 d.f4.length c7, .int .i64 d.f5] 76)) (Obj.cells #[.int .i64 0, .slice none 0 0, .slice none 0 0] 73)
    rw [World.size_alloc] at this
    exact this
  have hsz : ((w.alloc (Obj.cells #[.int .i64 4, .string d.f1.f0, .int .i64 d.f1.f1, .int .i64 d.f1.f2, .slice A4 d.f1.f3.length c4, .string d.f2, .string d.f3, .slice A7 d.f4.length c7, .int .i64 d.f5] 76)).alloc (Obj.cells #[.int .i64 0, .slice none 0 0, .slice none 0 0] 73)).heap.size = w.heap.size + 2 := by rw [World.size_alloc, World.size_alloc]
  have hlt := h.lt
  have hr2 : Rep (NotB B (w.heap.size + 1)) g s ((w.alloc (Obj.cells #[.int .i64 4, .string d.f1.f0, .int .i64 d.f1.f1, .int .i64 d.f1.f2, .slice A4 d.f1.f3.length c4, .string d.f2, .string d.f3, .slice A7 d.f4.length c7, .int .i64 d.f5] 76)).alloc (Obj.cells #[.int .i64 0, .slice none 0 0, .slice none 0 0] 73)) := (h.less (B' := NotB B (w.heap.size + 1)) fun k hk hlt2 => ⟨hk, by omega⟩).below hw2
  have hup : Up (NotB B (w.heap.size + 1)) ((w.alloc (Obj.cells #[.int .i64 4, .string d.f1.f0, .int .i64 d.f1.f1, .int .i64 d.f1.f2, .slice A4 d.f1.f3.length c4, .string d.f2, .string d.f3, .slice A7 d.f4.length c7, .int .i64 d.f5] 76)).alloc (Obj.cells #[.int .i64 0, .slice none 0 0, .slice none 0 0] 73)).heap.size := fun k hk => ⟨hBw k (by omega), by omega⟩
  have HW2 := Aside0.mk hw2
  have HV2 := Aside0.mk hv2
  have HR2 := Aside0.mk hr2
  have HUP := Aside0.mk hup
  have HSZ := Aside0.mk hsz
  have HF := Aside0.mk hf
  have HF1 := Aside0.mk hf1
  have H4 := Aside0.mk hF4
  have H7 := Aside0.mk hF7
  have HW7 := Aside0.mk hw7
  clear hw2 hv2 hr2 hup hsz hf hf1 hF4 hF7 hw7 h
  go_enter Try.func48, Try.ntmps48
  go_wp2_with (go_at_call 80; (with_reducible refine (drop_calls d.f2 HR2.out HF.out HF1.out HUP.out).mono ?_); rintro e w1 ⟨rfl, hr1, hb1⟩; obtain ⟨hv3, hrest⟩ := rep_told HW2.out hBw (by omega) HV2.out hr1 hb1; obtain ⟨hf0, hg0, hf1, hg1, hf2, hg2, hT⟩ := VarT.facts hv3 (.int .i64 (dropR s d.f2).2) (.slice none 0 0) (.slice none 0 0); have HT := Aside0.mk hT; have HV3 := Aside0.mk hv3; have HREST := Aside0.mk hrest; clear hr1 hb1 hT hv3 hrest)
  refine bodyPost_ret (results_told rfl rfl HT.out) rfl ?_
  exact ⟨_, _, rfl, Kd.R_nil _ _ _ _ _, Kd.R_nil _ _ _ _ _, (HREST.out _ _ _).1, (HREST.out _ _ _).2⟩
set_option maxHeartbeats 4000000 in
theorem do_real5 (d : S76) (A4 : Option Addr) (c4 : Nat) (A7 : Option Addr) (c7 : Nat) (h : Rep B g s w) (hf : Fit s) (hf1 : Fit (asked s).1) (hBw : Up B w.heap.size) (hF4 : Kd.F (Kd.int .u8) w (fun k => k ≠ g) A4 d.f1.f3.length d.f1.f3) (hc4 : d.f1.f3.length ≤ c4) (hF7 : Kd.F (Kd.int .i64) w (fun k => k ≠ g) A7 d.f4.length d.f4) (hl4 : d.f1.f3.length ≤ 1000) (hl7 : d.f4.length ≤ 1000) (hw7 : ∀ n ∈ d.f4, (Lit.int .i64 n).wf = true) :
    Calls Try.prog 48 #[.pointer (some ⟨g, 0, none⟩), .agg #[.int .i64 5, .string d.f1.f0, .int .i64 d.f1.f1, .int .i64 d.f1.f2, .slice A4 d.f1.f3.length c4, .string d.f2, .string d.f3, .slice A7 d.f4.length c7, .int .i64 d.f5]] w fun e w' => ∃ y z, e = .returned (.agg #[.int .i64 (readR s d.f2).2.1, y, z]) ∧ (Kd.int .u8).R 5 w' w.heap.size (fun _ => True) y (readR s d.f2).2.2 ∧ Kd.string.R 9 w' w.heap.size (fun _ => True) z [] ∧ Rep B g (readR s d.f2).1 w' ∧ BelS B w w' := by
  have hw2 : Below w.heap.size w ((w.alloc (Obj.cells #[.int .i64 5, .string d.f1.f0, .int .i64 d.f1.f1, .int .i64 d.f1.f2, .slice A4 d.f1.f3.length c4, .string d.f2, .string d.f3, .slice A7 d.f4.length c7, .int .i64 d.f5] 76)).alloc (Obj.cells #[.int .i64 0, .slice none 0 0, .slice none 0 0] 73)) := below_alloc (below_alloc (Below.refl _ _) _) _
  have hv2 : VarT ((w.alloc (Obj.cells #[.int .i64 5, .string d.f1.f0, .int .i64 d.f1.f1, .int .i64 d.f1.f2, .slice A4 d.f1.f3.length c4, .string d.f2, .string d.f3, .slice A7 d.f4.length c7, .int .i64 d.f5] 76)).alloc (Obj.cells #[.int .i64 0, .slice none 0 0, .slice none 0 0] 73)) (w.heap.size + 1) (.int .i64 0) (.slice none 0 0) (.slice none 0 0) := by
    have := heap_alloc_new (w.alloc (Obj.cells #[.int .i64 5, .string d.f1.f0, .int .i64 d.f1.f1, .int .i64 d.f1.f2, .slice A4 d.f1.f3.length c4, .string d.f2, .string d.f3, .slice A7 d.f4.length c7, .int .i64 d.f5] 76)) (Obj.cells #[.int .i64 0, .slice none 0 0, .slice none 0 0] 73)
    rw [World.size_alloc] at this
    exact this
  have hsz : ((w.alloc (Obj.cells #[.int .i64 5, .string d.f1.f0, .int .i64 d.f1.f1, .int .i64 d.f1.f2, .slice A4 d.f1.f3.length c4, .string d.f2, .string d.f3, .slice A7 d.f4.length c7, .int .i64 d.f5] 76)).alloc (Obj.cells #[.int .i64 0, .slice none 0 0, .slice none 0 0] 73)).heap.size = w.heap.size + 2 := by rw [World.size_alloc, World.size_alloc]
  have hlt := h.lt
  have hr2 : Rep (NotB B (w.heap.size + 1)) g s ((w.alloc (Obj.cells #[.int .i64 5, .string d.f1.f0, .int .i64 d.f1.f1, .int .i64 d.f1.f2, .slice A4 d.f1.f3.length c4, .string d.f2, .string d.f3, .slice A7 d.f4.length c7, .int .i64 d.f5] 76)).alloc (Obj.cells #[.int .i64 0, .slice none 0 0, .slice none 0 0] 73)) := (h.less (B' := NotB B (w.heap.size + 1)) fun k hk hlt2 => ⟨hk, by omega⟩).below hw2
  have hup : Up (NotB B (w.heap.size + 1)) ((w.alloc (Obj.cells #[.int .i64 5, .string d.f1.f0, .int .i64 d.f1.f1, .int .i64 d.f1.f2, .slice A4 d.f1.f3.length c4, .string d.f2, .string d.f3, .slice A7 d.f4.length c7, .int .i64 d.f5] 76)).alloc (Obj.cells #[.int .i64 0, .slice none 0 0, .slice none 0 0] 73)).heap.size := fun k hk => ⟨hBw k (by omega), by omega⟩
  have HW2 := Aside0.mk hw2
  have HV2 := Aside0.mk hv2
  have HR2 := Aside0.mk hr2
  have HUP := Aside0.mk hup
  have HSZ := Aside0.mk hsz
  have HF := Aside0.mk hf
  have HF1 := Aside0.mk hf1
  have H4 := Aside0.mk hF4
  have H7 := Aside0.mk hF7
  have HW7 := Aside0.mk hw7
  clear hw2 hv2 hr2 hup hsz hf hf1 hF4 hF7 hw7 h
  go_enter Try.func48, Try.ntmps48
  go_wp2_with (go_at_call 68; (with_reducible refine (read_calls (name := d.f2) HR2.out HF.out HF1.out HUP.out).mono ?_); rintro e w1 ⟨v, rfl, hv, hr1, hb1⟩; obtain ⟨Ay, cy, rfl⟩ := Kd.R_slice hv; have HVV := Aside0.mk hv; clear hv; obtain ⟨hv3, hrest⟩ := rep_told HW2.out hBw (by omega) HV2.out hr1 hb1; obtain ⟨hf0, hg0, hf1, hg1, hf2, hg2, hT⟩ := VarT.facts hv3 (.int .i64 (readR s d.f2).2.1) (.slice Ay (readR s d.f2).2.2.length cy) (.slice none 0 0); have HT := Aside0.mk hT; have HV3 := Aside0.mk hv3; have HREST := Aside0.mk hrest; clear hr1 hb1 hT hv3 hrest)
  refine bodyPost_ret (results_told rfl rfl HT.out) rfl ?_
  exact ⟨_, _, rfl, ((HV3.out.but _ _ _).R_bytes (Kd.R_lower HVV.out HW2.out.size) HV3.out (by decide)), Kd.R_nil _ _ _ _ _, (HREST.out _ _ _).1, (HREST.out _ _ _).2⟩
set_option maxHeartbeats 4000000 in
theorem do_real6 (d : S76) (A4 : Option Addr) (c4 : Nat) (A7 : Option Addr) (c7 : Nat) (h : Rep B g s w) (hf : Fit s) (hf1 : Fit (asked s).1) (hBw : Up B w.heap.size) (hF4 : Kd.F (Kd.int .u8) w (fun k => k ≠ g) A4 d.f1.f3.length d.f1.f3) (hc4 : d.f1.f3.length ≤ c4) (hF7 : Kd.F (Kd.int .i64) w (fun k => k ≠ g) A7 d.f4.length d.f4) (hl4 : d.f1.f3.length ≤ 1000) (hl7 : d.f4.length ≤ 1000) (hw7 : ∀ n ∈ d.f4, (Lit.int .i64 n).wf = true) :
    Calls Try.prog 48 #[.pointer (some ⟨g, 0, none⟩), .agg #[.int .i64 6, .string d.f1.f0, .int .i64 d.f1.f1, .int .i64 d.f1.f2, .slice A4 d.f1.f3.length c4, .string d.f2, .string d.f3, .slice A7 d.f4.length c7, .int .i64 d.f5]] w fun e w' => ∃ y z, e = .returned (.agg #[.int .i64 (listR s).2.1, y, z]) ∧ (Kd.int .u8).R 5 w' w.heap.size (fun _ => True) y [] ∧ Kd.string.R 9 w' w.heap.size (fun _ => True) z (listR s).2.2 ∧ Rep B g (listR s).1 w' ∧ BelS B w w' := by
  have hw2 : Below w.heap.size w ((w.alloc (Obj.cells #[.int .i64 6, .string d.f1.f0, .int .i64 d.f1.f1, .int .i64 d.f1.f2, .slice A4 d.f1.f3.length c4, .string d.f2, .string d.f3, .slice A7 d.f4.length c7, .int .i64 d.f5] 76)).alloc (Obj.cells #[.int .i64 0, .slice none 0 0, .slice none 0 0] 73)) := below_alloc (below_alloc (Below.refl _ _) _) _
  have hv2 : VarT ((w.alloc (Obj.cells #[.int .i64 6, .string d.f1.f0, .int .i64 d.f1.f1, .int .i64 d.f1.f2, .slice A4 d.f1.f3.length c4, .string d.f2, .string d.f3, .slice A7 d.f4.length c7, .int .i64 d.f5] 76)).alloc (Obj.cells #[.int .i64 0, .slice none 0 0, .slice none 0 0] 73)) (w.heap.size + 1) (.int .i64 0) (.slice none 0 0) (.slice none 0 0) := by
    have := heap_alloc_new (w.alloc (Obj.cells #[.int .i64 6, .string d.f1.f0, .int .i64 d.f1.f1, .int .i64 d.f1.f2, .slice A4 d.f1.f3.length c4, .string d.f2, .string d.f3, .slice A7 d.f4.length c7, .int .i64 d.f5] 76)) (Obj.cells #[.int .i64 0, .slice none 0 0, .slice none 0 0] 73)
    rw [World.size_alloc] at this
    exact this
  have hsz : ((w.alloc (Obj.cells #[.int .i64 6, .string d.f1.f0, .int .i64 d.f1.f1, .int .i64 d.f1.f2, .slice A4 d.f1.f3.length c4, .string d.f2, .string d.f3, .slice A7 d.f4.length c7, .int .i64 d.f5] 76)).alloc (Obj.cells #[.int .i64 0, .slice none 0 0, .slice none 0 0] 73)).heap.size = w.heap.size + 2 := by rw [World.size_alloc, World.size_alloc]
  have hlt := h.lt
  have hr2 : Rep (NotB B (w.heap.size + 1)) g s ((w.alloc (Obj.cells #[.int .i64 6, .string d.f1.f0, .int .i64 d.f1.f1, .int .i64 d.f1.f2, .slice A4 d.f1.f3.length c4, .string d.f2, .string d.f3, .slice A7 d.f4.length c7, .int .i64 d.f5] 76)).alloc (Obj.cells #[.int .i64 0, .slice none 0 0, .slice none 0 0] 73)) := (h.less (B' := NotB B (w.heap.size + 1)) fun k hk hlt2 => ⟨hk, by omega⟩).below hw2
  have hup : Up (NotB B (w.heap.size + 1)) ((w.alloc (Obj.cells #[.int .i64 6, .string d.f1.f0, .int .i64 d.f1.f1, .int .i64 d.f1.f2, .slice A4 d.f1.f3.length c4, .string d.f2, .string d.f3, .slice A7 d.f4.length c7, .int .i64 d.f5] 76)).alloc (Obj.cells #[.int .i64 0, .slice none 0 0, .slice none 0 0] 73)).heap.size := fun k hk => ⟨hBw k (by omega), by omega⟩
  have HW2 := Aside0.mk hw2
  have HV2 := Aside0.mk hv2
  have HR2 := Aside0.mk hr2
  have HUP := Aside0.mk hup
  have HSZ := Aside0.mk hsz
  have HF := Aside0.mk hf
  have HF1 := Aside0.mk hf1
  have H4 := Aside0.mk hF4
  have H7 := Aside0.mk hF7
  have HW7 := Aside0.mk hw7
  clear hw2 hv2 hr2 hup hsz hf hf1 hF4 hF7 hw7 h
  go_enter Try.func48, Try.ntmps48
  go_wp2_with (go_at_call 81; (with_reducible refine (list_calls HR2.out HF.out HF1.out HUP.out).mono ?_); rintro e w1 ⟨v, rfl, hv, hr1, hb1⟩; obtain ⟨Ay, cy, rfl⟩ := Kd.R_slice hv; have HVV := Aside0.mk hv; clear hv; obtain ⟨hv3, hrest⟩ := rep_told HW2.out hBw (by omega) HV2.out hr1 hb1; obtain ⟨hf0, hg0, hf1, hg1, hf2, hg2, hT⟩ := VarT.facts hv3 (.int .i64 (listR s).2.1) (.slice none 0 0) (.slice Ay (listR s).2.2.length cy); have HT := Aside0.mk hT; have HV3 := Aside0.mk hv3; have HREST := Aside0.mk hrest; clear hr1 hb1 hT hv3 hrest)
  refine bodyPost_ret (results_told rfl rfl HT.out) rfl ?_
  exact ⟨_, _, rfl, Kd.R_nil _ _ _ _ _, ((HV3.out.but _ _ _).R_names (Kd.R_lower HVV.out HW2.out.size) HV3.out (by decide)), (HREST.out _ _ _).1, (HREST.out _ _ _).2⟩
set_option maxHeartbeats 4000000 in
theorem do_real7 (d : S76) (A4 : Option Addr) (c4 : Nat) (A7 : Option Addr) (c7 : Nat) (h : Rep B g s w) (hf : Fit s) (hf1 : Fit (asked s).1) (hBw : Up B w.heap.size) (hF4 : Kd.F (Kd.int .u8) w (fun k => k ≠ g) A4 d.f1.f3.length d.f1.f3) (hc4 : d.f1.f3.length ≤ c4) (hF7 : Kd.F (Kd.int .i64) w (fun k => k ≠ g) A7 d.f4.length d.f4) (hl4 : d.f1.f3.length ≤ 1000) (hl7 : d.f4.length ≤ 1000) (hw7 : ∀ n ∈ d.f4, (Lit.int .i64 n).wf = true) :
    Calls Try.prog 48 #[.pointer (some ⟨g, 0, none⟩), .agg #[.int .i64 7, .string d.f1.f0, .int .i64 d.f1.f1, .int .i64 d.f1.f2, .slice A4 d.f1.f3.length c4, .string d.f2, .string d.f3, .slice A7 d.f4.length c7, .int .i64 d.f5]] w fun e w' => ∃ y z, e = .returned (.agg #[.int .i64 0, y, z]) ∧ (Kd.int .u8).R 5 w' w.heap.size (fun _ => True) y [] ∧ Kd.string.R 9 w' w.heap.size (fun _ => True) z [] ∧ Rep B g (crashD s d.f4) w' ∧ BelS B w w' := by
  have hw2 : Below w.heap.size w ((w.alloc (Obj.cells #[.int .i64 7, .string d.f1.f0, .int .i64 d.f1.f1, .int .i64 d.f1.f2, .slice A4 d.f1.f3.length c4, .string d.f2, .string d.f3, .slice A7 d.f4.length c7, .int .i64 d.f5] 76)).alloc (Obj.cells #[.int .i64 0, .slice none 0 0, .slice none 0 0] 73)) := below_alloc (below_alloc (Below.refl _ _) _) _
  have hv2 : VarT ((w.alloc (Obj.cells #[.int .i64 7, .string d.f1.f0, .int .i64 d.f1.f1, .int .i64 d.f1.f2, .slice A4 d.f1.f3.length c4, .string d.f2, .string d.f3, .slice A7 d.f4.length c7, .int .i64 d.f5] 76)).alloc (Obj.cells #[.int .i64 0, .slice none 0 0, .slice none 0 0] 73)) (w.heap.size + 1) (.int .i64 0) (.slice none 0 0) (.slice none 0 0) := by
    have := heap_alloc_new (w.alloc (Obj.cells #[.int .i64 7, .string d.f1.f0, .int .i64 d.f1.f1, .int .i64 d.f1.f2, .slice A4 d.f1.f3.length c4, .string d.f2, .string d.f3, .slice A7 d.f4.length c7, .int .i64 d.f5] 76)) (Obj.cells #[.int .i64 0, .slice none 0 0, .slice none 0 0] 73)
    rw [World.size_alloc] at this
    exact this
  have hsz : ((w.alloc (Obj.cells #[.int .i64 7, .string d.f1.f0, .int .i64 d.f1.f1, .int .i64 d.f1.f2, .slice A4 d.f1.f3.length c4, .string d.f2, .string d.f3, .slice A7 d.f4.length c7, .int .i64 d.f5] 76)).alloc (Obj.cells #[.int .i64 0, .slice none 0 0, .slice none 0 0] 73)).heap.size = w.heap.size + 2 := by rw [World.size_alloc, World.size_alloc]
  have hlt := h.lt
  have hr2 : Rep (NotB B (w.heap.size + 1)) g s ((w.alloc (Obj.cells #[.int .i64 7, .string d.f1.f0, .int .i64 d.f1.f1, .int .i64 d.f1.f2, .slice A4 d.f1.f3.length c4, .string d.f2, .string d.f3, .slice A7 d.f4.length c7, .int .i64 d.f5] 76)).alloc (Obj.cells #[.int .i64 0, .slice none 0 0, .slice none 0 0] 73)) := (h.less (B' := NotB B (w.heap.size + 1)) fun k hk hlt2 => ⟨hk, by omega⟩).below hw2
  have hup : Up (NotB B (w.heap.size + 1)) ((w.alloc (Obj.cells #[.int .i64 7, .string d.f1.f0, .int .i64 d.f1.f1, .int .i64 d.f1.f2, .slice A4 d.f1.f3.length c4, .string d.f2, .string d.f3, .slice A7 d.f4.length c7, .int .i64 d.f5] 76)).alloc (Obj.cells #[.int .i64 0, .slice none 0 0, .slice none 0 0] 73)).heap.size := fun k hk => ⟨hBw k (by omega), by omega⟩
  have HW2 := Aside0.mk hw2
  have HV2 := Aside0.mk hv2
  have HR2 := Aside0.mk hr2
  have HUP := Aside0.mk hup
  have HSZ := Aside0.mk hsz
  have HF := Aside0.mk hf
  have HF1 := Aside0.mk hf1
  have H4 := Aside0.mk hF4
  have H7 := Aside0.mk hF7
  have HW7 := Aside0.mk hw7
  clear hw2 hv2 hr2 hup hsz hf hf1 hF4 hF7 hw7 h
  go_enter Try.func48, Try.ntmps48
  go_wp2_with (go_at_call 44; (with_reducible refine (crash_calls A7 c7 d.f4 HR2.out HF.out HUP.out (Kd.F_now (Kd.F_below H7.out HW2.out))).mono ?_); rintro e w1 ⟨rfl, hr1, hb1⟩; obtain ⟨hv3, hrest⟩ := rep_told HW2.out hBw (by omega) HV2.out hr1 hb1; obtain ⟨hf0, hg0, hf1, hg1, hf2, hg2, hT⟩ := VarT.facts hv3 (.int .i64 0) (.slice none 0 0) (.slice none 0 0); have HT := Aside0.mk hT; have HV3 := Aside0.mk hv3; have HREST := Aside0.mk hrest; clear hr1 hb1 hT hv3 hrest)
  refine bodyPost_ret (results_told rfl rfl HT.out) rfl ?_
  exact ⟨_, _, rfl, Kd.R_nil _ _ _ _ _, Kd.R_nil _ _ _ _ _, (HREST.out _ _ _).1, (HREST.out _ _ _).2⟩
set_option maxHeartbeats 4000000 in
theorem do_real8 (d : S76) (A4 : Option Addr) (c4 : Nat) (A7 : Option Addr) (c7 : Nat) (h : Rep B g s w) (hf : Fit s) (hf1 : Fit (asked s).1) (hBw : Up B w.heap.size) (hF4 : Kd.F (Kd.int .u8) w (fun k => k ≠ g) A4 d.f1.f3.length d.f1.f3) (hc4 : d.f1.f3.length ≤ c4) (hF7 : Kd.F (Kd.int .i64) w (fun k => k ≠ g) A7 d.f4.length d.f4) (hl4 : d.f1.f3.length ≤ 1000) (hl7 : d.f4.length ≤ 1000) (hw7 : ∀ n ∈ d.f4, (Lit.int .i64 n).wf = true) :
    Calls Try.prog 48 #[.pointer (some ⟨g, 0, none⟩), .agg #[.int .i64 8, .string d.f1.f0, .int .i64 d.f1.f1, .int .i64 d.f1.f2, .slice A4 d.f1.f3.length c4, .string d.f2, .string d.f3, .slice A7 d.f4.length c7, .int .i64 d.f5]] w fun e w' => ∃ y z, e = .returned (.agg #[.int .i64 0, y, z]) ∧ (Kd.int .u8).R 5 w' w.heap.size (fun _ => True) y [] ∧ Kd.string.R 9 w' w.heap.size (fun _ => True) z [] ∧ Rep B g (planD s d.f4 d.f5) w' ∧ BelS B w w' := by
  have hw2 : Below w.heap.size w ((w.alloc (Obj.cells #[.int .i64 8, .string d.f1.f0, .int .i64 d.f1.f1, .int .i64 d.f1.f2, .slice A4 d.f1.f3.length c4, .string d.f2, .string d.f3, .slice A7 d.f4.length c7, .int .i64 d.f5] 76)).alloc (Obj.cells #[.int .i64 0, .slice none 0 0, .slice none 0 0] 73)) := below_alloc (below_alloc (Below.refl _ _) _) _
  have hv2 : VarT ((w.alloc (Obj.cells #[.int .i64 8, .string d.f1.f0, .int .i64 d.f1.f1, .int .i64 d.f1.f2, .slice A4 d.f1.f3.length c4, .string d.f2, .string d.f3, .slice A7 d.f4.length c7, .int .i64 d.f5] 76)).alloc (Obj.cells #[.int .i64 0, .slice none 0 0, .slice none 0 0] 73)) (w.heap.size + 1) (.int .i64 0) (.slice none 0 0) (.slice none 0 0) := by
    have := heap_alloc_new (w.alloc (Obj.cells #[.int .i64 8, .string d.f1.f0, .int .i64 d.f1.f1, .int .i64 d.f1.f2, .slice A4 d.f1.f3.length c4, .string d.f2, .string d.f3, .slice A7 d.f4.length c7, .int .i64 d.f5] 76)) (Obj.cells #[.int .i64 0, .slice none 0 0, .slice none 0 0] 73)
    rw [World.size_alloc] at this
    exact this
  have hsz : ((w.alloc (Obj.cells #[.int .i64 8, .string d.f1.f0, .int .i64 d.f1.f1, .int .i64 d.f1.f2, .slice A4 d.f1.f3.length c4, .string d.f2, .string d.f3, .slice A7 d.f4.length c7, .int .i64 d.f5] 76)).alloc (Obj.cells #[.int .i64 0, .slice none 0 0, .slice none 0 0] 73)).heap.size = w.heap.size + 2 := by rw [World.size_alloc, World.size_alloc]
  have hlt := h.lt
  have hr2 : Rep (NotB B (w.heap.size + 1)) g s ((w.alloc (Obj.cells #[.int .i64 8, .string d.f1.f0, .int .i64 d.f1.f1, .int .i64 d.f1.f2, .slice A4 d.f1.f3.length c4, .string d.f2, .string d.f3, .slice A7 d.f4.length c7, .int .i64 d.f5] 76)).alloc (Obj.cells #[.int .i64 0, .slice none 0 0, .slice none 0 0] 73)) := (h.less (B' := NotB B (w.heap.size + 1)) fun k hk hlt2 => ⟨hk, by omega⟩).below hw2
  have hup : Up (NotB B (w.heap.size + 1)) ((w.alloc (Obj.cells #[.int .i64 8, .string d.f1.f0, .int .i64 d.f1.f1, .int .i64 d.f1.f2, .slice A4 d.f1.f3.length c4, .string d.f2, .string d.f3, .slice A7 d.f4.length c7, .int .i64 d.f5] 76)).alloc (Obj.cells #[.int .i64 0, .slice none 0 0, .slice none 0 0] 73)).heap.size := fun k hk => ⟨hBw k (by omega), by omega⟩
  have HW2 := Aside0.mk hw2
  have HV2 := Aside0.mk hv2
  have HR2 := Aside0.mk hr2
  have HUP := Aside0.mk hup
  have HSZ := Aside0.mk hsz
  have HF := Aside0.mk hf
  have HF1 := Aside0.mk hf1
  have H4 := Aside0.mk hF4
  have H7 := Aside0.mk hF7
  have HW7 := Aside0.mk hw7
  clear hw2 hv2 hr2 hup hsz hf hf1 hF4 hF7 hw7 h
  go_enter Try.func48, Try.ntmps48
  go_wp2_with (go_at_call 40; (with_reducible refine (plan_calls A7 c7 d.f4 d.f5 HR2.out HUP.out (Kd.F_below H7.out HW2.out) hl7 HW7.out).mono ?_); rintro e w1 ⟨rfl, hr1, hb1⟩; obtain ⟨hv3, hrest⟩ := rep_told HW2.out hBw (by omega) HV2.out hr1 hb1; obtain ⟨hf0, hg0, hf1, hg1, hf2, hg2, hT⟩ := VarT.facts hv3 (.int .i64 0) (.slice none 0 0) (.slice none 0 0); have HT := Aside0.mk hT; have HV3 := Aside0.mk hv3; have HREST := Aside0.mk hrest; clear hr1 hb1 hT hv3 hrest)
  refine bodyPost_ret (results_told rfl rfl HT.out) rfl ?_
  exact ⟨_, _, rfl, Kd.R_nil _ _ _ _ _, Kd.R_nil _ _ _ _ _, (HREST.out _ _ _).1, (HREST.out _ _ _).2⟩
theorem do_real (d : S76) (A4 : Option Addr) (c4 : Nat) (A7 : Option Addr) (c7 : Nat) (h : Rep B g s w) (hf : Fit s) (hf1 : Fit (asked s).1) (hBw : Up B w.heap.size) (hF4 : Kd.F (Kd.int .u8) w (fun k => k ≠ g) A4 d.f1.f3.length d.f1.f3) (hc4 : d.f1.f3.length ≤ c4) (hF7 : Kd.F (Kd.int .i64) w (fun k => k ≠ g) A7 d.f4.length d.f4) (hl4 : d.f1.f3.length ≤ 1000) (hl7 : d.f4.length ≤ 1000) (hw7 : ∀ n ∈ d.f4, (Lit.int .i64 n).wf = true) (h1 : 1 ≤ d.f0) (h8 : d.f0 ≤ 8) :
    Calls Try.prog 48 #[.pointer (some ⟨g, 0, none⟩), .agg #[.int .i64 d.f0, .string d.f1.f0, .int .i64 d.f1.f1, .int .i64 d.f1.f2, .slice A4 d.f1.f3.length c4, .string d.f2, .string d.f3, .slice A7 d.f4.length c7, .int .i64 d.f5]] w fun e w' => ∃ y z, e = .returned (.agg #[.int .i64 (doS s d).2.1, y, z]) ∧ (Kd.int .u8).R 5 w' w.heap.size (fun _ => True) y (doS s d).2.2.1 ∧ Kd.string.R 9 w' w.heap.size (fun _ => True) z (doS s d).2.2.2 ∧ Rep B g (doS s d).1 w' ∧ BelS B w w' := by
  have hk : d.f0 = 1 ∨ d.f0 = 2 ∨ d.f0 = 3 ∨ d.f0 = 4 ∨ d.f0 = 5 ∨ d.f0 = 6 ∨ d.f0 = 7 ∨ d.f0 = 8 := by omega
  unfold doS
  rcases hk with hk | hk | hk | hk | hk | hk | hk | hk <;> rw [hk]
  · exact do_real1 d A4 c4 A7 c7 h hf hf1 hBw hF4 hc4 hF7 hl4 hl7 hw7
  · exact do_real2 d A4 c4 A7 c7 h hf hf1 hBw hF4 hc4 hF7 hl4 hl7 hw7
  · exact do_real3 d A4 c4 A7 c7 h hf hf1 hBw hF4 hc4 hF7 hl4 hl7 hw7
  · exact do_real4 d A4 c4 A7 c7 h hf hf1 hBw hF4 hc4 hF7 hl4 hl7 hw7
  · exact do_real5 d A4 c4 A7 c7 h hf hf1 hBw hF4 hc4 hF7 hl4 hl7 hw7
  · exact do_real6 d A4 c4 A7 c7 h hf hf1 hBw hF4 hc4 hF7 hl4 hl7 hw7
  · exact do_real7 d A4 c4 A7 c7 h hf hf1 hBw hF4 hc4 hF7 hl4 hl7 hw7
  · exact do_real8 d A4 c4 A7 c7 h hf hf1 hBw hF4 hc4 hF7 hl4 hl7 hw7
end
end Go.Proofs.Ytcgeioingikeeaa.P
