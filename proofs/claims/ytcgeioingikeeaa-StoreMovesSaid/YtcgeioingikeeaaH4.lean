/- files.Do with a write of each of the three kinds: what is kept and what is told. -/
import Derived.Test.YtcgeioingikeeaaH2
namespace Go.Proofs.Ytcgeioingikeeaa.P
open Go.RowKit Go.Proofs.YtcgeioingikeeaaW.PrintWords Go.Proofs.YtcgeioingikeeaaW.PrintLast Go.Proofs.YtcgeioingikeeaaW.PrintMore
set_option linter.unusedVariables false
set_option linter.unusedSimpArgs false
attribute [local go_sem] max2_int min2_int max_two min_two

theorem size5 : (Try.prog.info? 5).map (·.size) = some 1 := by kernel_rfl
/-- 'copy(d, s)' of bytes into a row of the call's own. -/
theorem run_copyB (w : World) (ty : TypeId) (g off dLen dCap : Nat) (A : Option Addr) (c : Nat) (xs ys : List Int) (hg : w.heap[g]? = some (.cells (nums .u8 xs).toArray 5 (0, 0))) (hC : (Kd.int .u8).C w A ys.length ys) (h1 : ys.length ≤ dLen) (h2 : off + ys.length ≤ xs.length) :
    ∃ w', (Builtin.copy_ #[23, 23] ty #[.slice (some ⟨g, off, none⟩) dLen dCap, .slice A ys.length c]).run Try.prog w = .ok (goInt ys.length) w' ∧ w'.heap[g]? = some (.cells (nums .u8 (xs.take off ++ ys ++ xs.drop (off + ys.length))).toArray 5 (0, 0)) ∧ (∀ k, k ≠ g → w'.heap[k]? = w.heap[k]?) ∧ w'.heap.size = w.heap.size ∧ w'.os = w.os ∧ w'.tape = w.tape ∧ w'.output = w.output := by
  have hmin : Nat.min ys.length dLen = ys.length := Nat.min_eq_left h1
  rcases Nat.eq_zero_or_pos ys.length with h0 | h0
  · obtain rfl := List.eq_nil_of_length_eq_zero h0
    refine ⟨w, ?_, by simpa using hg, fun _ _ => rfl, rfl, rfl, rfl, rfl⟩
    cases hq : Try.prog.info? 5 with
    | none => have := size5; rw [hq] at this; cases this
    | some i =>
      cases A with
      | none => simp [Builtin.copy_, run_underlying Try.underlying23, Builtin.lenOf, Builtin.firstCells, sizeOf, typeInfo, hq, storeCells]
      | some a =>
        have hl := run_loadCells_list (P := Try.prog) w a [] (fun j v hj => by simp at hj)
        simp only [List.length_nil] at hl
        simp [Builtin.copy_, run_underlying Try.underlying23, Builtin.lenOf, Builtin.firstCells, sizeOf, typeInfo, hq, hl, storeCells]
  · obtain ⟨ad, cs, rfl, hr, hcs⟩ := row_cells hC h0
    have he : cs = encs (Value.int .u8) ys := Kd.reps_encs hr
    subst he
    have hl : (encs (Value.int .u8) ys).length = ys.length := by simp [encs]
    have := run_copy_blk (P := Try.prog) w 23 23 ty 5 g off dLen dCap ad ys.length c 1 _ 5 (encs (Value.int .u8) ys) Try.underlying23 size5 hg (by rw [hl, hmin, Nat.mul_one]) hcs (by rw [hl]; simpa [nums] using h2) (fun v hv => by simp only [encs, List.mem_map] at hv; obtain ⟨x, _, rfl⟩ := hv; rfl)
    rw [hmin] at this
    refine ⟨_, this, ?_, fun k hk => setRow_other _ _ _ _ hk, setRow_size _ _ _, rfl, rfl, rfl⟩
    rw [setRow_heap _ _ _ _ _ _ hg]
    simp only [List.toList_toArray, hl, nums, encs, List.map_append, List.map_take, List.map_drop, List.length_map]
theorem C_blk {w : World} {g : Nat} {xs : List Int} (hg : w.heap[g]? = some (.cells (nums .u8 xs).toArray 5 (0, 0))) (hl : xs.length ≤ 9223372036854775807) : (Kd.int .u8).C w (some ⟨g, 0, none⟩) xs.length xs := by
  have ho : w.ownsRow 0 5 1 (.slice (some ⟨g, 0, none⟩) xs.length xs.length) xs.length (nums .u8 xs) :=
    ⟨by rw [nums_length, Nat.mul_one], .inr ⟨g, xs.length, _, rfl, Nat.zero_le _, hg, Nat.le_refl _, by unfold maxLen; omega, by simp [nums], by rw [List.toList_toArray, List.take_of_length_le (by rw [nums_length]; omega)]⟩⟩
  exact (Kd.R_reads' (Kd.R_of_own (enc := Value.int .u8) (h1 := fun _ => rfl) (ok := fun _ => True) ho fun _ _ => trivial)).2.2
theorem overlay_eq (old d : List Int) (off t : Nat) (h1 : old.length ≤ t) (h2 : off + d.length ≤ t) (h3 : t = old.length ∨ t = off + d.length) :
    ((List.replicate t 0).take 0 ++ old ++ (List.replicate t (0 : Int)).drop (0 + old.length)).take off ++ d ++ ((List.replicate t 0).take 0 ++ old ++ (List.replicate t (0 : Int)).drop (0 + old.length)).drop (off + d.length) = overlay old off d := by
  unfold overlay
  simp only [List.take_zero, List.nil_append, Nat.zero_add, List.drop_replicate]
  congr 1
  · congr 1
    apply List.ext_getElem?
    intro k
    simp only [List.getElem?_take, List.getElem?_append, List.getElem?_replicate]
    by_cases hk : k < off
    · simp only [hk, if_true]
      by_cases hk2 : k < old.length
      · simp [hk2]
      · simp [hk2, show k - old.length < t - old.length by omega, show k - old.length < off - old.length by omega]
    · simp [hk]
  · apply List.ext_getElem?
    intro k
    simp only [List.getElem?_drop, List.getElem?_append, List.getElem?_replicate]
    by_cases hk : off + d.length + k < old.length
    · simp [hk]
    · simp only [hk, if_false]
      rw [List.getElem?_eq_none (by omega)]
      rw [if_neg (by omega)]


theorem made_eq (t : Nat) : madeCells #[Value.int .u8 0] t = (nums .u8 (List.replicate t 0)).toArray := by
  apply Array.ext'
  apply List.ext_getElem
  · simp [nums, madeCells]
  · intro i h1 h2
    simp [nums, madeCells, Nat.mod_one]
theorem do_b6 {w w4 w6 : World} {o : Obj} (hb : Below w.heap.size w w4) (h : (∀ k, k ≠ w4.heap.size → w6.heap[k]? = (w4.alloc o).heap[k]?) ∧ w6.heap.size = (w4.alloc o).heap.size ∧ w6.os = (w4.alloc o).os ∧ w6.tape = (w4.alloc o).tape ∧ w6.output = (w4.alloc o).output) : Below w.heap.size w w6 := by
  have hb' := below_alloc hb o
  obtain ⟨h1, h2, h3, h4, h5⟩ := h
  have := hb.size
  exact ⟨h3.trans hb'.os, h4.trans hb'.tape, h5.trans hb'.output, by rw [h2]; exact hb'.size, fun k hk => (h1 k (by omega)).trans (hb'.block k hk)⟩
theorem do_b7 {w w4 w6 w7 : World} {o : Obj} (hb : Below w.heap.size w w4) (h : (∀ k, k ≠ w4.heap.size → w6.heap[k]? = (w4.alloc o).heap[k]?) ∧ w6.heap.size = (w4.alloc o).heap.size ∧ w6.os = (w4.alloc o).os ∧ w6.tape = (w4.alloc o).tape ∧ w6.output = (w4.alloc o).output)
    (h' : (∀ k, k ≠ w4.heap.size → w7.heap[k]? = w6.heap[k]?) ∧ w7.heap.size = w6.heap.size ∧ w7.os = w6.os ∧ w7.tape = w6.tape ∧ w7.output = w6.output) : Below w.heap.size w w7 := by
  have hb' := do_b6 hb h
  obtain ⟨h1, h2, h3, h4, h5⟩ := h'
  have := hb.size
  exact ⟨h3.trans hb'.os, h4.trans hb'.tape, h5.trans hb'.output, by rw [h2]; exact hb'.size, fun k hk => (h1 k (by omega)).trans (hb'.block k hk)⟩
theorem do_k7 {w4 w6 w7 : World} {o o' : Obj} {g : Nat} (hk : w4.heap[g]? = some o') (h : (∀ k, k ≠ w4.heap.size → w6.heap[k]? = (w4.alloc o).heap[k]?) ∧ w6.heap.size = (w4.alloc o).heap.size ∧ w6.os = (w4.alloc o).os ∧ w6.tape = (w4.alloc o).tape ∧ w6.output = (w4.alloc o).output)
    (h' : (∀ k, k ≠ w4.heap.size → w7.heap[k]? = w6.heap[k]?) ∧ w7.heap.size = w6.heap.size ∧ w7.os = w6.os ∧ w7.tape = w6.tape ∧ w7.output = w6.output) : w7.heap[g]? = some o' := by
  have hlt := blk_lt hk
  rw [h'.1 g (by omega), h.1 g (by omega)]
  exact blk_alloc hk o
theorem do_put (ok : Nat → Prop) (A0 : Option Addr) (c0 : Nat) (l0 : List S38) (nm : ByteArray) (w : World) {w7 : World} {g T : Nat} {X : List Int} (hf : Kd.F k38 w ok A0 l0.length l0) (hlen : l0.length ≤ 1000000) (hb : Below w.heap.size w w7) (hg : w7.heap[g]? = some (.cells (nums .u8 X).toArray 5 (0, 0))) (hX : X.length = T) (hT : T ≤ 1000000) :
    Calls Try.prog 23 #[.slice A0 l0.length c0, .string nm, .slice (some ⟨g, 0, none⟩) T T] w7 fun e w' => ∃ v, e = .returned v ∧ Kd.V k38 38 w' w.heap.size (fun k => ok k ∨ w.heap.size ≤ k) v (putL l0 nm X) ∧ Below w.heap.size w w' := by
  subst hX
  refine (putO ok A0 c0 l0 nm (some ⟨g, 0, none⟩) X.length X w7 (Kd.F_below hf hb) hlen (C_blk hg (by omega)) hT).mono ?_
  rintro e w' ⟨v, rfl, ho, hb'⟩
  have := hb.size
  exact ⟨v, rfl, Kd.V_mono (O_V (O_lower ho hb.size)) fun k hk => Or.elim hk (fun h => Or.elim h (fun h => .inl h.1) (fun h => .inr (by omega))) .inr, below_step hb hb'⟩
def DoT (a : Nat) (frm : Int) (m t : Nat) : Prop := a ≤ t ∧ frm + m ≤ t ∧ (t = a ∨ (t : Int) = frm + m) ∧ t ≤ 1000000
theorem do_ov {old kept : List Int} {frm : Int} {t LO : Nat} (hT : DoT old.length frm kept.length t) (hlo : frm.toNat = LO) (h0 : 0 ≤ frm) :
    ((List.replicate t 0).take 0 ++ old ++ (List.replicate t (0 : Int)).drop (0 + old.length)).take LO ++ kept ++ ((List.replicate t 0).take 0 ++ old ++ (List.replicate t (0 : Int)).drop (0 + old.length)).drop (LO + kept.length) = overlay old frm.toNat kept := by
  obtain ⟨h1, h2, h3, h4⟩ := hT
  rw [hlo]
  exact overlay_eq old kept LO t h1 (by omega) (by omega)
theorem do_ov_tf {old kept : List Int} {frm : Int} {LO : Nat} (hT : DoT old.length frm kept.length LO) (hlo : frm.toNat = LO) (h0 : 0 ≤ frm) :
    ((List.replicate LO 0).take 0 ++ old ++ (List.replicate LO (0 : Int)).drop (0 + old.length)).take 0 ++ kept ++ ((List.replicate LO 0).take 0 ++ old ++ (List.replicate LO (0 : Int)).drop (0 + old.length)).drop (0 + kept.length) = overlay old frm.toNat kept := by
  have hk : kept = [] := List.eq_nil_of_length_eq_zero (by have := hT.2.1; omega)
  rw [← do_ov hT hlo h0]
  subst hk
  have hl : ((List.replicate LO 0).take 0 ++ old ++ (List.replicate LO (0 : Int)).drop (0 + old.length)).length = LO := by
    simp only [List.length_append, List.length_take, List.length_drop, List.length_replicate]; have := hT.1; omega
  rw [List.take_of_length_le (i := LO) (by omega), List.drop_eq_nil_of_le (i := LO + _) (by simp only [List.length_nil]; omega)]
  simp only [List.take_zero, List.nil_append, List.append_nil, List.length_nil, Nat.add_zero, List.drop_zero]
def keptOf (d : List Int) (keep : Int) : List Int := if keep ≥ 0 then d.take keep.toNat else d
def doRes (K : Nat) (l0 : List S38) (nm : ByteArray) (frm : Int) (old d kept : List Int) : List S38 × Int :=
  if frm > 65536 ∨ frm + kept.length > 65536 ∨ (K = 3 ∧ old.length > 65536) then ([], 11) else
    if kept.length = 0 ∧ d.length > 0 then (l0, 0) else (putL l0 nm (overlay (if K = 1 then [] else old) frm.toNat kept), 0)


theorem C_take {w : World} {A : Option Addr} {n : Nat} {d : List Int} (h : (Kd.int .u8).C w A n d) (m : Nat) : (Kd.int .u8).C w A (d.take m).length (d.take m) := by
  obtain ⟨hl, hm, hc⟩ := h
  refine ⟨rfl, by rw [List.length_take]; omega, fun hp => ?_⟩
  obtain ⟨ad, rfl, hx⟩ := hc (by rw [List.length_take] at hp; omega)
  refine ⟨ad, rfl, fun j p hj => hx j p ?_⟩
  rw [List.getElem?_take] at hj
  split at hj
  · exact hj
  · cases hj


set_option maxHeartbeats 64000000 in
set_option maxRecDepth 100000 in
theorem do_1 (ok : Nat → Prop) (A0 : Option Addr) (c0 : Nat) (l0 : List S38) (nm : ByteArray) (off keep : Int) (A : Option Addr) (c : Nat) (d old : List Int) (is : Bool) (w : World) (hf : Kd.F k38 w ok A0 l0.length l0) (hc0 : l0.length ≤ c0) (hlen : l0.length ≤ 1000000) (hg : files_Get.f l0 nm = some (old, is)) (hold : old.length ≤ 1000000)
    (hn1 : 1 ≤ nm.size) (hn2 : nm.size ≤ 40) (hd : (Kd.int .u8).C w A d.length d) (hdc : d.length ≤ c) (hdl : d.length ≤ 1000000) :
    Calls Try.prog 17 #[.slice A0 l0.length c0, .agg #[.string nm, .int .i64 1, .int .i64 off, .slice A d.length c], .int .i64 keep] w fun e w' => ∃ v, e = .returned (.tuple #[v, .int .i64 (doRes 1 l0 nm 0 old d (keptOf d keep)).2]) ∧ Kd.V k38 38 w' w.heap.size (fun k => ok k ∨ w.heap.size ≤ k) v (doRes 1 l0 nm 0 old d (keptOf d keep)).1 ∧ Below w.heap.size w w' := by
  have HF := Aside0.mk hf
  have HG := Aside0.mk hg
  have HD := Aside0.mk hd
  have hfine : files_fine.f nm = some true := by unfold files_fine.f; rw [if_pos (by omega)]; simp; omega
  have HFINE := Aside0.mk hfine
  obtain ⟨kept, hkept⟩ : ∃ kept, keptOf d keep = kept := ⟨_, rfl⟩
  have hkl : kept.length ≤ d.length := by rw [← hkept]; unfold keptOf; split; (rw [List.length_take]; omega); exact Nat.le_refl _
  have hkc : (Kd.int .u8).C w A kept.length kept := by
    rw [← hkept]; unfold keptOf; split
    · exact C_take hd _
    · exact hd
  have HKC := Aside0.mk hkc
  rw [hkept]
  have HKEPT := Aside0.mk hkept
  clear hf hg hd hfine hkept hkc
  go_enter Try.func17, Try.ntmps17
  go_upto_if 40 with (go_at_call 55; refine (files_fine.calls nm true _ HFINE.out).mono ?_; rintro e w1 ⟨rfl, ⟨nd, rfl⟩⟩)
  go_cut [8] (fun v8 wc => v8 = .slice A kept.length c ∧ Aside0 (wc.heap[w.heap.size]? = some (.cells #[.string nm, .int .i64 1, .int .i64 off, .slice A d.length c] 31 (0, 0))) ∧ Aside0 (Below w.heap.size w wc))
  case first =>
    have hbx := heap_alloc_new w (.cells #[.string nm, .int .i64 1, .int .i64 off, .slice A d.length c] 31)
    by_cases h0 : 0 ≤ keep
    · by_cases h1 : (d.length : Int) < keep
      · have he : kept.length = d.length := by rw [← HKEPT.out]; unfold keptOf; rw [if_pos h0, List.length_take]; omega
        have HE := Aside0.mk he
        have HBX := Aside0.mk hbx
        clear he hbx
        go_wp2
        go_meet
        case rel => exact ⟨by rw [HE.out], HBX, ⟨pw_below_drewN (below_alloc (Below.refl _ _) _) _⟩⟩
      · have he : keep.toNat = kept.length := by rw [← HKEPT.out]; unfold keptOf; rw [if_pos h0, List.length_take]; omega
        have h2 : keep ≤ d.length := by omega
        have HE := Aside0.mk he
        have HBX := Aside0.mk hbx
        clear he hbx h1
        go_wp2
        go_meet
        case rel => exact ⟨by rw [HE.out], HBX, ⟨pw_below_drewN (below_alloc (Below.refl _ _) _) _⟩⟩
    · have he : kept.length = d.length := by rw [← HKEPT.out]; unfold keptOf; rw [if_neg h0]
      have HE := Aside0.mk he
      have HBX := Aside0.mk hbx
      clear he hbx
      go_wp2
      go_meet
      case rel => exact ⟨by rw [HE.out], HBX, ⟨pw_below_drewN (below_alloc (Below.refl _ _) _) _⟩⟩
  case rest =>
    obtain ⟨rfl, BK, HB⟩ := hcut
    have hz0 : wc.cell? ⟨w.heap.size, 0, none⟩ = some (.string nm) := (blk_cell BK.out 0).trans rfl
    have HPL : Aside0 (files_Write_place.f nm 1 off d (old.length : Int) = some 0) := ⟨by unfold files_Write_place.f; rw [if_neg (by decide), if_neg (by decide)]⟩
    by_cases hq1 : 0 + (kept.length : Int) > 65536
    · have HRES : Aside0 (doRes 1 l0 nm 0 old d kept = ([], 11)) := ⟨by unfold doRes; rw [if_pos (.inr (.inl hq1))]⟩
      go_wp2_with (first | (go_at_call 28; refine (files_Get.calls A0 c0 l0 nm old is _ (Kd.F_now (Kd.F_below HF.out HB.out)) hc0 HG.out).mono ?_; rintro e w3 ⟨v3, rfl, ho3, hb3⟩; have HO3 := Aside0.mk ho3; have HB3 := Aside0.mk (below_step HB.out hb3); have BK3 := Aside0.mk (blk_stays hb3 BK.out); obtain ⟨A3, c3, ev⟩ := Kd.R_slice ho3; subst ev; have y0 := blk_cell BK3.out 0; have y1 := blk_cell BK3.out 1; have y2 := blk_cell BK3.out 2; have y3 := blk_cell BK3.out 3; clear ho3 hb3 hz0) | (go_at_call 56; refine (files_Write_place.calls nm 1 off A c d (old.length : Int) 0 _ (Kd.C_below HD.out HB3.out) hdc HPL.out).mono ?_; rintro e w4 ⟨rfl, hb4⟩; have HB4 := Aside0.mk (below_step HB3.out hb4); have HO4 := Aside0.mk (Kd.R_below HO3.out hb4); have BK4 := Aside0.mk (blk_stays hb4 BK3.out); have x0 := blk_cell BK4.out 0; have x1 := blk_cell BK4.out 1; have x2 := blk_cell BK4.out 2; have x3 := blk_cell BK4.out 3; clear hb4 y0 y1 y2 y3))
      go_ret2
      exact ⟨_, by rw [HRES.out]; rfl, by rw [HRES.out]; exact Kd.V_nil _ _ _ _ _, HB4.out⟩
    · skip
      by_cases hem : kept.length = 0 ∧ d.length > 0
      · have HRES : Aside0 (doRes 1 l0 nm 0 old d kept = (l0, 0)) := ⟨by unfold doRes; rw [if_neg (by rintro (h | h | ⟨h, _⟩) <;> omega), if_pos hem]⟩
        have e1 : ((kept.length : Int) == 0) = true := by simpa using hem.1
        have e2 : (kept.length == 0) = true := by simpa using hem.1
        have e3 : decide (0 < d.length) = true := by simpa using hem.2
        clear hem
        go_wp2_with (first | (go_at_call 28; refine (files_Get.calls A0 c0 l0 nm old is _ (Kd.F_now (Kd.F_below HF.out HB.out)) hc0 HG.out).mono ?_; rintro e w3 ⟨v3, rfl, ho3, hb3⟩; have HO3 := Aside0.mk ho3; have HB3 := Aside0.mk (below_step HB.out hb3); have BK3 := Aside0.mk (blk_stays hb3 BK.out); obtain ⟨A3, c3, ev⟩ := Kd.R_slice ho3; subst ev; have y0 := blk_cell BK3.out 0; have y1 := blk_cell BK3.out 1; have y2 := blk_cell BK3.out 2; have y3 := blk_cell BK3.out 3; clear ho3 hb3 hz0) | (go_at_call 56; refine (files_Write_place.calls nm 1 off A c d (old.length : Int) 0 _ (Kd.C_below HD.out HB3.out) hdc HPL.out).mono ?_; rintro e w4 ⟨rfl, hb4⟩; have HB4 := Aside0.mk (below_step HB3.out hb4); have HO4 := Aside0.mk (Kd.R_below HO3.out hb4); have BK4 := Aside0.mk (blk_stays hb4 BK3.out); have x0 := blk_cell BK4.out 0; have x1 := blk_cell BK4.out 1; have x2 := blk_cell BK4.out 2; have x3 := blk_cell BK4.out 3; clear hb4 y0 y1 y2 y3) | (go_at_call 57; refine (cloneF ok A0 c0 l0 _ (Kd.F_below HF.out HB4.out) hlen).mono ?_; rintro e w5 ⟨v5, rfl, ho5, hb5⟩; have HO5 := Aside0.mk ho5; have HBX5 := Aside0.mk hb5; clear ho5 hb5 x0 x1 x2 x3))
        go_ret2
        exact ⟨_, by rw [HRES.out]; rfl, by rw [HRES.out]; exact Kd.V_lower (Kd.V_mono (O_V HO5.out) fun k hk => Or.elim hk (fun h => .inl h.1) (fun h => .inr (Nat.le_trans HB4.out.size h))) HB4.out.size, below_step HB4.out HBX5.out⟩
      · have HRES : Aside0 (doRes 1 l0 nm 0 old d kept = (putL l0 nm (overlay ([] : List Int) (0 : Int).toNat kept), 0)) := ⟨by unfold doRes; rw [if_neg (by rintro (h | h | ⟨h, _⟩) <;> omega), if_neg hem]; rfl⟩
        by_cases hm : 0 < kept.length
        · have e1 : ((kept.length : Int) == 0) = false := beq_eq_false_iff_ne.mpr (by omega)
          have e2 : (kept.length == 0) = false := beq_eq_false_iff_ne.mpr (by omega)
          obtain ⟨t, ht⟩ : ∃ t : Nat, (t : Int) = (kept.length : Int) := ⟨((kept.length : Int)).toNat, by omega⟩
          have hmk := print_make 23 5 .u8 1 Try.underlying23 info5 (by decide) t (by omega)
          rw [ht] at hmk
          have HT : Aside0 (DoT ([] : List Int).length 0 kept.length t) := ⟨by unfold DoT; (try simp only [List.length_nil]); omega⟩
          have hlo : ¬ (t = 0) := by omega
          have hle : 0 ≤ t := by omega
          clear ht hem
          have HGM : Aside0 (∀ W : World, (W.alloc (.cells (madeCells #[.int .u8 0] t) 5)).heap[W.heap.size]? = some (.cells (nums .u8 (List.replicate t 0)).toArray 5 (0, 0))) := ⟨fun W => by rw [heap_alloc_new, made_eq]⟩
          go_wp2_with (first | (go_at_call 28; refine (files_Get.calls A0 c0 l0 nm old is _ (Kd.F_now (Kd.F_below HF.out HB.out)) hc0 HG.out).mono ?_; rintro e w3 ⟨v3, rfl, ho3, hb3⟩; have HO3 := Aside0.mk ho3; have HB3 := Aside0.mk (below_step HB.out hb3); have BK3 := Aside0.mk (blk_stays hb3 BK.out); obtain ⟨A3, c3, ev⟩ := Kd.R_slice ho3; subst ev; have y0 := blk_cell BK3.out 0; have y1 := blk_cell BK3.out 1; have y2 := blk_cell BK3.out 2; have y3 := blk_cell BK3.out 3; clear ho3 hb3 hz0) | (go_at_call 56; refine (files_Write_place.calls nm 1 off A c d (old.length : Int) 0 _ (Kd.C_below HD.out HB3.out) hdc HPL.out).mono ?_; rintro e w4 ⟨rfl, hb4⟩; have HB4 := Aside0.mk (below_step HB3.out hb4); have HO4 := Aside0.mk (Kd.R_below HO3.out hb4); have BK4 := Aside0.mk (blk_stays hb4 BK3.out); have x0 := blk_cell BK4.out 0; have x1 := blk_cell BK4.out 1; have x2 := blk_cell BK4.out 2; have x3 := blk_cell BK4.out 3; clear hb4 y0 y1 y2 y3) | ((with_reducible refine gate_dst (N := 101) rfl ?_); obtain ⟨w6, hr6, hg6, hk6, hs6, hx6⟩ := run_copyB (w4.alloc (.cells (madeCells #[.int .u8 0] t) 5)) 3 w4.heap.size 0 t t none 0 (List.replicate t 0) ([] : List Int) (HGM.out w4) ⟨rfl, by simp, fun h => absurd h (by simp)⟩ (by (try simp only [List.length_nil]); have := HT.out; unfold DoT at this; omega) (by rw [List.length_replicate]; (try simp only [List.length_nil]); have := HT.out; unfold DoT at this; omega); refine wpList_copy_run _ rfl (.tmp 99) (.tmp 100) 23 23 rfl _ _ rfl rfl hr6 ?_; have HG6 := Aside0.mk hg6; have HX6 := Aside0.mk (And.intro hk6 (And.intro hs6 hx6)); clear hr6 hg6 hk6 hs6 hx6 x0 x1 x2 x3) | ((with_reducible refine gate_dst (N := 106) rfl ?_); obtain ⟨w7, hr7, hg7, hk7, hs7, hx7⟩ := run_copyB w6 3 w4.heap.size (0) (t) (t) A c _ kept HG6.out (Kd.C_below HKC.out (do_b6 HB4.out HX6.out)) (by have := HT.out; unfold DoT at this; omega) (by simp only [List.length_append, List.length_take, List.length_drop, List.length_replicate]; (try simp only [List.length_nil]); have := HT.out; unfold DoT at this; omega); refine wpList_copy_run _ rfl (.tmp 104) (.tmp 105) 23 23 rfl _ _ rfl rfl hr7 ?_; have HG7 := Aside0.mk hg7; have HX7 := Aside0.mk (And.intro hk7 (And.intro hs7 hx7)); have HB7 := Aside0.mk (do_b7 HB4.out HX6.out HX7.out); have BK7 := Aside0.mk (do_k7 BK4.out HX6.out HX7.out); have z0 := blk_cell BK7.out 0; clear hr7 hg7 hk7 hs7 hx7) | (go_at_call 23; refine (do_put ok A0 c0 l0 nm w HF.out hlen HB7.out HG7.out (by simp only [List.length_append, List.length_take, List.length_drop, List.length_replicate]; (try simp only [List.length_nil]); have := HT.out; unfold DoT at this; omega) (by have := HT.out; unfold DoT at this; omega)).mono ?_; rintro e w8 ⟨v8, rfl, hv8, hb8⟩; have HV8 := Aside0.mk hv8; have HB8 := Aside0.mk hb8; clear hv8 hb8))
          go_ret2
          refine ⟨_, by rw [HRES.out]; rfl, ?_, HB8.out⟩
          rw [HRES.out]
          have hov := HV8.out
          rw [do_ov (LO := 0) HT.out rfl (by omega)] at hov
          exact hov
        · have e1 : ((kept.length : Int) == 0) = true := beq_iff_eq.mpr (by omega)
          have e2 : (kept.length == 0) = true := beq_iff_eq.mpr (by omega)
          have e3 : decide (0 < d.length) = false := decide_eq_false (by omega)
          obtain ⟨t, ht⟩ : ∃ t : Nat, (t : Int) = (0 : Int) := ⟨((0 : Int)).toNat, by omega⟩
          have hmk := print_make 23 5 .u8 1 Try.underlying23 info5 (by decide) t (by omega)
          rw [ht] at hmk
          have HT : Aside0 (DoT ([] : List Int).length 0 kept.length t) := ⟨by unfold DoT; (try simp only [List.length_nil]); omega⟩
          have hlo : t = 0 := by omega
          have HLO := Aside0.mk hlo
          have hle : 0 ≤ t := by omega
          subst hlo
          clear ht hem
          have HGM : Aside0 (∀ W : World, (W.alloc (.cells (madeCells #[.int .u8 0] 0) 5)).heap[W.heap.size]? = some (.cells (nums .u8 (List.replicate 0 0)).toArray 5 (0, 0))) := ⟨fun W => by rw [heap_alloc_new, made_eq]⟩
          go_wp2_with (first | (go_at_call 28; refine (files_Get.calls A0 c0 l0 nm old is _ (Kd.F_now (Kd.F_below HF.out HB.out)) hc0 HG.out).mono ?_; rintro e w3 ⟨v3, rfl, ho3, hb3⟩; have HO3 := Aside0.mk ho3; have HB3 := Aside0.mk (below_step HB.out hb3); have BK3 := Aside0.mk (blk_stays hb3 BK.out); obtain ⟨A3, c3, ev⟩ := Kd.R_slice ho3; subst ev; have y0 := blk_cell BK3.out 0; have y1 := blk_cell BK3.out 1; have y2 := blk_cell BK3.out 2; have y3 := blk_cell BK3.out 3; clear ho3 hb3 hz0) | (go_at_call 56; refine (files_Write_place.calls nm 1 off A c d (old.length : Int) 0 _ (Kd.C_below HD.out HB3.out) hdc HPL.out).mono ?_; rintro e w4 ⟨rfl, hb4⟩; have HB4 := Aside0.mk (below_step HB3.out hb4); have HO4 := Aside0.mk (Kd.R_below HO3.out hb4); have BK4 := Aside0.mk (blk_stays hb4 BK3.out); have x0 := blk_cell BK4.out 0; have x1 := blk_cell BK4.out 1; have x2 := blk_cell BK4.out 2; have x3 := blk_cell BK4.out 3; clear hb4 y0 y1 y2 y3) | ((with_reducible refine gate_dst (N := 101) rfl ?_); obtain ⟨w6, hr6, hg6, hk6, hs6, hx6⟩ := run_copyB (w4.alloc (.cells (madeCells #[.int .u8 0] 0) 5)) 3 w4.heap.size 0 0 0 none 0 (List.replicate 0 0) ([] : List Int) (HGM.out w4) ⟨rfl, by simp, fun h => absurd h (by simp)⟩ (by (try simp only [List.length_nil]); have := HT.out; unfold DoT at this; omega) (by rw [List.length_replicate]; (try simp only [List.length_nil]); have := HT.out; unfold DoT at this; omega); refine wpList_copy_run _ rfl (.tmp 99) (.tmp 100) 23 23 rfl _ _ rfl rfl hr6 ?_; have HG6 := Aside0.mk hg6; have HX6 := Aside0.mk (And.intro hk6 (And.intro hs6 hx6)); clear hr6 hg6 hk6 hs6 hx6 x0 x1 x2 x3) | ((with_reducible refine gate_dst (N := 106) rfl ?_); obtain ⟨w7, hr7, hg7, hk7, hs7, hx7⟩ := run_copyB w6 3 w4.heap.size (0) (0) (0) A c _ kept HG6.out (Kd.C_below HKC.out (do_b6 HB4.out HX6.out)) (by have := HT.out; unfold DoT at this; omega) (by simp only [List.length_append, List.length_take, List.length_drop, List.length_replicate]; (try simp only [List.length_nil]); have := HT.out; unfold DoT at this; omega); refine wpList_copy_run _ rfl (.tmp 104) (.tmp 105) 23 23 rfl _ _ rfl rfl hr7 ?_; have HG7 := Aside0.mk hg7; have HX7 := Aside0.mk (And.intro hk7 (And.intro hs7 hx7)); have HB7 := Aside0.mk (do_b7 HB4.out HX6.out HX7.out); have BK7 := Aside0.mk (do_k7 BK4.out HX6.out HX7.out); have z0 := blk_cell BK7.out 0; clear hr7 hg7 hk7 hs7 hx7) | (go_at_call 23; refine (do_put ok A0 c0 l0 nm w HF.out hlen HB7.out HG7.out (by simp only [List.length_append, List.length_take, List.length_drop, List.length_replicate]; (try simp only [List.length_nil]); have := HT.out; unfold DoT at this; omega) (by have := HT.out; unfold DoT at this; omega)).mono ?_; rintro e w8 ⟨v8, rfl, hv8, hb8⟩; have HV8 := Aside0.mk hv8; have HB8 := Aside0.mk hb8; clear hv8 hb8))
          go_ret2
          refine ⟨_, by rw [HRES.out]; rfl, ?_, HB8.out⟩
          rw [HRES.out]
          have hov := HV8.out
          rw [do_ov_tf (LO := 0) HT.out rfl (by omega)] at hov
          exact hov
      



set_option maxHeartbeats 64000000 in
set_option maxRecDepth 100000 in
theorem do_2 (ok : Nat → Prop) (A0 : Option Addr) (c0 : Nat) (l0 : List S38) (nm : ByteArray) (off keep : Int) (A : Option Addr) (c : Nat) (d old : List Int) (is : Bool) (w : World) (hf : Kd.F k38 w ok A0 l0.length l0) (hc0 : l0.length ≤ c0) (hlen : l0.length ≤ 1000000) (hg : files_Get.f l0 nm = some (old, is)) (hold : old.length ≤ 1000000)
    (hn1 : 1 ≤ nm.size) (hn2 : nm.size ≤ 40) (hd : (Kd.int .u8).C w A d.length d) (hdc : d.length ≤ c) (hdl : d.length ≤ 1000000) :
    Calls Try.prog 17 #[.slice A0 l0.length c0, .agg #[.string nm, .int .i64 2, .int .i64 off, .slice A d.length c], .int .i64 keep] w fun e w' => ∃ v, e = .returned (.tuple #[v, .int .i64 (doRes 2 l0 nm (old.length : Int) old d (keptOf d keep)).2]) ∧ Kd.V k38 38 w' w.heap.size (fun k => ok k ∨ w.heap.size ≤ k) v (doRes 2 l0 nm (old.length : Int) old d (keptOf d keep)).1 ∧ Below w.heap.size w w' := by
  have HF := Aside0.mk hf
  have HG := Aside0.mk hg
  have HD := Aside0.mk hd
  have hfine : files_fine.f nm = some true := by unfold files_fine.f; rw [if_pos (by omega)]; simp; omega
  have HFINE := Aside0.mk hfine
  obtain ⟨kept, hkept⟩ : ∃ kept, keptOf d keep = kept := ⟨_, rfl⟩
  have hkl : kept.length ≤ d.length := by rw [← hkept]; unfold keptOf; split; (rw [List.length_take]; omega); exact Nat.le_refl _
  have hkc : (Kd.int .u8).C w A kept.length kept := by
    rw [← hkept]; unfold keptOf; split
    · exact C_take hd _
    · exact hd
  have HKC := Aside0.mk hkc
  rw [hkept]
  have HKEPT := Aside0.mk hkept
  clear hf hg hd hfine hkept hkc
  go_enter Try.func17, Try.ntmps17
  go_upto_if 40 with (go_at_call 55; refine (files_fine.calls nm true _ HFINE.out).mono ?_; rintro e w1 ⟨rfl, ⟨nd, rfl⟩⟩)
  go_cut [8] (fun v8 wc => v8 = .slice A kept.length c ∧ Aside0 (wc.heap[w.heap.size]? = some (.cells #[.string nm, .int .i64 2, .int .i64 off, .slice A d.length c] 31 (0, 0))) ∧ Aside0 (Below w.heap.size w wc))
  case first =>
    have hbx := heap_alloc_new w (.cells #[.string nm, .int .i64 2, .int .i64 off, .slice A d.length c] 31)
    by_cases h0 : 0 ≤ keep
    · by_cases h1 : (d.length : Int) < keep
      · have he : kept.length = d.length := by rw [← HKEPT.out]; unfold keptOf; rw [if_pos h0, List.length_take]; omega
        have HE := Aside0.mk he
        have HBX := Aside0.mk hbx
        clear he hbx
        go_wp2
        go_meet
        case rel => exact ⟨by rw [HE.out], HBX, ⟨pw_below_drewN (below_alloc (Below.refl _ _) _) _⟩⟩
      · have he : keep.toNat = kept.length := by rw [← HKEPT.out]; unfold keptOf; rw [if_pos h0, List.length_take]; omega
        have h2 : keep ≤ d.length := by omega
        have HE := Aside0.mk he
        have HBX := Aside0.mk hbx
        clear he hbx h1
        go_wp2
        go_meet
        case rel => exact ⟨by rw [HE.out], HBX, ⟨pw_below_drewN (below_alloc (Below.refl _ _) _) _⟩⟩
    · have he : kept.length = d.length := by rw [← HKEPT.out]; unfold keptOf; rw [if_neg h0]
      have HE := Aside0.mk he
      have HBX := Aside0.mk hbx
      clear he hbx
      go_wp2
      go_meet
      case rel => exact ⟨by rw [HE.out], HBX, ⟨pw_below_drewN (below_alloc (Below.refl _ _) _) _⟩⟩
  case rest =>
    obtain ⟨rfl, BK, HB⟩ := hcut
    have hz0 : wc.cell? ⟨w.heap.size, 0, none⟩ = some (.string nm) := (blk_cell BK.out 0).trans rfl
    have HPL : Aside0 (files_Write_place.f nm 2 off d (old.length : Int) = some (old.length : Int)) := ⟨by unfold files_Write_place.f; rw [if_pos rfl]⟩
    by_cases hq1 : (old.length : Int) > 65536
    · have HRES : Aside0 (doRes 2 l0 nm (old.length : Int) old d kept = ([], 11)) := ⟨by unfold doRes; rw [if_pos (.inl hq1)]⟩
      go_wp2_with (first | (go_at_call 28; refine (files_Get.calls A0 c0 l0 nm old is _ (Kd.F_now (Kd.F_below HF.out HB.out)) hc0 HG.out).mono ?_; rintro e w3 ⟨v3, rfl, ho3, hb3⟩; have HO3 := Aside0.mk ho3; have HB3 := Aside0.mk (below_step HB.out hb3); have BK3 := Aside0.mk (blk_stays hb3 BK.out); obtain ⟨A3, c3, ev⟩ := Kd.R_slice ho3; subst ev; have y0 := blk_cell BK3.out 0; have y1 := blk_cell BK3.out 1; have y2 := blk_cell BK3.out 2; have y3 := blk_cell BK3.out 3; clear ho3 hb3 hz0) | (go_at_call 56; refine (files_Write_place.calls nm 2 off A c d (old.length : Int) (old.length : Int) _ (Kd.C_below HD.out HB3.out) hdc HPL.out).mono ?_; rintro e w4 ⟨rfl, hb4⟩; have HB4 := Aside0.mk (below_step HB3.out hb4); have HO4 := Aside0.mk (Kd.R_below HO3.out hb4); have BK4 := Aside0.mk (blk_stays hb4 BK3.out); have x0 := blk_cell BK4.out 0; have x1 := blk_cell BK4.out 1; have x2 := blk_cell BK4.out 2; have x3 := blk_cell BK4.out 3; clear hb4 y0 y1 y2 y3))
      go_ret2
      exact ⟨_, by rw [HRES.out]; rfl, by rw [HRES.out]; exact Kd.V_nil _ _ _ _ _, HB4.out⟩
    · skip
      by_cases hq2 : (old.length : Int) + (kept.length : Int) > 65536
      · have HRES : Aside0 (doRes 2 l0 nm (old.length : Int) old d kept = ([], 11)) := ⟨by unfold doRes; rw [if_pos (.inr (.inl hq2))]⟩
        go_wp2_with (first | (go_at_call 28; refine (files_Get.calls A0 c0 l0 nm old is _ (Kd.F_now (Kd.F_below HF.out HB.out)) hc0 HG.out).mono ?_; rintro e w3 ⟨v3, rfl, ho3, hb3⟩; have HO3 := Aside0.mk ho3; have HB3 := Aside0.mk (below_step HB.out hb3); have BK3 := Aside0.mk (blk_stays hb3 BK.out); obtain ⟨A3, c3, ev⟩ := Kd.R_slice ho3; subst ev; have y0 := blk_cell BK3.out 0; have y1 := blk_cell BK3.out 1; have y2 := blk_cell BK3.out 2; have y3 := blk_cell BK3.out 3; clear ho3 hb3 hz0) | (go_at_call 56; refine (files_Write_place.calls nm 2 off A c d (old.length : Int) (old.length : Int) _ (Kd.C_below HD.out HB3.out) hdc HPL.out).mono ?_; rintro e w4 ⟨rfl, hb4⟩; have HB4 := Aside0.mk (below_step HB3.out hb4); have HO4 := Aside0.mk (Kd.R_below HO3.out hb4); have BK4 := Aside0.mk (blk_stays hb4 BK3.out); have x0 := blk_cell BK4.out 0; have x1 := blk_cell BK4.out 1; have x2 := blk_cell BK4.out 2; have x3 := blk_cell BK4.out 3; clear hb4 y0 y1 y2 y3))
        go_ret2
        exact ⟨_, by rw [HRES.out]; rfl, by rw [HRES.out]; exact Kd.V_nil _ _ _ _ _, HB4.out⟩
      · skip
        by_cases hem : kept.length = 0 ∧ d.length > 0
        · have HRES : Aside0 (doRes 2 l0 nm (old.length : Int) old d kept = (l0, 0)) := ⟨by unfold doRes; rw [if_neg (by rintro (h | h | ⟨h, _⟩) <;> omega), if_pos hem]⟩
          have e1 : ((kept.length : Int) == 0) = true := by simpa using hem.1
          have e2 : (kept.length == 0) = true := by simpa using hem.1
          have e3 : decide (0 < d.length) = true := by simpa using hem.2
          clear hem
          go_wp2_with (first | (go_at_call 28; refine (files_Get.calls A0 c0 l0 nm old is _ (Kd.F_now (Kd.F_below HF.out HB.out)) hc0 HG.out).mono ?_; rintro e w3 ⟨v3, rfl, ho3, hb3⟩; have HO3 := Aside0.mk ho3; have HB3 := Aside0.mk (below_step HB.out hb3); have BK3 := Aside0.mk (blk_stays hb3 BK.out); obtain ⟨A3, c3, ev⟩ := Kd.R_slice ho3; subst ev; have y0 := blk_cell BK3.out 0; have y1 := blk_cell BK3.out 1; have y2 := blk_cell BK3.out 2; have y3 := blk_cell BK3.out 3; clear ho3 hb3 hz0) | (go_at_call 56; refine (files_Write_place.calls nm 2 off A c d (old.length : Int) (old.length : Int) _ (Kd.C_below HD.out HB3.out) hdc HPL.out).mono ?_; rintro e w4 ⟨rfl, hb4⟩; have HB4 := Aside0.mk (below_step HB3.out hb4); have HO4 := Aside0.mk (Kd.R_below HO3.out hb4); have BK4 := Aside0.mk (blk_stays hb4 BK3.out); have x0 := blk_cell BK4.out 0; have x1 := blk_cell BK4.out 1; have x2 := blk_cell BK4.out 2; have x3 := blk_cell BK4.out 3; clear hb4 y0 y1 y2 y3) | (go_at_call 57; refine (cloneF ok A0 c0 l0 _ (Kd.F_below HF.out HB4.out) hlen).mono ?_; rintro e w5 ⟨v5, rfl, ho5, hb5⟩; have HO5 := Aside0.mk ho5; have HBX5 := Aside0.mk hb5; clear ho5 hb5 x0 x1 x2 x3))
          go_ret2
          exact ⟨_, by rw [HRES.out]; rfl, by rw [HRES.out]; exact Kd.V_lower (Kd.V_mono (O_V HO5.out) fun k hk => Or.elim hk (fun h => .inl h.1) (fun h => .inr (Nat.le_trans HB4.out.size h))) HB4.out.size, below_step HB4.out HBX5.out⟩
        · have HRES : Aside0 (doRes 2 l0 nm (old.length : Int) old d kept = (putL l0 nm (overlay old ((old.length : Int) : Int).toNat kept), 0)) := ⟨by unfold doRes; rw [if_neg (by rintro (h | h | ⟨h, _⟩) <;> omega), if_neg hem]; rfl⟩
          by_cases hm : 0 < kept.length
          · have e1 : ((kept.length : Int) == 0) = false := beq_eq_false_iff_ne.mpr (by omega)
            have e2 : (kept.length == 0) = false := beq_eq_false_iff_ne.mpr (by omega)
            obtain ⟨t, ht⟩ : ∃ t : Nat, (t : Int) = (old.length : Int) + (kept.length : Int) := ⟨((old.length : Int) + (kept.length : Int)).toNat, by omega⟩
            have hmk := print_make 23 5 .u8 1 Try.underlying23 info5 (by decide) t (by omega)
            rw [ht] at hmk
            have HT : Aside0 (DoT old.length (old.length : Int) kept.length t) := ⟨by unfold DoT; (try simp only [List.length_nil]); omega⟩
            have hlo : ¬ (t = old.length) := by omega
            have hle : old.length ≤ t := by omega
            clear ht hem
            have HGM : Aside0 (∀ W : World, (W.alloc (.cells (madeCells #[.int .u8 0] t) 5)).heap[W.heap.size]? = some (.cells (nums .u8 (List.replicate t 0)).toArray 5 (0, 0))) := ⟨fun W => by rw [heap_alloc_new, made_eq]⟩
            go_wp2_with (first | (go_at_call 28; refine (files_Get.calls A0 c0 l0 nm old is _ (Kd.F_now (Kd.F_below HF.out HB.out)) hc0 HG.out).mono ?_; rintro e w3 ⟨v3, rfl, ho3, hb3⟩; have HO3 := Aside0.mk ho3; have HB3 := Aside0.mk (below_step HB.out hb3); have BK3 := Aside0.mk (blk_stays hb3 BK.out); obtain ⟨A3, c3, ev⟩ := Kd.R_slice ho3; subst ev; have y0 := blk_cell BK3.out 0; have y1 := blk_cell BK3.out 1; have y2 := blk_cell BK3.out 2; have y3 := blk_cell BK3.out 3; clear ho3 hb3 hz0) | (go_at_call 56; refine (files_Write_place.calls nm 2 off A c d (old.length : Int) (old.length : Int) _ (Kd.C_below HD.out HB3.out) hdc HPL.out).mono ?_; rintro e w4 ⟨rfl, hb4⟩; have HB4 := Aside0.mk (below_step HB3.out hb4); have HO4 := Aside0.mk (Kd.R_below HO3.out hb4); have BK4 := Aside0.mk (blk_stays hb4 BK3.out); have x0 := blk_cell BK4.out 0; have x1 := blk_cell BK4.out 1; have x2 := blk_cell BK4.out 2; have x3 := blk_cell BK4.out 3; clear hb4 y0 y1 y2 y3) | ((with_reducible refine gate_dst (N := 101) rfl ?_); obtain ⟨w6, hr6, hg6, hk6, hs6, hx6⟩ := run_copyB (w4.alloc (.cells (madeCells #[.int .u8 0] t) 5)) 3 w4.heap.size 0 t t A3 c3 (List.replicate t 0) old (HGM.out w4) (Kd.C_alloc (Kd.R_reads' HO4.out).2.2 _) (by (try simp only [List.length_nil]); have := HT.out; unfold DoT at this; omega) (by rw [List.length_replicate]; (try simp only [List.length_nil]); have := HT.out; unfold DoT at this; omega); refine wpList_copy_run _ rfl (.tmp 99) (.tmp 100) 23 23 rfl _ _ rfl rfl hr6 ?_; have HG6 := Aside0.mk hg6; have HX6 := Aside0.mk (And.intro hk6 (And.intro hs6 hx6)); clear hr6 hg6 hk6 hs6 hx6 x0 x1 x2 x3) | ((with_reducible refine gate_dst (N := 106) rfl ?_); obtain ⟨w7, hr7, hg7, hk7, hs7, hx7⟩ := run_copyB w6 3 w4.heap.size (old.length) (t - old.length) (t - old.length) A c _ kept HG6.out (Kd.C_below HKC.out (do_b6 HB4.out HX6.out)) (by have := HT.out; unfold DoT at this; omega) (by simp only [List.length_append, List.length_take, List.length_drop, List.length_replicate]; (try simp only [List.length_nil]); have := HT.out; unfold DoT at this; omega); refine wpList_copy_run _ rfl (.tmp 104) (.tmp 105) 23 23 rfl _ _ rfl rfl hr7 ?_; have HG7 := Aside0.mk hg7; have HX7 := Aside0.mk (And.intro hk7 (And.intro hs7 hx7)); have HB7 := Aside0.mk (do_b7 HB4.out HX6.out HX7.out); have BK7 := Aside0.mk (do_k7 BK4.out HX6.out HX7.out); have z0 := blk_cell BK7.out 0; clear hr7 hg7 hk7 hs7 hx7) | (go_at_call 23; refine (do_put ok A0 c0 l0 nm w HF.out hlen HB7.out HG7.out (by simp only [List.length_append, List.length_take, List.length_drop, List.length_replicate]; (try simp only [List.length_nil]); have := HT.out; unfold DoT at this; omega) (by have := HT.out; unfold DoT at this; omega)).mono ?_; rintro e w8 ⟨v8, rfl, hv8, hb8⟩; have HV8 := Aside0.mk hv8; have HB8 := Aside0.mk hb8; clear hv8 hb8))
            go_ret2
            refine ⟨_, by rw [HRES.out]; rfl, ?_, HB8.out⟩
            rw [HRES.out]
            have hov := HV8.out
            rw [do_ov (LO := old.length) HT.out (Int.toNat_natCast _) (by omega)] at hov
            exact hov
          · have e1 : ((kept.length : Int) == 0) = true := beq_iff_eq.mpr (by omega)
            have e2 : (kept.length == 0) = true := beq_iff_eq.mpr (by omega)
            have e3 : decide (0 < d.length) = false := decide_eq_false (by omega)
            obtain ⟨t, ht⟩ : ∃ t : Nat, (t : Int) = (old.length : Int) := ⟨((old.length : Int)).toNat, by omega⟩
            have hmk := print_make 23 5 .u8 1 Try.underlying23 info5 (by decide) t (by omega)
            rw [ht] at hmk
            have HT : Aside0 (DoT old.length (old.length : Int) kept.length t) := ⟨by unfold DoT; (try simp only [List.length_nil]); omega⟩
            have hlo : t = old.length := by omega
            have HLO := Aside0.mk hlo
            have hle : old.length ≤ t := by omega
            subst hlo
            clear ht hem
            have HGM : Aside0 (∀ W : World, (W.alloc (.cells (madeCells #[.int .u8 0] old.length) 5)).heap[W.heap.size]? = some (.cells (nums .u8 (List.replicate old.length 0)).toArray 5 (0, 0))) := ⟨fun W => by rw [heap_alloc_new, made_eq]⟩
            go_wp2_with (first | (go_at_call 28; refine (files_Get.calls A0 c0 l0 nm old is _ (Kd.F_now (Kd.F_below HF.out HB.out)) hc0 HG.out).mono ?_; rintro e w3 ⟨v3, rfl, ho3, hb3⟩; have HO3 := Aside0.mk ho3; have HB3 := Aside0.mk (below_step HB.out hb3); have BK3 := Aside0.mk (blk_stays hb3 BK.out); obtain ⟨A3, c3, ev⟩ := Kd.R_slice ho3; subst ev; have y0 := blk_cell BK3.out 0; have y1 := blk_cell BK3.out 1; have y2 := blk_cell BK3.out 2; have y3 := blk_cell BK3.out 3; clear ho3 hb3 hz0) | (go_at_call 56; refine (files_Write_place.calls nm 2 off A c d (old.length : Int) (old.length : Int) _ (Kd.C_below HD.out HB3.out) hdc HPL.out).mono ?_; rintro e w4 ⟨rfl, hb4⟩; have HB4 := Aside0.mk (below_step HB3.out hb4); have HO4 := Aside0.mk (Kd.R_below HO3.out hb4); have BK4 := Aside0.mk (blk_stays hb4 BK3.out); have x0 := blk_cell BK4.out 0; have x1 := blk_cell BK4.out 1; have x2 := blk_cell BK4.out 2; have x3 := blk_cell BK4.out 3; clear hb4 y0 y1 y2 y3) | ((with_reducible refine gate_dst (N := 101) rfl ?_); obtain ⟨w6, hr6, hg6, hk6, hs6, hx6⟩ := run_copyB (w4.alloc (.cells (madeCells #[.int .u8 0] old.length) 5)) 3 w4.heap.size 0 old.length old.length A3 c3 (List.replicate old.length 0) old (HGM.out w4) (Kd.C_alloc (Kd.R_reads' HO4.out).2.2 _) (by (try simp only [List.length_nil]); have := HT.out; unfold DoT at this; omega) (by rw [List.length_replicate]; (try simp only [List.length_nil]); have := HT.out; unfold DoT at this; omega); refine wpList_copy_run _ rfl (.tmp 99) (.tmp 100) 23 23 rfl _ _ rfl rfl hr6 ?_; have HG6 := Aside0.mk hg6; have HX6 := Aside0.mk (And.intro hk6 (And.intro hs6 hx6)); clear hr6 hg6 hk6 hs6 hx6 x0 x1 x2 x3) | ((with_reducible refine gate_dst (N := 106) rfl ?_); obtain ⟨w7, hr7, hg7, hk7, hs7, hx7⟩ := run_copyB w6 3 w4.heap.size (0) (0) (0) A c _ kept HG6.out (Kd.C_below HKC.out (do_b6 HB4.out HX6.out)) (by have := HT.out; unfold DoT at this; omega) (by simp only [List.length_append, List.length_take, List.length_drop, List.length_replicate]; (try simp only [List.length_nil]); have := HT.out; unfold DoT at this; omega); refine wpList_copy_run _ rfl (.tmp 104) (.tmp 105) 23 23 rfl _ _ rfl rfl hr7 ?_; have HG7 := Aside0.mk hg7; have HX7 := Aside0.mk (And.intro hk7 (And.intro hs7 hx7)); have HB7 := Aside0.mk (do_b7 HB4.out HX6.out HX7.out); have BK7 := Aside0.mk (do_k7 BK4.out HX6.out HX7.out); have z0 := blk_cell BK7.out 0; clear hr7 hg7 hk7 hs7 hx7) | (go_at_call 23; refine (do_put ok A0 c0 l0 nm w HF.out hlen HB7.out HG7.out (by simp only [List.length_append, List.length_take, List.length_drop, List.length_replicate]; (try simp only [List.length_nil]); have := HT.out; unfold DoT at this; omega) (by have := HT.out; unfold DoT at this; omega)).mono ?_; rintro e w8 ⟨v8, rfl, hv8, hb8⟩; have HV8 := Aside0.mk hv8; have HB8 := Aside0.mk hb8; clear hv8 hb8))
            go_ret2
            refine ⟨_, by rw [HRES.out]; rfl, ?_, HB8.out⟩
            rw [HRES.out]
            have hov := HV8.out
            rw [do_ov_tf (LO := old.length) HT.out (Int.toNat_natCast _) (by omega)] at hov
            exact hov
        



set_option maxHeartbeats 64000000 in
set_option maxRecDepth 100000 in
theorem do_3 (ok : Nat → Prop) (A0 : Option Addr) (c0 : Nat) (l0 : List S38) (nm : ByteArray) (off keep : Int) (A : Option Addr) (c : Nat) (d old : List Int) (is : Bool) (w : World) (hf : Kd.F k38 w ok A0 l0.length l0) (hc0 : l0.length ≤ c0) (hlen : l0.length ≤ 1000000) (hg : files_Get.f l0 nm = some (old, is)) (hold : old.length ≤ 1000000)
    (hn1 : 1 ≤ nm.size) (hn2 : nm.size ≤ 40) (hd : (Kd.int .u8).C w A d.length d) (hdc : d.length ≤ c) (hdl : d.length ≤ 1000000) (ho : 0 ≤ off) :
    Calls Try.prog 17 #[.slice A0 l0.length c0, .agg #[.string nm, .int .i64 3, .int .i64 off, .slice A d.length c], .int .i64 keep] w fun e w' => ∃ v, e = .returned (.tuple #[v, .int .i64 (doRes 3 l0 nm off old d (keptOf d keep)).2]) ∧ Kd.V k38 38 w' w.heap.size (fun k => ok k ∨ w.heap.size ≤ k) v (doRes 3 l0 nm off old d (keptOf d keep)).1 ∧ Below w.heap.size w w' := by
  have HF := Aside0.mk hf
  have HG := Aside0.mk hg
  have HD := Aside0.mk hd
  have hfine : files_fine.f nm = some true := by unfold files_fine.f; rw [if_pos (by omega)]; simp; omega
  have HFINE := Aside0.mk hfine
  obtain ⟨kept, hkept⟩ : ∃ kept, keptOf d keep = kept := ⟨_, rfl⟩
  have hkl : kept.length ≤ d.length := by rw [← hkept]; unfold keptOf; split; (rw [List.length_take]; omega); exact Nat.le_refl _
  have hkc : (Kd.int .u8).C w A kept.length kept := by
    rw [← hkept]; unfold keptOf; split
    · exact C_take hd _
    · exact hd
  have HKC := Aside0.mk hkc
  rw [hkept]
  have HKEPT := Aside0.mk hkept
  clear hf hg hd hfine hkept hkc
  go_enter Try.func17, Try.ntmps17
  go_upto_if 40 with (go_at_call 55; refine (files_fine.calls nm true _ HFINE.out).mono ?_; rintro e w1 ⟨rfl, ⟨nd, rfl⟩⟩)
  go_cut [8] (fun v8 wc => v8 = .slice A kept.length c ∧ Aside0 (wc.heap[w.heap.size]? = some (.cells #[.string nm, .int .i64 3, .int .i64 off, .slice A d.length c] 31 (0, 0))) ∧ Aside0 (Below w.heap.size w wc))
  case first =>
    have hbx := heap_alloc_new w (.cells #[.string nm, .int .i64 3, .int .i64 off, .slice A d.length c] 31)
    by_cases h0 : 0 ≤ keep
    · by_cases h1 : (d.length : Int) < keep
      · have he : kept.length = d.length := by rw [← HKEPT.out]; unfold keptOf; rw [if_pos h0, List.length_take]; omega
        have HE := Aside0.mk he
        have HBX := Aside0.mk hbx
        clear he hbx
        go_wp2
        go_meet
        case rel => exact ⟨by rw [HE.out], HBX, ⟨pw_below_drewN (below_alloc (Below.refl _ _) _) _⟩⟩
      · have he : keep.toNat = kept.length := by rw [← HKEPT.out]; unfold keptOf; rw [if_pos h0, List.length_take]; omega
        have h2 : keep ≤ d.length := by omega
        have HE := Aside0.mk he
        have HBX := Aside0.mk hbx
        clear he hbx h1
        go_wp2
        go_meet
        case rel => exact ⟨by rw [HE.out], HBX, ⟨pw_below_drewN (below_alloc (Below.refl _ _) _) _⟩⟩
    · have he : kept.length = d.length := by rw [← HKEPT.out]; unfold keptOf; rw [if_neg h0]
      have HE := Aside0.mk he
      have HBX := Aside0.mk hbx
      clear he hbx
      go_wp2
      go_meet
      case rel => exact ⟨by rw [HE.out], HBX, ⟨pw_below_drewN (below_alloc (Below.refl _ _) _) _⟩⟩
  case rest =>
    obtain ⟨rfl, BK, HB⟩ := hcut
    have hz0 : wc.cell? ⟨w.heap.size, 0, none⟩ = some (.string nm) := (blk_cell BK.out 0).trans rfl
    have HPL : Aside0 (files_Write_place.f nm 3 off d (old.length : Int) = some off) := ⟨by unfold files_Write_place.f; rw [if_neg (by decide), if_pos rfl]⟩
    by_cases hq1 : off > 65536
    · have HRES : Aside0 (doRes 3 l0 nm off old d kept = ([], 11)) := ⟨by unfold doRes; rw [if_pos (.inl hq1)]⟩
      go_wp2_with (first | (go_at_call 28; refine (files_Get.calls A0 c0 l0 nm old is _ (Kd.F_now (Kd.F_below HF.out HB.out)) hc0 HG.out).mono ?_; rintro e w3 ⟨v3, rfl, ho3, hb3⟩; have HO3 := Aside0.mk ho3; have HB3 := Aside0.mk (below_step HB.out hb3); have BK3 := Aside0.mk (blk_stays hb3 BK.out); obtain ⟨A3, c3, ev⟩ := Kd.R_slice ho3; subst ev; have y0 := blk_cell BK3.out 0; have y1 := blk_cell BK3.out 1; have y2 := blk_cell BK3.out 2; have y3 := blk_cell BK3.out 3; clear ho3 hb3 hz0) | (go_at_call 56; refine (files_Write_place.calls nm 3 off A c d (old.length : Int) off _ (Kd.C_below HD.out HB3.out) hdc HPL.out).mono ?_; rintro e w4 ⟨rfl, hb4⟩; have HB4 := Aside0.mk (below_step HB3.out hb4); have HO4 := Aside0.mk (Kd.R_below HO3.out hb4); have BK4 := Aside0.mk (blk_stays hb4 BK3.out); have x0 := blk_cell BK4.out 0; have x1 := blk_cell BK4.out 1; have x2 := blk_cell BK4.out 2; have x3 := blk_cell BK4.out 3; clear hb4 y0 y1 y2 y3))
      go_ret2
      exact ⟨_, by rw [HRES.out]; rfl, by rw [HRES.out]; exact Kd.V_nil _ _ _ _ _, HB4.out⟩
    · skip
      by_cases hq2 : off + (kept.length : Int) > 65536
      · have HRES : Aside0 (doRes 3 l0 nm off old d kept = ([], 11)) := ⟨by unfold doRes; rw [if_pos (.inr (.inl hq2))]⟩
        go_wp2_with (first | (go_at_call 28; refine (files_Get.calls A0 c0 l0 nm old is _ (Kd.F_now (Kd.F_below HF.out HB.out)) hc0 HG.out).mono ?_; rintro e w3 ⟨v3, rfl, ho3, hb3⟩; have HO3 := Aside0.mk ho3; have HB3 := Aside0.mk (below_step HB.out hb3); have BK3 := Aside0.mk (blk_stays hb3 BK.out); obtain ⟨A3, c3, ev⟩ := Kd.R_slice ho3; subst ev; have y0 := blk_cell BK3.out 0; have y1 := blk_cell BK3.out 1; have y2 := blk_cell BK3.out 2; have y3 := blk_cell BK3.out 3; clear ho3 hb3 hz0) | (go_at_call 56; refine (files_Write_place.calls nm 3 off A c d (old.length : Int) off _ (Kd.C_below HD.out HB3.out) hdc HPL.out).mono ?_; rintro e w4 ⟨rfl, hb4⟩; have HB4 := Aside0.mk (below_step HB3.out hb4); have HO4 := Aside0.mk (Kd.R_below HO3.out hb4); have BK4 := Aside0.mk (blk_stays hb4 BK3.out); have x0 := blk_cell BK4.out 0; have x1 := blk_cell BK4.out 1; have x2 := blk_cell BK4.out 2; have x3 := blk_cell BK4.out 3; clear hb4 y0 y1 y2 y3))
        go_ret2
        exact ⟨_, by rw [HRES.out]; rfl, by rw [HRES.out]; exact Kd.V_nil _ _ _ _ _, HB4.out⟩
      · skip
        by_cases hq3 : old.length > 65536
        · have HRES : Aside0 (doRes 3 l0 nm off old d kept = ([], 11)) := ⟨by unfold doRes; rw [if_pos (.inr (.inr ⟨rfl, hq3⟩))]⟩
          go_wp2_with (first | (go_at_call 28; refine (files_Get.calls A0 c0 l0 nm old is _ (Kd.F_now (Kd.F_below HF.out HB.out)) hc0 HG.out).mono ?_; rintro e w3 ⟨v3, rfl, ho3, hb3⟩; have HO3 := Aside0.mk ho3; have HB3 := Aside0.mk (below_step HB.out hb3); have BK3 := Aside0.mk (blk_stays hb3 BK.out); obtain ⟨A3, c3, ev⟩ := Kd.R_slice ho3; subst ev; have y0 := blk_cell BK3.out 0; have y1 := blk_cell BK3.out 1; have y2 := blk_cell BK3.out 2; have y3 := blk_cell BK3.out 3; clear ho3 hb3 hz0) | (go_at_call 56; refine (files_Write_place.calls nm 3 off A c d (old.length : Int) off _ (Kd.C_below HD.out HB3.out) hdc HPL.out).mono ?_; rintro e w4 ⟨rfl, hb4⟩; have HB4 := Aside0.mk (below_step HB3.out hb4); have HO4 := Aside0.mk (Kd.R_below HO3.out hb4); have BK4 := Aside0.mk (blk_stays hb4 BK3.out); have x0 := blk_cell BK4.out 0; have x1 := blk_cell BK4.out 1; have x2 := blk_cell BK4.out 2; have x3 := blk_cell BK4.out 3; clear hb4 y0 y1 y2 y3))
          go_ret2
          exact ⟨_, by rw [HRES.out]; rfl, by rw [HRES.out]; exact Kd.V_nil _ _ _ _ _, HB4.out⟩
        · skip
          by_cases hem : kept.length = 0 ∧ d.length > 0
          · have HRES : Aside0 (doRes 3 l0 nm off old d kept = (l0, 0)) := ⟨by unfold doRes; rw [if_neg (by rintro (h | h | ⟨_, h⟩) <;> omega), if_pos hem]⟩
            have e1 : ((kept.length : Int) == 0) = true := by simpa using hem.1
            have e2 : (kept.length == 0) = true := by simpa using hem.1
            have e3 : decide (0 < d.length) = true := by simpa using hem.2
            clear hem
            go_wp2_with (first | (go_at_call 28; refine (files_Get.calls A0 c0 l0 nm old is _ (Kd.F_now (Kd.F_below HF.out HB.out)) hc0 HG.out).mono ?_; rintro e w3 ⟨v3, rfl, ho3, hb3⟩; have HO3 := Aside0.mk ho3; have HB3 := Aside0.mk (below_step HB.out hb3); have BK3 := Aside0.mk (blk_stays hb3 BK.out); obtain ⟨A3, c3, ev⟩ := Kd.R_slice ho3; subst ev; have y0 := blk_cell BK3.out 0; have y1 := blk_cell BK3.out 1; have y2 := blk_cell BK3.out 2; have y3 := blk_cell BK3.out 3; clear ho3 hb3 hz0) | (go_at_call 56; refine (files_Write_place.calls nm 3 off A c d (old.length : Int) off _ (Kd.C_below HD.out HB3.out) hdc HPL.out).mono ?_; rintro e w4 ⟨rfl, hb4⟩; have HB4 := Aside0.mk (below_step HB3.out hb4); have HO4 := Aside0.mk (Kd.R_below HO3.out hb4); have BK4 := Aside0.mk (blk_stays hb4 BK3.out); have x0 := blk_cell BK4.out 0; have x1 := blk_cell BK4.out 1; have x2 := blk_cell BK4.out 2; have x3 := blk_cell BK4.out 3; clear hb4 y0 y1 y2 y3) | (go_at_call 57; refine (cloneF ok A0 c0 l0 _ (Kd.F_below HF.out HB4.out) hlen).mono ?_; rintro e w5 ⟨v5, rfl, ho5, hb5⟩; have HO5 := Aside0.mk ho5; have HBX5 := Aside0.mk hb5; clear ho5 hb5 x0 x1 x2 x3))
            go_ret2
            exact ⟨_, by rw [HRES.out]; rfl, by rw [HRES.out]; exact Kd.V_lower (Kd.V_mono (O_V HO5.out) fun k hk => Or.elim hk (fun h => .inl h.1) (fun h => .inr (Nat.le_trans HB4.out.size h))) HB4.out.size, below_step HB4.out HBX5.out⟩
          · have HRES : Aside0 (doRes 3 l0 nm off old d kept = (putL l0 nm (overlay old (off : Int).toNat kept), 0)) := ⟨by unfold doRes; rw [if_neg (by rintro (h | h | ⟨_, h⟩) <;> omega), if_neg hem]; rfl⟩
            by_cases hm : 0 < kept.length
            · by_cases hxy : (old.length : Int) < off + (kept.length : Int)
              · have e1 : ((kept.length : Int) == 0) = false := beq_eq_false_iff_ne.mpr (by omega)
                have e2 : (kept.length == 0) = false := beq_eq_false_iff_ne.mpr (by omega)
                obtain ⟨t, ht⟩ : ∃ t : Nat, (t : Int) = off + (kept.length : Int) := ⟨(off + (kept.length : Int)).toNat, by omega⟩
                have hmk := print_make 23 5 .u8 1 Try.underlying23 info5 (by decide) t (by omega)
                rw [ht] at hmk
                have HT : Aside0 (DoT old.length off kept.length t) := ⟨by unfold DoT; (try simp only [List.length_nil]); omega⟩
                have hlo : ¬ (t = off.toNat) := by omega
                have hle : off.toNat ≤ t := by omega
                clear ht hem
                have HGM : Aside0 (∀ W : World, (W.alloc (.cells (madeCells #[.int .u8 0] t) 5)).heap[W.heap.size]? = some (.cells (nums .u8 (List.replicate t 0)).toArray 5 (0, 0))) := ⟨fun W => by rw [heap_alloc_new, made_eq]⟩
                go_wp2_with (first | (go_at_call 28; refine (files_Get.calls A0 c0 l0 nm old is _ (Kd.F_now (Kd.F_below HF.out HB.out)) hc0 HG.out).mono ?_; rintro e w3 ⟨v3, rfl, ho3, hb3⟩; have HO3 := Aside0.mk ho3; have HB3 := Aside0.mk (below_step HB.out hb3); have BK3 := Aside0.mk (blk_stays hb3 BK.out); obtain ⟨A3, c3, ev⟩ := Kd.R_slice ho3; subst ev; have y0 := blk_cell BK3.out 0; have y1 := blk_cell BK3.out 1; have y2 := blk_cell BK3.out 2; have y3 := blk_cell BK3.out 3; clear ho3 hb3 hz0) | (go_at_call 56; refine (files_Write_place.calls nm 3 off A c d (old.length : Int) off _ (Kd.C_below HD.out HB3.out) hdc HPL.out).mono ?_; rintro e w4 ⟨rfl, hb4⟩; have HB4 := Aside0.mk (below_step HB3.out hb4); have HO4 := Aside0.mk (Kd.R_below HO3.out hb4); have BK4 := Aside0.mk (blk_stays hb4 BK3.out); have x0 := blk_cell BK4.out 0; have x1 := blk_cell BK4.out 1; have x2 := blk_cell BK4.out 2; have x3 := blk_cell BK4.out 3; clear hb4 y0 y1 y2 y3) | ((with_reducible refine gate_dst (N := 101) rfl ?_); obtain ⟨w6, hr6, hg6, hk6, hs6, hx6⟩ := run_copyB (w4.alloc (.cells (madeCells #[.int .u8 0] t) 5)) 3 w4.heap.size 0 t t A3 c3 (List.replicate t 0) old (HGM.out w4) (Kd.C_alloc (Kd.R_reads' HO4.out).2.2 _) (by (try simp only [List.length_nil]); have := HT.out; unfold DoT at this; omega) (by rw [List.length_replicate]; (try simp only [List.length_nil]); have := HT.out; unfold DoT at this; omega); refine wpList_copy_run _ rfl (.tmp 99) (.tmp 100) 23 23 rfl _ _ rfl rfl hr6 ?_; have HG6 := Aside0.mk hg6; have HX6 := Aside0.mk (And.intro hk6 (And.intro hs6 hx6)); clear hr6 hg6 hk6 hs6 hx6 x0 x1 x2 x3) | ((with_reducible refine gate_dst (N := 106) rfl ?_); obtain ⟨w7, hr7, hg7, hk7, hs7, hx7⟩ := run_copyB w6 3 w4.heap.size (off.toNat) (t - off.toNat) (t - off.toNat) A c _ kept HG6.out (Kd.C_below HKC.out (do_b6 HB4.out HX6.out)) (by have := HT.out; unfold DoT at this; omega) (by simp only [List.length_append, List.length_take, List.length_drop, List.length_replicate]; (try simp only [List.length_nil]); have := HT.out; unfold DoT at this; omega); refine wpList_copy_run _ rfl (.tmp 104) (.tmp 105) 23 23 rfl _ _ rfl rfl hr7 ?_; have HG7 := Aside0.mk hg7; have HX7 := Aside0.mk (And.intro hk7 (And.intro hs7 hx7)); have HB7 := Aside0.mk (do_b7 HB4.out HX6.out HX7.out); have BK7 := Aside0.mk (do_k7 BK4.out HX6.out HX7.out); have z0 := blk_cell BK7.out 0; clear hr7 hg7 hk7 hs7 hx7) | (go_at_call 23; refine (do_put ok A0 c0 l0 nm w HF.out hlen HB7.out HG7.out (by simp only [List.length_append, List.length_take, List.length_drop, List.length_replicate]; (try simp only [List.length_nil]); have := HT.out; unfold DoT at this; omega) (by have := HT.out; unfold DoT at this; omega)).mono ?_; rintro e w8 ⟨v8, rfl, hv8, hb8⟩; have HV8 := Aside0.mk hv8; have HB8 := Aside0.mk hb8; clear hv8 hb8))
                go_ret2
                refine ⟨_, by rw [HRES.out]; rfl, ?_, HB8.out⟩
                rw [HRES.out]
                have hov := HV8.out
                rw [do_ov (LO := off.toNat) HT.out rfl (by omega)] at hov
                exact hov
              · have e1 : ((kept.length : Int) == 0) = false := beq_eq_false_iff_ne.mpr (by omega)
                have e2 : (kept.length == 0) = false := beq_eq_false_iff_ne.mpr (by omega)
                obtain ⟨t, ht⟩ : ∃ t : Nat, (t : Int) = (old.length : Int) := ⟨((old.length : Int)).toNat, by omega⟩
                have hmk := print_make 23 5 .u8 1 Try.underlying23 info5 (by decide) t (by omega)
                rw [ht] at hmk
                have HT : Aside0 (DoT old.length off kept.length t) := ⟨by unfold DoT; (try simp only [List.length_nil]); omega⟩
                have hlo : ¬ (t = off.toNat) := by omega
                have hle : off.toNat ≤ t := by omega
                clear ht hem
                have HGM : Aside0 (∀ W : World, (W.alloc (.cells (madeCells #[.int .u8 0] t) 5)).heap[W.heap.size]? = some (.cells (nums .u8 (List.replicate t 0)).toArray 5 (0, 0))) := ⟨fun W => by rw [heap_alloc_new, made_eq]⟩
                go_wp2_with (first | (go_at_call 28; refine (files_Get.calls A0 c0 l0 nm old is _ (Kd.F_now (Kd.F_below HF.out HB.out)) hc0 HG.out).mono ?_; rintro e w3 ⟨v3, rfl, ho3, hb3⟩; have HO3 := Aside0.mk ho3; have HB3 := Aside0.mk (below_step HB.out hb3); have BK3 := Aside0.mk (blk_stays hb3 BK.out); obtain ⟨A3, c3, ev⟩ := Kd.R_slice ho3; subst ev; have y0 := blk_cell BK3.out 0; have y1 := blk_cell BK3.out 1; have y2 := blk_cell BK3.out 2; have y3 := blk_cell BK3.out 3; clear ho3 hb3 hz0) | (go_at_call 56; refine (files_Write_place.calls nm 3 off A c d (old.length : Int) off _ (Kd.C_below HD.out HB3.out) hdc HPL.out).mono ?_; rintro e w4 ⟨rfl, hb4⟩; have HB4 := Aside0.mk (below_step HB3.out hb4); have HO4 := Aside0.mk (Kd.R_below HO3.out hb4); have BK4 := Aside0.mk (blk_stays hb4 BK3.out); have x0 := blk_cell BK4.out 0; have x1 := blk_cell BK4.out 1; have x2 := blk_cell BK4.out 2; have x3 := blk_cell BK4.out 3; clear hb4 y0 y1 y2 y3) | ((with_reducible refine gate_dst (N := 101) rfl ?_); obtain ⟨w6, hr6, hg6, hk6, hs6, hx6⟩ := run_copyB (w4.alloc (.cells (madeCells #[.int .u8 0] t) 5)) 3 w4.heap.size 0 t t A3 c3 (List.replicate t 0) old (HGM.out w4) (Kd.C_alloc (Kd.R_reads' HO4.out).2.2 _) (by (try simp only [List.length_nil]); have := HT.out; unfold DoT at this; omega) (by rw [List.length_replicate]; (try simp only [List.length_nil]); have := HT.out; unfold DoT at this; omega); refine wpList_copy_run _ rfl (.tmp 99) (.tmp 100) 23 23 rfl _ _ rfl rfl hr6 ?_; have HG6 := Aside0.mk hg6; have HX6 := Aside0.mk (And.intro hk6 (And.intro hs6 hx6)); clear hr6 hg6 hk6 hs6 hx6 x0 x1 x2 x3) | ((with_reducible refine gate_dst (N := 106) rfl ?_); obtain ⟨w7, hr7, hg7, hk7, hs7, hx7⟩ := run_copyB w6 3 w4.heap.size (off.toNat) (t - off.toNat) (t - off.toNat) A c _ kept HG6.out (Kd.C_below HKC.out (do_b6 HB4.out HX6.out)) (by have := HT.out; unfold DoT at this; omega) (by simp only [List.length_append, List.length_take, List.length_drop, List.length_replicate]; (try simp only [List.length_nil]); have := HT.out; unfold DoT at this; omega); refine wpList_copy_run _ rfl (.tmp 104) (.tmp 105) 23 23 rfl _ _ rfl rfl hr7 ?_; have HG7 := Aside0.mk hg7; have HX7 := Aside0.mk (And.intro hk7 (And.intro hs7 hx7)); have HB7 := Aside0.mk (do_b7 HB4.out HX6.out HX7.out); have BK7 := Aside0.mk (do_k7 BK4.out HX6.out HX7.out); have z0 := blk_cell BK7.out 0; clear hr7 hg7 hk7 hs7 hx7) | (go_at_call 23; refine (do_put ok A0 c0 l0 nm w HF.out hlen HB7.out HG7.out (by simp only [List.length_append, List.length_take, List.length_drop, List.length_replicate]; (try simp only [List.length_nil]); have := HT.out; unfold DoT at this; omega) (by have := HT.out; unfold DoT at this; omega)).mono ?_; rintro e w8 ⟨v8, rfl, hv8, hb8⟩; have HV8 := Aside0.mk hv8; have HB8 := Aside0.mk hb8; clear hv8 hb8))
                go_ret2
                refine ⟨_, by rw [HRES.out]; rfl, ?_, HB8.out⟩
                rw [HRES.out]
                have hov := HV8.out
                rw [do_ov (LO := off.toNat) HT.out rfl (by omega)] at hov
                exact hov
            · by_cases hxy : (old.length : Int) < off + (kept.length : Int)
              · have e1 : ((kept.length : Int) == 0) = true := beq_iff_eq.mpr (by omega)
                have e2 : (kept.length == 0) = true := beq_iff_eq.mpr (by omega)
                have e3 : decide (0 < d.length) = false := decide_eq_false (by omega)
                obtain ⟨t, ht⟩ : ∃ t : Nat, (t : Int) = off + (kept.length : Int) := ⟨(off + (kept.length : Int)).toNat, by omega⟩
                have hmk := print_make 23 5 .u8 1 Try.underlying23 info5 (by decide) t (by omega)
                rw [ht] at hmk
                have HT : Aside0 (DoT old.length off kept.length t) := ⟨by unfold DoT; (try simp only [List.length_nil]); omega⟩
                have hlo : t = off.toNat := by omega
                have HLO := Aside0.mk hlo
                have hle : off.toNat ≤ t := by omega
                subst hlo
                clear ht hem
                have HGM : Aside0 (∀ W : World, (W.alloc (.cells (madeCells #[.int .u8 0] off.toNat) 5)).heap[W.heap.size]? = some (.cells (nums .u8 (List.replicate off.toNat 0)).toArray 5 (0, 0))) := ⟨fun W => by rw [heap_alloc_new, made_eq]⟩
                go_wp2_with (first | (go_at_call 28; refine (files_Get.calls A0 c0 l0 nm old is _ (Kd.F_now (Kd.F_below HF.out HB.out)) hc0 HG.out).mono ?_; rintro e w3 ⟨v3, rfl, ho3, hb3⟩; have HO3 := Aside0.mk ho3; have HB3 := Aside0.mk (below_step HB.out hb3); have BK3 := Aside0.mk (blk_stays hb3 BK.out); obtain ⟨A3, c3, ev⟩ := Kd.R_slice ho3; subst ev; have y0 := blk_cell BK3.out 0; have y1 := blk_cell BK3.out 1; have y2 := blk_cell BK3.out 2; have y3 := blk_cell BK3.out 3; clear ho3 hb3 hz0) | (go_at_call 56; refine (files_Write_place.calls nm 3 off A c d (old.length : Int) off _ (Kd.C_below HD.out HB3.out) hdc HPL.out).mono ?_; rintro e w4 ⟨rfl, hb4⟩; have HB4 := Aside0.mk (below_step HB3.out hb4); have HO4 := Aside0.mk (Kd.R_below HO3.out hb4); have BK4 := Aside0.mk (blk_stays hb4 BK3.out); have x0 := blk_cell BK4.out 0; have x1 := blk_cell BK4.out 1; have x2 := blk_cell BK4.out 2; have x3 := blk_cell BK4.out 3; clear hb4 y0 y1 y2 y3) | ((with_reducible refine gate_dst (N := 101) rfl ?_); obtain ⟨w6, hr6, hg6, hk6, hs6, hx6⟩ := run_copyB (w4.alloc (.cells (madeCells #[.int .u8 0] off.toNat) 5)) 3 w4.heap.size 0 off.toNat off.toNat A3 c3 (List.replicate off.toNat 0) old (HGM.out w4) (Kd.C_alloc (Kd.R_reads' HO4.out).2.2 _) (by (try simp only [List.length_nil]); have := HT.out; unfold DoT at this; omega) (by rw [List.length_replicate]; (try simp only [List.length_nil]); have := HT.out; unfold DoT at this; omega); refine wpList_copy_run _ rfl (.tmp 99) (.tmp 100) 23 23 rfl _ _ rfl rfl hr6 ?_; have HG6 := Aside0.mk hg6; have HX6 := Aside0.mk (And.intro hk6 (And.intro hs6 hx6)); clear hr6 hg6 hk6 hs6 hx6 x0 x1 x2 x3) | ((with_reducible refine gate_dst (N := 106) rfl ?_); obtain ⟨w7, hr7, hg7, hk7, hs7, hx7⟩ := run_copyB w6 3 w4.heap.size (0) (0) (0) A c _ kept HG6.out (Kd.C_below HKC.out (do_b6 HB4.out HX6.out)) (by have := HT.out; unfold DoT at this; omega) (by simp only [List.length_append, List.length_take, List.length_drop, List.length_replicate]; (try simp only [List.length_nil]); have := HT.out; unfold DoT at this; omega); refine wpList_copy_run _ rfl (.tmp 104) (.tmp 105) 23 23 rfl _ _ rfl rfl hr7 ?_; have HG7 := Aside0.mk hg7; have HX7 := Aside0.mk (And.intro hk7 (And.intro hs7 hx7)); have HB7 := Aside0.mk (do_b7 HB4.out HX6.out HX7.out); have BK7 := Aside0.mk (do_k7 BK4.out HX6.out HX7.out); have z0 := blk_cell BK7.out 0; clear hr7 hg7 hk7 hs7 hx7) | (go_at_call 23; refine (do_put ok A0 c0 l0 nm w HF.out hlen HB7.out HG7.out (by simp only [List.length_append, List.length_take, List.length_drop, List.length_replicate]; (try simp only [List.length_nil]); have := HT.out; unfold DoT at this; omega) (by have := HT.out; unfold DoT at this; omega)).mono ?_; rintro e w8 ⟨v8, rfl, hv8, hb8⟩; have HV8 := Aside0.mk hv8; have HB8 := Aside0.mk hb8; clear hv8 hb8))
                go_ret2
                refine ⟨_, by rw [HRES.out]; rfl, ?_, HB8.out⟩
                rw [HRES.out]
                have hov := HV8.out
                rw [do_ov_tf (LO := off.toNat) HT.out rfl (by omega)] at hov
                exact hov
              · by_cases hoo : (old.length : Int) = off
                · have hoA : (old.length : Int) ≤ off := by omega
                  have hoB : off ≤ (old.length : Int) := by omega
                  clear hoo
                  have e1 : ((kept.length : Int) == 0) = true := beq_iff_eq.mpr (by omega)
                  have e2 : (kept.length == 0) = true := beq_iff_eq.mpr (by omega)
                  have e3 : decide (0 < d.length) = false := decide_eq_false (by omega)
                  obtain ⟨t, ht⟩ : ∃ t : Nat, (t : Int) = (old.length : Int) := ⟨((old.length : Int)).toNat, by omega⟩
                  have hmk := print_make 23 5 .u8 1 Try.underlying23 info5 (by decide) t (by omega)
                  rw [ht] at hmk
                  have HT : Aside0 (DoT old.length off kept.length t) := ⟨by unfold DoT; (try simp only [List.length_nil]); omega⟩
                  have hlo : t = off.toNat := by omega
                  have HLO := Aside0.mk hlo
                  have hle : off.toNat ≤ t := by omega
                  subst hlo
                  clear ht hem
                  have HGM : Aside0 (∀ W : World, (W.alloc (.cells (madeCells #[.int .u8 0] off.toNat) 5)).heap[W.heap.size]? = some (.cells (nums .u8 (List.replicate off.toNat 0)).toArray 5 (0, 0))) := ⟨fun W => by rw [heap_alloc_new, made_eq]⟩
                  go_wp2_with (first | (go_at_call 28; refine (files_Get.calls A0 c0 l0 nm old is _ (Kd.F_now (Kd.F_below HF.out HB.out)) hc0 HG.out).mono ?_; rintro e w3 ⟨v3, rfl, ho3, hb3⟩; have HO3 := Aside0.mk ho3; have HB3 := Aside0.mk (below_step HB.out hb3); have BK3 := Aside0.mk (blk_stays hb3 BK.out); obtain ⟨A3, c3, ev⟩ := Kd.R_slice ho3; subst ev; have y0 := blk_cell BK3.out 0; have y1 := blk_cell BK3.out 1; have y2 := blk_cell BK3.out 2; have y3 := blk_cell BK3.out 3; clear ho3 hb3 hz0) | (go_at_call 56; refine (files_Write_place.calls nm 3 off A c d (old.length : Int) off _ (Kd.C_below HD.out HB3.out) hdc HPL.out).mono ?_; rintro e w4 ⟨rfl, hb4⟩; have HB4 := Aside0.mk (below_step HB3.out hb4); have HO4 := Aside0.mk (Kd.R_below HO3.out hb4); have BK4 := Aside0.mk (blk_stays hb4 BK3.out); have x0 := blk_cell BK4.out 0; have x1 := blk_cell BK4.out 1; have x2 := blk_cell BK4.out 2; have x3 := blk_cell BK4.out 3; clear hb4 y0 y1 y2 y3) | ((with_reducible refine gate_dst (N := 101) rfl ?_); obtain ⟨w6, hr6, hg6, hk6, hs6, hx6⟩ := run_copyB (w4.alloc (.cells (madeCells #[.int .u8 0] off.toNat) 5)) 3 w4.heap.size 0 off.toNat off.toNat A3 c3 (List.replicate off.toNat 0) old (HGM.out w4) (Kd.C_alloc (Kd.R_reads' HO4.out).2.2 _) (by (try simp only [List.length_nil]); have := HT.out; unfold DoT at this; omega) (by rw [List.length_replicate]; (try simp only [List.length_nil]); have := HT.out; unfold DoT at this; omega); refine wpList_copy_run _ rfl (.tmp 99) (.tmp 100) 23 23 rfl _ _ rfl rfl hr6 ?_; have HG6 := Aside0.mk hg6; have HX6 := Aside0.mk (And.intro hk6 (And.intro hs6 hx6)); clear hr6 hg6 hk6 hs6 hx6 x0 x1 x2 x3) | ((with_reducible refine gate_dst (N := 106) rfl ?_); obtain ⟨w7, hr7, hg7, hk7, hs7, hx7⟩ := run_copyB w6 3 w4.heap.size (0) (0) (0) A c _ kept HG6.out (Kd.C_below HKC.out (do_b6 HB4.out HX6.out)) (by have := HT.out; unfold DoT at this; omega) (by simp only [List.length_append, List.length_take, List.length_drop, List.length_replicate]; (try simp only [List.length_nil]); have := HT.out; unfold DoT at this; omega); refine wpList_copy_run _ rfl (.tmp 104) (.tmp 105) 23 23 rfl _ _ rfl rfl hr7 ?_; have HG7 := Aside0.mk hg7; have HX7 := Aside0.mk (And.intro hk7 (And.intro hs7 hx7)); have HB7 := Aside0.mk (do_b7 HB4.out HX6.out HX7.out); have BK7 := Aside0.mk (do_k7 BK4.out HX6.out HX7.out); have z0 := blk_cell BK7.out 0; clear hr7 hg7 hk7 hs7 hx7) | (go_at_call 23; refine (do_put ok A0 c0 l0 nm w HF.out hlen HB7.out HG7.out (by simp only [List.length_append, List.length_take, List.length_drop, List.length_replicate]; (try simp only [List.length_nil]); have := HT.out; unfold DoT at this; omega) (by have := HT.out; unfold DoT at this; omega)).mono ?_; rintro e w8 ⟨v8, rfl, hv8, hb8⟩; have HV8 := Aside0.mk hv8; have HB8 := Aside0.mk hb8; clear hv8 hb8))
                  go_ret2
                  refine ⟨_, by rw [HRES.out]; rfl, ?_, HB8.out⟩
                  rw [HRES.out]
                  have hov := HV8.out
                  rw [do_ov_tf (LO := off.toNat) HT.out rfl (by omega)] at hov
                  exact hov
                · have e1 : ((kept.length : Int) == 0) = true := beq_iff_eq.mpr (by omega)
                  have e2 : (kept.length == 0) = true := beq_iff_eq.mpr (by omega)
                  have e3 : decide (0 < d.length) = false := decide_eq_false (by omega)
                  obtain ⟨t, ht⟩ : ∃ t : Nat, (t : Int) = (old.length : Int) := ⟨((old.length : Int)).toNat, by omega⟩
                  have hmk := print_make 23 5 .u8 1 Try.underlying23 info5 (by decide) t (by omega)
                  rw [ht] at hmk
                  have HT : Aside0 (DoT old.length off kept.length t) := ⟨by unfold DoT; (try simp only [List.length_nil]); omega⟩
                  have hlo : ¬ (t = off.toNat) := by omega
                  have hle : off.toNat ≤ t := by omega
                  clear ht hem
                  have HGM : Aside0 (∀ W : World, (W.alloc (.cells (madeCells #[.int .u8 0] t) 5)).heap[W.heap.size]? = some (.cells (nums .u8 (List.replicate t 0)).toArray 5 (0, 0))) := ⟨fun W => by rw [heap_alloc_new, made_eq]⟩
                  go_wp2_with (first | (go_at_call 28; refine (files_Get.calls A0 c0 l0 nm old is _ (Kd.F_now (Kd.F_below HF.out HB.out)) hc0 HG.out).mono ?_; rintro e w3 ⟨v3, rfl, ho3, hb3⟩; have HO3 := Aside0.mk ho3; have HB3 := Aside0.mk (below_step HB.out hb3); have BK3 := Aside0.mk (blk_stays hb3 BK.out); obtain ⟨A3, c3, ev⟩ := Kd.R_slice ho3; subst ev; have y0 := blk_cell BK3.out 0; have y1 := blk_cell BK3.out 1; have y2 := blk_cell BK3.out 2; have y3 := blk_cell BK3.out 3; clear ho3 hb3 hz0) | (go_at_call 56; refine (files_Write_place.calls nm 3 off A c d (old.length : Int) off _ (Kd.C_below HD.out HB3.out) hdc HPL.out).mono ?_; rintro e w4 ⟨rfl, hb4⟩; have HB4 := Aside0.mk (below_step HB3.out hb4); have HO4 := Aside0.mk (Kd.R_below HO3.out hb4); have BK4 := Aside0.mk (blk_stays hb4 BK3.out); have x0 := blk_cell BK4.out 0; have x1 := blk_cell BK4.out 1; have x2 := blk_cell BK4.out 2; have x3 := blk_cell BK4.out 3; clear hb4 y0 y1 y2 y3) | ((with_reducible refine gate_dst (N := 101) rfl ?_); obtain ⟨w6, hr6, hg6, hk6, hs6, hx6⟩ := run_copyB (w4.alloc (.cells (madeCells #[.int .u8 0] t) 5)) 3 w4.heap.size 0 t t A3 c3 (List.replicate t 0) old (HGM.out w4) (Kd.C_alloc (Kd.R_reads' HO4.out).2.2 _) (by (try simp only [List.length_nil]); have := HT.out; unfold DoT at this; omega) (by rw [List.length_replicate]; (try simp only [List.length_nil]); have := HT.out; unfold DoT at this; omega); refine wpList_copy_run _ rfl (.tmp 99) (.tmp 100) 23 23 rfl _ _ rfl rfl hr6 ?_; have HG6 := Aside0.mk hg6; have HX6 := Aside0.mk (And.intro hk6 (And.intro hs6 hx6)); clear hr6 hg6 hk6 hs6 hx6 x0 x1 x2 x3) | ((with_reducible refine gate_dst (N := 106) rfl ?_); obtain ⟨w7, hr7, hg7, hk7, hs7, hx7⟩ := run_copyB w6 3 w4.heap.size (off.toNat) (t - off.toNat) (t - off.toNat) A c _ kept HG6.out (Kd.C_below HKC.out (do_b6 HB4.out HX6.out)) (by have := HT.out; unfold DoT at this; omega) (by simp only [List.length_append, List.length_take, List.length_drop, List.length_replicate]; (try simp only [List.length_nil]); have := HT.out; unfold DoT at this; omega); refine wpList_copy_run _ rfl (.tmp 104) (.tmp 105) 23 23 rfl _ _ rfl rfl hr7 ?_; have HG7 := Aside0.mk hg7; have HX7 := Aside0.mk (And.intro hk7 (And.intro hs7 hx7)); have HB7 := Aside0.mk (do_b7 HB4.out HX6.out HX7.out); have BK7 := Aside0.mk (do_k7 BK4.out HX6.out HX7.out); have z0 := blk_cell BK7.out 0; clear hr7 hg7 hk7 hs7 hx7) | (go_at_call 23; refine (do_put ok A0 c0 l0 nm w HF.out hlen HB7.out HG7.out (by simp only [List.length_append, List.length_take, List.length_drop, List.length_replicate]; (try simp only [List.length_nil]); have := HT.out; unfold DoT at this; omega) (by have := HT.out; unfold DoT at this; omega)).mono ?_; rintro e w8 ⟨v8, rfl, hv8, hb8⟩; have HV8 := Aside0.mk hv8; have HB8 := Aside0.mk hb8; clear hv8 hb8))
                  go_ret2
                  refine ⟨_, by rw [HRES.out]; rfl, ?_, HB8.out⟩
                  rw [HRES.out]
                  have hov := HV8.out
                  rw [do_ov (LO := off.toNat) HT.out rfl (by omega)] at hov
                  exact hov
          


end Go.Proofs.Ytcgeioingikeeaa.P

