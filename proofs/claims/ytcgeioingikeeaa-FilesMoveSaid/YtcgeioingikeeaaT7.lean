/- slices.Insert over files where the row must grow. -/
import Derived.Test.YtcgeioingikeeaaT6
namespace Go.Proofs.Ytcgeioingikeeaa.P
open Go.RowKit Go.Proofs.YtcgeioingikeeaaW.PrintWords Go.Proofs.YtcgeioingikeeaaW.PrintLast Go.Proofs.YtcgeioingikeeaaW.PrintMore

set_option maxHeartbeats 4000000 in
set_option maxRecDepth 100000 in
theorem insertF_grow (ok : Nat → Prop) (B : Nat) (g c i : Nat) (xs : List S38) (hb : Nat) (x : S38) (seg : List Value) (w : World) (ho : O k38 38 w B ok (.slice (some ⟨g, 0, none⟩) xs.length c) xs) (hlen : xs.length ≤ 1000001) (hi : i < xs.length) (hroom : c ≤ xs.length) (hB : B ≤ w.heap.size)
    (hv : w.heap[hb]? = some (.cells seg.toArray 38 (0, 0))) (hx : Kd.FK k38 w (fun k => ok k ∧ k ≠ g) x seg) :
    Calls Try.prog 60 #[.slice (some ⟨g, 0, none⟩) xs.length c, .int .i64 i, .slice (some ⟨hb, 0, none⟩) 1 1] w fun e w' => ∃ v', e = .returned v' ∧ O k38 38 w' B ok v' (xs.take i ++ x :: xs.drop i) ∧ w.grownBy w' (some g) := by
  obtain ⟨g', cap', cur, he, hg, hgs, hh, h3, h4, h5, hr⟩ := O_open ho (by omega)
  injection he with he1 _ he3
  injection he1 with he1
  injection he1 with he1
  subst he1 he3
  have h6 : cur.size = c * 2 := h5
  have h7 : seg.length = 2 := (FK_one hx).1
  have hcl : cur.toList.length = c * 2 := by rw [← h6]; simp
  have hinl : (cur.toList.take (xs.length * 2)).length = xs.length * 2 := by rw [List.length_take, hcl]; omega
  have hone := Kd.reps_one hr (by decide) (fun _ _ hx => (FK_one hx).2)
  obtain ⟨cs, hcs⟩ : ∃ cs, (cur.toList.take (xs.length * 2)).drop (i * 2) = cs := ⟨_, rfl⟩
  have hcsl : cs.length = (xs.length - i) * 2 := by rw [← hcs, List.length_drop, hinl]; omega
  have hcs1 : ∀ v ∈ cs, v.oneCell' = true := fun v hv => by rw [← hcs] at hv; exact hone v (List.mem_of_mem_drop hv)
  obtain ⟨i0, hi0, hz0, hz1, hz2⟩ := info_parts info38
  -- the new row
  have hold : (Builtin.firstCells i0.size i (.slice (some ⟨g, 0, none⟩) i c)).run Try.prog w.drew = .ok (cur.toList.take (i * 2)).toArray w.drew := by
    rw [hz1]
    refine run_firstCells_some (P := Try.prog) w.drew 2 i ⟨g, 0, none⟩ i c (cur.toList.take (i * 2)) (by rw [List.length_take, hcl]; omega) (fun j v hj => ?_)
    rw [add_plain]
    show w.cell? _ = _
    rw [cell_of_row w g _ cur 38 (0, 0) hh]
    rw [List.getElem?_take] at hj
    split at hj
    · simpa using hj
    · cases hj
  have hap0 := Lib.run_append_grow_zeros (P := Try.prog) w 22 3 22 38 i0 _ .i64 .i64 Try.underlying22 Try.underlying3 hi0 hz0 (some ⟨g, 0, none⟩) i c (cur.toList.take (i * 2)) hold (xs.length + 1 - i) (by omega) (by rw [hz1]; omega) (by omega) (by omega) (by rw [hz2]; omega) (growslice_fits (by omega) (by rw [hz2]; omega))
  have hk : i + (xs.length + 1 - i) = xs.length + 1 := by omega
  rw [hk, show ((xs.length + 1 - i : Nat) : Int) = (xs.length : Int) + 1 - (i : Int) by omega] at hap0
  obtain ⟨cap2, hcap2⟩ : ∃ cap2, grownCap w (xs.length + 1) c 38 = cap2 := ⟨_, rfl⟩
  have hge : xs.length + 1 ≤ cap2 := by rw [← hcap2]; exact grownCap_ge _ _ _ _
  have hcm : cap2 ≤ maxLen := by rw [← hcap2]; exact grownCap_le_maxLen _ _ _ _ (by unfold maxLen; omega)
  rw [hcap2] at hap0
  obtain ⟨C2, hC2⟩ : ∃ C2, (cur.toList.take (i * 2)).toArray ++ Builtin.zeroCells (Value.agg #[Value.string { data := #[] }, Value.slice none 0 0]).cells (xs.length + 1 - i) ++ Builtin.zeroCells (Value.agg #[Value.string { data := #[] }, Value.slice none 0 0]).cells (cap2 - (xs.length + 1)) = C2 := ⟨_, rfl⟩
  rw [hC2] at hap0
  have hC2s : C2.size = cap2 * 2 := by
    rw [← hC2]
    simp only [Array.size_append, List.size_toArray, List.length_take, hcl, size_zeroCells, Value.cells]
    simp
    omega
  have hC2t : C2.toList.take (i * 2) = cur.toList.take (i * 2) := by
    rw [← hC2]
    simp only [Array.toList_append, List.append_assoc]
    rw [List.take_append_of_le_length (by rw [List.length_take, hcl]; omega), List.take_take, Nat.min_self]
  clear hC2 hcap2 hold
  obtain ⟨w1, hw1⟩ : ∃ w1, w.drew.alloc (.cells C2 38) = w1 := ⟨_, rfl⟩
  rw [hw1] at hap0
  have hw1n : w1.heap[w.heap.size]? = some (.cells C2 38 (0, 0)) := by rw [← hw1]; exact heap_alloc_new w.drew _
  have hw1o : ∀ k, k < w.heap.size → w1.heap[k]? = w.heap[k]? := fun k hk => by rw [← hw1]; exact Below.heap_alloc w.drew _ k hk
  have hw1s : w1.heap.size = w.heap.size + 1 := by rw [← hw1]; simp
  have hw1x : w1.os = w.os ∧ w1.tape = w.tape ∧ w1.output = w.output := by rw [← hw1]; exact ⟨rfl, rfl, rfl⟩
  clear hw1
  have hbs : hb < w.heap.size := blk_lt hv
  obtain ⟨g2, hg2⟩ : ∃ g2, w.heap.size = g2 := ⟨_, rfl⟩
  rw [hg2] at hap0 hw1n hw1o hw1s hbs hgs hB
  -- the first copy
  have hcp1 : ∀ ty dc, (Builtin.copy_ #[22, 22] ty #[.slice (some ⟨g2, i * 2, none⟩) (xs.length + 1 - i) dc, .slice (some ⟨hb, 0, none⟩) 1 1]).run Try.prog w1 = .ok (goInt (Nat.min 1 (xs.length + 1 - i))) (w1.setRow g2 (C2.toList.take (i * 2) ++ seg ++ C2.toList.drop (i * 2 + seg.length)).toArray) := fun ty dc =>
    run_copy_blk w1 22 22 ty 38 g2 (i * 2) (xs.length + 1 - i) dc ⟨hb, 0, none⟩ 1 1 2 C2 38 seg Try.underlying22 size38 hw1n (by rw [h7, show Nat.min 1 (xs.length + 1 - i) = 1 by simp only [Nat.min_def]; split <;> omega]) (fun j u hu => by rw [add_plain, cell_of_row w1 _ _ seg.toArray 38 (0, 0) ((hw1o hb hbs).trans hv)]; simpa using hu) (by omega) (FK_one hx).2
  obtain ⟨w2, hw2⟩ : ∃ w2, w1.setRow g2 (C2.toList.take (i * 2) ++ seg ++ C2.toList.drop (i * 2 + seg.length)).toArray = w2 := ⟨_, rfl⟩
  rw [hw2] at hcp1
  have hw2n : w2.heap[g2]? = some (.cells (C2.toList.take (i * 2) ++ seg ++ C2.toList.drop (i * 2 + seg.length)).toArray 38 (0, 0)) := by rw [← hw2]; exact setRow_heap _ _ _ _ _ _ hw1n
  have hw2o : ∀ k, k < g2 → w2.heap[k]? = w.heap[k]? := fun k hk => by rw [← hw2, setRow_other _ _ _ _ (by omega)]; exact hw1o k hk
  have hw2s : w2.heap.size = g2 + 1 := by rw [← hw2, setRow_size, hw1s]
  have hw2x : w2.os = w.os ∧ w2.tape = w.tape ∧ w2.output = w.output := by rw [← hw2]; exact hw1x
  clear hw2 hw1n hw1o hw1s hw1x
  have hsrc : ∀ j v, cs[j]? = some v → w2.drew.cell? ((⟨g, i * 2, none⟩ : Addr).add j) = some v := by
    intro j v hj
    rw [Addr.add_lit]
    show w2.cell? _ = _
    rw [cell_of_row w2 g _ cur 38 (0, 0) ((hw2o g hgs).trans hh)]
    rw [← hcs, List.getElem?_drop, List.getElem?_take] at hj
    split at hj
    · simpa using hj
    · cases hj
  have hC2l : C2.toList.length = cap2 * 2 := by rw [← hC2s]; simp
  have hcp2 : ∀ ty dc sc, (Builtin.copy_ #[22, 22] ty #[.slice (some ⟨g2, (i + 1) * 2, none⟩) (xs.length - i) dc, .slice (some ⟨g, i * 2, none⟩) (xs.length - i) sc]).run Try.prog w2.drew = .ok (goInt (Nat.min (xs.length - i) (xs.length - i))) (w2.drew.setRow g2 ((C2.toList.take (i * 2) ++ seg ++ C2.toList.drop (i * 2 + seg.length)).take ((i + 1) * 2) ++ cs ++ (C2.toList.take (i * 2) ++ seg ++ C2.toList.drop (i * 2 + seg.length)).drop ((i + 1) * 2 + cs.length)).toArray) := fun ty dc sc => by
    have := run_copy_blk w2.drew 22 22 ty 38 g2 ((i + 1) * 2) _ dc ⟨g, i * 2, none⟩ _ sc 2 _ 38 cs Try.underlying22 size38 hw2n (by rw [hcsl, show Nat.min (xs.length - i) (xs.length - i) = xs.length - i from Nat.min_self _]) hsrc (by simp only [List.size_toArray, List.length_append, List.length_take, List.length_drop, hC2l, hcsl]; omega) hcs1
    simpa only [List.toList_toArray] using this
  have HA := Aside0.mk (And.intro hw2n (And.intro hw2o (And.intro hw2s hw2x)))
  have HR := Aside0.mk hr
  have HX := Aside0.mk hx
  have HS := Aside0.mk (And.intro hcs (And.intro hcsl (And.intro h6 (And.intro h7 (And.intro hC2l hC2t)))))
  have HC4 := Aside0.mk hcm
  have HG2 := Aside0.mk hg2
  clear hw2n hw2o hw2s hw2x hr hx hcs hcsl h6 h7 hsrc hcs1 hone hinl h5 hh hv ho hcm hC2l hC2t hC2s hcl h4 hg2 hi0 hz0 hz1 hz2
  have e1 : ¬ (cap2 = i + 1) := by omega
  have e2 : ¬ (cap2 = i) := by omega
  have e3 : ¬ (c = i) := by omega
  go_enter Try.func60, Try.ntmps60
  go_wp2_with (first | (at_builtin; refine Lib.wpList_append_run _ rfl _ _ 22 3 rfl _ _ rfl rfl _ _ hap0 ?_) | (refine wpList_copy_run _ rfl _ _ 22 22 rfl _ _ rfl rfl (hcp1 _ _) ?_))
  have hw1 : IntKind.i64.wrap ((i : Int) + 1) = (i : Int) + 1 := by rw [IntKind.wrap_i64]; omega
  have hb1 : (0 : Int) ≤ (i : Int) + 1 := by omega
  have htn : ((i : Int) + 1).toNat = i + 1 := by omega
  have hin : i ≤ xs.length := by omega
  go_region_law (refine step_copy_run rfl _ _ 22 22 rfl _ _ (by simp [Act.eval, Act.put]) (by simp [Act.eval, Act.put]) (hcp2 _ _ _) ?_)
  clear hw1 hb1 htn hin
  go_wp2
  go_ret
  obtain ⟨hw2n, hw2o, hw2s, hw2os, hw2t, hw2u⟩ := HA.out
  obtain ⟨hcs, hcsl, h6, h7, hC2l, hC2t⟩ := HS.out
  have hle : (xs.take i ++ x :: xs.drop i).length = xs.length + 1 := by simp only [List.length_append, List.length_take, List.length_cons, List.length_drop]; omega
  have hf := setRow_heap w2.drew g2 _ ((C2.toList.take (i * 2) ++ seg ++ C2.toList.drop (i * 2 + seg.length)).take ((i + 1) * 2) ++ cs ++ (C2.toList.take (i * 2) ++ seg ++ C2.toList.drop (i * 2 + seg.length)).drop ((i + 1) * 2 + cs.length)).toArray 38 (0, 0) hw2n
  refine ⟨_, rfl, ?_, ?_⟩
  · have := O_mk (d := k38) (ok := ok) (xs := xs.take i ++ x :: xs.drop i) (cap := cap2) hB hf (by omega) HC4.out (by
      rw [show k38.sz = 2 from rfl]
      simp only [List.size_toArray, List.length_append, List.length_take, List.length_drop, hC2l, hcsl, h7]
      omega) (by
      have e3 : (i + 1) * 2 = i * 2 + seg.length := by omega
      have h8 := splice2 C2.toList seg cs (a := i * 2) (T := (xs.length + 1) * 2) (by omega) (by omega)
      rw [hle, show (xs.length + 1) * k38.sz = (xs.length + 1) * 2 from rfl, List.toList_toArray, e3, h8, hC2t]
      have h9 := reps_insert HR.out HX.out h7 i (by omega)
      rw [show i * k38.sz = i * 2 from rfl, show xs.length * k38.sz = xs.length * 2 from rfl, hcs, List.take_take, Nat.min_eq_left (by omega)] at h9
      refine h9.imp_ fun y c' hy => Kd.FK_mono (Kd.FK_step (Kd.FK_bound hy) fun k hk hlt => ?_) fun k hk => ⟨hk.1.1, ?_⟩
      · have hk2 := hk.2
        rw [HG2.out] at hk2
        rw [setRow_other _ _ _ _ (by omega)]
        exact hw2o k hk2
      · have hk2 := hk.2
        rw [HG2.out] at hk2
        omega)
    rw [hle] at this
    simp only [List.append_assoc] at this
    exact this
  · exact ⟨hw2os, hw2t, hw2u, by rw [setRow_size, HG2.out]; show _ ≤ w2.heap.size; omega, fun k hk _ => by rw [HG2.out] at hk; rw [setRow_other _ _ _ _ (by omega)]; exact hw2o k hk⟩
end Go.Proofs.Ytcgeioingikeeaa.P
