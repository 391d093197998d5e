/- slices.DeleteFunc over files: the row without the files that the closure names. -/
import Derived.Test.YtcgeioingikeeaaT4
namespace Go.Proofs.Ytcgeioingikeeaa.P
open Go.RowKit Go.Proofs.YtcgeioingikeeaaW.PrintWords Go.Proofs.YtcgeioingikeeaaW.PrintLast Go.Proofs.YtcgeioingikeeaaW.PrintMore

theorem set2 (cur : Array Value) (a : Nat) (u v : Value) (h : a + 2 ≤ cur.size) : (cur.setIfInBounds a u).setIfInBounds (a + 1) v = (cur.toList.take a ++ [u, v] ++ cur.toList.drop (a + [u, v].length)).toArray := by
  apply Array.ext'
  simp only [Array.toList_setIfInBounds]
  apply List.ext_getElem?
  intro k
  simp only [List.getElem?_set, List.length_set, Array.length_toList, List.append_assoc, List.getElem?_append, List.length_take, List.length_cons, List.length_nil, List.getElem?_take, List.getElem?_drop]
  rw [Nat.min_eq_left (by omega : a ≤ cur.size)]
  by_cases h1 : k < a
  · simp [h1, show ¬ a + 1 = k by omega, show ¬ a = k by omega]
  · by_cases h2 : k = a
    · subst h2; simp [show k < cur.size by omega]
    · by_cases h3 : k = a + 1
      · subst h3; simp [show a + 1 < cur.size by omega, show ¬ a + 1 < a by omega]
      · simp [h1, show ¬ a + 1 = k by omega, show ¬ a = k by omega, show ¬ k - a < 2 by omega, show a + 2 + (k - a - 2) = k by omega]

theorem O_at38 {w : World} {base : Nat} {ok : Nat → Prop} {xs : List S38} {g cap n : Nat} (h : O k38 38 w base ok (.slice (some ⟨g, 0, none⟩) n cap) xs) (j : Nat) (hj : j < xs.length) :
    ∃ A1 c1, w.cell? ⟨g, j * 2, none⟩ = some (.string (xs.getD j z38).f0) ∧ w.cell? ⟨g, j * 2 + 1, none⟩ = some (.slice A1 (xs.getD j z38).f1.length c1) ∧ Kd.FK k38 w (fun k => ok k ∧ k ≠ g) (xs.getD j z38) [.string (xs.getD j z38).f0, .slice A1 (xs.getD j z38).f1.length c1] := by
  obtain ⟨g', cap', cur, he, hg, _, hh, h3, h4, h5, hr⟩ := O_open h (by omega)
  injection he with he1 he2 he3
  injection he1 with he1
  injection he1 with he1
  subst he1
  have hx := hr.2 j _ (List.getElem?_eq_getElem hj)
  have hxe : xs.getD j z38 = xs[j] := by rw [List.getD_eq_getElem?_getD, List.getElem?_eq_getElem hj]; rfl
  rw [hxe]
  obtain ⟨A1, c1, he, _, _⟩ := k38_open (Kd.FK_now hx)
  have hb : j * 2 + 2 ≤ xs.length * 2 := by omega
  have hsz : cur.size = cap' * 2 := h5
  have hsz2 : k38.sz = 2 := rfl
  rw [hsz2] at he hx
  refine ⟨A1, c1, ?_, ?_, by rw [← he]; exact hx⟩
  · have := congrArg (fun l => l[0]?) he
    simp only [List.getElem?_take, List.getElem?_drop, List.getElem?_cons_zero] at this
    rw [if_pos (by omega), Nat.add_zero, if_pos (by omega)] at this
    rw [cell_of_row w g _ cur 38 (0, 0) hh]
    simpa using this
  · have := congrArg (fun l => l[1]?) he
    simp only [List.getElem?_take, List.getElem?_drop, List.getElem?_cons_succ, List.getElem?_cons_zero] at this
    rw [if_pos (by omega), if_pos (by omega)] at this
    rw [cell_of_row w g _ cur 38 (0, 0) hh]
    simpa using this

/-- What the loop of DeleteFunc keeps: of the first j those that stay stand at the front. -/
def DelInv (p : S38 → Bool) (l : List S38) (i j : Nat) (xs : List S38) : Prop := xs.take i = (l.take j).filter (fun x => !p x) ∧ xs.drop j = l.drop j
theorem del_start {p : S38 → Bool} {l : List S38} {i0 : Nat} {h : i0 < l.length} (hp : p l[i0] = true) (hn : ∀ (j : Nat) (hji : j < i0), ¬p (l[j]'(by omega)) = true) (_ : i0 < l.length) : DelInv p l i0 (i0 + 1) l := by
  refine ⟨?_, rfl⟩
  rw [List.take_succ_eq_append_getElem h, List.filter_append]
  have h1 : (l.take i0).filter (fun x => !p x) = l.take i0 := by
    rw [List.filter_eq_self]
    intro x hx
    obtain ⟨j, hj, rfl⟩ := List.mem_iff_getElem.1 hx
    rw [List.length_take] at hj
    have := hn j (by omega)
    simp at this
    simp [this]
  rw [h1]
  simp [hp]
theorem del_at {p : S38 → Bool} {l xs : List S38} {i j : Nat} (h : DelInv p l i j xs) (hj : j < l.length) : xs.getD j z38 = l.getD j z38 := by
  have := congrArg (fun l => l.head?) h.2
  simp only [List.head?_drop] at this
  rw [List.getD_eq_getElem?_getD, List.getD_eq_getElem?_getD, this]
theorem del_skip {p : S38 → Bool} {l xs : List S38} {i j : Nat} (h : DelInv p l i j xs) (hj : j < l.length) (hp : p (l.getD j z38) = true) : DelInv p l i (j + 1) xs := by
  have he : l.getD j z38 = l[j] := by rw [List.getD_eq_getElem?_getD, List.getElem?_eq_getElem hj]; rfl
  rw [he] at hp
  refine ⟨?_, by rw [← List.drop_drop, h.2, List.drop_drop]⟩
  rw [h.1, List.take_succ_eq_append_getElem hj, List.filter_append]
  simp [hp]
theorem del_keep {p : S38 → Bool} {l xs : List S38} {i j : Nat} (h : DelInv p l i j xs) (hij : i < j) (hj : j < l.length) (hl : xs.length = l.length) (hp : p (l.getD j z38) = false) : DelInv p l (i + 1) (j + 1) (xs.set i (l.getD j z38)) := by
  have he : l.getD j z38 = l[j] := by rw [List.getD_eq_getElem?_getD, List.getElem?_eq_getElem hj]; rfl
  rw [he] at hp ⊢
  refine ⟨?_, ?_⟩
  · rw [List.take_succ_eq_append_getElem hj, List.filter_append, ← h.1]
    rw [List.take_succ_eq_append_getElem (by rw [List.length_set]; omega), List.take_set_of_le (Nat.le_refl _)]
    simp [hp]
  · rw [List.drop_set_of_lt (by omega), ← List.drop_drop, h.2, List.drop_drop]
theorem O_block {α : Type} {d : Kd α} {e : Nat} {w : World} {base : Nat} {ok : Nat → Prop} {xs : List α} {g cap n : Nat} (h : O d e w base ok (.slice (some ⟨g, 0, none⟩) n cap) xs) : ∃ cur, w.heap[g]? = some (.cells cur e (0, 0)) := by
  obtain ⟨_, h1, _⟩ := h
  exact own_typed h1 g rfl
theorem cell_new (w : World) (cs : Array Value) (t : TypeId) (k : Nat) (u : Value) (h : cs[k]? = some u) : (w.alloc (.cells cs t (0, 0))).cell? ⟨w.heap.size, k, none⟩ = some u := by
  rw [cell_of_row _ _ _ cs t (0, 0) (heap_alloc_new _ _)]; exact h
theorem blk_below {w w1 : World} {g : Nat} {o : Obj} (hb : Below w.heap.size w w1) (h : w.heap[g]? = some o) : w1.heap[g]? = some o := (hb.block g (blk_lt h)).trans h
theorem grownBy.trans_below {w w1 w2 : World} {row : Option Nat} (h : w.grownBy w1 row) (hb : Below w1.heap.size w1 w2) : w.grownBy w2 row :=
  ⟨hb.os.trans h.os, hb.tape.trans h.tape, hb.output.trans h.output, Nat.le_trans h.size hb.size, fun k hk hr => (hb.block k (Nat.lt_of_lt_of_le hk h.size)).trans (h.block k hk hr)⟩
theorem grownBy.setCell_row {w w1 : World} {g : Nat} (h : w.grownBy w1 (some g)) (j : Nat) (u : Value) : w.grownBy (w1.setCell ⟨g, j, none⟩ u) (some g) :=
  ⟨h.os, h.tape, h.output, by simpa [World.setCell] using h.size, fun k hk hr => (Below.heap_setCell _ _ _ _ (fun he => hr (by rw [he]))).trans (h.block k hk hr)⟩
theorem del_end {p : S38 → Bool} {l xs : List S38} {i j : Nat} (h : DelInv p l i j xs) (hj : l.length ≤ j) : xs.take i = l.filter (fun x => !p x) := by
  rw [h.1, List.take_of_length_le hj]
theorem setCells_row {g : Nat} {t : TypeId} : ∀ (vs : List Value) (o : Nat) (w : World) (cur : Array Value), w.heap[g]? = some (.cells cur t (0, 0)) →
    ∃ cur', (w.setCells g o vs).heap[g]? = some (.cells cur' t (0, 0)) ∧ cur'.size = cur.size ∧ cur'.toList.take o = cur.toList.take o ∧ w.grownBy (w.setCells g o vs) (some g)
  | [], o, w, cur, h => ⟨cur, h, rfl, rfl, ⟨rfl, rfl, rfl, Nat.le_refl _, fun _ _ _ => rfl⟩⟩
  | v :: vs, o, w, cur, h => by
    obtain ⟨cur', h1, h2, h3, h4⟩ := setCells_row vs (o + 1) (w.setCell ⟨g, o, none⟩ v) (cur.setIfInBounds o v) (blk_set h o v)
    refine ⟨cur', h1, by rw [h2]; simp, ?_, ?_⟩
    · have := congrArg (List.take o) h3
      rw [List.take_take, List.take_take, Nat.min_eq_left (by omega)] at this
      rw [this]
      simp [List.take_set_of_le]
    · have hg := grownBy.setCell_row (w := w) (w1 := w) (g := g) ⟨rfl, rfl, rfl, Nat.le_refl _, fun _ _ _ => rfl⟩ o v
      exact ⟨h4.os.trans hg.os, h4.tape.trans hg.tape, h4.output.trans hg.output, Nat.le_trans hg.size h4.size, fun k hk hr => (h4.block k (Nat.lt_of_lt_of_le hk hg.size) hr).trans (hg.block k hk hr)⟩

theorem zeroCells_one {z : Array Value} {n : Nat} (h : ∀ u ∈ z, u.oneCell' = true) : ∀ u ∈ (Builtin.zeroCells z n).toList, u.oneCell' = true := by
  intro u hu
  simp only [Builtin.zeroCells, Array.toList_map, List.mem_map] at hu
  obtain ⟨i, hi, rfl⟩ := hu
  rcases Nat.eq_zero_or_pos z.size with h0 | h0
  · simp [h0] at hi
  · rw [getElem!_pos z (i % z.size) (Nat.mod_lt _ h0)]
    exact h _ (Array.getElem_mem _)

/-- 'clear(s)' on a row of the call's own. -/
theorem wpList_clear_row {P : Program} {w : World} {ops : Array Oper} {rest : List Oper} {o : Oper} {a : Act} {Q : Exit → Act → World → Prop} (hgd : o.guard = none) (s : Operand) (t : TypeId)
    (ho : o.op = .call { callee := .builtin .clear, args := #[s], argTypes := #[t] }) {e : TypeId} {z : Value} (ht : P.underlying t = some (.slice e)) (hz : ∀ w, (zeroValue e).run P w = .ok z w) (h1 : ∀ u ∈ z.cells, u.oneCell' = true)
    (g off n c : Nat) (hs : a.eval s = .slice (some ⟨g, off, none⟩) n c) (hn : 0 < n) {cur : Array Value} {tt : TypeId} (hg : w.heap[g]? = some (.cells cur tt (0, 0))) (hfit : off + n * z.cells.size ≤ cur.size)
    (h : ∀ w' cur', w'.heap[g]? = some (.cells cur' tt (0, 0)) → cur'.size = cur.size → cur'.toList.take off = cur.toList.take off → w.grownBy w' (some g) → wpList P ops Q rest (a.put o.dst (.tuple #[])) w') : wpList P ops Q (o :: rest) a w := by
  refine wpList_plain hgd fun K hK => ?_
  have hst := run_storeCells_cells (P := P) g off (Builtin.zeroCells z.cells n).toList 0 w
    (by intro j hj; rw [Array.length_toList, size_zeroCells] at hj; rw [cell_of_row w g _ cur tt (0, 0) hg, Array.getElem?_eq_getElem (by omega)]; rfl)
    (by intro j _; exact blk_frozen hg _) (zeroCells_one h1)
  simp only [Nat.add_zero] at hst
  obtain ⟨cur', r1, r2, r3, r4⟩ := setCells_row (Builtin.zeroCells z.cells n).toList off w cur hg
  obtain ⟨m, rfl⟩ : ∃ m, n = m + 1 := ⟨n - 1, by omega⟩
  have hrun : (Builtin.clear_ #[t] o.type #[.slice (some ⟨g, off, none⟩) (m + 1) c]).run P w = .ok (.tuple #[]) (w.setCells g off (Builtin.zeroCells z.cells (m + 1)).toList) := by
    simp [Builtin.clear_, run_underlying ht, hz, hst]
  unfold Oper.wp
  simp [execOp, ho, resolve, invoke, builtin, hs, hrun, Result.andThen]
  exact hK _ _ (h _ cur' r1 r2 r3 r4)

theorem zero38 (w : World) : (zeroValue 38).run Try.prog w = .ok (.agg #[.string ⟨#[]⟩, .slice none 0 0]) w := by kernel_rfl

set_option maxHeartbeats 4000000 in
set_option maxRecDepth 100000 in
theorem deleteF_is (ok : Nat → Prop) (B : Nat) (name : ByteArray) (v : Value) (l : List S38) (w : World) (ho : O k38 38 w B ok v l) (hB : B ≤ w.heap.size) (hlen : l.length ≤ 1000001) :
    Calls Try.prog 62 #[v, .func (.func 63) #[.string name] #[]] w fun e w' => ∃ v', e = .returned v' ∧ O k38 38 w' B ok v' (l.filter fun x => !named name x) ∧ w.grownBy w' v.ownBlock ∧ v'.ownBlock = v.ownBlock := by
  have HO := Aside0.mk ho
  have hV := O_V ho
  obtain ⟨A, c, rfl⟩ := O_slice ho
  have hC := (Kd.V_reads' hV).2.2
  have hIdx := indexFunc_is name A c l w hC
  clear hV ho
  rcases hfi : l.findIdx? (named name) with _ | i0
  · have hid : idxOf (named name) l = -1 := by unfold idxOf; rw [hfi]
    have hfl : (l.filter fun x => !named name x) = l := by
      rw [List.filter_eq_self]
      intro x hx
      have := List.findIdx?_eq_none_iff.1 hfi x hx
      simp [this]
    rw [hid] at hIdx
    have HF := Aside0.mk hfl
    clear hid hfl hfi hC
    go_enter Try.func62, Try.ntmps62
    go_wp2_with (go_at_call 58; refine hIdx.mono ?_; rintro e w1 ⟨rfl, hb⟩; have HB := Aside0.mk hb; clear hb)
    go_ret
    exact ⟨_, rfl, by rw [HF.out]; exact O_below HO.out HB.out, grown_of_below HB.out _, rfl⟩
  · have hid : idxOf (named name) l = (i0 : Int) := by unfold idxOf; rw [hfi]
    rw [hid] at hIdx
    obtain ⟨hi0, hp0, hn0⟩ := List.findIdx?_eq_some_iff_getElem.1 hfi
    clear hid hfi hC
    obtain ⟨g, cap, cur0, he, hg, hgs, _, h30, h40, _, _⟩ := O_open HO.out (by omega)
    injection he with he1 _ he3
    subst he1 he3
    have HN := Aside0.mk hn0
    have HP0 := Aside0.mk hp0
    clear hn0 hp0
    have hne : ((i0 : Int) == -1) = false := by simp
    go_enter Try.func62, Try.ntmps62
    go_wp2_with (go_at_call 58; refine hIdx.mono ?_; rintro e w1 ⟨rfl, hb⟩; have HB := Aside0.mk hb; clear hb)
    have hstart := Aside0.mk (del_start HP0.out HN.out hi0)
    clear hne
    go_loopg [5, 6] l.length (fun kq v5 v6 w' => ∃ (i j : Nat) (xs : List S38), v5 = .int .i64 i ∧ v6 = .int .i64 j ∧ l.length < j + kq ∧ i < j ∧ j ≤ l.length ∧ xs.length = l.length ∧ Aside0 (DelInv (named name) l i j xs) ∧ Aside0 (O k38 38 w' B ok (.slice (some ⟨g, 0, none⟩) l.length c) xs) ∧ Aside0 (w.grownBy w' (some g)) ∧ Aside0 (B ≤ w'.heap.size))
    case atStart => exact ⟨i0, i0 + 1, l, rfl, by go_num, by omega, by omega, by omega, rfl, hstart, ⟨O_below HO.out HB.out⟩, ⟨grown_of_below HB.out _⟩, ⟨Nat.le_trans hB HB.out.size⟩⟩
    case round =>
      obtain ⟨i, j, xs, rfl, rfl, hjk, hij, hjl, hxl, HI, HO1, HG, HBs⟩ := hrel
      by_cases hlt : j < l.length
      · obtain ⟨A1, c1, hx0, hx1, hfk⟩ := O_at38 HO1.out j (by omega)
        obtain ⟨A2, c2, hy0, hy1, _⟩ := O_at38 HO1.out i (by omega)
        have HX := Aside0.mk (del_at HI.out hlt)
        obtain ⟨x, hxe⟩ : ∃ x, xs.getD j z38 = x := ⟨_, rfl⟩
        obtain ⟨y, hye⟩ : ∃ y, xs.getD i z38 = y := ⟨_, rfl⟩
        rw [hxe] at hx0 hx1 hfk HX
        rw [hye] at hy0 hy1
        clear hxe hye
        obtain ⟨k1, rfl⟩ : ∃ k1, gk = k1 + 1 := ⟨gk - 1, by omega⟩
        obtain ⟨cur, hh⟩ := O_block HO1.out
        have hfz : ∀ k, wr.frozen? ⟨g, k, none⟩ = false := blk_frozen hh
        have HH := Aside0.mk hh
        have HFK := Aside0.mk hfk
        clear hh hfk
        cases hp : named name x
        · have hp' : (x.f0.toList == name.toList) = false := hp
          have HP := Aside0.mk hp
          clear hp
          go_wp2_with (go_at_call 63; refine (named_is name _ _ _).mono ?_; rintro e w2 ⟨rfl, hb⟩; rw [hp']; have hz0 := pw_cell_below hb (cell_later hy0); have hz1 := pw_cell_below hb (cell_later hy1); have hb0 := pw_cell_below hb (cell_new wr _ 38 0 _ rfl); have hb1 := pw_cell_below hb (cell_new wr _ 38 1 _ rfl); have hh2 := blk_below hb (blk_alloc HH.out _); have hf0 := blk_frozen hh2 (i * 2); have hf1 := blk_frozen hh2 (i * 2 + 1); have HB2 := Aside0.mk hb; have HH2 := Aside0.mk hh2; clear hb hh2 hy0 hy1 hx0 hx1 hfz hp')
          go_roundg k1
          case measure => omega
          case rel =>
            have hb' : Below wr.heap.size wr w2 := below_step (below_alloc (Below.refl _ _) _) HB2.out
            have hgr : g < wr.heap.size := blk_lt HH.out
            have hbig : (i + 1) * 2 ≤ cur.size := by
              obtain ⟨g', cap', cur', he, _, _, hh', h3, _, h5, _⟩ := O_open HO1.out (by omega)
              injection he with he1 he2 he3
              injection he1 with he1
              injection he1 with he1
              subst he1
              rw [HH.out] at hh'
              injection hh' with hh'
              injection hh' with hh'
              subst hh'
              rw [h5]
              exact Nat.mul_le_mul_right 2 (by omega)
            refine ⟨i + 1, j + 1, xs.set i x, by go_num, by go_num, by omega, by omega, by omega, by rw [List.length_set]; exact hxl, ⟨?_⟩, ⟨?_⟩, ⟨?_⟩, ⟨?_⟩⟩
            · rw [HX.out]
              exact del_keep HI.out hij hlt hxl (by rw [← HX.out]; exact HP.out)
            · refine O_set (O_below HO1.out hb') i (by omega) x _ cur HH2.out (Kd.FK_below HFK.out hb') ?_ ?_
              · have := blk_set (blk_set HH2.out (i * 2) (.string x.f0)) (i * 2 + 1) (.slice A1 x.f1.length c1)
                rw [set2 _ _ _ _ (by omega)] at this
                exact this
              · intro k _ hk
                rw [Below.heap_setCell _ _ _ _ hk, Below.heap_setCell _ _ _ _ hk]
            · exact grownBy.setCell_row (grownBy.setCell_row (grownBy.trans_below HG.out hb') _ _) _ _
            · have := HBs.out; have := hb'.size; simp only [World.setCell, Array.size_modify]; omega
        · have hp' : (x.f0.toList == name.toList) = true := hp
          have HP := Aside0.mk hp
          clear hp
          go_wp2_with (go_at_call 63; refine (named_is name _ _ _).mono ?_; rintro e w2 ⟨rfl, hb⟩; rw [hp']; have HB2 := Aside0.mk hb; clear hb hy0 hy1 hx0 hx1 hfz hp')
          go_roundg k1
          case measure => omega
          case rel =>
            have hb' : Below wr.heap.size wr w2 := below_step (below_alloc (Below.refl _ _) _) HB2.out
            exact ⟨i, j + 1, xs, rfl, by go_num, by omega, by omega, by omega, hxl, ⟨del_skip HI.out hlt (by rw [← HX.out]; exact HP.out)⟩, ⟨O_below HO1.out hb'⟩, ⟨grownBy.trans_below HG.out hb'⟩, ⟨Nat.le_trans HBs.out hb'.size⟩⟩
      · have hge : l.length ≤ j := by omega
        clear hlt
        obtain ⟨cur, hh⟩ := O_block HO1.out
        have HH := Aside0.mk hh
        clear hh
        have hci : (c == i) = false := by simp; omega
        have hfit : i * 2 + (l.length - i) * 2 ≤ cur.size := by
          obtain ⟨g', cap', cur', he, _, _, hh', h3, _, h5, _⟩ := O_open HO1.out (by omega)
          injection he with he1 he2 he3
          injection he1 with he1
          injection he1 with he1
          subst he1
          rw [HH.out] at hh'
          injection hh' with hh'
          injection hh' with hh'
          subst hh'
          rw [h5, show k38.sz = 2 from rfl]
          omega
        have HFIT := Aside0.mk hfit
        clear hfit
        go_wp2_with (refine wpList_clear_row rfl (.tmp 38) 22 rfl Try.underlying22 zero38 (by intro u hu; simp [Value.cells] at hu; rcases hu with rfl | rfl <;> rfl) g (i * 2) (l.length - i) (c - i) rfl (by omega) HH.out (by have := HFIT.out; simpa [Value.cells] using this) ?_; intro w2 cur2 h1 h2 h3 h4; have K1 := Aside0.mk h1; have K2 := Aside0.mk h2; have K3 := Aside0.mk h3; have K4 := Aside0.mk h4; clear h1 h2 h3 h4)
        go_ret
        have hfl := del_end HI.out hge
        refine ⟨_, rfl, ?_, ⟨K4.out.os.trans HG.out.os, K4.out.tape.trans HG.out.tape, K4.out.output.trans HG.out.output, Nat.le_trans HG.out.size K4.out.size, fun k hk hr => (K4.out.block k (Nat.lt_of_lt_of_le hk HG.out.size) hr).trans (HG.out.block k hk hr)⟩, rfl⟩
        rw [← hfl]
        obtain ⟨g', cap', cur', he, hg', _, hh', h3, h4, h5, hr⟩ := O_open HO1.out (by omega)
        injection he with he1 he2 he3
        injection he1 with he1
        injection he1 with he1
        subst he1 he3
        rw [HH.out] at hh'
        injection hh' with hh'
        injection hh' with hh'
        subst hh'
        have hl2 : (xs.take i).length = i := by rw [List.length_take]; omega
        have := O_mk (d := k38) (ok := ok) (xs := xs.take i) (cap := c) hg' K1.out (by omega) h4 (by rw [K2.out]; exact h5) (by
          have hr2 := (Kd.reps_take hr (m := i) (by omega)).imp_ (R' := fun x c => Kd.FK k38 w2 (fun k => ok k ∧ k ≠ g) x c) fun y c hy => Kd.FK_grown hy K4.out fun k hk he => hk.2 (by injection he)
          rw [List.take_take, Nat.min_eq_left (Nat.mul_le_mul_right _ (by omega))] at hr2
          rw [hl2, show i * k38.sz = i * 2 from rfl, K3.out]
          exact hr2)
        rw [hl2] at this
        exact this
end Go.Proofs.Ytcgeioingikeeaa.P
