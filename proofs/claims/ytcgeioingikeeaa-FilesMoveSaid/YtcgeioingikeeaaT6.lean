/- slices.Insert over files where the place is the end or there is room. -/
import Derived.Test.YtcgeioingikeeaaT5
import Derived.Lib.AppendZeros
import Derived.Lib.AppendZerosOnto
import Derived.Lib.Overlaps
import Derived.Laws.Externs
import Derived.Deep.RegionLaw
namespace Go.Proofs.Ytcgeioingikeeaa.P
open Go.RowKit Go.Proofs.YtcgeioingikeeaaW.PrintWords Go.Proofs.YtcgeioingikeeaaW.PrintLast Go.Proofs.YtcgeioingikeeaaW.PrintMore

/-- 'copy(d, s)' into a row that is known whole, elements of any size. -/
theorem run_copy_blk {P : Program} (w : World) (dT sT ty elem : TypeId) (g off dLen dCap : Nat) (a : Addr) (sLen sCap sz : Nat) (cur : Array Value) (t : TypeId) (cs : List Value)
    (hu : P.underlying dT = some (.slice elem)) (hs : (P.info? elem).map (·.size) = some sz)
    (hg : w.heap[g]? = some (.cells cur t (0, 0))) (hn : cs.length = Nat.min sLen dLen * sz)
    (hsrc : ∀ j v, cs[j]? = some v → w.cell? (a.add j) = some v) (hfit : off + cs.length ≤ cur.size) (h1 : ∀ v ∈ cs, v.oneCell' = true) :
    (Builtin.copy_ #[dT, sT] ty #[.slice (some ⟨g, off, none⟩) dLen dCap, .slice (some a) sLen sCap]).run P w =
      .ok (goInt (Nat.min sLen dLen)) (w.setRow g (cur.toList.take off ++ cs ++ cur.toList.drop (off + cs.length)).toArray) := by
  have hl := run_loadCells_list (P := P) w a cs hsrc
  have hst := run_storeCells_at P g off t cs 0 cur w hg (by simpa using hfit) h1
  cases hq : P.info? elem with
  | none => simp [hq] at hs
  | some i =>
    have hi : i.size = sz := by simpa [hq] using hs
    simp [Builtin.copy_, run_underlying hu, Builtin.lenOf, Builtin.firstCells, sizeOf, typeInfo, hq, hi, ← hn, hl, hst]
theorem wpList_copy_run {P : Program} (w : World) {ops : Array Oper} {rest : List Oper} {o : Oper} {a : Act} {Q : Exit → Act → World → Prop} (hgd : o.guard = none) (d s : Operand) (t t' : TypeId)
    (ho : o.op = .call { callee := .builtin .copy, args := #[d, s], argTypes := #[t, t'] }) (v u : Value) (hd : a.eval d = v) (hs : a.eval s = u) {v' : Value} {w' : World}
    (hr : (Builtin.copy_ #[t, t'] o.type #[v, u]).run P w = .ok v' w') (h : wpList P ops Q rest (a.put o.dst v') w') : wpList P ops Q (o :: rest) a w :=
  wpList_plain hgd fun K hK => by
    unfold Oper.wp execOp
    simp only [ho, resolve, invoke, builtin, Sem.run_bind, Sem.run_pure, Result.andThen_ok, List.map_toArray, List.map_cons, List.map_nil, hd, hs, hr]
    exact hK _ _ h
theorem step_copy_run {P : Program} {ops : Array Oper} {o : Oper} {a : Act} {w : World} {K : Act → World → Prop} {Q : Exit → Act → World → Prop} {E : Prop}
    (hg : o.guard = none) (d x : Operand) (dT sT : TypeId) (hop : o.op = Op.call { callee := Callee.builtin Builtin.copy, args := #[d, x], argTypes := #[dT, sT] })
    (v u : Value) (hd : a.eval d = v) (hx : a.eval x = u) {v' : Value} {w' : World} (hr : (Builtin.copy_ #[dT, sT] o.type #[v, u]).run P w = .ok v' w') (hK : K (a.put o.dst v') w') :
    if Region.wanted o (yielded ops a.tmps) = true then Oper.wp P o a w K Q else E := by
  have hw : Region.wanted o (yielded ops a.tmps) = true := by simp [Region.wanted, hg]
  rw [if_pos hw]
  unfold Oper.wp
  simp [execOp, hop, resolve, invoke, builtin, hd, hx, hr, Result.andThen]
  exact hK

theorem O_put {α : Type} {R : α → List Value → Prop} {size : Nat} {xs : List α} {inner seg : List Value} {x : α} (h : Reps R size xs inner) (hx : R x seg) (hl : seg.length = size) : Reps R size (xs ++ [x]) (inner ++ seg) := h.snoc hx hl
theorem FK_after {α : Type} {d : Kd α} {w w1 : World} {ok : Nat → Prop} {v v1 : Value} {x : α} {c : List Value} (h : Kd.FK d w (fun k => ok k ∧ some k ≠ v.ownBlock) x c) (hg : w.grownBy w1 v.ownBlock) (hat : v1.ownBlock = v.ownBlock ∨ v1.ownBlock = some w.heap.size) :
    Kd.FK d w1 (fun k => ok k ∧ some k ≠ v1.ownBlock) x c := by
  refine Kd.FK_mono (Kd.FK_step (Kd.FK_bound h) fun k hk hlt => hg.block k hlt hk.1.2) fun k hk => ⟨hk.1.1, ?_⟩
  rcases hat with hat | hat
  · rw [hat]; exact hk.1.2
  · rw [hat]; intro he; injection he with he; have := hk.2; omega
theorem size38 : (Try.prog.info? 38).map (·.size) = some 2 := by kernel_rfl
theorem sizeOf38 (w : World) : (Go.sizeOf 38).run Try.prog w = .ok 2 w := by kernel_rfl

set_option maxHeartbeats 4000000 in
set_option maxRecDepth 100000 in
theorem insertF_end (ok : Nat → Prop) (B : Nat) (v : Value) (xs : List S38) (hb : Nat) (x : S38) (seg : List Value) (w : World) (ho : O k38 38 w B ok v xs) (hlen : xs.length ≤ 1000001) (hB : B ≤ w.heap.size)
    (hv : w.heap[hb]? = some (.cells seg.toArray 38 (0, 0))) (hx : Kd.FK k38 w (fun k => ok k ∧ some k ≠ v.ownBlock) x seg) :
    Calls Try.prog 60 #[v, .int .i64 xs.length, .slice (some ⟨hb, 0, none⟩) 1 1] w fun e w' => ∃ v', e = .returned v' ∧ O k38 38 w' B ok v' (xs ++ [x]) ∧ w.grownBy w' v.ownBlock := by
  obtain ⟨inner, hown, hr⟩ := ho
  obtain ⟨A, c, rfl⟩ := own_slice hown
  obtain ⟨i0, hi, hz0, hz1, hz2⟩ := info_parts info38
  have HI := Aside0.mk hi
  have HZ0 := Aside0.mk hz0
  have HZ1 := Aside0.mk hz1
  have HZ2 := Aside0.mk hz2
  have HO := Aside0.mk hown
  have HR := Aside0.mk hr
  have HX := Aside0.mk hx
  have HV := Aside0.mk hv
  have hsl := (FK_one hx).1
  have HSL := Aside0.mk hsl
  have H1 := Aside0.mk (FK_one hx).2
  clear hi hz0 hz1 hz2 hown hr hx hv hsl
  have hce : ∀ j u, seg[j]? = some u → w.cell? ((⟨hb, 0, none⟩ : Addr).add j) = some u := by
    intro j u hu; rw [add_plain, cell_of_row _ _ _ _ _ _ HV.out]; simpa using hu
  have HCE := Aside0.mk hce
  clear hce
  by_cases hc : c = xs.length
  · subst hc
    go_enter Try.func60, Try.ntmps60
    go_wp2_with (at_builtin; refine wpList_append_own_at _ rfl _ _ 22 rfl B 38 i0 _ 2 40 Try.underlying22 HI.out HZ0.out HZ1.out HZ2.out rfl (by decide) _ xs.length inner rfl HO.out ⟨hb, 0, none⟩ 1 1 seg rfl (by rw [HSL.out]; rfl) HCE.out H1.out (by unfold maxLen; omega) (by omega) hB ?_; intro v' w1 h1 h2 _ h4; have K1 : Aside0 (w1.ownsRow B 38 2 v' (xs.length + 1) (inner ++ seg)) := Aside0.mk h1; have K2 : Aside0 (w.grownBy w1 (Value.slice A xs.length xs.length).ownBlock) := Aside0.mk h2; have K4 : Aside0 (v'.ownBlock = (Value.slice A xs.length xs.length).ownBlock ∨ v'.ownBlock = some w.heap.size) := Aside0.mk h4; clear h1 h2 h4)
    go_ret
    refine ⟨_, rfl, ⟨inner ++ seg, by rw [List.length_append]; exact K1.out, ?_⟩, K2.out⟩
    refine O_put (HR.out.imp_ fun y c' hy => ?_) ?_ HSL.out
    · exact FK_after hy K2.out K4.out
    · exact FK_after HX.out K2.out K4.out
  · have hc' : (c == xs.length) = false := by simpa using hc
    go_enter Try.func60, Try.ntmps60
    go_wp2_with (at_builtin; refine wpList_append_own_at _ rfl _ _ 22 rfl B 38 i0 _ 2 40 Try.underlying22 HI.out HZ0.out HZ1.out HZ2.out rfl (by decide) _ xs.length inner rfl HO.out ⟨hb, 0, none⟩ 1 1 seg rfl (by rw [HSL.out]; rfl) HCE.out H1.out (by unfold maxLen; omega) (by omega) hB ?_; intro v' w1 h1 h2 _ h4; have K1 : Aside0 (w1.ownsRow B 38 2 v' (xs.length + 1) (inner ++ seg)) := Aside0.mk h1; have K2 : Aside0 (w.grownBy w1 (Value.slice A xs.length c).ownBlock) := Aside0.mk h2; have K4 : Aside0 (v'.ownBlock = (Value.slice A xs.length c).ownBlock ∨ v'.ownBlock = some w.heap.size) := Aside0.mk h4; clear h1 h2 h4)
    go_ret
    refine ⟨_, rfl, ⟨inner ++ seg, by rw [List.length_append]; exact K1.out, ?_⟩, K2.out⟩
    refine O_put (HR.out.imp_ fun y c' hy => ?_) ?_ HSL.out
    · exact FK_after hy K2.out K4.out
    · exact FK_after HX.out K2.out K4.out
theorem splice2 {β : Type} (L seg cs : List β) {a T : Nat} (hT : a + seg.length + cs.length = T) (hL : T ≤ L.length) :
    ((L.take a ++ seg ++ L.drop (a + seg.length)).take (a + seg.length) ++ cs ++ (L.take a ++ seg ++ L.drop (a + seg.length)).drop (a + seg.length + cs.length)).take T = L.take a ++ seg ++ cs := by
  have h1 : (L.take a ++ seg).length = a + seg.length := by rw [List.length_append, List.length_take]; omega
  have h4 : (L.take a ++ seg ++ L.drop (a + seg.length)).take (a + seg.length) = L.take a ++ seg := List.take_left' h1
  rw [h4, List.take_append_of_le_length (by simp only [List.length_append, List.length_take]; omega), List.take_of_length_le (by simp only [List.length_append, List.length_take]; omega)]
theorem splice3 {β : Type} (L seg cs : List β) {a T : Nat} (hT : a + seg.length + cs.length = T) (hL : T ≤ L.length) :
    ((L.take (a + seg.length) ++ cs ++ L.drop (a + seg.length + cs.length)).take a ++ seg ++ (L.take (a + seg.length) ++ cs ++ L.drop (a + seg.length + cs.length)).drop (a + seg.length)).take T = L.take a ++ seg ++ cs := by
  have h1 : (L.take (a + seg.length)).length = a + seg.length := by rw [List.length_take]; omega
  have h2 : (L.take (a + seg.length) ++ cs ++ L.drop (a + seg.length + cs.length)).take a = L.take a := by
    rw [List.append_assoc, List.take_append_of_le_length (by omega), List.take_take, Nat.min_eq_left (by omega)]
  have h3 : (L.take (a + seg.length) ++ cs ++ L.drop (a + seg.length + cs.length)).drop (a + seg.length) = cs ++ L.drop (a + seg.length + cs.length) := by
    rw [List.append_assoc, List.drop_left' h1]
  rw [h2, h3, ← List.append_assoc, List.take_append_of_le_length (by simp only [List.length_append, List.length_take]; omega), List.take_of_length_le (by simp only [List.length_append, List.length_take]; omega)]
/-- In the row's middle: what is told of its cells. -/
theorem reps_insert {α : Type} {R : α → List Value → Prop} {size : Nat} {xs : List α} {inner seg : List Value} {x : α} (h : Reps R size xs inner) (hx : R x seg) (hl : seg.length = size) (i : Nat) (hi : i ≤ xs.length) :
    Reps R size (xs.take i ++ x :: xs.drop i) (inner.take (i * size) ++ seg ++ inner.drop (i * size)) := by
  have h1 := (Kd.reps_take h hi).snoc hx hl
  have h2 := Kd.reps_append h1 (Kd.reps_drop (m := i) h)
  rwa [List.append_assoc, List.singleton_append] at h2

theorem overlaps_no (w : World) (hb g off la ca lb cb : Nat) (hne : hb ≠ g) (c1 c2 : Array Value) (h1 : w.heap[hb]? = some (.cells c1 38 (0, 0))) (h2 : w.heap[g]? = some (.cells c2 38 (0, 0))) (h0 : c2.size ≠ 0) :
    (callFunc 88 #[.slice (some ⟨hb, 0, none⟩) la ca, .slice (some ⟨g, off, none⟩) lb cb]).run Try.prog w = .ok (.value (.bool false)) w := by
  rw [run_callFunc_extern Try.func88 (by kernel_rfl) (by kernel_rfl) (by kernel_rfl) (e := Extern.SlicesOverlaps.overlaps #[22, 22] #[4]) (by kernel_rfl),
    Lib.run_overlaps_apart w 22 4 38 Try.underlying22 2 sizeOf38 ⟨hb, 0, none⟩ ⟨g, off, none⟩ la ca lb cb hne 38 38 c1.size c2.size (by simp [World.shape?, h1]) (by simp [World.shape?, h2]) h0 (blk_frozen h1 _) (blk_frozen h1 _)]
  rfl

set_option maxHeartbeats 4000000 in
set_option maxRecDepth 100000 in
theorem insertF_room (ok : Nat → Prop) (B : Nat) (g c i : Nat) (xs : List S38) (hb : Nat) (x : S38) (seg : List Value) (w : World) (ho : O k38 38 w B ok (.slice (some ⟨g, 0, none⟩) xs.length c) xs) (hlen : xs.length ≤ 1000001) (hi : i < xs.length) (hroom : xs.length < c)
    (hv : w.heap[hb]? = some (.cells seg.toArray 38 (0, 0))) (hne : hb ≠ g) (hx : Kd.FK k38 w (fun k => ok k ∧ k ≠ g) x seg) :
    Calls Try.prog 60 #[.slice (some ⟨g, 0, none⟩) xs.length c, .int .i64 i, .slice (some ⟨hb, 0, none⟩) 1 1] w fun e w' => ∃ v', e = .returned v' ∧ O k38 38 w' B ok v' (xs.take i ++ x :: xs.drop i) ∧ w.grownBy w' (some g) := by
  obtain ⟨g', cap', cur, he, hg, _, hh, h3, h4, h5, hr⟩ := O_open ho (by omega)
  injection he with he1 _ he3
  injection he1 with he1
  injection he1 with he1
  subst he1 he3
  have h6 : cur.size = c * 2 := h5
  have h7 : seg.length = 2 := (FK_one hx).1
  have hcl : cur.toList.length = c * 2 := by rw [← h6]; simp
  have hinl : (cur.toList.take (xs.length * 2)).length = xs.length * 2 := by rw [List.length_take, hcl]; omega
  have hcz : cur.size ≠ 0 := by rw [h6]; omega
  have hone := Kd.reps_one hr (by decide) (fun _ _ hx => (FK_one hx).2)
  obtain ⟨cs, hcs⟩ : ∃ cs, (cur.toList.take (xs.length * 2)).drop (i * 2) = cs := ⟨_, rfl⟩
  have hcsl : cs.length = (xs.length - i) * 2 := by rw [← hcs, List.length_drop, hinl]; omega
  have hcs1 : ∀ v ∈ cs, v.oneCell' = true := fun v hv => by rw [← hcs] at hv; exact hone v (List.mem_of_mem_drop hv)
  have hsrc : ∀ j v, cs[j]? = some v → w.drew.cell? ((⟨g, i * 2, none⟩ : Addr).add j) = some v := by
    intro j v hj
    rw [Addr.add_lit]
    show w.cell? _ = _
    rw [cell_of_row w g _ cur 38 (0, 0) hh]
    rw [← hcs, List.getElem?_drop, List.getElem?_take] at hj
    split at hj
    · simpa using hj
    · cases hj
  have hov := fun lb cb => overlaps_no w hb g ((i + 1) * 2) 1 1 lb cb hne seg.toArray cur hv hh hcz
  have hcp1 : ∀ ty dc sc, (Builtin.copy_ #[22, 22] ty #[.slice (some ⟨g, (i + 1) * 2, none⟩) (xs.length - i) dc, .slice (some ⟨g, i * 2, none⟩) (xs.length + 1 - i) sc]).run Try.prog w.drew = .ok (goInt (Nat.min (xs.length + 1 - i) (xs.length - i))) (w.drew.setRow g (cur.toList.take ((i + 1) * 2) ++ cs ++ cur.toList.drop ((i + 1) * 2 + cs.length)).toArray) := fun ty dc sc =>
    run_copy_blk w.drew 22 22 ty 38 g ((i + 1) * 2) _ dc ⟨g, i * 2, none⟩ _ sc 2 cur 38 cs Try.underlying22 size38 hh (by rw [hcsl, show Nat.min (xs.length + 1 - i) (xs.length - i) = xs.length - i by simp only [Nat.min_def]; split <;> omega]) hsrc (by omega) hcs1
  obtain ⟨W1, hW1⟩ : ∃ W1, w.drew.setRow g (cur.toList.take ((i + 1) * 2) ++ cs ++ cur.toList.drop ((i + 1) * 2 + cs.length)).toArray = W1 := ⟨_, rfl⟩
  rw [hW1] at hcp1
  have hW1h : W1.heap[g]? = some (.cells (cur.toList.take ((i + 1) * 2) ++ cs ++ cur.toList.drop ((i + 1) * 2 + cs.length)).toArray 38 (0, 0)) := by rw [← hW1]; exact setRow_heap _ _ _ _ _ _ hh
  have hW1b : W1.heap[hb]? = some (.cells seg.toArray 38 (0, 0)) := by rw [← hW1, setRow_other _ _ _ _ hne]; exact hv
  have hcp2 : ∀ ty dc, (Builtin.copy_ #[22, 22] ty #[.slice (some ⟨g, i * 2, none⟩) (xs.length + 1 - i) dc, .slice (some ⟨hb, 0, none⟩) 1 1]).run Try.prog W1 = .ok (goInt (Nat.min 1 (xs.length + 1 - i))) (W1.setRow g ((cur.toList.take ((i + 1) * 2) ++ cs ++ cur.toList.drop ((i + 1) * 2 + cs.length)).take (i * 2) ++ seg ++ (cur.toList.take ((i + 1) * 2) ++ cs ++ cur.toList.drop ((i + 1) * 2 + cs.length)).drop (i * 2 + seg.length)).toArray) := fun ty dc => by
    have := run_copy_blk W1 22 22 ty 38 g (i * 2) (xs.length + 1 - i) dc ⟨hb, 0, none⟩ 1 1 2 _ 38 seg Try.underlying22 size38 hW1h (by rw [h7, show Nat.min 1 (xs.length + 1 - i) = 1 by simp only [Nat.min_def]; split <;> omega]) (fun j u hu => by rw [add_plain, cell_of_row _ _ _ _ _ _ hW1b]; simpa using hu) (by simp only [List.size_toArray, List.length_append, List.length_take, List.length_drop, hcl, hcsl]; omega) (FK_one hx).2
    simpa only [List.toList_toArray] using this
  have hWd : ∀ k, k ≠ g → W1.heap[k]? = w.heap[k]? := fun k hk => by rw [← hW1, setRow_other _ _ _ _ hk]; rfl
  have hW1s : W1.heap.size = w.heap.size := by rw [← hW1, setRow_size]; rfl
  have hWo : W1.os = w.os ∧ W1.tape = w.tape ∧ W1.output = w.output := by rw [← hW1]; exact ⟨rfl, rfl, rfl⟩
  have HA := Aside0.mk (And.intro hW1h (And.intro hWd (And.intro hW1s hWo)))
  have HR := Aside0.mk hr
  have HX := Aside0.mk hx
  have HS := Aside0.mk (And.intro hcs (And.intro hcsl (And.intro h6 h7)))
  have HC4 := Aside0.mk h4
  clear hW1 hW1h hW1b hWd hW1s hWo hr hx hcs hcsl h6 h7 hsrc hcs1 hone hinl h5 hh hv ho h4
  have e1 : ¬ (c = i + 1) := by omega
  have e2 : ¬ (c = i) := by omega
  go_enter Try.func60, Try.ntmps60
  go_wp2_with (simp only [hov])
  have hw1 : IntKind.i64.wrap ((i : Int) + 1) = (i : Int) + 1 := by rw [IntKind.wrap_i64]; omega
  have hb1 : (0 : Int) ≤ (i : Int) + 1 := by omega
  have htn : ((i : Int) + 1).toNat = i + 1 := by omega
  have hb3 : (i : Int) ≤ (xs.length : Int) + 1 := by omega
  have hin : i ≤ xs.length := by omega
  go_region_law (refine step_copy_run rfl _ _ 22 22 rfl _ _ (by simp [Act.eval, Act.put]) (by simp [Act.eval, Act.put]) (hcp1 _ _ _) ?_)
  clear hw1 hb1 htn hb3 hin
  go_wp2_with (refine wpList_copy_run _ rfl _ _ 22 22 rfl _ _ rfl rfl (hcp2 _ _) ?_)
  go_ret
  obtain ⟨hW1h, hWd, hW1s, hW1o, hW1t, hW1u⟩ := HA.out
  obtain ⟨hcs, hcsl, h6, h7⟩ := HS.out
  have hcl : cur.toList.length = c * 2 := by rw [← h6]; simp
  have hle : (xs.take i ++ x :: xs.drop i).length = xs.length + 1 := by simp only [List.length_append, List.length_take, List.length_cons, List.length_drop]; omega
  have hf := setRow_heap W1 g _ ((cur.toList.take ((i + 1) * 2) ++ cs ++ cur.toList.drop ((i + 1) * 2 + cs.length)).take (i * 2) ++ seg ++ (cur.toList.take ((i + 1) * 2) ++ cs ++ cur.toList.drop ((i + 1) * 2 + cs.length)).drop (i * 2 + seg.length)).toArray 38 (0, 0) hW1h
  refine ⟨_, rfl, ?_, ?_⟩
  · have := O_mk (d := k38) (ok := ok) (xs := xs.take i ++ x :: xs.drop i) (cap := c) hg hf (by omega) HC4.out (by
      rw [show k38.sz = 2 from rfl]
      simp only [List.size_toArray, List.length_append, List.length_take, List.length_drop, hcl, hcsl, h7]
      omega) (by
      have e3 : (i + 1) * 2 = i * 2 + seg.length := by omega
      have h8 := splice3 cur.toList seg cs (a := i * 2) (T := (xs.length + 1) * 2) (by omega) (by omega)
      rw [hle, show (xs.length + 1) * k38.sz = (xs.length + 1) * 2 from rfl, List.toList_toArray, e3, h8]
      have h9 := reps_insert HR.out HX.out h7 i (by omega)
      rw [show i * k38.sz = i * 2 from rfl, show xs.length * k38.sz = xs.length * 2 from rfl, hcs, List.take_take, Nat.min_eq_left (by omega)] at h9
      exact h9.imp_ fun y c' hy => Kd.FK_step hy fun k hk _ => by rw [setRow_other _ _ _ _ hk.2]; exact hWd k hk.2)
    rw [hle] at this
    simp only [List.append_assoc] at this
    exact this
  · exact ⟨hW1o, hW1t, hW1u, by rw [setRow_size, hW1s]; exact Nat.le_refl _, fun k _ hk => by rw [setRow_other _ _ _ _ (fun e => hk (by rw [e]))]; exact hWd k (fun e => hk (by rw [e]))⟩
end Go.Proofs.Ytcgeioingikeeaa.P
