/- The store's closures over writes (is this write the file's, is it another's); slices.IndexFunc, DeleteFunc and Clone over writes. By a program of this seat (wip/tools/mkK1.py). -/
import Derived.Test.YtcgeioingikeeaaH5
namespace Go.Proofs.Ytcgeioingikeeaa.P
open Go.RowKit Go.Proofs.YtcgeioingikeeaaW.PrintWords Go.Proofs.YtcgeioingikeeaaW.PrintLast Go.Proofs.YtcgeioingikeeaaW.PrintMore
set_option linter.unusedVariables false
set_option linter.unusedSimpArgs false
attribute [local go_sem] str_geq str_gtr str_leq

/-- A captured variable that holds a text. -/
def VarS (w : World) (b : Nat) (name : ByteArray) : Prop := w.heap[b]? = some (.cells #[.string name] 9 (0, 0))
theorem VarS.below {w w1 : World} {b : Nat} {name : ByteArray} (h : VarS w b name) (hb : Below w.heap.size w w1) : VarS w1 b name := blk_stays hb h
theorem VarS.cell {w : World} {b : Nat} {name : ByteArray} (h : VarS w b name) : w.cell? ⟨b, 0, none⟩ = some (.string name) := by
  rw [cell_of_row w b 0 _ 9 (0, 0) h]; rfl
def ownW (name : ByteArray) (x : S31) : Bool := x.f0.toList == name.toList
def othW (name : ByteArray) (x : S31) : Bool := x.f0.toList != name.toList
set_option maxHeartbeats 1000000 in
theorem ownW_calls (name : ByteArray) (b : Nat) (x0 : ByteArray) (x1 x2 : Int) (v : Value) (W : World) (h : VarS W b name) :
    Calls Try.prog 95 #[.agg #[.string x0, .int .i64 x1, .int .i64 x2, v], .pointer (some ⟨b, 0, none⟩)] W fun e W' => e = .returned (.bool (x0.toList == name.toList)) ∧ Below W.heap.size W W' := by
  have hc := cell_later (o := Obj.cells #[.string x0, .int .i64 x1, .int .i64 x2, v] 31) h.cell
  have H := Aside0.mk h
  clear h
  go_enter Try.func95, Try.ntmps95
  go_wp2
  go_ret
  exact ⟨rfl, (Below.refl _ _).alloc (Nat.le_refl _) _⟩
set_option maxHeartbeats 1000000 in
theorem othW_calls (name : ByteArray) (b : Nat) (x0 : ByteArray) (x1 x2 : Int) (v : Value) (W : World) (h : VarS W b name) :
    Calls Try.prog 73 #[.agg #[.string x0, .int .i64 x1, .int .i64 x2, v], .pointer (some ⟨b, 0, none⟩)] W fun e W' => e = .returned (.bool (x0.toList != name.toList)) ∧ Below W.heap.size W W' := by
  have hc := cell_later (o := Obj.cells #[.string x0, .int .i64 x1, .int .i64 x2, v] 31) h.cell
  have H := Aside0.mk h
  clear h
  go_enter Try.func73, Try.ntmps73
  go_wp2
  go_ret
  exact ⟨rfl, (Below.refl _ _).alloc (Nat.le_refl _) _⟩

/-- The first that is so, or -1. -/
def idxOfW (p : S31 → Bool) (l : List S31) : Int := match l.findIdx? p with | some i => (i : Int) | none => -1
theorem idxOf_atW {p : S31 → Bool} {l : List S31} (i : Nat) (hi : i < l.length) (hp : p (l.getD i z31) = true) (hn : ∀ j, j < i → p (l.getD j z31) = false) : idxOfW p l = i := by
  have : l.findIdx? p = some i := by
    rw [List.findIdx?_eq_some_iff_getElem]
    refine ⟨hi, by simpa [List.getD_eq_getElem?_getD, List.getElem?_eq_getElem hi] using hp, fun j hj => ?_⟩
    have := hn j hj
    rw [List.getD_eq_getElem?_getD, List.getElem?_eq_getElem (by omega)] at this
    simpa using this
  unfold idxOfW; rw [this]
theorem all_succW {p : S31 → Bool} {l : List S31} {i : Nat} (hn : ∀ j, j < i → p (l.getD j z31) = false) (h : p (l.getD i z31) = false) : ∀ j, j < i + 1 → p (l.getD j z31) = false := by
  intro j hj
  rcases Nat.lt_or_ge j i with h1 | h1
  · exact hn j h1
  · obtain rfl : j = i := by omega
    exact h
theorem idxOf_noneW {p : S31 → Bool} {l : List S31} (hn : ∀ j, j < l.length → p (l.getD j z31) = false) : idxOfW p l = -1 := by
  have : l.findIdx? p = none := by
    rw [List.findIdx?_eq_none_iff]
    intro x hx
    obtain ⟨j, hj, rfl⟩ := List.mem_iff_getElem.1 hx
    have := hn j hj
    rwa [List.getD_eq_getElem?_getD, List.getElem?_eq_getElem hj] at this
  unfold idxOfW; rw [this]


set_option maxHeartbeats 2000000 in
theorem index_ownW (name : ByteArray) (b : Nat) (A0 : Option Addr) (c0 : Nat) (l0 : List S31) (w : World) (hb0 : VarS w b name) (hr0 : Kd.C k31 w A0 l0.length l0) :
    Calls Try.prog 94 #[.slice A0 l0.length c0, .func (.func 95) #[] #[.pointer (some ⟨b, 0, none⟩)]] w fun e w' => e = .returned (.int .i64 (idxOfW (ownW name) l0)) ∧ Below w.heap.size w w' := by
  have HR := Aside0.mk hr0
  have HV := Aside0.mk hb0
  clear hb0
  have hmax := Kd.C_max hr0
  clear hr0
  go_enter Try.func94, Try.ntmps94
  go_wp2
  go_loopg [8] l0.length (fun kq v8 w' => ∃ i : Nat, v8 = .int .i64 i ∧ i + kq = l0.length ∧ Aside0 (∀ j, j < i → ownW name (l0.getD j z31) = false) ∧ Aside0 (Below w.heap.size w w'))
  case atStart => exact ⟨0, rfl, by omega, ⟨fun j hj => absurd hj (by omega)⟩, ⟨Below.refl _ _⟩⟩
  case round =>
    obtain ⟨i, rfl, hi, HN, HB⟩ := hrel
    by_cases hlt : i < l0.length
    · obtain ⟨ad, A1, c1, e1, hx0, hx1, hx2, hx3, _, _⟩ := at_T31 (Kd.C_below HR.out HB.out) (i : Int) (by omega) (by omega)
      cases e1
      rw [Int.toNat_natCast] at hx0 hx1 hx2 hx3
      have HRD : rd_T31 l0 (i : Int) = l0.getD i z31 := by unfold rd_T31; rw [Int.toNat_natCast]
      rw [HRD] at hx0 hx1 hx2 hx3
      clear HRD
      obtain ⟨x, hxe⟩ : ∃ x, l0.getD i z31 = x := ⟨_, rfl⟩
      rw [hxe] at hx0 hx1 hx2 hx3
      have HX := Aside0.mk hxe
      clear hxe
      obtain ⟨k1, rfl⟩ : ∃ k1, gk = k1 + 1 := ⟨gk - 1, by omega⟩
      cases hp : ownW name x
      · have HP := Aside0.mk hp
        have hp' : (x.f0.toList == name.toList) = false := hp
        clear hp
        go_wp2_with (go_at_call 95; refine (ownW_calls name b _ _ _ _ _ (HV.out.below HB.out)).mono ?_; rintro e w1 ⟨rfl, hb⟩; have HB1 := Aside0.mk (below_step HB.out hb); clear hb HB; rw [hp'])
        go_roundg k1
        case measure => omega
        case rel => exact ⟨i + 1, by go_num, by omega, ⟨all_succW HN.out (by rw [HX.out]; exact HP.out)⟩, HB1⟩
      · have HP := Aside0.mk hp
        have hp' : (x.f0.toList == name.toList) = true := hp
        clear hp
        go_wp2_with (go_at_call 95; refine (ownW_calls name b _ _ _ _ _ (HV.out.below HB.out)).mono ?_; rintro e w1 ⟨rfl, hb⟩; have HB1 := Aside0.mk (below_step HB.out hb); clear hb HB; rw [hp'])
        go_ret
        exact ⟨by rw [idxOf_atW i hlt (by rw [HX.out]; exact HP.out) HN.out]; rfl, HB1.out⟩
    · have hge : l0.length ≤ i := by omega
      clear hlt
      go_wp2
      go_ret
      exact ⟨by rw [idxOf_noneW (by intro j hj; exact HN.out j (by omega))]; rfl, HB.out⟩


set_option maxHeartbeats 2000000 in
theorem index_othW (name : ByteArray) (b : Nat) (A0 : Option Addr) (c0 : Nat) (l0 : List S31) (w : World) (hb0 : VarS w b name) (hr0 : Kd.C k31 w A0 l0.length l0) :
    Calls Try.prog 94 #[.slice A0 l0.length c0, .func (.func 73) #[] #[.pointer (some ⟨b, 0, none⟩)]] w fun e w' => e = .returned (.int .i64 (idxOfW (othW name) l0)) ∧ Below w.heap.size w w' := by
  have HR := Aside0.mk hr0
  have HV := Aside0.mk hb0
  clear hb0
  have hmax := Kd.C_max hr0
  clear hr0
  go_enter Try.func94, Try.ntmps94
  go_wp2
  go_loopg [8] l0.length (fun kq v8 w' => ∃ i : Nat, v8 = .int .i64 i ∧ i + kq = l0.length ∧ Aside0 (∀ j, j < i → othW name (l0.getD j z31) = false) ∧ Aside0 (Below w.heap.size w w'))
  case atStart => exact ⟨0, rfl, by omega, ⟨fun j hj => absurd hj (by omega)⟩, ⟨Below.refl _ _⟩⟩
  case round =>
    obtain ⟨i, rfl, hi, HN, HB⟩ := hrel
    by_cases hlt : i < l0.length
    · obtain ⟨ad, A1, c1, e1, hx0, hx1, hx2, hx3, _, _⟩ := at_T31 (Kd.C_below HR.out HB.out) (i : Int) (by omega) (by omega)
      cases e1
      rw [Int.toNat_natCast] at hx0 hx1 hx2 hx3
      have HRD : rd_T31 l0 (i : Int) = l0.getD i z31 := by unfold rd_T31; rw [Int.toNat_natCast]
      rw [HRD] at hx0 hx1 hx2 hx3
      clear HRD
      obtain ⟨x, hxe⟩ : ∃ x, l0.getD i z31 = x := ⟨_, rfl⟩
      rw [hxe] at hx0 hx1 hx2 hx3
      have HX := Aside0.mk hxe
      clear hxe
      obtain ⟨k1, rfl⟩ : ∃ k1, gk = k1 + 1 := ⟨gk - 1, by omega⟩
      cases hp : othW name x
      · have HP := Aside0.mk hp
        have hp' : (x.f0.toList != name.toList) = false := hp
        clear hp
        go_wp2_with (go_at_call 73; refine (othW_calls name b _ _ _ _ _ (HV.out.below HB.out)).mono ?_; rintro e w1 ⟨rfl, hb⟩; have HB1 := Aside0.mk (below_step HB.out hb); clear hb HB; rw [hp'])
        go_roundg k1
        case measure => omega
        case rel => exact ⟨i + 1, by go_num, by omega, ⟨all_succW HN.out (by rw [HX.out]; exact HP.out)⟩, HB1⟩
      · have HP := Aside0.mk hp
        have hp' : (x.f0.toList != name.toList) = true := hp
        clear hp
        go_wp2_with (go_at_call 73; refine (othW_calls name b _ _ _ _ _ (HV.out.below HB.out)).mono ?_; rintro e w1 ⟨rfl, hb⟩; have HB1 := Aside0.mk (below_step HB.out hb); clear hb HB; rw [hp'])
        go_ret
        exact ⟨by rw [idxOf_atW i hlt (by rw [HX.out]; exact HP.out) HN.out]; rfl, HB1.out⟩
    · have hge : l0.length ≤ i := by omega
      clear hlt
      go_wp2
      go_ret
      exact ⟨by rw [idxOf_noneW (by intro j hj; exact HN.out j (by omega))]; rfl, HB.out⟩


theorem info31 : (Try.prog.info? 31).map (fun i => (i.zero, i.size, i.bytes)) = some (some (.agg #[(.string ⟨#[]⟩), (.int .i64 0), (.int .i64 0), (.slice none 0 0)]), 4, 56) := by kernel_rfl
set_option maxHeartbeats 2000000 in
theorem cloneW (ok : Nat → Prop) (A0 : Option Addr) (c0 : Nat) (l0 : List S31) (w : World) (hf : Kd.F k31 w ok A0 l0.length l0) (hlen : l0.length ≤ 1000000) :
    Calls Try.prog 71 #[.slice A0 l0.length c0] w fun e w' => ∃ v, e = .returned v ∧ O k31 31 w' w.heap.size (fun k => ok k ∧ k < w.heap.size) v l0 ∧ Below w.heap.size w w' := by
  have hF := Kd.F_bound hf
  clear hf
  have hnil := Lib.run_eql_slice_nil (P := Try.prog)
  cases A0 with
  | none =>
    have h0 := C_none (Kd.F_now hF)
    subst h0
    go_enter Try.func71, Try.ntmps71
    go_wp2
    go_ret
    exact ⟨_, rfl, O_nil _ _ _ _ _, Below.refl _ _⟩
  | some a =>
    rcases Nat.eq_zero_or_pos l0.length with h0 | h0
    · obtain rfl := List.eq_nil_of_length_eq_zero h0
      clear h0 hlen
      go_enter Try.func71, Try.ntmps71
      go_wp2_with (at_builtin; refine wpList_append_nothing rfl _ _ 104 rfl Try.underlying104 info31 (some ⟨w.heap.size, 0, none⟩) 0 0 a c0 rfl rfl ?_)
      go_ret
      exact ⟨_, rfl, ⟨[], own_empty _ _ _, Reps.none _ _⟩, (Below.refl _ _).alloc (Nat.le_refl _) _⟩
    · obtain ⟨ad, cs, e1, hreps, hcs⟩ := row_cells (Kd.F_rows hF) h0
      cases e1
      obtain ⟨i0, hi, hz0, hz1, hz2⟩ := info_parts info31
      have hl := hreps.1
      have hone := Kd.reps_one hreps (by decide) (fun _ _ hx => (FK_one hx).2)
      have HR := Aside0.mk hreps
      have HC := Aside0.mk hcs
      have HI := Aside0.mk hi
      have HZ0 := Aside0.mk hz0
      have HZ1 := Aside0.mk hz1
      have HZ2 := Aside0.mk hz2
      have HL := Aside0.mk hl
      have H1 := Aside0.mk hone
      clear hreps hcs hi hz0 hz1 hz2 hl hone hF
      go_enter Try.func71, Try.ntmps71
      go_wp2_with (at_builtin; refine wpList_append_grows _ rfl _ _ 104 rfl 31 i0 _ 4 56 Try.underlying104 HI.out HZ0.out HZ1.out HZ2.out rfl (by decide) (some ⟨w.heap.size, 0, none⟩) 0 0 [] rfl (fun h => by cases h) rfl (fun _ _ j u hu => by simp at hu) a l0.length c0 cs rfl HL.out ?ce H1.out (by omega) (by unfold maxLen; omega) (by omega) ?kk; (case ce => intro j u hu; exact cell_later (HC.out j u hu)); intro v' w1 hown hgrow; have HO := Aside0.mk hown; have HG := Aside0.mk hgrow; clear hown hgrow)
      go_ret
      have hb1 : Below w.heap.size w w1 := (((Below.refl _ _).alloc (Nat.le_refl _) _).grown HG.out (by simp) (fun k hk => by cases hk))
      have hown := HO.out
      rw [Nat.zero_add, List.nil_append] at hown
      refine ⟨_, rfl, ⟨cs, own_weaken hown (by simp), HR.out.imp_ fun x c hx => ?_⟩, hb1⟩
      refine Kd.FK_mono (Kd.FK_step (Kd.FK_bound hx) (fun k hk hlt => hb1.block k hlt)) (fun k hk => ⟨hk.1, fun he => ?_⟩)
      have h1 := own_base hown k he.symm
      have h2 := hk.2
      rw [World.size_alloc] at h1
      omega




theorem set4 (cur : Array Value) (a : Nat) (u v x y : Value) (h : a + 4 ≤ cur.size) : (((cur.setIfInBounds a u).setIfInBounds (a + 1) v).setIfInBounds (a + 2) x).setIfInBounds (a + 3) y = (cur.toList.take a ++ [u, v, x, y] ++ cur.toList.drop (a + [u, v, x, y].length)).toArray := by
  apply Array.ext'
  simp only [Array.toList_setIfInBounds]
  apply List.ext_getElem?
  intro k
  simp only [List.getElem?_set, List.length_set, Array.length_toList, List.append_assoc, List.getElem?_append, List.length_take, List.length_cons, List.length_nil, List.getElem?_take, List.getElem?_drop]
  rw [Nat.min_eq_left (by omega : a ≤ cur.size)]
  by_cases h1 : k < a
  · simp [h1, show ¬ a + 3 = k by omega, show ¬ a + 2 = k by omega, show ¬ a + 1 = k by omega, show ¬ a = k by omega]
  · by_cases h2 : k = a
    · subst h2; simp [show k < cur.size by omega]
    · by_cases h3 : k = a + 1
      · subst h3; simp [show a + 1 < cur.size by omega, show ¬ a + 1 < a by omega]
      · by_cases h4 : k = a + 2
        · subst h4; simp [show a + 2 < cur.size by omega, show ¬ a + 2 < a by omega]
        · by_cases h5 : k = a + 3
          · subst h5; simp [show a + 3 < cur.size by omega, show ¬ a + 3 < a by omega]
          · simp [h1, show ¬ a + 3 = k by omega, show ¬ a + 2 = k by omega, show ¬ a + 1 = k by omega, show ¬ a = k by omega, show ¬ k - a < 4 by omega, show a + 4 + (k - a - 4) = k by omega]
theorem O_at31 {w : World} {base : Nat} {ok : Nat → Prop} {xs : List S31} {g cap n : Nat} (h : O k31 31 w base ok (.slice (some ⟨g, 0, none⟩) n cap) xs) (j : Nat) (hj : j < xs.length) :
    ∃ A1 c1, w.cell? ⟨g, j * 4, none⟩ = some (.string (xs.getD j z31).f0) ∧ w.cell? ⟨g, j * 4 + 1, none⟩ = some (.int .i64 (xs.getD j z31).f1) ∧ w.cell? ⟨g, j * 4 + 2, none⟩ = some (.int .i64 (xs.getD j z31).f2) ∧ w.cell? ⟨g, j * 4 + 3, none⟩ = some (.slice A1 (xs.getD j z31).f3.length c1) ∧
      Kd.FK k31 w (fun k => ok k ∧ k ≠ g) (xs.getD j z31) [.string (xs.getD j z31).f0, .int .i64 (xs.getD j z31).f1, .int .i64 (xs.getD j z31).f2, .slice A1 (xs.getD j z31).f3.length c1] := by
  obtain ⟨g', cap', cur, he, hg, _, hh, h3, h4, h5, hr⟩ := O_open h (by omega)
  injection he with he1 he2 he3
  injection he1 with he1
  injection he1 with he1
  subst he1
  have hx := hr.2 j _ (List.getElem?_eq_getElem hj)
  have hxe : xs.getD j z31 = xs[j] := by rw [List.getD_eq_getElem?_getD, List.getElem?_eq_getElem hj]; rfl
  rw [hxe]
  obtain ⟨A1, c1, he, _, _⟩ := k31_open (Kd.FK_now hx)
  have hb : j * 4 + 4 ≤ xs.length * 4 := by omega
  have hsz : cur.size = cap' * 4 := h5
  have hsz2 : k31.sz = 4 := rfl
  rw [hsz2] at he hx
  have hat : ∀ i u, i < 4 → ([.string (xs[j]).f0, .int .i64 (xs[j]).f1, .int .i64 (xs[j]).f2, .slice A1 (xs[j]).f3.length c1] : List Value)[i]? = some u → w.cell? ⟨g, j * 4 + i, none⟩ = some u := by
    intro i u hi hu
    have := congrArg (fun l => l[i]?) he
    simp only [List.getElem?_take, List.getElem?_drop] at this
    rw [if_pos (by omega), if_pos (by omega)] at this
    rw [cell_of_row w g _ cur 31 (0, 0) hh]
    rw [hu] at this
    simpa using this
  exact ⟨A1, c1, hat 0 _ (by omega) rfl, hat 1 _ (by omega) rfl, hat 2 _ (by omega) rfl, hat 3 _ (by omega) rfl, by rw [← he]; exact hx⟩
theorem zero31 (w : World) : (zeroValue 31).run Try.prog w = .ok (.agg #[.string ⟨#[]⟩, .int .i64 0, .int .i64 0, .slice none 0 0]) w := by kernel_rfl

/-- What the loop of DeleteFunc keeps: of the first j those that stay stand at the front. -/
def DelInvW (p : S31 → Bool) (l : List S31) (i j : Nat) (xs : List S31) : Prop := xs.take i = (l.take j).filter (fun x => !p x) ∧ xs.drop j = l.drop j
theorem del_startW {p : S31 → Bool} {l : List S31} {i0 : Nat} {h : i0 < l.length} (hp : p l[i0] = true) (hn : ∀ (j : Nat) (hji : j < i0), ¬p (l[j]'(by omega)) = true) (_ : i0 < l.length) : DelInvW p l i0 (i0 + 1) l := by
  refine ⟨?_, rfl⟩
  rw [List.take_succ_eq_append_getElem h, List.filter_append]
  have h1 : (l.take i0).filter (fun x => !p x) = l.take i0 := by
    rw [List.filter_eq_self]
    intro x hx
    obtain ⟨j, hj, rfl⟩ := List.mem_iff_getElem.1 hx
    rw [List.length_take] at hj
    have := hn j (by omega)
    simp at this
    simp [this]
  rw [h1]
  simp [hp]
theorem del_atW {p : S31 → Bool} {l xs : List S31} {i j : Nat} (h : DelInvW p l i j xs) (hj : j < l.length) : xs.getD j z31 = l.getD j z31 := by
  have := congrArg (fun l => l.head?) h.2
  simp only [List.head?_drop] at this
  rw [List.getD_eq_getElem?_getD, List.getD_eq_getElem?_getD, this]
theorem del_skipW {p : S31 → Bool} {l xs : List S31} {i j : Nat} (h : DelInvW p l i j xs) (hj : j < l.length) (hp : p (l.getD j z31) = true) : DelInvW p l i (j + 1) xs := by
  have he : l.getD j z31 = l[j] := by rw [List.getD_eq_getElem?_getD, List.getElem?_eq_getElem hj]; rfl
  rw [he] at hp
  refine ⟨?_, by rw [← List.drop_drop, h.2, List.drop_drop]⟩
  rw [h.1, List.take_succ_eq_append_getElem hj, List.filter_append]
  simp [hp]
theorem del_keepW {p : S31 → Bool} {l xs : List S31} {i j : Nat} (h : DelInvW p l i j xs) (hij : i < j) (hj : j < l.length) (hl : xs.length = l.length) (hp : p (l.getD j z31) = false) : DelInvW p l (i + 1) (j + 1) (xs.set i (l.getD j z31)) := by
  have he : l.getD j z31 = l[j] := by rw [List.getD_eq_getElem?_getD, List.getElem?_eq_getElem hj]; rfl
  rw [he] at hp ⊢
  refine ⟨?_, ?_⟩
  · rw [List.take_succ_eq_append_getElem hj, List.filter_append, ← h.1]
    rw [List.take_succ_eq_append_getElem (by rw [List.length_set]; omega), List.take_set_of_le (Nat.le_refl _)]
    simp [hp]
  · rw [List.drop_set_of_lt (by omega), ← List.drop_drop, h.2, List.drop_drop]

theorem del_endW {p : S31 → Bool} {l xs : List S31} {i j : Nat} (h : DelInvW p l i j xs) (hj : l.length ≤ j) : xs.take i = l.filter (fun x => !p x) := by
  rw [h.1, List.take_of_length_le hj]

set_option maxHeartbeats 4000000 in
set_option maxRecDepth 100000 in
theorem delete_ownW (ok : Nat → Prop) (B : Nat) (name : ByteArray) (b : Nat) (v : Value) (l : List S31) (w : World) (ho : O k31 31 w B ok v l) (hB : B ≤ w.heap.size) (hlen : l.length ≤ 1000001) (hb0 : VarS w b name) :
    Calls Try.prog 72 #[v, .func (.func 95) #[] #[.pointer (some ⟨b, 0, none⟩)]] w fun e w' => ∃ v', e = .returned v' ∧ O k31 31 w' B ok v' (l.filter fun x => !ownW name x) ∧ w.grownBy w' v.ownBlock ∧ v'.ownBlock = v.ownBlock := by
  have HO := Aside0.mk ho
  have HV := Aside0.mk hb0
  have hV := O_V ho
  obtain ⟨A, c, rfl⟩ := O_slice ho
  have hC := (Kd.V_reads' hV).2.2
  have hIdx := index_ownW name b A c l w hb0 hC
  clear hV ho hb0
  rcases hfi : l.findIdx? (ownW name) with _ | i0
  · have hid : idxOfW (ownW name) l = -1 := by unfold idxOfW; rw [hfi]
    have hfl : (l.filter fun x => !ownW name x) = l := by
      rw [List.filter_eq_self]
      intro x hx
      have := List.findIdx?_eq_none_iff.1 hfi x hx
      simp [this]
    rw [hid] at hIdx
    have HF := Aside0.mk hfl
    clear hid hfl hfi hC
    go_enter Try.func72, Try.ntmps72
    go_wp2_with (go_at_call 94; refine hIdx.mono ?_; rintro e w1 ⟨rfl, hb⟩; have HB := Aside0.mk hb; clear hb)
    go_ret
    exact ⟨_, rfl, by rw [HF.out]; exact O_below HO.out HB.out, grown_of_below HB.out _, rfl⟩
  · have hid : idxOfW (ownW name) l = (i0 : Int) := by unfold idxOfW; rw [hfi]
    rw [hid] at hIdx
    obtain ⟨hi0, hp0, hn0⟩ := List.findIdx?_eq_some_iff_getElem.1 hfi
    clear hid hfi hC
    obtain ⟨g, cap, cur0, he, hg, hgs, _, h30, h40, _, _⟩ := O_open HO.out (by omega)
    injection he with he1 _ he3
    subst he1 he3
    have HN := Aside0.mk hn0
    have HP0 := Aside0.mk hp0
    clear hn0 hp0
    have hne : ((i0 : Int) == -1) = false := by simp
    go_enter Try.func72, Try.ntmps72
    go_wp2_with (go_at_call 94; refine hIdx.mono ?_; rintro e w1 ⟨rfl, hb⟩; have HB := Aside0.mk hb; clear hb)
    have hstart := Aside0.mk (del_startW HP0.out HN.out hi0)
    clear hne
    go_loopg [5, 6] l.length (fun kq v5 v6 w' => ∃ (i j : Nat) (xs : List S31), v5 = .int .i64 i ∧ v6 = .int .i64 j ∧ l.length < j + kq ∧ i < j ∧ j ≤ l.length ∧ xs.length = l.length ∧ Aside0 (DelInvW (ownW name) l i j xs) ∧ Aside0 (O k31 31 w' B ok (.slice (some ⟨g, 0, none⟩) l.length c) xs) ∧ Aside0 (w.grownBy w' (some g)) ∧ Aside0 (B ≤ w'.heap.size) ∧ Aside0 (VarS w' b name))
    case atStart => exact ⟨i0, i0 + 1, l, rfl, by go_num, by omega, by omega, by omega, rfl, hstart, ⟨O_below HO.out HB.out⟩, ⟨grown_of_below HB.out _⟩, ⟨Nat.le_trans hB HB.out.size⟩, ⟨HV.out.below HB.out⟩⟩
    case round =>
      obtain ⟨i, j, xs, rfl, rfl, hjk, hij, hjl, hxl, HI, HO1, HG, HBs, HV1⟩ := hrel
      by_cases hlt : j < l.length
      · obtain ⟨A1, c1, hx0, hx1, hx2, hx3, hfk⟩ := O_at31 HO1.out j (by omega)
        obtain ⟨A2, c2, hy0, hy1, hy2, hy3, _⟩ := O_at31 HO1.out i (by omega)
        have HX := Aside0.mk (del_atW HI.out hlt)
        obtain ⟨x, hxe⟩ : ∃ x, xs.getD j z31 = x := ⟨_, rfl⟩
        obtain ⟨y, hye⟩ : ∃ y, xs.getD i z31 = y := ⟨_, rfl⟩
        rw [hxe] at hx0 hx1 hx2 hx3 hfk HX
        rw [hye] at hy0 hy1 hy2 hy3
        clear hxe hye
        obtain ⟨k1, rfl⟩ : ∃ k1, gk = k1 + 1 := ⟨gk - 1, by omega⟩
        obtain ⟨cur, hh⟩ := O_block HO1.out
        have hfz : ∀ k, wr.frozen? ⟨g, k, none⟩ = false := blk_frozen hh
        have HH := Aside0.mk hh
        have HFK := Aside0.mk hfk
        clear hh hfk
        cases hp : ownW name x
        · have hp' : (x.f0.toList == name.toList) = false := hp
          have HP := Aside0.mk hp
          clear hp
          go_wp2_with (go_at_call 95; refine (ownW_calls name b _ _ _ _ _ (HV1.out.below (below_alloc (Below.refl _ _) _))).mono ?_; rintro e w2 ⟨rfl, hb⟩; rw [hp']; have hz0 := pw_cell_below hb (cell_later hy0); have hz1 := pw_cell_below hb (cell_later hy1); have hz2 := pw_cell_below hb (cell_later hy2); have hz3 := pw_cell_below hb (cell_later hy3); have hb0 := pw_cell_below hb (cell_new wr _ 31 0 _ rfl); have hb1 := pw_cell_below hb (cell_new wr _ 31 1 _ rfl); have hb2 := pw_cell_below hb (cell_new wr _ 31 2 _ rfl); have hb3 := pw_cell_below hb (cell_new wr _ 31 3 _ rfl); have hh2 := blk_stays hb (blk_alloc HH.out _); have hf0 := blk_frozen hh2 (i * 4); have hf1 := blk_frozen hh2 (i * 4 + 1); have hf2 := blk_frozen hh2 (i * 4 + 2); have hf3 := blk_frozen hh2 (i * 4 + 3); have HB2 := Aside0.mk hb; have HH2 := Aside0.mk hh2; clear hb hh2 hy0 hy1 hy2 hy3 hx0 hx1 hx2 hx3 hfz hp')
          go_roundg k1
          case measure => omega
          case rel =>
            have hb' : Below wr.heap.size wr w2 := below_step (below_alloc (Below.refl _ _) _) HB2.out
            have hgr : g < wr.heap.size := blk_lt HH.out
            have hbig : (i + 1) * 4 ≤ cur.size := by
              obtain ⟨g', cap', cur', he, _, _, hh', h3, _, h5, _⟩ := O_open HO1.out (by omega)
              injection he with he1 he2 he3
              injection he1 with he1
              injection he1 with he1
              subst he1
              rw [HH.out] at hh'
              injection hh' with hh'
              injection hh' with hh'
              subst hh'
              rw [h5]
              exact Nat.mul_le_mul_right 4 (by omega)
            refine ⟨i + 1, j + 1, xs.set i x, by go_num, by go_num, by omega, by omega, by omega, by rw [List.length_set]; exact hxl, ⟨?_⟩, ⟨?_⟩, ⟨?_⟩, ⟨?_⟩, ⟨?_⟩⟩
            · rw [HX.out]
              exact del_keepW HI.out hij hlt hxl (by rw [← HX.out]; exact HP.out)
            · refine O_set (O_below HO1.out hb') i (by omega) x _ cur HH2.out (Kd.FK_below HFK.out hb') ?_ ?_
              · have := blk_set (blk_set (blk_set (blk_set HH2.out (i * 4) (.string x.f0)) (i * 4 + 1) (.int .i64 x.f1)) (i * 4 + 2) (.int .i64 x.f2)) (i * 4 + 3) (.slice A1 x.f3.length c1)
                rw [set4 _ _ _ _ _ _ (by omega)] at this
                exact this
              · intro k _ hk
                rw [Below.heap_setCell _ _ _ _ hk, Below.heap_setCell _ _ _ _ hk, Below.heap_setCell _ _ _ _ hk, Below.heap_setCell _ _ _ _ hk]
            · exact grownBy.setCell_row (grownBy.setCell_row (grownBy.setCell_row (grownBy.setCell_row (grownBy.trans_below HG.out hb') _ _) _ _) _ _) _ _
            · have := HBs.out; have := hb'.size; simp only [World.setCell, Array.size_modify]; omega
            · have hv := HV1.out.below hb'
              have hbg : b ≠ g := fun he => by
                subst he
                have h1 := HH2.out
                have h2 : w2.heap[b]? = _ := hv
                rw [h1] at h2
                injection h2 with h2
                injection h2 with _ h2
                exact absurd h2 (by decide)
              unfold VarS
              rw [Below.heap_setCell _ _ _ _ hbg, Below.heap_setCell _ _ _ _ hbg, Below.heap_setCell _ _ _ _ hbg, Below.heap_setCell _ _ _ _ hbg]
              exact hv
        · have hp' : (x.f0.toList == name.toList) = true := hp
          have HP := Aside0.mk hp
          clear hp
          go_wp2_with (go_at_call 95; refine (ownW_calls name b _ _ _ _ _ (HV1.out.below (below_alloc (Below.refl _ _) _))).mono ?_; rintro e w2 ⟨rfl, hb⟩; rw [hp']; have HB2 := Aside0.mk hb; clear hb hy0 hy1 hy2 hy3 hx0 hx1 hx2 hx3 hfz hp')
          go_roundg k1
          case measure => omega
          case rel =>
            have hb' : Below wr.heap.size wr w2 := below_step (below_alloc (Below.refl _ _) _) HB2.out
            exact ⟨i, j + 1, xs, rfl, by go_num, by omega, by omega, by omega, hxl, ⟨del_skipW HI.out hlt (by rw [← HX.out]; exact HP.out)⟩, ⟨O_below HO1.out hb'⟩, ⟨grownBy.trans_below HG.out hb'⟩, ⟨Nat.le_trans HBs.out hb'.size⟩, ⟨HV1.out.below hb'⟩⟩
      · have hge : l.length ≤ j := by omega
        clear hlt
        obtain ⟨cur, hh⟩ := O_block HO1.out
        have HH := Aside0.mk hh
        clear hh
        have hci : (c == i) = false := by simp; omega
        have hfit : i * 4 + (l.length - i) * 4 ≤ cur.size := by
          obtain ⟨g', cap', cur', he, _, _, hh', h3, _, h5, _⟩ := O_open HO1.out (by omega)
          injection he with he1 he2 he3
          injection he1 with he1
          injection he1 with he1
          subst he1
          rw [HH.out] at hh'
          injection hh' with hh'
          injection hh' with hh'
          subst hh'
          rw [h5, show k31.sz = 4 from rfl]
          omega
        have HFIT := Aside0.mk hfit
        clear hfit
        go_wp2_with (refine wpList_clear_row rfl (.tmp 38) 104 rfl Try.underlying104 zero31 (by intro u hu; simp [Value.cells] at hu; rcases hu with rfl | rfl | rfl | rfl <;> rfl) g (i * 4) (l.length - i) (c - i) rfl (by omega) HH.out (by have := HFIT.out; simpa [Value.cells] using this) ?_; intro w2 cur2 h1 h2 h3 h4; have K1 := Aside0.mk h1; have K2 := Aside0.mk h2; have K3 := Aside0.mk h3; have K4 := Aside0.mk h4; clear h1 h2 h3 h4)
        go_ret
        have hfl := del_endW HI.out hge
        refine ⟨_, rfl, ?_, ⟨K4.out.os.trans HG.out.os, K4.out.tape.trans HG.out.tape, K4.out.output.trans HG.out.output, Nat.le_trans HG.out.size K4.out.size, fun k hk hr => (K4.out.block k (Nat.lt_of_lt_of_le hk HG.out.size) hr).trans (HG.out.block k hk hr)⟩, rfl⟩
        rw [← hfl]
        obtain ⟨g', cap', cur', he, hg', _, hh', h3, h4, h5, hr⟩ := O_open HO1.out (by omega)
        injection he with he1 he2 he3
        injection he1 with he1
        injection he1 with he1
        subst he1 he3
        rw [HH.out] at hh'
        injection hh' with hh'
        injection hh' with hh'
        subst hh'
        have hl2 : (xs.take i).length = i := by rw [List.length_take]; omega
        have := O_mk (d := k31) (ok := ok) (xs := xs.take i) (cap := c) hg' K1.out (by omega) h4 (by rw [K2.out]; exact h5) (by
          have hr2 := (Kd.reps_take hr (m := i) (by omega)).imp_ (R' := fun x c => Kd.FK k31 w2 (fun k => ok k ∧ k ≠ g) x c) fun y c hy => Kd.FK_grown hy K4.out fun k hk he => hk.2 (by injection he)
          rw [List.take_take, Nat.min_eq_left (Nat.mul_le_mul_right _ (by omega))] at hr2
          rw [hl2, show i * k31.sz = i * 4 from rfl, K3.out]
          exact hr2)
        rw [hl2] at this
        exact this

set_option maxHeartbeats 4000000 in
set_option maxRecDepth 100000 in
theorem delete_othW (ok : Nat → Prop) (B : Nat) (name : ByteArray) (b : Nat) (v : Value) (l : List S31) (w : World) (ho : O k31 31 w B ok v l) (hB : B ≤ w.heap.size) (hlen : l.length ≤ 1000001) (hb0 : VarS w b name) :
    Calls Try.prog 72 #[v, .func (.func 73) #[] #[.pointer (some ⟨b, 0, none⟩)]] w fun e w' => ∃ v', e = .returned v' ∧ O k31 31 w' B ok v' (l.filter fun x => !othW name x) ∧ w.grownBy w' v.ownBlock ∧ v'.ownBlock = v.ownBlock := by
  have HO := Aside0.mk ho
  have HV := Aside0.mk hb0
  have hV := O_V ho
  obtain ⟨A, c, rfl⟩ := O_slice ho
  have hC := (Kd.V_reads' hV).2.2
  have hIdx := index_othW name b A c l w hb0 hC
  clear hV ho hb0
  rcases hfi : l.findIdx? (othW name) with _ | i0
  · have hid : idxOfW (othW name) l = -1 := by unfold idxOfW; rw [hfi]
    have hfl : (l.filter fun x => !othW name x) = l := by
      rw [List.filter_eq_self]
      intro x hx
      have := List.findIdx?_eq_none_iff.1 hfi x hx
      simp [this]
    rw [hid] at hIdx
    have HF := Aside0.mk hfl
    clear hid hfl hfi hC
    go_enter Try.func72, Try.ntmps72
    go_wp2_with (go_at_call 94; refine hIdx.mono ?_; rintro e w1 ⟨rfl, hb⟩; have HB := Aside0.mk hb; clear hb)
    go_ret
    exact ⟨_, rfl, by rw [HF.out]; exact O_below HO.out HB.out, grown_of_below HB.out _, rfl⟩
  · have hid : idxOfW (othW name) l = (i0 : Int) := by unfold idxOfW; rw [hfi]
    rw [hid] at hIdx
    obtain ⟨hi0, hp0, hn0⟩ := List.findIdx?_eq_some_iff_getElem.1 hfi
    clear hid hfi hC
    obtain ⟨g, cap, cur0, he, hg, hgs, _, h30, h40, _, _⟩ := O_open HO.out (by omega)
    injection he with he1 _ he3
    subst he1 he3
    have HN := Aside0.mk hn0
    have HP0 := Aside0.mk hp0
    clear hn0 hp0
    have hne : ((i0 : Int) == -1) = false := by simp
    go_enter Try.func72, Try.ntmps72
    go_wp2_with (go_at_call 94; refine hIdx.mono ?_; rintro e w1 ⟨rfl, hb⟩; have HB := Aside0.mk hb; clear hb)
    have hstart := Aside0.mk (del_startW HP0.out HN.out hi0)
    clear hne
    go_loopg [5, 6] l.length (fun kq v5 v6 w' => ∃ (i j : Nat) (xs : List S31), v5 = .int .i64 i ∧ v6 = .int .i64 j ∧ l.length < j + kq ∧ i < j ∧ j ≤ l.length ∧ xs.length = l.length ∧ Aside0 (DelInvW (othW name) l i j xs) ∧ Aside0 (O k31 31 w' B ok (.slice (some ⟨g, 0, none⟩) l.length c) xs) ∧ Aside0 (w.grownBy w' (some g)) ∧ Aside0 (B ≤ w'.heap.size) ∧ Aside0 (VarS w' b name))
    case atStart => exact ⟨i0, i0 + 1, l, rfl, by go_num, by omega, by omega, by omega, rfl, hstart, ⟨O_below HO.out HB.out⟩, ⟨grown_of_below HB.out _⟩, ⟨Nat.le_trans hB HB.out.size⟩, ⟨HV.out.below HB.out⟩⟩
    case round =>
      obtain ⟨i, j, xs, rfl, rfl, hjk, hij, hjl, hxl, HI, HO1, HG, HBs, HV1⟩ := hrel
      by_cases hlt : j < l.length
      · obtain ⟨A1, c1, hx0, hx1, hx2, hx3, hfk⟩ := O_at31 HO1.out j (by omega)
        obtain ⟨A2, c2, hy0, hy1, hy2, hy3, _⟩ := O_at31 HO1.out i (by omega)
        have HX := Aside0.mk (del_atW HI.out hlt)
        obtain ⟨x, hxe⟩ : ∃ x, xs.getD j z31 = x := ⟨_, rfl⟩
        obtain ⟨y, hye⟩ : ∃ y, xs.getD i z31 = y := ⟨_, rfl⟩
        rw [hxe] at hx0 hx1 hx2 hx3 hfk HX
        rw [hye] at hy0 hy1 hy2 hy3
        clear hxe hye
        obtain ⟨k1, rfl⟩ : ∃ k1, gk = k1 + 1 := ⟨gk - 1, by omega⟩
        obtain ⟨cur, hh⟩ := O_block HO1.out
        have hfz : ∀ k, wr.frozen? ⟨g, k, none⟩ = false := blk_frozen hh
        have HH := Aside0.mk hh
        have HFK := Aside0.mk hfk
        clear hh hfk
        cases hp : othW name x
        · have hp' : (x.f0.toList != name.toList) = false := hp
          have HP := Aside0.mk hp
          clear hp
          go_wp2_with (go_at_call 73; refine (othW_calls name b _ _ _ _ _ (HV1.out.below (below_alloc (Below.refl _ _) _))).mono ?_; rintro e w2 ⟨rfl, hb⟩; rw [hp']; have hz0 := pw_cell_below hb (cell_later hy0); have hz1 := pw_cell_below hb (cell_later hy1); have hz2 := pw_cell_below hb (cell_later hy2); have hz3 := pw_cell_below hb (cell_later hy3); have hb0 := pw_cell_below hb (cell_new wr _ 31 0 _ rfl); have hb1 := pw_cell_below hb (cell_new wr _ 31 1 _ rfl); have hb2 := pw_cell_below hb (cell_new wr _ 31 2 _ rfl); have hb3 := pw_cell_below hb (cell_new wr _ 31 3 _ rfl); have hh2 := blk_stays hb (blk_alloc HH.out _); have hf0 := blk_frozen hh2 (i * 4); have hf1 := blk_frozen hh2 (i * 4 + 1); have hf2 := blk_frozen hh2 (i * 4 + 2); have hf3 := blk_frozen hh2 (i * 4 + 3); have HB2 := Aside0.mk hb; have HH2 := Aside0.mk hh2; clear hb hh2 hy0 hy1 hy2 hy3 hx0 hx1 hx2 hx3 hfz hp')
          go_roundg k1
          case measure => omega
          case rel =>
            have hb' : Below wr.heap.size wr w2 := below_step (below_alloc (Below.refl _ _) _) HB2.out
            have hgr : g < wr.heap.size := blk_lt HH.out
            have hbig : (i + 1) * 4 ≤ cur.size := by
              obtain ⟨g', cap', cur', he, _, _, hh', h3, _, h5, _⟩ := O_open HO1.out (by omega)
              injection he with he1 he2 he3
              injection he1 with he1
              injection he1 with he1
              subst he1
              rw [HH.out] at hh'
              injection hh' with hh'
              injection hh' with hh'
              subst hh'
              rw [h5]
              exact Nat.mul_le_mul_right 4 (by omega)
            refine ⟨i + 1, j + 1, xs.set i x, by go_num, by go_num, by omega, by omega, by omega, by rw [List.length_set]; exact hxl, ⟨?_⟩, ⟨?_⟩, ⟨?_⟩, ⟨?_⟩, ⟨?_⟩⟩
            · rw [HX.out]
              exact del_keepW HI.out hij hlt hxl (by rw [← HX.out]; exact HP.out)
            · refine O_set (O_below HO1.out hb') i (by omega) x _ cur HH2.out (Kd.FK_below HFK.out hb') ?_ ?_
              · have := blk_set (blk_set (blk_set (blk_set HH2.out (i * 4) (.string x.f0)) (i * 4 + 1) (.int .i64 x.f1)) (i * 4 + 2) (.int .i64 x.f2)) (i * 4 + 3) (.slice A1 x.f3.length c1)
                rw [set4 _ _ _ _ _ _ (by omega)] at this
                exact this
              · intro k _ hk
                rw [Below.heap_setCell _ _ _ _ hk, Below.heap_setCell _ _ _ _ hk, Below.heap_setCell _ _ _ _ hk, Below.heap_setCell _ _ _ _ hk]
            · exact grownBy.setCell_row (grownBy.setCell_row (grownBy.setCell_row (grownBy.setCell_row (grownBy.trans_below HG.out hb') _ _) _ _) _ _) _ _
            · have := HBs.out; have := hb'.size; simp only [World.setCell, Array.size_modify]; omega
            · have hv := HV1.out.below hb'
              have hbg : b ≠ g := fun he => by
                subst he
                have h1 := HH2.out
                have h2 : w2.heap[b]? = _ := hv
                rw [h1] at h2
                injection h2 with h2
                injection h2 with _ h2
                exact absurd h2 (by decide)
              unfold VarS
              rw [Below.heap_setCell _ _ _ _ hbg, Below.heap_setCell _ _ _ _ hbg, Below.heap_setCell _ _ _ _ hbg, Below.heap_setCell _ _ _ _ hbg]
              exact hv
        · have hp' : (x.f0.toList != name.toList) = true := hp
          have HP := Aside0.mk hp
          clear hp
          go_wp2_with (go_at_call 73; refine (othW_calls name b _ _ _ _ _ (HV1.out.below (below_alloc (Below.refl _ _) _))).mono ?_; rintro e w2 ⟨rfl, hb⟩; rw [hp']; have HB2 := Aside0.mk hb; clear hb hy0 hy1 hy2 hy3 hx0 hx1 hx2 hx3 hfz hp')
          go_roundg k1
          case measure => omega
          case rel =>
            have hb' : Below wr.heap.size wr w2 := below_step (below_alloc (Below.refl _ _) _) HB2.out
            exact ⟨i, j + 1, xs, rfl, by go_num, by omega, by omega, by omega, hxl, ⟨del_skipW HI.out hlt (by rw [← HX.out]; exact HP.out)⟩, ⟨O_below HO1.out hb'⟩, ⟨grownBy.trans_below HG.out hb'⟩, ⟨Nat.le_trans HBs.out hb'.size⟩, ⟨HV1.out.below hb'⟩⟩
      · have hge : l.length ≤ j := by omega
        clear hlt
        obtain ⟨cur, hh⟩ := O_block HO1.out
        have HH := Aside0.mk hh
        clear hh
        have hci : (c == i) = false := by simp; omega
        have hfit : i * 4 + (l.length - i) * 4 ≤ cur.size := by
          obtain ⟨g', cap', cur', he, _, _, hh', h3, _, h5, _⟩ := O_open HO1.out (by omega)
          injection he with he1 he2 he3
          injection he1 with he1
          injection he1 with he1
          subst he1
          rw [HH.out] at hh'
          injection hh' with hh'
          injection hh' with hh'
          subst hh'
          rw [h5, show k31.sz = 4 from rfl]
          omega
        have HFIT := Aside0.mk hfit
        clear hfit
        go_wp2_with (refine wpList_clear_row rfl (.tmp 38) 104 rfl Try.underlying104 zero31 (by intro u hu; simp [Value.cells] at hu; rcases hu with rfl | rfl | rfl | rfl <;> rfl) g (i * 4) (l.length - i) (c - i) rfl (by omega) HH.out (by have := HFIT.out; simpa [Value.cells] using this) ?_; intro w2 cur2 h1 h2 h3 h4; have K1 := Aside0.mk h1; have K2 := Aside0.mk h2; have K3 := Aside0.mk h3; have K4 := Aside0.mk h4; clear h1 h2 h3 h4)
        go_ret
        have hfl := del_endW HI.out hge
        refine ⟨_, rfl, ?_, ⟨K4.out.os.trans HG.out.os, K4.out.tape.trans HG.out.tape, K4.out.output.trans HG.out.output, Nat.le_trans HG.out.size K4.out.size, fun k hk hr => (K4.out.block k (Nat.lt_of_lt_of_le hk HG.out.size) hr).trans (HG.out.block k hk hr)⟩, rfl⟩
        rw [← hfl]
        obtain ⟨g', cap', cur', he, hg', _, hh', h3, h4, h5, hr⟩ := O_open HO1.out (by omega)
        injection he with he1 he2 he3
        injection he1 with he1
        injection he1 with he1
        subst he1 he3
        rw [HH.out] at hh'
        injection hh' with hh'
        injection hh' with hh'
        subst hh'
        have hl2 : (xs.take i).length = i := by rw [List.length_take]; omega
        have := O_mk (d := k31) (ok := ok) (xs := xs.take i) (cap := c) hg' K1.out (by omega) h4 (by rw [K2.out]; exact h5) (by
          have hr2 := (Kd.reps_take hr (m := i) (by omega)).imp_ (R' := fun x c => Kd.FK k31 w2 (fun k => ok k ∧ k ≠ g) x c) fun y c hy => Kd.FK_grown hy K4.out fun k hk he => hk.2 (by injection he)
          rw [List.take_take, Nat.min_eq_left (Nat.mul_le_mul_right _ (by omega))] at hr2
          rw [hl2, show i * k31.sz = i * 4 from rfl, K3.out]
          exact hr2)
        rw [hl2] at this
        exact this

end Go.Proofs.Ytcgeioingikeeaa.P
