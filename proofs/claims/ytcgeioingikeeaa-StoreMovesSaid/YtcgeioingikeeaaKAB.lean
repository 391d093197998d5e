/- The store's closures over writes (is this write the file's, is it another's); slices.IndexFunc, DeleteFunc and Clone over writes. By a program of this seat (wip/tools/mkK1.py). What writes do to files, one after the other, plainly; store.done with each of its two closures. By a program of this seat (wip/tools/mkK2.py). -/
import Derived.Test.YtcgeioingikeeaaH5
import Derived.Deep.RegionHeld3
import Derived.Test.YtcgeioingikeeaaGH
namespace Go.Proofs.Ytcgeioingikeeaa.P
open Go.RowKit Go.Proofs.YtcgeioingikeeaaW.PrintWords Go.Proofs.YtcgeioingikeeaaW.PrintLast Go.Proofs.YtcgeioingikeeaaW.PrintMore
set_option linter.unusedVariables false
set_option linter.unusedSimpArgs false
attribute [local go_sem] str_geq str_gtr str_leq

/-- A captured variable that holds a text. -/
def VarS (w : World) (b : Nat) (name : ByteArray) : Prop := w.heap[b]? = some (.cells #[.string name] 9 (0, 0))
theorem VarS.below {w w1 : World} {b : Nat} {name : ByteArray} (h : VarS w b name) (hb : Below w.heap.size w w1) : VarS w1 b name := blk_stays hb h
theorem VarS.cell {w : World} {b : Nat} {name : ByteArray} (h : VarS w b name) : w.cell? ⟨b, 0, none⟩ = some (.string name) := by
  rw [cell_of_row w b 0 _ 9 (0, 0) h]; rfl
def ownW (name : ByteArray) (x : S31) : Bool := x.f0.toList == name.toList
def othW (name : ByteArray) (x : S31) : Bool := x.f0.toList != name.toList
set_option maxHeartbeats 1000000 in
theorem ownW_calls (name : ByteArray) (b : Nat) (x0 : ByteArray) (x1 x2 : Int) (v : Value) (W : World) (h : VarS W b name) :
    Calls Try.prog 95 #[.agg #[.string x0, .int .i64 x1, .int .i64 x2, v], .pointer (some ⟨b, 0, none⟩)] W fun e W' => e = .returned (.bool (x0.toList == name.toList)) ∧ Below W.heap.size W W' := by
  have hc := cell_later (o := Obj.cells #[.string x0, .int .i64 x1, .int .i64 x2, v] 31) h.cell
  have H := Aside0.mk h
  clear h
  go_enter Try.func95, Try.ntmps95
  go_wp2
  go_ret
  exact ⟨rfl, (Below.refl _ _).alloc (Nat.le_refl _) _⟩
set_option maxHeartbeats 1000000 in
theorem othW_calls (name : ByteArray) (b : Nat) (x0 : ByteArray) (x1 x2 : Int) (v : Value) (W : World) (h : VarS W b name) :
    Calls Try.prog 73 #[.agg #[.string x0, .int .i64 x1, .int .i64 x2, v], .pointer (some ⟨b, 0, none⟩)] W fun e W' => e = .returned (.bool (x0.toList != name.toList)) ∧ Below W.heap.size W W' := by
  have hc := cell_later (o := Obj.cells #[.string x0, .int .i64 x1, .int .i64 x2, v] 31) h.cell
  have H := Aside0.mk h
  clear h
  go_enter Try.func73, Try.ntmps73
  go_wp2
  go_ret
  exact ⟨rfl, (Below.refl _ _).alloc (Nat.le_refl _) _⟩

/-- The first that is so, or -1. -/
def idxOfW (p : S31 → Bool) (l : List S31) : Int := match l.findIdx? p with | some i => (i : Int) | none => -1
theorem idxOf_atW {p : S31 → Bool} {l : List S31} (i : Nat) (hi : i < l.length) (hp : p (l.getD i z31) = true) (hn : ∀ j, j < i → p (l.getD j z31) = false) : idxOfW p l = i := by
  have : l.findIdx? p = some i := by
    rw [List.findIdx?_eq_some_iff_getElem]
    refine ⟨hi, by simpa [List.getD_eq_getElem?_getD, List.getElem?_eq_getElem hi] using hp, fun j hj => ?_⟩
    have := hn j hj
    rw [List.getD_eq_getElem?_getD, List.getElem?_eq_getElem (by omega)] at this
    simpa using this
  unfold idxOfW; rw [this]
theorem all_succW {p : S31 → Bool} {l : List S31} {i : Nat} (hn : ∀ j, j < i → p (l.getD j z31) = false) (h : p (l.getD i z31) = false) : ∀ j, j < i + 1 → p (l.getD j z31) = false := by
  intro j hj
  rcases Nat.lt_or_ge j i with h1 | h1
  · exact hn j h1
  · obtain rfl : j = i := by omega
    exact h
theorem idxOf_noneW {p : S31 → Bool} {l : List S31} (hn : ∀ j, j < l.length → p (l.getD j z31) = false) : idxOfW p l = -1 := by
  have : l.findIdx? p = none := by
    rw [List.findIdx?_eq_none_iff]
    intro x hx
    obtain ⟨j, hj, rfl⟩ := List.mem_iff_getElem.1 hx
    have := hn j hj
    rwa [List.getD_eq_getElem?_getD, List.getElem?_eq_getElem hj] at this
  unfold idxOfW; rw [this]


set_option maxHeartbeats 2000000 in
theorem index_ownW (name : ByteArray) (b : Nat) (A0 : Option Addr) (c0 : Nat) (l0 : List S31) (w : World) (hb0 : VarS w b name) (hr0 : Kd.C k31 w A0 l0.length l0) :
    Calls Try.prog 94 #[.slice A0 l0.length c0, .func (.func 95) #[] #[.pointer (some ⟨b, 0, none⟩)]] w fun e w' => e = .returned (.int .i64 (idxOfW (ownW name) l0)) ∧ Below w.heap.size w w' := by
  have HR := Aside0.mk hr0
  have HV := Aside0.mk hb0
  clear hb0
  have hmax := Kd.C_max hr0
  clear hr0
  go_enter Try.func94, Try.ntmps94
  go_wp2
  go_loopg [8] l0.length (fun kq v8 w' => ∃ i : Nat, v8 = .int .i64 i ∧ i + kq = l0.length ∧ Aside0 (∀ j, j < i → ownW name (l0.getD j z31) = false) ∧ Aside0 (Below w.heap.size w w'))
  case atStart => exact ⟨0, rfl, by omega, ⟨fun j hj => absurd hj (by omega)⟩, ⟨Below.refl _ _⟩⟩
  case round =>
    obtain ⟨i, rfl, hi, HN, HB⟩ := hrel
    by_cases hlt : i < l0.length
    · obtain ⟨ad, A1, c1, e1, hx0, hx1, hx2, hx3, _, _⟩ := at_T31 (Kd.C_below HR.out HB.out) (i : Int) (by omega) (by omega)
      cases e1
      rw [Int.toNat_natCast] at hx0 hx1 hx2 hx3
      have HRD : rd_T31 l0 (i : Int) = l0.getD i z31 := by unfold rd_T31; rw [Int.toNat_natCast]
      rw [HRD] at hx0 hx1 hx2 hx3
      clear HRD
      obtain ⟨x, hxe⟩ : ∃ x, l0.getD i z31 = x := ⟨_, rfl⟩
      rw [hxe] at hx0 hx1 hx2 hx3
      have HX := Aside0.mk hxe
      clear hxe
      obtain ⟨k1, rfl⟩ : ∃ k1, gk = k1 + 1 := ⟨gk - 1, by omega⟩
      cases hp : ownW name x
      · have HP := Aside0.mk hp
        have hp' : (x.f0.toList == name.toList) = false := hp
        clear hp
        go_wp2_with (go_at_call 95; refine (ownW_calls name b _ _ _ _ _ (HV.out.below HB.out)).mono ?_; rintro e w1 ⟨rfl, hb⟩; have HB1 := Aside0.mk (below_step HB.out hb); clear hb HB; rw [hp'])
        go_roundg k1
        case measure => omega
        case rel => exact ⟨i + 1, by go_num, by omega, ⟨all_succW HN.out (by rw [HX.out]; exact HP.out)⟩, HB1⟩
      · have HP := Aside0.mk hp
        have hp' : (x.f0.toList == name.toList) = true := hp
        clear hp
        go_wp2_with (go_at_call 95; refine (ownW_calls name b _ _ _ _ _ (HV.out.below HB.out)).mono ?_; rintro e w1 ⟨rfl, hb⟩; have HB1 := Aside0.mk (below_step HB.out hb); clear hb HB; rw [hp'])
        go_ret
        exact ⟨by rw [idxOf_atW i hlt (by rw [HX.out]; exact HP.out) HN.out]; rfl, HB1.out⟩
    · have hge : l0.length ≤ i := by omega
      clear hlt
      go_wp2
      go_ret
      exact ⟨by rw [idxOf_noneW (by intro j hj; exact HN.out j (by omega))]; rfl, HB.out⟩


set_option maxHeartbeats 2000000 in
theorem index_othW (name : ByteArray) (b : Nat) (A0 : Option Addr) (c0 : Nat) (l0 : List S31) (w : World) (hb0 : VarS w b name) (hr0 : Kd.C k31 w A0 l0.length l0) :
    Calls Try.prog 94 #[.slice A0 l0.length c0, .func (.func 73) #[] #[.pointer (some ⟨b, 0, none⟩)]] w fun e w' => e = .returned (.int .i64 (idxOfW (othW name) l0)) ∧ Below w.heap.size w w' := by
  have HR := Aside0.mk hr0
  have HV := Aside0.mk hb0
  clear hb0
  have hmax := Kd.C_max hr0
  clear hr0
  go_enter Try.func94, Try.ntmps94
  go_wp2
  go_loopg [8] l0.length (fun kq v8 w' => ∃ i : Nat, v8 = .int .i64 i ∧ i + kq = l0.length ∧ Aside0 (∀ j, j < i → othW name (l0.getD j z31) = false) ∧ Aside0 (Below w.heap.size w w'))
  case atStart => exact ⟨0, rfl, by omega, ⟨fun j hj => absurd hj (by omega)⟩, ⟨Below.refl _ _⟩⟩
  case round =>
    obtain ⟨i, rfl, hi, HN, HB⟩ := hrel
    by_cases hlt : i < l0.length
    · obtain ⟨ad, A1, c1, e1, hx0, hx1, hx2, hx3, _, _⟩ := at_T31 (Kd.C_below HR.out HB.out) (i : Int) (by omega) (by omega)
      cases e1
      rw [Int.toNat_natCast] at hx0 hx1 hx2 hx3
      have HRD : rd_T31 l0 (i : Int) = l0.getD i z31 := by unfold rd_T31; rw [Int.toNat_natCast]
      rw [HRD] at hx0 hx1 hx2 hx3
      clear HRD
      obtain ⟨x, hxe⟩ : ∃ x, l0.getD i z31 = x := ⟨_, rfl⟩
      rw [hxe] at hx0 hx1 hx2 hx3
      have HX := Aside0.mk hxe
      clear hxe
      obtain ⟨k1, rfl⟩ : ∃ k1, gk = k1 + 1 := ⟨gk - 1, by omega⟩
      cases hp : othW name x
      · have HP := Aside0.mk hp
        have hp' : (x.f0.toList != name.toList) = false := hp
        clear hp
        go_wp2_with (go_at_call 73; refine (othW_calls name b _ _ _ _ _ (HV.out.below HB.out)).mono ?_; rintro e w1 ⟨rfl, hb⟩; have HB1 := Aside0.mk (below_step HB.out hb); clear hb HB; rw [hp'])
        go_roundg k1
        case measure => omega
        case rel => exact ⟨i + 1, by go_num, by omega, ⟨all_succW HN.out (by rw [HX.out]; exact HP.out)⟩, HB1⟩
      · have HP := Aside0.mk hp
        have hp' : (x.f0.toList != name.toList) = true := hp
        clear hp
        go_wp2_with (go_at_call 73; refine (othW_calls name b _ _ _ _ _ (HV.out.below HB.out)).mono ?_; rintro e w1 ⟨rfl, hb⟩; have HB1 := Aside0.mk (below_step HB.out hb); clear hb HB; rw [hp'])
        go_ret
        exact ⟨by rw [idxOf_atW i hlt (by rw [HX.out]; exact HP.out) HN.out]; rfl, HB1.out⟩
    · have hge : l0.length ≤ i := by omega
      clear hlt
      go_wp2
      go_ret
      exact ⟨by rw [idxOf_noneW (by intro j hj; exact HN.out j (by omega))]; rfl, HB.out⟩


theorem info31 : (Try.prog.info? 31).map (fun i => (i.zero, i.size, i.bytes)) = some (some (.agg #[(.string ⟨#[]⟩), (.int .i64 0), (.int .i64 0), (.slice none 0 0)]), 4, 56) := by kernel_rfl
set_option maxHeartbeats 2000000 in
theorem cloneW (ok : Nat → Prop) (A0 : Option Addr) (c0 : Nat) (l0 : List S31) (w : World) (hf : Kd.F k31 w ok A0 l0.length l0) (hlen : l0.length ≤ 1000000) :
    Calls Try.prog 71 #[.slice A0 l0.length c0] w fun e w' => ∃ v, e = .returned v ∧ O k31 31 w' w.heap.size (fun k => ok k ∧ k < w.heap.size) v l0 ∧ Below w.heap.size w w' := by
  have hF := Kd.F_bound hf
  clear hf
  have hnil := Lib.run_eql_slice_nil (P := Try.prog)
  cases A0 with
  | none =>
    have h0 := C_none (Kd.F_now hF)
    subst h0
    go_enter Try.func71, Try.ntmps71
    go_wp2
    go_ret
    exact ⟨_, rfl, O_nil _ _ _ _ _, Below.refl _ _⟩
  | some a =>
    rcases Nat.eq_zero_or_pos l0.length with h0 | h0
    · obtain rfl := List.eq_nil_of_length_eq_zero h0
      clear h0 hlen
      go_enter Try.func71, Try.ntmps71
      go_wp2_with (at_builtin; refine wpList_append_nothing rfl _ _ 104 rfl Try.underlying104 info31 (some ⟨w.heap.size, 0, none⟩) 0 0 a c0 rfl rfl ?_)
      go_ret
      exact ⟨_, rfl, ⟨[], own_empty _ _ _, Reps.none _ _⟩, (Below.refl _ _).alloc (Nat.le_refl _) _⟩
    · obtain ⟨ad, cs, e1, hreps, hcs⟩ := row_cells (Kd.F_rows hF) h0
      cases e1
      obtain ⟨i0, hi, hz0, hz1, hz2⟩ := info_parts info31
      have hl := hreps.1
      have hone := Kd.reps_one hreps (by decide) (fun _ _ hx => (FK_one hx).2)
      have HR := Aside0.mk hreps
      have HC := Aside0.mk hcs
      have HI := Aside0.mk hi
      have HZ0 := Aside0.mk hz0
      have HZ1 := Aside0.mk hz1
      have HZ2 := Aside0.mk hz2
      have HL := Aside0.mk hl
      have H1 := Aside0.mk hone
      clear hreps hcs hi hz0 hz1 hz2 hl hone hF
      go_enter Try.func71, Try.ntmps71
      go_wp2_with (at_builtin; refine wpList_append_grows _ rfl _ _ 104 rfl 31 i0 _ 4 56 Try.underlying104 HI.out HZ0.out HZ1.out HZ2.out rfl (by decide) (some ⟨w.heap.size, 0, none⟩) 0 0 [] rfl (fun h => by cases h) rfl (fun _ _ j u hu => by simp at hu) a l0.length c0 cs rfl HL.out ?ce H1.out (by omega) (by unfold maxLen; omega) (by omega) ?kk; (case ce => intro j u hu; exact cell_later (HC.out j u hu)); intro v' w1 hown hgrow; have HO := Aside0.mk hown; have HG := Aside0.mk hgrow; clear hown hgrow)
      go_ret
      have hb1 : Below w.heap.size w w1 := (((Below.refl _ _).alloc (Nat.le_refl _) _).grown HG.out (by simp) (fun k hk => by cases hk))
      have hown := HO.out
      rw [Nat.zero_add, List.nil_append] at hown
      refine ⟨_, rfl, ⟨cs, own_weaken hown (by simp), HR.out.imp_ fun x c hx => ?_⟩, hb1⟩
      refine Kd.FK_mono (Kd.FK_step (Kd.FK_bound hx) (fun k hk hlt => hb1.block k hlt)) (fun k hk => ⟨hk.1, fun he => ?_⟩)
      have h1 := own_base hown k he.symm
      have h2 := hk.2
      rw [World.size_alloc] at h1
      omega




theorem set4 (cur : Array Value) (a : Nat) (u v x y : Value) (h : a + 4 ≤ cur.size) : (((cur.setIfInBounds a u).setIfInBounds (a + 1) v).setIfInBounds (a + 2) x).setIfInBounds (a + 3) y = (cur.toList.take a ++ [u, v, x, y] ++ cur.toList.drop (a + [u, v, x, y].length)).toArray := by
  apply Array.ext'
  simp only [Array.toList_setIfInBounds]
  apply List.ext_getElem?
  intro k
  simp only [List.getElem?_set, List.length_set, Array.length_toList, List.append_assoc, List.getElem?_append, List.length_take, List.length_cons, List.length_nil, List.getElem?_take, List.getElem?_drop]
  rw [Nat.min_eq_left (by omega : a ≤ cur.size)]
  by_cases h1 : k < a
  · simp [h1, show ¬ a + 3 = k by omega, show ¬ a + 2 = k by omega, show ¬ a + 1 = k by omega, show ¬ a = k by omega]
  · by_cases h2 : k = a
    · subst h2; simp [show k < cur.size by omega]
    · by_cases h3 : k = a + 1
      · subst h3; simp [show a + 1 < cur.size by omega, show ¬ a + 1 < a by omega]
      · by_cases h4 : k = a + 2
        · subst h4; simp [show a + 2 < cur.size by omega, show ¬ a + 2 < a by omega]
        · by_cases h5 : k = a + 3
          · subst h5; simp [show a + 3 < cur.size by omega, show ¬ a + 3 < a by omega]
          · simp [h1, show ¬ a + 3 = k by omega, show ¬ a + 2 = k by omega, show ¬ a + 1 = k by omega, show ¬ a = k by omega, show ¬ k - a < 4 by omega, show a + 4 + (k - a - 4) = k by omega]
theorem O_at31 {w : World} {base : Nat} {ok : Nat → Prop} {xs : List S31} {g cap n : Nat} (h : O k31 31 w base ok (.slice (some ⟨g, 0, none⟩) n cap) xs) (j : Nat) (hj : j < xs.length) :
    ∃ A1 c1, w.cell? ⟨g, j * 4, none⟩ = some (.string (xs.getD j z31).f0) ∧ w.cell? ⟨g, j * 4 + 1, none⟩ = some (.int .i64 (xs.getD j z31).f1) ∧ w.cell? ⟨g, j * 4 + 2, none⟩ = some (.int .i64 (xs.getD j z31).f2) ∧ w.cell? ⟨g, j * 4 + 3, none⟩ = some (.slice A1 (xs.getD j z31).f3.length c1) ∧
      Kd.FK k31 w (fun k => ok k ∧ k ≠ g) (xs.getD j z31) [.string (xs.getD j z31).f0, .int .i64 (xs.getD j z31).f1, .int .i64 (xs.getD j z31).f2, .slice A1 (xs.getD j z31).f3.length c1] := by
  obtain ⟨g', cap', cur, he, hg, _, hh, h3, h4, h5, hr⟩ := O_open h (by omega)
  injection he with he1 he2 he3
  injection he1 with he1
  injection he1 with he1
  subst he1
  have hx := hr.2 j _ (List.getElem?_eq_getElem hj)
  have hxe : xs.getD j z31 = xs[j] := by rw [List.getD_eq_getElem?_getD, List.getElem?_eq_getElem hj]; rfl
  rw [hxe]
  obtain ⟨A1, c1, he, _, _⟩ := k31_open (Kd.FK_now hx)
  have hb : j * 4 + 4 ≤ xs.length * 4 := by omega
  have hsz : cur.size = cap' * 4 := h5
  have hsz2 : k31.sz = 4 := rfl
  rw [hsz2] at he hx
  have hat : ∀ i u, i < 4 → ([.string (xs[j]).f0, .int .i64 (xs[j]).f1, .int .i64 (xs[j]).f2, .slice A1 (xs[j]).f3.length c1] : List Value)[i]? = some u → w.cell? ⟨g, j * 4 + i, none⟩ = some u := by
    intro i u hi hu
    have := congrArg (fun l => l[i]?) he
    simp only [List.getElem?_take, List.getElem?_drop] at this
    rw [if_pos (by omega), if_pos (by omega)] at this
    rw [cell_of_row w g _ cur 31 (0, 0) hh]
    rw [hu] at this
    simpa using this
  exact ⟨A1, c1, hat 0 _ (by omega) rfl, hat 1 _ (by omega) rfl, hat 2 _ (by omega) rfl, hat 3 _ (by omega) rfl, by rw [← he]; exact hx⟩
theorem zero31 (w : World) : (zeroValue 31).run Try.prog w = .ok (.agg #[.string ⟨#[]⟩, .int .i64 0, .int .i64 0, .slice none 0 0]) w := by kernel_rfl

/-- What the loop of DeleteFunc keeps: of the first j those that stay stand at the front. -/
def DelInvW (p : S31 → Bool) (l : List S31) (i j : Nat) (xs : List S31) : Prop := xs.take i = (l.take j).filter (fun x => !p x) ∧ xs.drop j = l.drop j
theorem del_startW {p : S31 → Bool} {l : List S31} {i0 : Nat} {h : i0 < l.length} (hp : p l[i0] = true) (hn : ∀ (j : Nat) (hji : j < i0), ¬p (l[j]'(by omega)) = true) (_ : i0 < l.length) : DelInvW p l i0 (i0 + 1) l := by
  refine ⟨?_, rfl⟩
  rw [List.take_succ_eq_append_getElem h, List.filter_append]
  have h1 : (l.take i0).filter (fun x => !p x) = l.take i0 := by
    rw [List.filter_eq_self]
    intro x hx
    obtain ⟨j, hj, rfl⟩ := List.mem_iff_getElem.1 hx
    rw [List.length_take] at hj
    have := hn j (by omega)
    simp at this
    simp [this]
  rw [h1]
  simp [hp]
theorem del_atW {p : S31 → Bool} {l xs : List S31} {i j : Nat} (h : DelInvW p l i j xs) (hj : j < l.length) : xs.getD j z31 = l.getD j z31 := by
  have := congrArg (fun l => l.head?) h.2
  simp only [List.head?_drop] at this
  rw [List.getD_eq_getElem?_getD, List.getD_eq_getElem?_getD, this]
theorem del_skipW {p : S31 → Bool} {l xs : List S31} {i j : Nat} (h : DelInvW p l i j xs) (hj : j < l.length) (hp : p (l.getD j z31) = true) : DelInvW p l i (j + 1) xs := by
  have he : l.getD j z31 = l[j] := by rw [List.getD_eq_getElem?_getD, List.getElem?_eq_getElem hj]; rfl
  rw [he] at hp
  refine ⟨?_, by rw [← List.drop_drop, h.2, List.drop_drop]⟩
  rw [h.1, List.take_succ_eq_append_getElem hj, List.filter_append]
  simp [hp]
theorem del_keepW {p : S31 → Bool} {l xs : List S31} {i j : Nat} (h : DelInvW p l i j xs) (hij : i < j) (hj : j < l.length) (hl : xs.length = l.length) (hp : p (l.getD j z31) = false) : DelInvW p l (i + 1) (j + 1) (xs.set i (l.getD j z31)) := by
  have he : l.getD j z31 = l[j] := by rw [List.getD_eq_getElem?_getD, List.getElem?_eq_getElem hj]; rfl
  rw [he] at hp ⊢
  refine ⟨?_, ?_⟩
  · rw [List.take_succ_eq_append_getElem hj, List.filter_append, ← h.1]
    rw [List.take_succ_eq_append_getElem (by rw [List.length_set]; omega), List.take_set_of_le (Nat.le_refl _)]
    simp [hp]
  · rw [List.drop_set_of_lt (by omega), ← List.drop_drop, h.2, List.drop_drop]

theorem del_endW {p : S31 → Bool} {l xs : List S31} {i j : Nat} (h : DelInvW p l i j xs) (hj : l.length ≤ j) : xs.take i = l.filter (fun x => !p x) := by
  rw [h.1, List.take_of_length_le hj]

set_option maxHeartbeats 4000000 in
set_option maxRecDepth 100000 in
theorem delete_ownW (ok : Nat → Prop) (B : Nat) (name : ByteArray) (b : Nat) (v : Value) (l : List S31) (w : World) (ho : O k31 31 w B ok v l) (hB : B ≤ w.heap.size) (hlen : l.length ≤ 1000001) (hb0 : VarS w b name) :
    Calls Try.prog 72 #[v, .func (.func 95) #[] #[.pointer (some ⟨b, 0, none⟩)]] w fun e w' => ∃ v', e = .returned v' ∧ O k31 31 w' B ok v' (l.filter fun x => !ownW name x) ∧ w.grownBy w' v.ownBlock ∧ v'.ownBlock = v.ownBlock := by
  have HO := Aside0.mk ho
  have HV := Aside0.mk hb0
  have hV := O_V ho
  obtain ⟨A, c, rfl⟩ := O_slice ho
  have hC := (Kd.V_reads' hV).2.2
  have hIdx := index_ownW name b A c l w hb0 hC
  clear hV ho hb0
  rcases hfi : l.findIdx? (ownW name) with _ | i0
  · have hid : idxOfW (ownW name) l = -1 := by unfold idxOfW; rw [hfi]
    have hfl : (l.filter fun x => !ownW name x) = l := by
      rw [List.filter_eq_self]
      intro x hx
      have := List.findIdx?_eq_none_iff.1 hfi x hx
      simp [this]
    rw [hid] at hIdx
    have HF := Aside0.mk hfl
    clear hid hfl hfi hC
    go_enter Try.func72, Try.ntmps72
    go_wp2_with (go_at_call 94; refine hIdx.mono ?_; rintro e w1 ⟨rfl, hb⟩; have HB := Aside0.mk hb; clear hb)
    go_ret
    exact ⟨_, rfl, by rw [HF.out]; exact O_below HO.out HB.out, grown_of_below HB.out _, rfl⟩
  · have hid : idxOfW (ownW name) l = (i0 : Int) := by unfold idxOfW; rw [hfi]
    rw [hid] at hIdx
    obtain ⟨hi0, hp0, hn0⟩ := List.findIdx?_eq_some_iff_getElem.1 hfi
    clear hid hfi hC
    obtain ⟨g, cap, cur0, he, hg, hgs, _, h30, h40, _, _⟩ := O_open HO.out (by omega)
    injection he with he1 _ he3
    subst he1 he3
    have HN := Aside0.mk hn0
    have HP0 := Aside0.mk hp0
    clear hn0 hp0
    have hne : ((i0 : Int) == -1) = false := by simp
    go_enter Try.func72, Try.ntmps72
    go_wp2_with (go_at_call 94; refine hIdx.mono ?_; rintro e w1 ⟨rfl, hb⟩; have HB := Aside0.mk hb; clear hb)
    have hstart := Aside0.mk (del_startW HP0.out HN.out hi0)
    clear hne
    go_loopg [5, 6] l.length (fun kq v5 v6 w' => ∃ (i j : Nat) (xs : List S31), v5 = .int .i64 i ∧ v6 = .int .i64 j ∧ l.length < j + kq ∧ i < j ∧ j ≤ l.length ∧ xs.length = l.length ∧ Aside0 (DelInvW (ownW name) l i j xs) ∧ Aside0 (O k31 31 w' B ok (.slice (some ⟨g, 0, none⟩) l.length c) xs) ∧ Aside0 (w.grownBy w' (some g)) ∧ Aside0 (B ≤ w'.heap.size) ∧ Aside0 (VarS w' b name))
    case atStart => exact ⟨i0, i0 + 1, l, rfl, by go_num, by omega, by omega, by omega, rfl, hstart, ⟨O_below HO.out HB.out⟩, ⟨grown_of_below HB.out _⟩, ⟨Nat.le_trans hB HB.out.size⟩, ⟨HV.out.below HB.out⟩⟩
    case round =>
      obtain ⟨i, j, xs, rfl, rfl, hjk, hij, hjl, hxl, HI, HO1, HG, HBs, HV1⟩ := hrel
      by_cases hlt : j < l.length
      · obtain ⟨A1, c1, hx0, hx1, hx2, hx3, hfk⟩ := O_at31 HO1.out j (by omega)
        obtain ⟨A2, c2, hy0, hy1, hy2, hy3, _⟩ := O_at31 HO1.out i (by omega)
        have HX := Aside0.mk (del_atW HI.out hlt)
        obtain ⟨x, hxe⟩ : ∃ x, xs.getD j z31 = x := ⟨_, rfl⟩
        obtain ⟨y, hye⟩ : ∃ y, xs.getD i z31 = y := ⟨_, rfl⟩
        rw [hxe] at hx0 hx1 hx2 hx3 hfk HX
        rw [hye] at hy0 hy1 hy2 hy3
        clear hxe hye
        obtain ⟨k1, rfl⟩ : ∃ k1, gk = k1 + 1 := ⟨gk - 1, by omega⟩
        obtain ⟨cur, hh⟩ := O_block HO1.out
        have hfz : ∀ k, wr.frozen? ⟨g, k, none⟩ = false := blk_frozen hh
        have HH := Aside0.mk hh
        have HFK := Aside0.mk hfk
        clear hh hfk
        cases hp : ownW name x
        · have hp' : (x.f0.toList == name.toList) = false := hp
          have HP := Aside0.mk hp
          clear hp
          go_wp2_with (go_at_call 95; refine (ownW_calls name b _ _ _ _ _ (HV1.out.below (below_alloc (Below.refl _ _) _))).mono ?_; rintro e w2 ⟨rfl, hb⟩; rw [hp']; have hz0 := pw_cell_below hb (cell_later hy0); have hz1 := pw_cell_below hb (cell_later hy1); have hz2 := pw_cell_below hb (cell_later hy2); have hz3 := pw_cell_below hb (cell_later hy3); have hb0 := pw_cell_below hb (cell_new wr _ 31 0 _ rfl); have hb1 := pw_cell_below hb (cell_new wr _ 31 1 _ rfl); have hb2 := pw_cell_below hb (cell_new wr _ 31 2 _ rfl); have hb3 := pw_cell_below hb (cell_new wr _ 31 3 _ rfl); have hh2 := blk_stays hb (blk_alloc HH.out _); have hf0 := blk_frozen hh2 (i * 4); have hf1 := blk_frozen hh2 (i * 4 + 1); have hf2 := blk_frozen hh2 (i * 4 + 2); have hf3 := blk_frozen hh2 (i * 4 + 3); have HB2 := Aside0.mk hb; have HH2 := Aside0.mk hh2; clear hb hh2 hy0 hy1 hy2 hy3 hx0 hx1 hx2 hx3 hfz hp')
          go_roundg k1
          case measure => omega
          case rel =>
            have hb' : Below wr.heap.size wr w2 := below_step (below_alloc (Below.refl _ _) _) HB2.out
            have hgr : g < wr.heap.size := blk_lt HH.out
            have hbig : (i + 1) * 4 ≤ cur.size := by
              obtain ⟨g', cap', cur', he, _, _, hh', h3, _, h5, _⟩ := O_open HO1.out (by omega)
              injection he with he1 he2 he3
              injection he1 with he1
              injection he1 with he1
              subst he1
              rw [HH.out] at hh'
              injection hh' with hh'
              injection hh' with hh'
              subst hh'
              rw [h5]
              exact Nat.mul_le_mul_right 4 (by omega)
            refine ⟨i + 1, j + 1, xs.set i x, by go_num, by go_num, by omega, by omega, by omega, by rw [List.length_set]; exact hxl, ⟨?_⟩, ⟨?_⟩, ⟨?_⟩, ⟨?_⟩, ⟨?_⟩⟩
            · rw [HX.out]
              exact del_keepW HI.out hij hlt hxl (by rw [← HX.out]; exact HP.out)
            · refine O_set (O_below HO1.out hb') i (by omega) x _ cur HH2.out (Kd.FK_below HFK.out hb') ?_ ?_
              · have := blk_set (blk_set (blk_set (blk_set HH2.out (i * 4) (.string x.f0)) (i * 4 + 1) (.int .i64 x.f1)) (i * 4 + 2) (.int .i64 x.f2)) (i * 4 + 3) (.slice A1 x.f3.length c1)
                rw [set4 _ _ _ _ _ _ (by omega)] at this
                exact this
              · intro k _ hk
                rw [Below.heap_setCell _ _ _ _ hk, Below.heap_setCell _ _ _ _ hk, Below.heap_setCell _ _ _ _ hk, Below.heap_setCell _ _ _ _ hk]
            · exact grownBy.setCell_row (grownBy.setCell_row (grownBy.setCell_row (grownBy.setCell_row (grownBy.trans_below HG.out hb') _ _) _ _) _ _) _ _
            · have := HBs.out; have := hb'.size; simp only [World.setCell, Array.size_modify]; omega
            · have hv := HV1.out.below hb'
              have hbg : b ≠ g := fun he => by
                subst he
                have h1 := HH2.out
                have h2 : w2.heap[b]? = _ := hv
                rw [h1] at h2
                injection h2 with h2
                injection h2 with _ h2
                exact absurd h2 (by decide)
              unfold VarS
              rw [Below.heap_setCell _ _ _ _ hbg, Below.heap_setCell _ _ _ _ hbg, Below.heap_setCell _ _ _ _ hbg, Below.heap_setCell _ _ _ _ hbg]
              exact hv
        · have hp' : (x.f0.toList == name.toList) = true := hp
          have HP := Aside0.mk hp
          clear hp
          go_wp2_with (go_at_call 95; refine (ownW_calls name b _ _ _ _ _ (HV1.out.below (below_alloc (Below.refl _ _) _))).mono ?_; rintro e w2 ⟨rfl, hb⟩; rw [hp']; have HB2 := Aside0.mk hb; clear hb hy0 hy1 hy2 hy3 hx0 hx1 hx2 hx3 hfz hp')
          go_roundg k1
          case measure => omega
          case rel =>
            have hb' : Below wr.heap.size wr w2 := below_step (below_alloc (Below.refl _ _) _) HB2.out
            exact ⟨i, j + 1, xs, rfl, by go_num, by omega, by omega, by omega, hxl, ⟨del_skipW HI.out hlt (by rw [← HX.out]; exact HP.out)⟩, ⟨O_below HO1.out hb'⟩, ⟨grownBy.trans_below HG.out hb'⟩, ⟨Nat.le_trans HBs.out hb'.size⟩, ⟨HV1.out.below hb'⟩⟩
      · have hge : l.length ≤ j := by omega
        clear hlt
        obtain ⟨cur, hh⟩ := O_block HO1.out
        have HH := Aside0.mk hh
        clear hh
        have hci : (c == i) = false := by simp; omega
        have hfit : i * 4 + (l.length - i) * 4 ≤ cur.size := by
          obtain ⟨g', cap', cur', he, _, _, hh', h3, _, h5, _⟩ := O_open HO1.out (by omega)
          injection he with he1 he2 he3
          injection he1 with he1
          injection he1 with he1
          subst he1
          rw [HH.out] at hh'
          injection hh' with hh'
          injection hh' with hh'
          subst hh'
          rw [h5, show k31.sz = 4 from rfl]
          omega
        have HFIT := Aside0.mk hfit
        clear hfit
        go_wp2_with (refine wpList_clear_row rfl (.tmp 38) 104 rfl Try.underlying104 zero31 (by intro u hu; simp [Value.cells] at hu; rcases hu with rfl | rfl | rfl | rfl <;> rfl) g (i * 4) (l.length - i) (c - i) rfl (by omega) HH.out (by have := HFIT.out; simpa [Value.cells] using this) ?_; intro w2 cur2 h1 h2 h3 h4; have K1 := Aside0.mk h1; have K2 := Aside0.mk h2; have K3 := Aside0.mk h3; have K4 := Aside0.mk h4; clear h1 h2 h3 h4)
        go_ret
        have hfl := del_endW HI.out hge
        refine ⟨_, rfl, ?_, ⟨K4.out.os.trans HG.out.os, K4.out.tape.trans HG.out.tape, K4.out.output.trans HG.out.output, Nat.le_trans HG.out.size K4.out.size, fun k hk hr => (K4.out.block k (Nat.lt_of_lt_of_le hk HG.out.size) hr).trans (HG.out.block k hk hr)⟩, rfl⟩
        rw [← hfl]
        obtain ⟨g', cap', cur', he, hg', _, hh', h3, h4, h5, hr⟩ := O_open HO1.out (by omega)
        injection he with he1 he2 he3
        injection he1 with he1
        injection he1 with he1
        subst he1 he3
        rw [HH.out] at hh'
        injection hh' with hh'
        injection hh' with hh'
        subst hh'
        have hl2 : (xs.take i).length = i := by rw [List.length_take]; omega
        have := O_mk (d := k31) (ok := ok) (xs := xs.take i) (cap := c) hg' K1.out (by omega) h4 (by rw [K2.out]; exact h5) (by
          have hr2 := (Kd.reps_take hr (m := i) (by omega)).imp_ (R' := fun x c => Kd.FK k31 w2 (fun k => ok k ∧ k ≠ g) x c) fun y c hy => Kd.FK_grown hy K4.out fun k hk he => hk.2 (by injection he)
          rw [List.take_take, Nat.min_eq_left (Nat.mul_le_mul_right _ (by omega))] at hr2
          rw [hl2, show i * k31.sz = i * 4 from rfl, K3.out]
          exact hr2)
        rw [hl2] at this
        exact this

set_option maxHeartbeats 4000000 in
set_option maxRecDepth 100000 in
theorem delete_othW (ok : Nat → Prop) (B : Nat) (name : ByteArray) (b : Nat) (v : Value) (l : List S31) (w : World) (ho : O k31 31 w B ok v l) (hB : B ≤ w.heap.size) (hlen : l.length ≤ 1000001) (hb0 : VarS w b name) :
    Calls Try.prog 72 #[v, .func (.func 73) #[] #[.pointer (some ⟨b, 0, none⟩)]] w fun e w' => ∃ v', e = .returned v' ∧ O k31 31 w' B ok v' (l.filter fun x => !othW name x) ∧ w.grownBy w' v.ownBlock ∧ v'.ownBlock = v.ownBlock := by
  have HO := Aside0.mk ho
  have HV := Aside0.mk hb0
  have hV := O_V ho
  obtain ⟨A, c, rfl⟩ := O_slice ho
  have hC := (Kd.V_reads' hV).2.2
  have hIdx := index_othW name b A c l w hb0 hC
  clear hV ho hb0
  rcases hfi : l.findIdx? (othW name) with _ | i0
  · have hid : idxOfW (othW name) l = -1 := by unfold idxOfW; rw [hfi]
    have hfl : (l.filter fun x => !othW name x) = l := by
      rw [List.filter_eq_self]
      intro x hx
      have := List.findIdx?_eq_none_iff.1 hfi x hx
      simp [this]
    rw [hid] at hIdx
    have HF := Aside0.mk hfl
    clear hid hfl hfi hC
    go_enter Try.func72, Try.ntmps72
    go_wp2_with (go_at_call 94; refine hIdx.mono ?_; rintro e w1 ⟨rfl, hb⟩; have HB := Aside0.mk hb; clear hb)
    go_ret
    exact ⟨_, rfl, by rw [HF.out]; exact O_below HO.out HB.out, grown_of_below HB.out _, rfl⟩
  · have hid : idxOfW (othW name) l = (i0 : Int) := by unfold idxOfW; rw [hfi]
    rw [hid] at hIdx
    obtain ⟨hi0, hp0, hn0⟩ := List.findIdx?_eq_some_iff_getElem.1 hfi
    clear hid hfi hC
    obtain ⟨g, cap, cur0, he, hg, hgs, _, h30, h40, _, _⟩ := O_open HO.out (by omega)
    injection he with he1 _ he3
    subst he1 he3
    have HN := Aside0.mk hn0
    have HP0 := Aside0.mk hp0
    clear hn0 hp0
    have hne : ((i0 : Int) == -1) = false := by simp
    go_enter Try.func72, Try.ntmps72
    go_wp2_with (go_at_call 94; refine hIdx.mono ?_; rintro e w1 ⟨rfl, hb⟩; have HB := Aside0.mk hb; clear hb)
    have hstart := Aside0.mk (del_startW HP0.out HN.out hi0)
    clear hne
    go_loopg [5, 6] l.length (fun kq v5 v6 w' => ∃ (i j : Nat) (xs : List S31), v5 = .int .i64 i ∧ v6 = .int .i64 j ∧ l.length < j + kq ∧ i < j ∧ j ≤ l.length ∧ xs.length = l.length ∧ Aside0 (DelInvW (othW name) l i j xs) ∧ Aside0 (O k31 31 w' B ok (.slice (some ⟨g, 0, none⟩) l.length c) xs) ∧ Aside0 (w.grownBy w' (some g)) ∧ Aside0 (B ≤ w'.heap.size) ∧ Aside0 (VarS w' b name))
    case atStart => exact ⟨i0, i0 + 1, l, rfl, by go_num, by omega, by omega, by omega, rfl, hstart, ⟨O_below HO.out HB.out⟩, ⟨grown_of_below HB.out _⟩, ⟨Nat.le_trans hB HB.out.size⟩, ⟨HV.out.below HB.out⟩⟩
    case round =>
      obtain ⟨i, j, xs, rfl, rfl, hjk, hij, hjl, hxl, HI, HO1, HG, HBs, HV1⟩ := hrel
      by_cases hlt : j < l.length
      · obtain ⟨A1, c1, hx0, hx1, hx2, hx3, hfk⟩ := O_at31 HO1.out j (by omega)
        obtain ⟨A2, c2, hy0, hy1, hy2, hy3, _⟩ := O_at31 HO1.out i (by omega)
        have HX := Aside0.mk (del_atW HI.out hlt)
        obtain ⟨x, hxe⟩ : ∃ x, xs.getD j z31 = x := ⟨_, rfl⟩
        obtain ⟨y, hye⟩ : ∃ y, xs.getD i z31 = y := ⟨_, rfl⟩
        rw [hxe] at hx0 hx1 hx2 hx3 hfk HX
        rw [hye] at hy0 hy1 hy2 hy3
        clear hxe hye
        obtain ⟨k1, rfl⟩ : ∃ k1, gk = k1 + 1 := ⟨gk - 1, by omega⟩
        obtain ⟨cur, hh⟩ := O_block HO1.out
        have hfz : ∀ k, wr.frozen? ⟨g, k, none⟩ = false := blk_frozen hh
        have HH := Aside0.mk hh
        have HFK := Aside0.mk hfk
        clear hh hfk
        cases hp : othW name x
        · have hp' : (x.f0.toList != name.toList) = false := hp
          have HP := Aside0.mk hp
          clear hp
          go_wp2_with (go_at_call 73; refine (othW_calls name b _ _ _ _ _ (HV1.out.below (below_alloc (Below.refl _ _) _))).mono ?_; rintro e w2 ⟨rfl, hb⟩; rw [hp']; have hz0 := pw_cell_below hb (cell_later hy0); have hz1 := pw_cell_below hb (cell_later hy1); have hz2 := pw_cell_below hb (cell_later hy2); have hz3 := pw_cell_below hb (cell_later hy3); have hb0 := pw_cell_below hb (cell_new wr _ 31 0 _ rfl); have hb1 := pw_cell_below hb (cell_new wr _ 31 1 _ rfl); have hb2 := pw_cell_below hb (cell_new wr _ 31 2 _ rfl); have hb3 := pw_cell_below hb (cell_new wr _ 31 3 _ rfl); have hh2 := blk_stays hb (blk_alloc HH.out _); have hf0 := blk_frozen hh2 (i * 4); have hf1 := blk_frozen hh2 (i * 4 + 1); have hf2 := blk_frozen hh2 (i * 4 + 2); have hf3 := blk_frozen hh2 (i * 4 + 3); have HB2 := Aside0.mk hb; have HH2 := Aside0.mk hh2; clear hb hh2 hy0 hy1 hy2 hy3 hx0 hx1 hx2 hx3 hfz hp')
          go_roundg k1
          case measure => omega
          case rel =>
            have hb' : Below wr.heap.size wr w2 := below_step (below_alloc (Below.refl _ _) _) HB2.out
            have hgr : g < wr.heap.size := blk_lt HH.out
            have hbig : (i + 1) * 4 ≤ cur.size := by
              obtain ⟨g', cap', cur', he, _, _, hh', h3, _, h5, _⟩ := O_open HO1.out (by omega)
              injection he with he1 he2 he3
              injection he1 with he1
              injection he1 with he1
              subst he1
              rw [HH.out] at hh'
              injection hh' with hh'
              injection hh' with hh'
              subst hh'
              rw [h5]
              exact Nat.mul_le_mul_right 4 (by omega)
            refine ⟨i + 1, j + 1, xs.set i x, by go_num, by go_num, by omega, by omega, by omega, by rw [List.length_set]; exact hxl, ⟨?_⟩, ⟨?_⟩, ⟨?_⟩, ⟨?_⟩, ⟨?_⟩⟩
            · rw [HX.out]
              exact del_keepW HI.out hij hlt hxl (by rw [← HX.out]; exact HP.out)
            · refine O_set (O_below HO1.out hb') i (by omega) x _ cur HH2.out (Kd.FK_below HFK.out hb') ?_ ?_
              · have := blk_set (blk_set (blk_set (blk_set HH2.out (i * 4) (.string x.f0)) (i * 4 + 1) (.int .i64 x.f1)) (i * 4 + 2) (.int .i64 x.f2)) (i * 4 + 3) (.slice A1 x.f3.length c1)
                rw [set4 _ _ _ _ _ _ (by omega)] at this
                exact this
              · intro k _ hk
                rw [Below.heap_setCell _ _ _ _ hk, Below.heap_setCell _ _ _ _ hk, Below.heap_setCell _ _ _ _ hk, Below.heap_setCell _ _ _ _ hk]
            · exact grownBy.setCell_row (grownBy.setCell_row (grownBy.setCell_row (grownBy.setCell_row (grownBy.trans_below HG.out hb') _ _) _ _) _ _) _ _
            · have := HBs.out; have := hb'.size; simp only [World.setCell, Array.size_modify]; omega
            · have hv := HV1.out.below hb'
              have hbg : b ≠ g := fun he => by
                subst he
                have h1 := HH2.out
                have h2 : w2.heap[b]? = _ := hv
                rw [h1] at h2
                injection h2 with h2
                injection h2 with _ h2
                exact absurd h2 (by decide)
              unfold VarS
              rw [Below.heap_setCell _ _ _ _ hbg, Below.heap_setCell _ _ _ _ hbg, Below.heap_setCell _ _ _ _ hbg, Below.heap_setCell _ _ _ _ hbg]
              exact hv
        · have hp' : (x.f0.toList != name.toList) = true := hp
          have HP := Aside0.mk hp
          clear hp
          go_wp2_with (go_at_call 73; refine (othW_calls name b _ _ _ _ _ (HV1.out.below (below_alloc (Below.refl _ _) _))).mono ?_; rintro e w2 ⟨rfl, hb⟩; rw [hp']; have HB2 := Aside0.mk hb; clear hb hy0 hy1 hy2 hy3 hx0 hx1 hx2 hx3 hfz hp')
          go_roundg k1
          case measure => omega
          case rel =>
            have hb' : Below wr.heap.size wr w2 := below_step (below_alloc (Below.refl _ _) _) HB2.out
            exact ⟨i, j + 1, xs, rfl, by go_num, by omega, by omega, by omega, hxl, ⟨del_skipW HI.out hlt (by rw [← HX.out]; exact HP.out)⟩, ⟨O_below HO1.out hb'⟩, ⟨grownBy.trans_below HG.out hb'⟩, ⟨Nat.le_trans HBs.out hb'.size⟩, ⟨HV1.out.below hb'⟩⟩
      · have hge : l.length ≤ j := by omega
        clear hlt
        obtain ⟨cur, hh⟩ := O_block HO1.out
        have HH := Aside0.mk hh
        clear hh
        have hci : (c == i) = false := by simp; omega
        have hfit : i * 4 + (l.length - i) * 4 ≤ cur.size := by
          obtain ⟨g', cap', cur', he, _, _, hh', h3, _, h5, _⟩ := O_open HO1.out (by omega)
          injection he with he1 he2 he3
          injection he1 with he1
          injection he1 with he1
          subst he1
          rw [HH.out] at hh'
          injection hh' with hh'
          injection hh' with hh'
          subst hh'
          rw [h5, show k31.sz = 4 from rfl]
          omega
        have HFIT := Aside0.mk hfit
        clear hfit
        go_wp2_with (refine wpList_clear_row rfl (.tmp 38) 104 rfl Try.underlying104 zero31 (by intro u hu; simp [Value.cells] at hu; rcases hu with rfl | rfl | rfl | rfl <;> rfl) g (i * 4) (l.length - i) (c - i) rfl (by omega) HH.out (by have := HFIT.out; simpa [Value.cells] using this) ?_; intro w2 cur2 h1 h2 h3 h4; have K1 := Aside0.mk h1; have K2 := Aside0.mk h2; have K3 := Aside0.mk h3; have K4 := Aside0.mk h4; clear h1 h2 h3 h4)
        go_ret
        have hfl := del_endW HI.out hge
        refine ⟨_, rfl, ?_, ⟨K4.out.os.trans HG.out.os, K4.out.tape.trans HG.out.tape, K4.out.output.trans HG.out.output, Nat.le_trans HG.out.size K4.out.size, fun k hk hr => (K4.out.block k (Nat.lt_of_lt_of_le hk HG.out.size) hr).trans (HG.out.block k hk hr)⟩, rfl⟩
        rw [← hfl]
        obtain ⟨g', cap', cur', he, hg', _, hh', h3, h4, h5, hr⟩ := O_open HO1.out (by omega)
        injection he with he1 he2 he3
        injection he1 with he1
        injection he1 with he1
        subst he1 he3
        rw [HH.out] at hh'
        injection hh' with hh'
        injection hh' with hh'
        subst hh'
        have hl2 : (xs.take i).length = i := by rw [List.length_take]; omega
        have := O_mk (d := k31) (ok := ok) (xs := xs.take i) (cap := c) hg' K1.out (by omega) h4 (by rw [K2.out]; exact h5) (by
          have hr2 := (Kd.reps_take hr (m := i) (by omega)).imp_ (R' := fun x c => Kd.FK k31 w2 (fun k => ok k ∧ k ≠ g) x c) fun y c hy => Kd.FK_grown hy K4.out fun k hk he => hk.2 (by injection he)
          rw [List.take_take, Nat.min_eq_left (Nat.mul_le_mul_right _ (by omega))] at hr2
          rw [hl2, show i * k31.sz = i * 4 from rfl, K3.out]
          exact hr2)
        rw [hl2] at this
        exact this

end Go.Proofs.Ytcgeioingikeeaa.P
namespace Go.Proofs.Ytcgeioingikeeaa.P
open Go.RowKit Go.Proofs.YtcgeioingikeeaaW.PrintWords Go.Proofs.YtcgeioingikeeaaW.PrintLast Go.Proofs.YtcgeioingikeeaaW.PrintMore
set_option linter.unusedVariables false
set_option linter.unusedSimpArgs false


/-- Files behind a write, and what is told. -/
def doT (l : List S38) (x : S31) (keep : Int) : List S38 × Int :=
  if x.f1 < 1 ∨ x.f1 > 3 ∨ x.f0.size < 1 ∨ x.f0.size > 40 ∨ (x.f1 = 3 ∧ x.f2 < 0) then ([], 1) else
    doRes x.f1.toNat l x.f0 (frmOf x.f1 x.f2 (oldOf l x.f0)) (oldOf l x.f0) x.f3 (keptOf x.f3 keep)
def dn (l : List S38) (x : S31) (keep : Int) : List S38 := if (doT l x keep).2 = 0 then (doT l x keep).1 else l
def doneL (keep : Nat → Int) : Nat → List S38 → List S31 → List S38
  | _, l, [] => l
  | i, l, x :: xs => doneL keep (i + 1) (dn l x (keep i)) xs
/-- No file is larger than one may be. -/
def okL (l : List S38) : Prop := ∀ x ∈ l, x.f1.length ≤ 65536
def okW (xs : List S31) : Prop := ∀ x ∈ xs, x.f3.length ≤ 1000000
theorem doT_f (l : List S38) (x : S31) (keep : Int) (hl : l.length ≤ 1000000) (hd : okL l) (hx : x.f3.length ≤ 1000000) : files_Do.f l x.f0 x.f1 x.f2 x.f3 keep = some ((doT l x keep).1, (doT l x keep).2) := by
  unfold files_Do.f doT
  rw [if_pos ⟨hl, hx, fun y hy => by have := hd y hy; omega⟩]
  split <;> rfl
theorem insertAt_memK (x : S38) : ∀ (l : List S38) (y : S38), y ∈ insertAt x l → y = x ∨ y ∈ l
  | [], y, h => by simpa [insertAt] using h
  | z :: l, y, h => by
    unfold insertAt at h
    split at h
    · simp only [List.mem_cons] at h ⊢
      rcases h with h | h | h <;> simp [h]
    · rcases List.mem_cons.1 h with h | h
      · simp [h]
      · rcases insertAt_memK x l y h with h | h <;> simp [h]
theorem insertAt_lenK (x : S38) : ∀ (l : List S38), (insertAt x l).length = l.length + 1
  | [] => rfl
  | z :: l => by
    unfold insertAt
    split
    · rfl
    · simp [insertAt_lenK x l]
theorem putL_len (l : List S38) (n : ByteArray) (d : List Int) : (putL l n d).length ≤ l.length + 1 := by
  unfold putL
  rw [insertAt_lenK]
  have := List.length_filter_le (fun x => !named n x) l
  omega
theorem putL_mem {l : List S38} {n : ByteArray} {d : List Int} {y : S38} (h : y ∈ putL l n d) : y = ⟨n, d⟩ ∨ y ∈ l := by
  rcases insertAt_memK _ _ _ h with h | h
  · exact .inl h
  · exact .inr (List.mem_filter.1 h).1
theorem kept_le (d : List Int) (keep : Int) : (keptOf d keep).length ≤ d.length := by
  unfold keptOf
  split
  · simp; omega
  · exact Nat.le_refl _
theorem oldOf_okL {l : List S38} (h : okL l) (n : ByteArray) : (oldOf l n).length ≤ 65536 := by
  unfold oldOf
  cases hf : l.find? (named n) with
  | none => simp
  | some x => exact h x (List.mem_of_find?_eq_some hf)
theorem overlay_le (old : List Int) (F : Nat) (d : List Int) (m : Nat) (ho : old.length ≤ m) (hf : F + d.length ≤ m) : (overlay old F d).length ≤ m := by
  unfold overlay
  simp only [List.length_append, List.length_take, List.length_drop, List.length_replicate]
  omega
theorem doT_ok (l : List S38) (x : S31) (keep : Int) (hd : okL l) (h : (doT l x keep).2 = 0) : okL (doT l x keep).1 ∧ (doT l x keep).1.length ≤ l.length + 1 := by
  unfold doT at h ⊢
  split at h
  · simp at h
  · rename_i hb
    rw [if_neg hb]
    unfold doRes at h ⊢
    split at h
    · simp at h
    · rename_i hc
      rw [if_neg hc]
      by_cases h0 : (keptOf x.f3 keep).length = 0 ∧ x.f3.length > 0
      · rw [if_pos h0]
        exact ⟨hd, by simp⟩
      · rw [if_neg h0]
        refine ⟨fun y hy => ?_, putL_len _ _ _⟩
        rcases putL_mem hy with rfl | hy
        · have ho := oldOf_okL hd x.f0
          have hf0 : 0 ≤ frmOf x.f1 x.f2 (oldOf l x.f0) := by
            unfold frmOf
            split
            · omega
            · split
              · omega
              · omega
          refine overlay_le _ _ _ _ ?_ (by omega)
          split
          · simp
          · exact ho
        · exact hd y hy
theorem dn_ok (l : List S38) (x : S31) (keep : Int) (hd : okL l) : okL (dn l x keep) ∧ (dn l x keep).length ≤ l.length + 1 := by
  unfold dn
  split
  · rename_i h
    exact doT_ok l x keep hd h
  · exact ⟨hd, by omega⟩
theorem doneL_ok (keep : Nat → Int) : ∀ (xs : List S31) (i : Nat) (l : List S38), okL l → okL (doneL keep i l xs) ∧ (doneL keep i l xs).length ≤ l.length + xs.length
  | [], i, l, h => ⟨h, by simp [doneL]⟩
  | x :: xs, i, l, h => by
    obtain ⟨h1, h2⟩ := dn_ok l x (keep i) h
    obtain ⟨h3, h4⟩ := doneL_ok keep xs (i + 1) _ h1
    refine ⟨h3, ?_⟩
    rw [doneL, List.length_cons]
    omega

/-- What a round of done holds, while its calls run: the copy of the write, the files, the write's bytes. -/
structure DnS (w : World) (b : Nat) (P : Nat → Prop) (x : S31) (A3 : Option Addr) (c3 : Nat) (v : Value) (l : List S38) (w' : World) : Prop where
  blk : w'.heap[b]? = some (.cells #[.string x.f0, .int .i64 x.f1, .int .i64 x.f2, .slice A3 x.f3.length c3] 31 (0, 0))
  v : Kd.V k38 38 w' w'.heap.size P v l
  c : (Kd.int .u8).C w' A3 x.f3.length x.f3
  below : Below w.heap.size w w'
theorem DnS.step {w u v' : World} {b : Nat} {P : Nat → Prop} {x : S31} {A3 : Option Addr} {c3 : Nat} {v : Value} {l : List S38} (h : DnS w b P x A3 c3 v l u) (hb : Below u.heap.size u v') : DnS w b P x A3 c3 v l v' :=
  ⟨blk_stays hb h.blk, V_base (Kd.V_below h.v hb), Kd.C_below h.c hb, below_step h.below hb⟩
theorem DnS.drew {w u : World} {b : Nat} {P : Nat → Prop} {x : S31} {A3 : Option Addr} {c3 : Nat} {v : Value} {l : List S38} (h : DnS w b P x A3 c3 v l u) : DnS w b P x A3 c3 v l u.drew := h.step (below_drew1 (Below.refl _ _))
/-- The cells, written out. -/
def DnC (w : World) (b : Nat) (P : Nat → Prop) (x : S31) (A3 : Option Addr) (c3 : Nat) (v : Value) (l : List S38) (w' : World) : Prop :=
  w'.cell? ⟨b, 0, none⟩ = some (.string x.f0) ∧ w'.cell? ⟨b, 1, none⟩ = some (.int .i64 x.f1) ∧ w'.cell? ⟨b, 2, none⟩ = some (.int .i64 x.f2) ∧ w'.cell? ⟨b, 3, none⟩ = some (.slice A3 x.f3.length c3) ∧ DnS w b P x A3 c3 v l w'
theorem DnS.all {w w' : World} {b : Nat} {P : Nat → Prop} {x : S31} {A3 : Option Addr} {c3 : Nat} {v : Value} {l : List S38} (h : DnS w b P x A3 c3 v l w') :
    w'.cell? ⟨b, 0, none⟩ = some (.string x.f0) ∧ w'.cell? ⟨b, 1, none⟩ = some (.int .i64 x.f1) ∧ w'.cell? ⟨b, 2, none⟩ = some (.int .i64 x.f2) ∧ w'.cell? ⟨b, 3, none⟩ = some (.slice A3 x.f3.length c3) ∧ DnS w b P x A3 c3 v l w' := by
  refine ⟨?_, ?_, ?_, ?_, h⟩ <;> (rw [cell_of_row w' b _ _ 31 (0, 0) h.blk]; rfl)
theorem setCells4 {w : World} {g : Nat} {t : TypeId} {a b c d a' b' c' d' : Value} (h : w.heap[g]? = some (.cells #[a, b, c, d] t (0, 0))) :
    ((((w.setCell ⟨g, 0, none⟩ a').setCell ⟨g, 1, none⟩ b').setCell ⟨g, 2, none⟩ c').setCell ⟨g, 3, none⟩ d').heap[g]? = some (.cells #[a', b', c', d'] t (0, 0)) :=
  blk_set (blk_set (blk_set (blk_set h 0 a') 1 b') 2 c') 3 d'
set_option maxHeartbeats 1000000 in
theorem all_calls (i : Int) (w : World) : Calls Try.prog 75 #[.int .i64 i] w fun e w' => e = .returned (.int .i64 (-1)) ∧ Below w.heap.size w w' := by
  go_enter Try.func75, Try.ntmps75
  go_wp2
  go_ret
  exact ⟨rfl, Below.refl _ _⟩
/-- How much is kept of a write at a crash. -/
def keepN (ks : List Int) (i : Nat) : Int := if i < ks.length then mx (rd ks i) 0 else 0


set_option maxHeartbeats 4000000 in
set_option maxRecDepth 100000 in
theorem done_all (P0 : Nat → Prop) (A0 : Option Addr) (c0 : Nat) (l0 : List S38) (A1 : Option Addr) (c1 : Nat) (xs : List S31) (w : World) (hs0 : Kd.V k38 38 w w.heap.size P0 (.slice A0 l0.length c0) l0) (hr1 : Kd.C k31 w A1 xs.length xs) (hc1 : xs.length ≤ c1)
    (hlen : l0.length + xs.length ≤ 1000) (hd : okL l0) (hx : okW xs) :
    Calls Try.prog 74 #[.slice A0 l0.length c0, .slice A1 xs.length c1, .func (.func 75) #[] #[]] w fun e w' => ∃ v, e = .returned v ∧ Kd.V k38 38 w' w'.heap.size (fun k => P0 k ∨ w.heap.size ≤ k) v (doneL (fun _ => -1) 0 l0 xs) ∧ Below w.heap.size w w' := by
  have HR := Aside0.mk hr1
  have HS := Aside0.mk (V_base (base' := w.heap.size) (Kd.V_mono hs0 (ok' := fun k => P0 k ∨ w.heap.size ≤ k) (fun k hk => .inl hk)))
  have HD := Aside0.mk hd
  have HX := Aside0.mk hx
  clear hr1 hs0 hd hx
  go_enter Try.func74, Try.ntmps74
  go_wp2
  go_loopg [0, 13] xs.length (fun kq v0 v13 w' => ∃ (i : Nat) (l : List S38), v13 = .int .i64 i ∧ i + kq = xs.length ∧ l.length ≤ l0.length + i ∧ Aside0 (doneL (fun _ => -1) i l (xs.drop i) = doneL (fun _ => -1) 0 l0 xs) ∧ Aside0 (okL l) ∧ Aside0 (Kd.V k38 38 w' w'.heap.size (fun k => P0 k ∨ w.heap.size ≤ k) v0 l) ∧ Aside0 (Below w.heap.size w w'))
  case atStart => exact ⟨0, l0, rfl, by omega, by omega, ⟨by rw [List.drop_zero]⟩, HD, HS, ⟨Below.refl _ _⟩⟩
  case round =>
    obtain ⟨i, l, rfl, hi, hll, HE, HO, HV, HB⟩ := hrel
    by_cases hlt : i < xs.length
    · obtain ⟨k1, rfl⟩ : ∃ k1, gk = k1 + 1 := ⟨gk - 1, by omega⟩
      obtain ⟨ad, A3, c3, e1, hx0, hx1, hx2, hx3, hc3, hC3⟩ := at_T31 (Kd.C_below HR.out HB.out) (i : Int) (by omega) (by omega)
      cases e1
      rw [Int.toNat_natCast] at hx0 hx1 hx2 hx3
      obtain ⟨x, hxe⟩ : ∃ x, rd_T31 xs (i : Int) = x := ⟨_, rfl⟩
      rw [hxe] at hx0 hx1 hx2 hx3 hc3 hC3
      have hxm : x ∈ xs ∧ xs.drop i = x :: xs.drop (i + 1) := by
        have h1 : rd_T31 xs (i : Int) = xs[i] := by simp [rd_T31, hlt, List.getD]
        rw [h1] at hxe
        exact ⟨hxe ▸ List.getElem_mem hlt, by rw [← hxe, List.drop_eq_getElem_cons hlt]⟩
      have HXM := Aside0.mk hxm
      clear hxe hxm
      obtain ⟨A, c, rfl⟩ := Kd.V_slice HV.out
      obtain ⟨kp, hkp⟩ : ∃ kp, kp = (fun _ => -1) i := ⟨_, rfl⟩
      have hdo := doT_f l x kp (by omega) HO.out (HX.out x HXM.out.1)
      have hnext : doneL (fun _ => -1) (i + 1) (dn l x kp) (xs.drop (i + 1)) = doneL (fun _ => -1) 0 l0 xs := by
        rw [← HE.out, HXM.out.2, hkp]
        rfl
      obtain ⟨hok, hle⟩ := dn_ok l x kp HO.out
      unfold dn at hnext hok hle
      obtain ⟨⟨r1, r2⟩, hr⟩ : ∃ r, doT l x kp = r := ⟨_, rfl⟩
      rw [hr] at hdo hnext hok hle
      simp only at hdo hnext hok hle
      have HKP := Aside0.mk hkp
      have HDO := Aside0.mk hdo
      have HNX := Aside0.mk hnext
      have HOK := Aside0.mk hok
      have HLE := Aside0.mk hle
      have HC3 := Aside0.mk hC3
      have HC3l := Aside0.mk hc3
      clear hdo hnext hok hle hr hkp hC3 hc3
      obtain rfl : kp = -1 := HKP.out
      have hk0 : DnS w wr.heap.size (fun k => P0 k ∨ w.heap.size ≤ k) x A3 c3 (.slice A l.length c) l (wr.alloc (Obj.cells #[.string x.f0, .int .i64 x.f1, .int .i64 x.f2, .slice A3 x.f3.length c3] 31)) :=
        ⟨heap_alloc_new _ _, V_base (Kd.V_alloc HV.out _), Kd.C_alloc HC3.out _, below_alloc HB.out _⟩
      have HK0 := Aside0.mk hk0
      clear hk0
      go_wp2_with fail
      have hk0 := HK0.out
      clear hx0 hx1 hx2 hx3
      generalize wr.alloc (Obj.cells #[.string x.f0, .int .i64 x.f1, .int .i64 x.f2, .slice A3 x.f3.length c3] 31) = w3 at hk0 ⊢
      generalize wr.heap.size = bx at hk0 ⊢
      go_region_held3 (fun w' => w'.cell? ⟨bx, 0, none⟩ = some (.string x.f0) ∧ w'.cell? ⟨bx, 1, none⟩ = some (.int .i64 x.f1) ∧ w'.cell? ⟨bx, 2, none⟩ = some (.int .i64 x.f2) ∧ w'.cell? ⟨bx, 3, none⟩ = some (.slice A3 x.f3.length c3) ∧ DnS w bx (fun k => P0 k ∨ w.heap.size ≤ k) x A3 c3 (.slice A l.length c) l w')
        (first
          | exact hk0.drew.all
          | (go_split_ands
             first
              | exact DnS.all (DnS.step (by assumption) hb6)
              | exact DnS.all (DnS.step (by assumption) hb5))
          | go_keep)
        (first
          | (go_at_call 75; refine (all_calls _ _).mono ?_; rintro e w5 ⟨rfl, hb5⟩)
          | (go_split_ands
             go_at_call 17
             ((with_reducible refine (files_Do.calls (fun k => P0 k ∨ w.heap.size ≤ k) A c l x.f0 x.f1 x.f2 A3 c3 x.f3 _ r1 r2 _ ?hs ?hr ?hc HDO.out).mono ?_); (case hs => exact V_base (DnS.v (by assumption))); (case hr => exact DnS.c (by assumption)); (case hc => exact HC3l.out))
             rintro e w6 ⟨v6, rfl, hV6, hb6⟩))
      have hfin : DnS w bx (fun k => P0 k ∨ w.heap.size ≤ k) x A3 c3 (.slice A l.length c) l w6 := by go_split_ands; assumption
      have hszs : w.heap.size ≤ w5.heap.size := by
        have : DnS w bx (fun k => P0 k ∨ w.heap.size ≤ k) x A3 c3 (.slice A l.length c) l w5 := by go_split_ands; assumption
        exact this.below.size
      have HFIN := Aside0.mk hfin
      have HV6 := Aside0.mk (V_base (base' := w6.heap.size) (Kd.V_mono hV6 (ok' := fun k => P0 k ∨ w.heap.size ≤ k) (fun k hk => hk.elim id (fun h => .inr (Nat.le_trans hszs h)))))
      clear hk0 hfin hszs hV6
      by_cases hz : r2 = 0
      · have hz2 : (r2 == 0) = true := by simp [hz]
        have HNX2 := HNX.out
        have HOK2 := HOK.out
        have HLE2 := HLE.out
        rw [if_pos hz] at HNX2 HOK2 HLE2
        have HNX3 := Aside0.mk HNX2
        have HOK3 := Aside0.mk HOK2
        clear HNX2 HOK2 hz
        go_wp2
        go_roundg k1
        case measure => omega
        case rel => exact ⟨i + 1, r1, by go_num, by omega, by omega, HNX3, HOK3, HV6, ⟨HFIN.out.below⟩⟩
      · have hz2 : (r2 == 0) = false := by simp [hz]
        have HNX2 := HNX.out
        rw [if_neg hz] at HNX2
        have HNX3 := Aside0.mk HNX2
        clear HNX2 hz
        go_wp2
        go_roundg k1
        case measure => omega
        case rel => exact ⟨i + 1, l, by go_num, by omega, by omega, HNX3, HO, ⟨V_base HFIN.out.v⟩, ⟨HFIN.out.below⟩⟩
    · have hge : xs.length ≤ i := by omega
      have hend : l = doneL (fun _ => -1) 0 l0 xs := by
        rw [← HE.out, List.drop_eq_nil_of_le hge]
        rfl
      have HEND := Aside0.mk hend
      clear hlt hend
      go_wp2
      go_ret
      exact ⟨_, rfl, by rw [← HEND.out]; exact HV.out, HB.out⟩


/-- A captured variable that holds a row of whole numbers. -/
def VarK (w : World) (b : Nat) (A : Option Addr) (c : Nat) (ks : List Int) : Prop := w.heap[b]? = some (.cells #[.slice A ks.length c] 56 (0, 0)) ∧ (Kd.int .i64).C w A ks.length ks
theorem VarK.below {w w1 : World} {b c : Nat} {A : Option Addr} {ks : List Int} (h : VarK w b A c ks) (hb : Below w.heap.size w w1) : VarK w1 b A c ks := ⟨blk_stays hb h.1, Kd.C_below h.2 hb⟩
theorem VarK.cell {w : World} {b c : Nat} {A : Option Addr} {ks : List Int} (h : VarK w b A c ks) : w.cell? ⟨b, 0, none⟩ = some (.slice A ks.length c) := by
  rw [cell_of_row w b 0 _ 56 (0, 0) h.1]; rfl
set_option maxHeartbeats 2000000 in
theorem keep_calls (ks : List Int) (i : Nat) (b c : Nat) (A : Option Addr) (w : World) (h : VarK w b A c ks) (hi : i ≤ 1000000) :
    Calls Try.prog 78 #[.int .i64 (i : Int), .pointer (some ⟨b, 0, none⟩)] w fun e w' => e = .returned (.int .i64 (keepN ks i)) ∧ Below w.heap.size w w' := by
  have hc := h.cell
  have hm := Kd.C_max h.2
  have H := Aside0.mk h
  clear h
  by_cases hlt : i < ks.length
  · obtain ⟨ad, e1, hk⟩ := Kd.at_int H.out.2 (i : Int) (by omega) (by omega)
    subst e1
    rw [Int.toNat_natCast] at hk
    have HK : Aside0 (keepN ks i = mx (rd ks (i : Int)) 0) := ⟨by unfold keepN; rw [if_pos hlt]⟩
    obtain ⟨y, hy⟩ : ∃ y, rd ks (i : Int) = y := ⟨_, rfl⟩
    rw [hy] at hk HK
    clear hy
    go_enter Try.func78, Try.ntmps78
    go_wp2_with (simp only [max_two, max2_int])
    all_goals
      go_ret
      exact ⟨by rw [HK.out]; first | rfl | (unfold mx; simp [*]; done) | (unfold mx; simp [*]; omega), Below.refl _ _⟩
  · have HK : Aside0 (keepN ks i = 0) := ⟨by unfold keepN; rw [if_neg hlt]⟩
    have hge : ks.length ≤ i := by omega
    clear hlt
    go_enter Try.func78, Try.ntmps78
    go_wp2
    go_ret
    exact ⟨by rw [HK.out]; rfl, Below.refl _ _⟩


set_option maxHeartbeats 4000000 in
set_option maxRecDepth 100000 in
theorem done_crash (P0 : Nat → Prop) (A0 : Option Addr) (c0 : Nat) (l0 : List S38) (A1 : Option Addr) (c1 : Nat) (xs : List S31) (ks : List Int) (bk ck : Nat) (Ak : Option Addr) (w : World) (hs0 : Kd.V k38 38 w w.heap.size P0 (.slice A0 l0.length c0) l0) (hr1 : Kd.C k31 w A1 xs.length xs) (hc1 : xs.length ≤ c1) (hk : VarK w bk Ak ck ks)
    (hlen : l0.length + xs.length ≤ 1000) (hd : okL l0) (hx : okW xs) :
    Calls Try.prog 74 #[.slice A0 l0.length c0, .slice A1 xs.length c1, .func (.func 78) #[] #[.pointer (some ⟨bk, 0, none⟩)]] w fun e w' => ∃ v, e = .returned v ∧ Kd.V k38 38 w' w'.heap.size (fun k => P0 k ∨ w.heap.size ≤ k) v (doneL (keepN ks) 0 l0 xs) ∧ Below w.heap.size w w' := by
  have HR := Aside0.mk hr1
  have HS := Aside0.mk (V_base (base' := w.heap.size) (Kd.V_mono hs0 (ok' := fun k => P0 k ∨ w.heap.size ≤ k) (fun k hk => .inl hk)))
  have HD := Aside0.mk hd
  have HX := Aside0.mk hx
  have HKV := Aside0.mk hk
  clear hr1 hs0 hd hx hk
  go_enter Try.func74, Try.ntmps74
  go_wp2
  go_loopg [0, 13] xs.length (fun kq v0 v13 w' => ∃ (i : Nat) (l : List S38), v13 = .int .i64 i ∧ i + kq = xs.length ∧ l.length ≤ l0.length + i ∧ Aside0 (doneL (keepN ks) i l (xs.drop i) = doneL (keepN ks) 0 l0 xs) ∧ Aside0 (okL l) ∧ Aside0 (Kd.V k38 38 w' w'.heap.size (fun k => P0 k ∨ w.heap.size ≤ k) v0 l) ∧ Aside0 (Below w.heap.size w w'))
  case atStart => exact ⟨0, l0, rfl, by omega, by omega, ⟨by rw [List.drop_zero]⟩, HD, HS, ⟨Below.refl _ _⟩⟩
  case round =>
    obtain ⟨i, l, rfl, hi, hll, HE, HO, HV, HB⟩ := hrel
    by_cases hlt : i < xs.length
    · obtain ⟨k1, rfl⟩ : ∃ k1, gk = k1 + 1 := ⟨gk - 1, by omega⟩
      obtain ⟨ad, A3, c3, e1, hx0, hx1, hx2, hx3, hc3, hC3⟩ := at_T31 (Kd.C_below HR.out HB.out) (i : Int) (by omega) (by omega)
      cases e1
      rw [Int.toNat_natCast] at hx0 hx1 hx2 hx3
      obtain ⟨x, hxe⟩ : ∃ x, rd_T31 xs (i : Int) = x := ⟨_, rfl⟩
      rw [hxe] at hx0 hx1 hx2 hx3 hc3 hC3
      have hxm : x ∈ xs ∧ xs.drop i = x :: xs.drop (i + 1) := by
        have h1 : rd_T31 xs (i : Int) = xs[i] := by simp [rd_T31, hlt, List.getD]
        rw [h1] at hxe
        exact ⟨hxe ▸ List.getElem_mem hlt, by rw [← hxe, List.drop_eq_getElem_cons hlt]⟩
      have HXM := Aside0.mk hxm
      clear hxe hxm
      obtain ⟨A, c, rfl⟩ := Kd.V_slice HV.out
      obtain ⟨kp, hkp⟩ : ∃ kp, kp = (keepN ks) i := ⟨_, rfl⟩
      have hdo := doT_f l x kp (by omega) HO.out (HX.out x HXM.out.1)
      have hnext : doneL (keepN ks) (i + 1) (dn l x kp) (xs.drop (i + 1)) = doneL (keepN ks) 0 l0 xs := by
        rw [← HE.out, HXM.out.2, hkp]
        rfl
      obtain ⟨hok, hle⟩ := dn_ok l x kp HO.out
      unfold dn at hnext hok hle
      obtain ⟨⟨r1, r2⟩, hr⟩ : ∃ r, doT l x kp = r := ⟨_, rfl⟩
      rw [hr] at hdo hnext hok hle
      simp only at hdo hnext hok hle
      have HKP := Aside0.mk hkp
      have HDO := Aside0.mk hdo
      have HNX := Aside0.mk hnext
      have HOK := Aside0.mk hok
      have HLE := Aside0.mk hle
      have HC3 := Aside0.mk hC3
      have HC3l := Aside0.mk hc3
      clear hdo hnext hok hle hr hkp hC3 hc3
      have hk0 : DnS w wr.heap.size (fun k => P0 k ∨ w.heap.size ≤ k) x A3 c3 (.slice A l.length c) l (wr.alloc (Obj.cells #[.string x.f0, .int .i64 x.f1, .int .i64 x.f2, .slice A3 x.f3.length c3] 31)) :=
        ⟨heap_alloc_new _ _, V_base (Kd.V_alloc HV.out _), Kd.C_alloc HC3.out _, below_alloc HB.out _⟩
      have HK0 := Aside0.mk hk0
      clear hk0
      go_wp2_with fail
      have hk0 := HK0.out
      clear hx0 hx1 hx2 hx3
      generalize wr.alloc (Obj.cells #[.string x.f0, .int .i64 x.f1, .int .i64 x.f2, .slice A3 x.f3.length c3] 31) = w3 at hk0 ⊢
      generalize wr.heap.size = bx at hk0 ⊢
      go_region_held3 (fun w' => w'.cell? ⟨bx, 0, none⟩ = some (.string x.f0) ∧ w'.cell? ⟨bx, 1, none⟩ = some (.int .i64 x.f1) ∧ w'.cell? ⟨bx, 2, none⟩ = some (.int .i64 x.f2) ∧ w'.cell? ⟨bx, 3, none⟩ = some (.slice A3 x.f3.length c3) ∧ DnS w bx (fun k => P0 k ∨ w.heap.size ≤ k) x A3 c3 (.slice A l.length c) l w')
        (first
          | exact hk0.drew.all
          | (go_split_ands
             first
              | exact DnS.all (DnS.step (by assumption) hb6)
              | exact DnS.all (DnS.step (by assumption) hb5))
          | go_keep)
        (first
          | (go_split_ands; go_at_call 78; refine (keep_calls ks i bk ck Ak _ (HKV.out.below (DnS.below (by assumption))) (by omega)).mono ?_; rintro e w5 ⟨he, hb5⟩; rw [← HKP.out] at he; subst he)
          | (go_split_ands
             go_at_call 17
             ((with_reducible refine (files_Do.calls (fun k => P0 k ∨ w.heap.size ≤ k) A c l x.f0 x.f1 x.f2 A3 c3 x.f3 _ r1 r2 _ ?hs ?hr ?hc HDO.out).mono ?_); (case hs => exact V_base (DnS.v (by assumption))); (case hr => exact DnS.c (by assumption)); (case hc => exact HC3l.out))
             rintro e w6 ⟨v6, rfl, hV6, hb6⟩))
      have hfin : DnS w bx (fun k => P0 k ∨ w.heap.size ≤ k) x A3 c3 (.slice A l.length c) l w6 := by go_split_ands; assumption
      have hszs : w.heap.size ≤ w5.heap.size := by
        have : DnS w bx (fun k => P0 k ∨ w.heap.size ≤ k) x A3 c3 (.slice A l.length c) l w5 := by go_split_ands; assumption
        exact this.below.size
      have HFIN := Aside0.mk hfin
      have HV6 := Aside0.mk (V_base (base' := w6.heap.size) (Kd.V_mono hV6 (ok' := fun k => P0 k ∨ w.heap.size ≤ k) (fun k hk => hk.elim id (fun h => .inr (Nat.le_trans hszs h)))))
      clear hk0 hfin hszs hV6
      by_cases hz : r2 = 0
      · have hz2 : (r2 == 0) = true := by simp [hz]
        have HNX2 := HNX.out
        have HOK2 := HOK.out
        have HLE2 := HLE.out
        rw [if_pos hz] at HNX2 HOK2 HLE2
        have HNX3 := Aside0.mk HNX2
        have HOK3 := Aside0.mk HOK2
        clear HNX2 HOK2 hz
        go_wp2
        go_roundg k1
        case measure => omega
        case rel => exact ⟨i + 1, r1, by go_num, by omega, by omega, HNX3, HOK3, HV6, ⟨HFIN.out.below⟩⟩
      · have hz2 : (r2 == 0) = false := by simp [hz]
        have HNX2 := HNX.out
        rw [if_neg hz] at HNX2
        have HNX3 := Aside0.mk HNX2
        clear HNX2 hz
        go_wp2
        go_roundg k1
        case measure => omega
        case rel => exact ⟨i + 1, l, by go_num, by omega, by omega, HNX3, HO, ⟨V_base HFIN.out.v⟩, ⟨HFIN.out.below⟩⟩
    · have hge : xs.length ≤ i := by omega
      have hend : l = doneL (keepN ks) 0 l0 xs := by
        rw [← HE.out, List.drop_eq_nil_of_le hge]
        rfl
      have HEND := Aside0.mk hend
      clear hlt hend
      go_wp2
      go_ret
      exact ⟨_, rfl, by rw [← HEND.out]; exact HV.out, HB.out⟩

end Go.Proofs.Ytcgeioingikeeaa.P
