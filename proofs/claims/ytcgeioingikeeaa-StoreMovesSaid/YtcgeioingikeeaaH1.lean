/- files.Get, Drop, Same and slices.Clone: what each returns, for every row of at most a million files. -/
import Derived.Test.YtcgeioingikeeaaT
import Derived.Test.YtcgeioingikeeaaPf66
namespace Go.Proofs.Ytcgeioingikeeaa.P
open Go.RowKit Go.Proofs.YtcgeioingikeeaaW.PrintWords Go.Proofs.YtcgeioingikeeaaW.PrintLast Go.Proofs.YtcgeioingikeeaaW.PrintMore
set_option linter.unusedVariables false
set_option linter.unusedSimpArgs false

def files_Get.f (l0 : List S38) (a1 : ByteArray) : Option (List Int × Bool) := if l0.length ≤ 1000000 ∧ (∀ x ∈ l0, x.f1.length ≤ 1000000) then some (match l0.find? (named a1) with | some x => (x.f1, true) | none => ([], false)) else none
def slices_CloneF.f (l0 : List S38) : Option (List S38) := if l0.length ≤ 1000000 then some l0 else none
def files_Drop.f (l0 : List S38) (a1 : ByteArray) : Option (List S38) := if l0.length ≤ 1000000 then some (l0.filter fun x => !named a1 x) else none
def sameB (x y : S38) : Bool := x.f0.toList == y.f0.toList && x.f1 == y.f1
def sameL : List S38 → List S38 → Bool
  | [], [] => true
  | x :: l, y :: m => sameB x y && sameL l m
  | _, _ => false
def files_Same.f (l0 l1 : List S38) : Option Bool := some (sameL l0 l1)

theorem slices_CloneF.calls (P0_ : Nat → Prop) (A0 : Option Addr) (c0 : Nat) (l0 : List S38) (r : List S38) (w : World) (hs0 : Kd.V k38 38 w w.heap.size (fun k_ => P0_ k_) (.slice A0 l0.length c0) l0) (h : slices_CloneF.f l0 = some r) :
    Calls Try.prog 57 #[.slice A0 l0.length c0] w fun e w' => ∃ v0_ : Value, e = .returned (v0_) ∧ Kd.V k38 38 w' w.heap.size (fun k_ => (P0_ k_ ∨ w.heap.size ≤ k_)) v0_ r ∧ Below w.heap.size w w' := by
  unfold slices_CloneF.f at h
  split at h
  · rename_i hl
    obtain rfl := Option.some.inj h
    refine (cloneF P0_ A0 c0 l0 w (Kd.V_F hs0) hl).mono ?_
    rintro e w' ⟨v, rfl, ho, hb⟩
    exact ⟨v, rfl, Kd.V_mono (O_V ho) fun k hk => hk.imp And.left id, hb⟩
  · cases h

set_option maxHeartbeats 2000000 in
theorem dropO (ok : Nat → Prop) (A0 : Option Addr) (c0 : Nat) (l0 : List S38) (name : ByteArray) (w : World) (hf : Kd.F k38 w ok A0 l0.length l0) (hlen : l0.length ≤ 1000000) :
    Calls Try.prog 25 #[.slice A0 l0.length c0, .string name] w fun e w' => ∃ v, e = .returned v ∧ O k38 38 w' w.heap.size (fun k => ok k ∧ k < w.heap.size) v (l0.filter fun x => !named name x) ∧ Below w.heap.size w w' := by
  have hcl := cloneF ok A0 c0 l0 w hf hlen
  clear hf
  go_enter Try.func25, Try.ntmps25
  go_wp2_with (first | (go_at_call 57; refine hcl.mono ?_; rintro e w1 ⟨v1, rfl, ho, hb⟩; have HO := Aside0.mk ho; have HB := Aside0.mk hb; clear ho hb) | (go_at_call 62; refine (deleteF_is _ _ name v1 l0 _ HO.out HB.out.size (by omega)).mono ?_; rintro e w2 ⟨v2, rfl, ho2, hg2, hv2⟩; have HO2 := Aside0.mk ho2; have HG2 := Aside0.mk hg2; clear ho2 hg2 hv2))
  go_ret
  exact ⟨_, rfl, HO2.out, HB.out.grown HG2.out HB.out.size fun k hk => O_base HO.out k hk⟩

theorem files_Drop.calls (P0_ : Nat → Prop) (A0 : Option Addr) (c0 : Nat) (l0 : List S38) (a1 : ByteArray) (r : List S38) (w : World) (hs0 : Kd.V k38 38 w w.heap.size (fun k_ => P0_ k_) (.slice A0 l0.length c0) l0) (h : files_Drop.f l0 a1 = some r) :
    Calls Try.prog 25 #[.slice A0 l0.length c0, .string a1] w fun e w' => ∃ v0_ : Value, e = .returned (v0_) ∧ Kd.V k38 38 w' w.heap.size (fun k_ => (P0_ k_ ∨ w.heap.size ≤ k_)) v0_ r ∧ Below w.heap.size w w' := by
  unfold files_Drop.f at h
  split at h
  · rename_i hl
    obtain rfl := Option.some.inj h
    refine (dropO P0_ A0 c0 l0 a1 w (Kd.V_F hs0) hl).mono ?_
    rintro e w' ⟨v, rfl, ho, hb⟩
    exact ⟨v, rfl, Kd.V_mono (O_V ho) fun k hk => hk.imp And.left id, hb⟩
  · cases h

theorem O_R {w : World} {base : Nat} {ok : Nat → Prop} {v : Value} {xs : List Int} (h : O (Kd.int .u8) 5 w base ok v xs) : Kd.R (Kd.int .u8) 5 w base (fun _ => True) v xs := by
  obtain ⟨inner, h1, h2⟩ := h
  have he : inner = encs (Value.int .u8) xs := Kd.reps_encs (h2.imp_ fun x c hx => Kd.FK_now hx)
  subst he
  exact Kd.R_of_own h1 fun _ _ => trivial

set_option maxHeartbeats 4000000 in
theorem files_Get.calls (A0 : Option Addr) (c0 : Nat) (l0 : List S38) (a1 : ByteArray) (r1 : List Int) (r2 : Bool) (w : World) (hr0 : Kd.C k38 w A0 l0.length l0) (hc0 : l0.length ≤ c0) (h : files_Get.f l0 a1 = some (r1, r2)) :
    Calls Try.prog 28 #[.slice A0 l0.length c0, .string a1] w fun e w' => ∃ v0_ : Value, e = .returned (.tuple #[v0_, .bool r2]) ∧ Kd.R (Kd.int .u8) 5 w' w.heap.size (fun _ => True) v0_ r1 ∧ Below w.heap.size w w' := by
  unfold files_Get.f at h
  split at h
  · rename_i hl
    have hIdx := indexFunc_is a1 A0 c0 l0 w hr0
    have HR := Aside0.mk hr0
    clear hr0
    rcases hfi : l0.findIdx? (named a1) with _ | i0
    · have hid : idxOf (named a1) l0 = -1 := by unfold idxOf; rw [hfi]
      have hfd : l0.find? (named a1) = none := by
        rw [List.find?_eq_none]
        intro x hx
        have := List.findIdx?_eq_none_iff.1 hfi x hx
        simp [this]
      rw [hfd] at h
      simp only [Option.some.injEq, Prod.mk.injEq] at h
      obtain ⟨rfl, rfl⟩ := h
      rw [hid] at hIdx
      clear hid hfd hfi hl
      go_enter Try.func28, Try.ntmps28
      go_wp2_with (go_at_call 58; refine hIdx.mono ?_; rintro e w1 ⟨rfl, hb⟩; have HB := Aside0.mk hb; clear hb)
      go_ret2
      exact ⟨_, rfl, Kd.R_nil _ _ _ _ _, HB.out⟩
    · have hid : idxOf (named a1) l0 = (i0 : Int) := by unfold idxOf; rw [hfi]
      obtain ⟨hi0, hp0, hn0⟩ := List.findIdx?_eq_some_iff_getElem.1 hfi
      have hfd : l0.find? (named a1) = some l0[i0] := by
        rw [List.find?_eq_some_iff_getElem]
        exact ⟨hp0, i0, hi0, rfl, fun j hj => by simpa using hn0 j hj⟩
      rw [hfd] at h
      simp only [Option.some.injEq, Prod.mk.injEq] at h
      obtain ⟨rfl, rfl⟩ := h
      have hlx := hl.2 l0[i0] (List.getElem_mem _)
      rw [hid] at hIdx
      have HL := Aside0.mk hlx
      clear hid hfd hfi hl hp0 hn0 hlx
      obtain ⟨ad, A1, c1, e1, hx0, hx1, hx2, hx3⟩ := at_T38 HR.out (i0 : Int) (by omega) (by omega)
      cases e1
      have HRD : rd_T38 l0 (i0 : Int) = l0[i0] := by unfold rd_T38; rw [Int.toNat_natCast, List.getD_eq_getElem?_getD, List.getElem?_eq_getElem hi0]; rfl
      rw [Int.toNat_natCast] at hx0 hx1
      rw [HRD] at hx0 hx1 hx2 hx3
      clear HRD
      obtain ⟨x, hxe⟩ : ∃ x, l0[i0] = x := ⟨_, rfl⟩
      rw [hxe] at hx0 hx1 hx2 hx3 HL
      have HXE := Aside0.mk hxe
      have HX2 := Aside0.mk hx2
      have HX3 := Aside0.mk (Kd.C_F (Kd.heap_int .u8) hx3)
      clear hxe hx2 hx3
      go_enter Try.func28, Try.ntmps28
      go_wp2_with (first | (go_at_call 58; refine hIdx.mono ?_; rintro e w1 ⟨rfl, hb⟩; have HB := Aside0.mk hb; have hz1 := pw_cell_below hb hx1; clear hb hx0 hx1) | (go_at_call 61; refine (cloneB _ A1 c1 x.f1 _ (Kd.F_below HX3.out HB.out) HL.out).mono ?_; rintro e w2 ⟨v2, rfl, ho2, hb2⟩; have HO2 := Aside0.mk ho2; have HB2 := Aside0.mk hb2; clear ho2 hb2))
      go_ret2
      exact ⟨_, rfl, by rw [HXE.out]; exact Kd.R_lower (O_R HO2.out) HB.out.size, below_step HB.out HB2.out⟩
  · cases h
theorem equal_loop (a b : List Int) (hl : a.length = b.length) (hm : a.length ≤ 9223372036854775807) (d : Nat) : ∀ (k i : Nat), i + d = a.length → d < k → a.take i = b.take i → slices_Equal_byte_byte.l0 k a b (a.length : Int) (i : Int) = some (a == b) := by
  induction d with
  | zero =>
    intro k i hi hk he
    obtain ⟨k, rfl⟩ : ∃ m, k = m + 1 := ⟨k - 1, by omega⟩
    simp only [slices_Equal_byte_byte.l0]
    rw [if_neg (by omega)]
    rw [List.take_of_length_le (by omega), List.take_of_length_le (by omega)] at he
    simp [he]
  | succ d ih =>
    intro k i hi hk he
    obtain ⟨k, rfl⟩ : ∃ m, k = m + 1 := ⟨k - 1, by omega⟩
    simp only [slices_Equal_byte_byte.l0]
    rw [if_pos (by omega), if_pos (by omega), if_pos (by omega), if_pos (by omega)]
    have h1 : rd a (i : Int) = a[i] := by unfold rd; rw [Int.toNat_natCast, List.getD_eq_getElem?_getD, List.getElem?_eq_getElem (by omega)]; rfl
    have h2 : rd b (i : Int) = b[i] := by unfold rd; rw [Int.toNat_natCast, List.getD_eq_getElem?_getD, List.getElem?_eq_getElem (by omega)]; rfl
    by_cases hc : rd a (i : Int) = rd b (i : Int)
    · rw [if_pos hc, show wrap64 ((i : Int) + 1) = ((i + 1 : Nat) : Int) by unfold wrap64; omega]
      refine ih k (i + 1) (by omega) (by omega) ?_
      rw [List.take_succ_eq_append_getElem (by omega), List.take_succ_eq_append_getElem (by omega), he, ← h1, ← h2, hc]
    · rw [if_neg hc]
      have : a ≠ b := by
        rintro rfl
        exact hc rfl
      simp [this]
theorem equal_ends (a b : List Int) (hm : a.length ≤ 9223372036854775807) : slices_Equal_byte_byte.f (a.length + 1) a b = some (a == b) := by
  unfold slices_Equal_byte_byte.f
  by_cases hl : a.length = b.length
  · rw [if_pos (by omega)]
    exact equal_loop a b hl hm a.length _ 0 (by omega) (by omega) rfl
  · rw [if_neg (by omega)]
    have : a ≠ b := by
      rintro rfl
      exact hl rfl
    simp [this]
theorem sameL_iff : ∀ (l m : List S38), sameL l m = true ↔ l.length = m.length ∧ ∀ j, j < l.length → sameB (l.getD j z38) (m.getD j z38) = true
  | [], [] => by simp [sameL]
  | [], y :: m => by simp [sameL]
  | x :: l, [] => by simp [sameL]
  | x :: l, y :: m => by
    rw [sameL, Bool.and_eq_true, sameL_iff l m]
    constructor
    · rintro ⟨h0, hl, h⟩
      refine ⟨by simp [hl], fun j hj => ?_⟩
      cases j with
      | zero => simpa using h0
      | succ j => simpa using h j (by simpa using hj)
    · rintro ⟨hl, h⟩
      exact ⟨by simpa using h 0 (by simp), by simpa using hl, fun j hj => by simpa using h (j + 1) (by simpa using hj)⟩

set_option maxHeartbeats 2000000 in
theorem same_one (x y : S38) (A B : Option Addr) (c d : Nat) (w : World) (hx : x.f1.length ≤ c) (hy : y.f1.length ≤ d) (h1 : (Kd.int .u8).C w A x.f1.length x.f1) (h2 : (Kd.int .u8).C w B y.f1.length y.f1) :
    Calls Try.prog 65 #[.agg #[.string x.f0, .slice A x.f1.length c], .agg #[.string y.f0, .slice B y.f1.length d]] w fun e w' => e = .returned (.bool (sameB x y)) ∧ Below w.heap.size w w' := by
  have hmx := Kd.C_max h1
  have H1 := Aside0.mk h1
  have H2 := Aside0.mk h2
  clear h1 h2
  by_cases hn : x.f0.toList = y.f0.toList
  · have hb : (x.f0.toList == y.f0.toList) = true := by simpa using hn
    have he := equal_ends x.f1 y.f1 hmx
    have HE := Aside0.mk he
    have HS : Aside0 (sameB x y = (x.f1 == y.f1)) := ⟨by unfold sameB; rw [hb]; rfl⟩
    clear hn he
    go_enter Try.func65, Try.ntmps65
    go_wp2_with (go_at_call 66; refine (slices_Equal_byte_byte.calls _ A c x.f1 B d y.f1 _ _ (Kd.C_alloc (Kd.C_alloc H1.out _) _) hx (Kd.C_alloc (Kd.C_alloc H2.out _) _) hy HE.out).mono ?_; rintro e w1 ⟨rfl, hd⟩; have HD := Aside0.mk hd; clear hd)
    go_ret
    exact ⟨by rw [HS.out]; rfl, below_step (below_alloc (below_alloc (Below.refl _ _) _) _) HD.out.below⟩
  · have hb : (x.f0.toList == y.f0.toList) = false := by simpa using hn
    have HS : Aside0 (sameB x y = false) := ⟨by unfold sameB; rw [hb]; rfl⟩
    clear hn
    go_enter Try.func65, Try.ntmps65
    go_wp2
    go_ret
    exact ⟨by rw [HS.out]; rfl, below_alloc (below_alloc (Below.refl _ _) _) _⟩
theorem sameL_no {l m : List S38} {i : Nat} (hi : i < l.length) (h : sameB (l.getD i z38) (m.getD i z38) = false) : sameL l m = false := by
  rw [Bool.eq_false_iff]
  intro hs
  have := ((sameL_iff l m).1 hs).2 i hi
  rw [this] at h
  cases h
set_option maxHeartbeats 4000000 in
set_option maxRecDepth 100000 in
theorem equalFunc (A0 : Option Addr) (c0 : Nat) (l0 : List S38) (A1 : Option Addr) (c1 : Nat) (l1 : List S38) (w : World) (hr0 : Kd.C k38 w A0 l0.length l0) (hr1 : Kd.C k38 w A1 l1.length l1) :
    Calls Try.prog 64 #[.slice A0 l0.length c0, .slice A1 l1.length c1, .func (.func 65) #[] #[]] w fun e w' => e = .returned (.bool (sameL l0 l1)) ∧ Below w.heap.size w w' := by
  have HR0 := Aside0.mk hr0
  have HR1 := Aside0.mk hr1
  have hmax := Kd.C_max hr0
  clear hr0 hr1
  by_cases hl : l0.length = l1.length
  · have HL := Aside0.mk hl
    have hb : (((l0.length : Nat) : Int) != ((l1.length : Nat) : Int)) = false := by simp [hl]
    have hb2 : (l0.length != l1.length) = false := by simp [hl]
    clear hl
    go_enter Try.func64, Try.ntmps64
    go_wp2
    clear hb hb2
    go_loopg [17] l0.length (fun kq v17 w' => ∃ i : Nat, v17 = .int .i64 i ∧ i + kq = l0.length ∧ Aside0 (∀ j, j < i → sameB (l0.getD j z38) (l1.getD j z38) = true) ∧ Aside0 (Below w.heap.size w w'))
    case atStart => exact ⟨0, rfl, by omega, ⟨fun j hj => absurd hj (by omega)⟩, ⟨Below.refl _ _⟩⟩
    case round =>
      obtain ⟨i, rfl, hi, HN, HB⟩ := hrel
      by_cases hlt : i < l0.length
      · have hlt1 : i < l1.length := by have := HL.out; omega
        obtain ⟨ad, B0, d0, e0, hx0, hx1, hx2, hx3⟩ := at_T38 (Kd.C_below HR0.out HB.out) (i : Int) (by omega) (by omega)
        obtain ⟨bd, B1, d1, e1, hy0, hy1, hy2, hy3⟩ := at_T38 (Kd.C_below HR1.out HB.out) (i : Int) (by omega) (by omega)
        cases e0
        cases e1
        rw [Int.toNat_natCast] at hx0 hx1 hy0 hy1
        have h38 : ∀ l : List S38, rd_T38 l (i : Int) = l.getD i z38 := fun l => by unfold rd_T38; rw [Int.toNat_natCast]
        rw [h38] at hx0 hx1 hx2 hx3 hy0 hy1 hy2 hy3
        clear h38
        obtain ⟨x, hxe⟩ : ∃ x, l0.getD i z38 = x := ⟨_, rfl⟩
        obtain ⟨y, hye⟩ : ∃ y, l1.getD i z38 = y := ⟨_, rfl⟩
        rw [hxe] at hx0 hx1 hx2 hx3
        rw [hye] at hy0 hy1 hy2 hy3
        have HX := Aside0.mk (And.intro hxe hye)
        have HX2 := Aside0.mk (And.intro hx2 hy2)
        have HX3 := Aside0.mk (And.intro hx3 hy3)
        clear hxe hye hx2 hy2 hx3 hy3
        have ha0 : ∀ o, (wr.alloc o).cell? (bd.add (i * 2)) = some (.string y.f0) := fun o => cell_later hy0
        have ha1 : ∀ o, (wr.alloc o).cell? ⟨(bd.add (i * 2)).block, (bd.add (i * 2)).off + 1, none⟩ = some (.slice B1 y.f1.length d1) := fun o => cell_later hy1
        obtain ⟨k1, rfl⟩ : ∃ k1, gk = k1 + 1 := ⟨gk - 1, by omega⟩
        cases hs : sameB x y
        · have HS := Aside0.mk hs
          clear hs
          go_wp2_with (go_at_call 65; refine (same_one x y _ _ _ _ _ HX2.out.1 HX2.out.2 (Kd.C_alloc (Kd.C_alloc HX3.out.1 _) _) (Kd.C_alloc (Kd.C_alloc HX3.out.2 _) _)).mono ?_; rintro e w2 ⟨rfl, hb⟩; rw [HS.out]; have HB2 := Aside0.mk hb; clear hb)
          go_ret
          exact ⟨by rw [sameL_no hlt (by rw [HX.out.1, HX.out.2]; exact HS.out)]; rfl, below_step (below_alloc (below_alloc HB.out _) _) HB2.out⟩
        · have HS := Aside0.mk hs
          clear hs
          go_wp2_with (go_at_call 65; refine (same_one x y _ _ _ _ _ HX2.out.1 HX2.out.2 (Kd.C_alloc (Kd.C_alloc HX3.out.1 _) _) (Kd.C_alloc (Kd.C_alloc HX3.out.2 _) _)).mono ?_; rintro e w2 ⟨rfl, hb⟩; rw [HS.out]; have HB2 := Aside0.mk hb; clear hb)
          go_roundg k1
          case measure => omega
          case rel =>
            refine ⟨i + 1, by go_num, by omega, ⟨fun j hj => ?_⟩, ⟨below_step (below_alloc (below_alloc HB.out _) _) HB2.out⟩⟩
            rcases Nat.lt_or_ge j i with h1 | h1
            · exact HN.out j h1
            · obtain rfl : j = i := by omega
              rw [HX.out.1, HX.out.2]; exact HS.out
      · have hge : l0.length ≤ i := by omega
        clear hlt
        go_wp2
        go_ret
        exact ⟨by rw [(sameL_iff l0 l1).2 ⟨HL.out, fun j hj => HN.out j (by omega)⟩]; rfl, HB.out⟩
  · have HL := Aside0.mk hl
    have hb : (((l0.length : Nat) : Int) != ((l1.length : Nat) : Int)) = true := by simp; omega
    have hb2 : (l0.length != l1.length) = true := by simp [hl]
    clear hl
    go_enter Try.func64, Try.ntmps64
    go_wp2
    go_ret
    refine ⟨?_, Below.refl _ _⟩
    have : sameL l0 l1 = false := by
      rw [Bool.eq_false_iff]
      intro hs
      exact HL.out ((sameL_iff l0 l1).1 hs).1
    rw [this]; rfl
set_option maxHeartbeats 2000000 in
theorem files_Same.calls (A0 : Option Addr) (c0 : Nat) (l0 : List S38) (A1 : Option Addr) (c1 : Nat) (l1 : List S38) (r : Bool) (w : World) (hr0 : Kd.C k38 w A0 l0.length l0) (hc0 : l0.length ≤ c0) (hr1 : Kd.C k38 w A1 l1.length l1) (hc1 : l1.length ≤ c1) (h : files_Same.f l0 l1 = some r) :
    Calls Try.prog 29 #[.slice A0 l0.length c0, .slice A1 l1.length c1] w fun e w' => e = .returned (.bool r) ∧ Below w.heap.size w w' := by
  obtain rfl := Option.some.inj h
  have hE := equalFunc A0 c0 l0 A1 c1 l1 w hr0 hr1
  clear h hr0 hr1
  go_enter Try.func29, Try.ntmps29
  go_wp2_with (go_at_call 64; refine hE.mono ?_; rintro e w1 ⟨rfl, hb⟩; have HB := Aside0.mk hb; clear hb)
  go_ret
  exact ⟨rfl, HB.out⟩
end Go.Proofs.Ytcgeioingikeeaa.P
