/- slices.ContainsFunc with Join's closure, slices.EqualFunc with slices.Equal: what each returns, for every row of rows of bytes. -/
import Derived.Test.YtibcgallhldnnaaPf32
import Derived.Test.YtibcgallhldnnaaG0
namespace Go.Proofs.Ytibcgallhldnnaa.P
open Go.RowKit Go.Proofs.YtibcgallhldnnaaW.PrintWords Go.Proofs.YtibcgallhldnnaaW.PrintLast Go.Proofs.YtibcgallhldnnaaW.PrintMore
set_option linter.unusedVariables false
set_option linter.unusedSimpArgs false

/-- Is this row not as long as the first one? -/
def odd (l : List (List Int)) (x : List Int) : Bool := ((x.length : Int) != ((rd_L6 l 0).length : Int))
set_option maxHeartbeats 1000000 in
theorem odd_is (D : Nat) (A0 B : Option Addr) (c0 m cb : Nat) (l0 : List (List Int)) (w : World) (hD : w.cell? ⟨D, 0, none⟩ = some (.slice A0 l0.length c0)) (hC : Kd.C (Kd.slice 5 (Kd.int .u8)) w A0 l0.length l0) (hl : 0 < l0.length) :
    Calls Try.prog 28 #[.slice B m cb, .pointer (some ⟨D, 0, none⟩)] w fun e w' => e = .returned (.bool ((m : Int) != ((rd_L6 l0 0).length : Int))) ∧ Below w.heap.size w w' := by
  obtain ⟨ad, A1, c1, e1, hx0, _, _⟩ := at_L6 hC 0 (by omega) (by omega)
  cases e1
  have hl' : (0 : Int) < (l0.length : Int) := by omega
  simp only [show (0 : Int).toNat = 0 from rfl, Nat.reduceMul, Nat.reduceEqDiff, Go.Addr.add, ↓reduceIte] at hx0
  go_enter Try.func28, Try.ntmps28
  go_wp2
  go_ret
  exact ⟨rfl, Below.refl _ _⟩

def idxL (p : List Int → Bool) (l : List (List Int)) : Int := match l.findIdx? p with | some i => (i : Int) | none => -1
theorem idxL_at {p : List Int → Bool} {l : List (List Int)} (i : Nat) (hi : i < l.length) (hp : p (rd_L6 l i) = true) (hn : ∀ j : Nat, j < i → p (rd_L6 l j) = false) : idxL p l = i := by
  have : l.findIdx? p = some i := by
    rw [List.findIdx?_eq_some_iff_getElem]
    refine ⟨hi, by rw [rd_at l i hi] at hp; exact hp, fun j hj => ?_⟩
    have := hn j hj
    rw [rd_at l j (by omega)] at this
    simp [this]
  unfold idxL; rw [this]
theorem all_upto {p : List Int → Bool} {l : List (List Int)} {i : Nat} (hn : ∀ j : Nat, j < i → p (rd_L6 l j) = false) (h : p (rd_L6 l i) = false) : ∀ j : Nat, j < i + 1 → p (rd_L6 l j) = false := by
  intro j hj
  rcases Nat.lt_or_ge j i with h1 | h1
  · exact hn j h1
  · obtain rfl : j = i := by omega
    exact h
theorem idxL_none {p : List Int → Bool} {l : List (List Int)} (hn : ∀ j : Nat, j < l.length → p (rd_L6 l j) = false) : idxL p l = -1 := by
  have : l.findIdx? p = none := by
    rw [List.findIdx?_eq_none_iff]
    intro x hx
    obtain ⟨j, hj, rfl⟩ := List.mem_iff_getElem.1 hx
    have := hn j hj
    rwa [rd_at l j hj] at this
  unfold idxL; rw [this]
theorem idxL_any (p : List Int → Bool) (l : List (List Int)) : decide (0 ≤ idxL p l) = l.any p := by
  unfold idxL
  cases h : l.findIdx? p with
  | none =>
    rw [List.findIdx?_eq_none_iff] at h
    have : l.any p = false := by
      rw [List.any_eq_false]
      intro x hx
      rw [h x hx]; simp
    rw [this]; rfl
  | some i =>
    rw [List.findIdx?_eq_some_iff_getElem] at h
    obtain ⟨hi, hp, _⟩ := h
    have : l.any p = true := List.any_eq_true.2 ⟨_, List.getElem_mem hi, hp⟩
    rw [this]; simp

set_option maxHeartbeats 2000000 in
theorem indexFunc_is (D : Nat) (A0 : Option Addr) (c0 : Nat) (l0 : List (List Int)) (w : World) (hD : w.cell? ⟨D, 0, none⟩ = some (.slice A0 l0.length c0)) (hr0 : Kd.C (Kd.slice 5 (Kd.int .u8)) w A0 l0.length l0) (hDl : D < w.heap.size) :
    Calls Try.prog 36 #[.slice A0 l0.length c0, .func (.func 28) #[] #[.pointer (some ⟨D, 0, none⟩)]] w fun e w' => e = .returned (.int .i64 (idxL (odd l0) l0)) ∧ Below w.heap.size w w' := by
  have HR := Aside0.mk hr0
  have HD := Aside0.mk hD
  have hmax := Kd.C_max hr0
  clear hr0 hD
  go_enter Try.func36, Try.ntmps36
  go_wp2
  go_loopg [8] l0.length (fun kq v8 w' => ∃ i : Nat, v8 = .int .i64 i ∧ i + kq = l0.length ∧ Aside0 (∀ j : Nat, j < i → odd l0 (rd_L6 l0 j) = false) ∧ Aside0 (Below w.heap.size w w'))
  case atStart => exact ⟨0, rfl, by omega, ⟨fun j hj => absurd hj (by omega)⟩, ⟨Below.refl _ _⟩⟩
  case round =>
    obtain ⟨i, rfl, hi, HN, HB⟩ := hrel
    by_cases hlt : i < l0.length
    · obtain ⟨ad, A1, c1, e1, hx0, hx1, _⟩ := at_L6 (Kd.C_below HR.out HB.out) (i : Int) (by omega) (by omega)
      cases e1
      rw [Int.toNat_natCast] at hx0
      obtain ⟨x, hxe⟩ : ∃ x, rd_L6 l0 (i : Int) = x := ⟨_, rfl⟩
      rw [hxe] at hx0 hx1
      have HX := Aside0.mk hxe
      clear hxe
      obtain ⟨k1, rfl⟩ : ∃ k1, gk = k1 + 1 := ⟨gk - 1, by omega⟩
      have hc := fun w' (hb : Below w.heap.size w w') => odd_is D (some ad) A1 c0 x.length c1 l0 w' ((hb.cell (p := ⟨D, 0, none⟩) hDl).trans HD.out) (Kd.C_below HR.out hb) (by omega)
      cases hp : odd l0 x
      · have HP := Aside0.mk hp
        have hp' : ((x.length : Int) != ((rd_L6 l0 0).length : Int)) = false := hp
        clear hp
        go_wp2_with (go_at_call 28; refine (hc _ HB.out).mono ?_; rintro e w1 ⟨rfl, hb⟩; have HB1 := Aside0.mk (below_step HB.out hb); clear hb HB; rw [hp'])
        go_roundg k1
        case measure => omega
        case rel => exact ⟨i + 1, by go_num, by omega, ⟨all_upto HN.out (by rw [HX.out]; exact HP.out)⟩, HB1⟩
      · have HP := Aside0.mk hp
        have hp' : ((x.length : Int) != ((rd_L6 l0 0).length : Int)) = true := hp
        clear hp
        go_wp2_with (go_at_call 28; refine (hc _ HB.out).mono ?_; rintro e w1 ⟨rfl, hb⟩; have HB1 := Aside0.mk (below_step HB.out hb); clear hb HB; rw [hp'])
        go_ret
        exact ⟨by rw [idxL_at i hlt (by rw [HX.out]; exact HP.out) HN.out]; rfl, HB1.out⟩
    · have hge : l0.length ≤ i := by omega
      clear hlt
      go_wp2
      go_ret
      exact ⟨by rw [idxL_none (by intro j hj; exact HN.out j (by omega))]; rfl, HB.out⟩

set_option maxHeartbeats 2000000 in
theorem containsFunc_is (D : Nat) (A0 : Option Addr) (c0 : Nat) (l0 : List (List Int)) (w : World) (hD : w.cell? ⟨D, 0, none⟩ = some (.slice A0 l0.length c0)) (hr0 : Kd.C (Kd.slice 5 (Kd.int .u8)) w A0 l0.length l0) (hDl : D < w.heap.size) :
    Calls Try.prog 27 #[.slice A0 l0.length c0, .func (.func 28) #[] #[.pointer (some ⟨D, 0, none⟩)]] w fun e w' => e = .returned (.bool (l0.any (odd l0))) ∧ Below w.heap.size w w' := by
  have hc := indexFunc_is D A0 c0 l0 w hD hr0 hDl
  rw [← idxL_any]
  obtain ⟨r, hr⟩ : ∃ r, idxL (odd l0) l0 = r := ⟨_, rfl⟩
  rw [hr] at hc ⊢
  clear hr0 hD
  go_enter Try.func27, Try.ntmps27
  go_wp2_with (go_at_call 36; refine hc.mono ?_; rintro e w1 ⟨rfl, hb⟩; have HB1 := Aside0.mk hb; clear hb)
  go_ret
  exact ⟨rfl, HB1.out⟩

theorem rdi (xs : List Int) (i : Nat) (h : i < xs.length) : rd xs (i : Int) = xs[i] := by
  unfold rd
  rw [Int.toNat_natCast, List.getD_eq_getElem?_getD, List.getElem?_eq_getElem h]; rfl
theorem equal_l (a b : List Int) (hl : a.length = b.length) (hb : a.length < 4611686018427387904) : ∀ m i : Nat, i + m = a.length → (∀ j : Nat, j < i → rd a j = rd b j) → slices_Equal_byte_byte.l0 (m + 1) a b (a.length : Int) (i : Int) = some (decide (a = b))
  | 0, i, hi, hs => by
    obtain rfl : i = a.length := by omega
    rw [slices_Equal_byte_byte.l0, if_neg (by omega)]
    have : a = b := by
      apply List.ext_getElem hl
      intro j h1 h2
      have := hs j h1
      rwa [rdi a j h1, rdi b j h2] at this
    rw [decide_eq_true this]
  | m + 1, i, hi, hs => by
    have h : i < a.length := by omega
    rw [slices_Equal_byte_byte.l0, if_pos (by omega), if_pos (by omega), if_pos (by omega), if_pos (by omega)]
    by_cases e : rd a (i : Int) = rd b (i : Int)
    · rw [if_pos e, wrap_nat i (by omega)]
      exact equal_l a b hl hb m (i + 1) (by omega) (fun j hj => by
        rcases Nat.lt_or_ge j i with h1 | h1
        · exact hs j h1
        · obtain rfl : j = i := by omega
          exact e)
    · rw [if_neg e]
      have : ¬ a = b := fun h => e (by rw [h])
      rw [decide_eq_false this]
theorem equal_all (a b : List Int) (hb : a.length < 4611686018427387904) : ∃ k, slices_Equal_byte_byte.f k a b = some (decide (a = b)) := by
  by_cases hl : a.length = b.length
  · refine ⟨a.length + 1, ?_⟩
    unfold slices_Equal_byte_byte.f
    rw [if_pos (by omega)]
    exact equal_l a b hl hb a.length 0 (by omega) (fun j hj => absurd hj (by omega))
  · refine ⟨0, ?_⟩
    unfold slices_Equal_byte_byte.f
    rw [if_neg (by omega)]
    have : ¬ a = b := fun h => hl (by rw [h])
    rw [decide_eq_false this]
theorem equal_calls (A0 : Option Addr) (c0 : Nat) (l0 : List Int) (A1 : Option Addr) (c1 : Nat) (l1 : List Int) (w : World) (hr0 : Kd.C (Kd.int .u8) w A0 l0.length l0) (hc0 : l0.length ≤ c0) (hr1 : Kd.C (Kd.int .u8) w A1 l1.length l1) (hc1 : l1.length ≤ c1) (hb : l0.length < 4611686018427387904) :
    Calls Try.prog 32 #[.slice A0 l0.length c0, .slice A1 l1.length c1] w fun e w' => e = .returned (.bool (decide (l0 = l1))) ∧ Below w.heap.size w w' := by
  obtain ⟨k, hk⟩ := equal_all l0 l1 hb
  refine (slices_Equal_byte_byte.calls k A0 c0 l0 A1 c1 l1 _ w hr0 hc0 hr1 hc1 hk).mono ?_
  rintro e w' ⟨rfl, hd⟩
  exact ⟨rfl, Drawn0.below hd⟩

theorem eq_of_all {a b : List (List Int)} (hl : a.length = b.length) (h : ∀ j : Nat, j < a.length → rd_L6 a j = rd_L6 b j) : a = b := by
  apply List.ext_getElem hl
  intro j h1 h2
  have := h j h1
  rwa [rd_at a j h1, rd_at b j h2] at this
set_option maxHeartbeats 4000000 in
theorem equalFunc_is (A0 : Option Addr) (c0 : Nat) (l0 : List (List Int)) (A1 : Option Addr) (c1 : Nat) (l1 : List (List Int)) (w : World) (hr0 : Kd.C (Kd.slice 5 (Kd.int .u8)) w A0 l0.length l0) (hr1 : Kd.C (Kd.slice 5 (Kd.int .u8)) w A1 l1.length l1) (hs : ∀ x ∈ l0, x.length ≤ 4294967296) :
    Calls Try.prog 31 #[.slice A0 l0.length c0, .slice A1 l1.length c1, .func (.func 32) #[] #[]] w fun e w' => e = .returned (.bool (decide (l0 = l1))) ∧ Below w.heap.size w w' := by
  have hmax := Kd.C_max hr0
  by_cases hl : l0.length = l1.length
  · have HR := Aside0.mk hr0
    have HR1 := Aside0.mk hr1
    have HS := Aside0.mk hs
    have HL := Aside0.mk hl
    have hl2 : ((l0.length : Int) != (l1.length : Int)) = false := by rw [hl]; simp
    clear hr0 hr1 hs hl
    go_enter Try.func31, Try.ntmps31
    go_wp2
    go_loopg [17] l0.length (fun kq v17 w' => ∃ i : Nat, v17 = .int .i64 i ∧ i + kq = l0.length ∧ Aside0 (∀ j : Nat, j < i → rd_L6 l0 j = rd_L6 l1 j) ∧ Aside0 (Below w.heap.size w w'))
    case atStart => exact ⟨0, rfl, by omega, ⟨fun j hj => absurd hj (by omega)⟩, ⟨Below.refl _ _⟩⟩
    case round =>
      obtain ⟨i, rfl, hi, HN, HB⟩ := hrel
      by_cases hlt : i < l0.length
      · have hlt1 : i < l1.length := by have := HL.out; omega
        obtain ⟨ad, B0, d0, e0, hx0, hx1, hx2⟩ := at_L6 (Kd.C_below HR.out HB.out) (i : Int) (by omega) (by omega)
        obtain ⟨ae, B1, d1, e1, hy0, hy1, hy2⟩ := at_L6 (Kd.C_below HR1.out HB.out) (i : Int) (by omega) (by omega)
        cases e0
        cases e1
        rw [Int.toNat_natCast] at hx0 hy0
        have hlen : (rd_L6 l0 (i : Int)).length ≤ 4294967296 := by
          rw [rd_at l0 i hlt]; exact HS.out _ (List.getElem_mem hlt)
        have HX2 := Aside0.mk hx2
        have HY2 := Aside0.mk hy2
        obtain ⟨x, hxe⟩ : ∃ x, rd_L6 l0 (i : Int) = x := ⟨_, rfl⟩
        obtain ⟨y, hye⟩ : ∃ y, rd_L6 l1 (i : Int) = y := ⟨_, rfl⟩
        rw [hxe] at hx0 hx1 hlen HX2
        rw [hye] at hy0 hy1 HY2
        clear hx2 hy2
        have HXE := Aside0.mk hxe
        have HYE := Aside0.mk hye
        clear hxe hye
        obtain ⟨k1, rfl⟩ : ∃ k1, gk = k1 + 1 := ⟨gk - 1, by omega⟩
        by_cases hp : x = y
        · have HP := Aside0.mk hp
          have hp' : decide (x = y) = true := decide_eq_true hp
          clear hp
          go_wp2_with (go_at_call 32; refine (equal_calls B0 d0 x B1 d1 y _ HX2.out hx1 HY2.out hy1 (by omega)).mono ?_; rintro e w1 ⟨rfl, hb⟩; have HB1 := Aside0.mk (below_step HB.out hb); clear hb HB; rw [hp'])
          go_roundg k1
          case measure => omega
          case rel => exact ⟨i + 1, by go_num, by omega, ⟨by
            intro j hj
            rcases Nat.lt_or_ge j i with h1 | h1
            · exact HN.out j h1
            · obtain rfl : j = i := by omega
              rw [HXE.out, HYE.out, HP.out]⟩, HB1⟩
        · have HP := Aside0.mk hp
          have hp' : decide (x = y) = false := decide_eq_false hp
          clear hp
          go_wp2_with (go_at_call 32; refine (equal_calls B0 d0 x B1 d1 y _ HX2.out hx1 HY2.out hy1 (by omega)).mono ?_; rintro e w1 ⟨rfl, hb⟩; have HB1 := Aside0.mk (below_step HB.out hb); clear hb HB; rw [hp'])
          go_ret
          exact ⟨by rw [decide_eq_false (fun h => HP.out (by rw [← HXE.out, ← HYE.out, h]))]; rfl, HB1.out⟩
      · have hge : l0.length ≤ i := by omega
        clear hlt
        go_wp2
        go_ret
        exact ⟨by rw [decide_eq_true (eq_of_all HL.out (by intro j hj; exact HN.out j (by omega)))]; rfl, HB.out⟩
  · have hl2 : ((l0.length : Int) != (l1.length : Int)) = true := by simp; omega
    have hne : ¬ l0 = l1 := fun h => hl (by rw [h])
    rw [decide_eq_false hne]
    clear hr0 hr1 hs hne
    go_enter Try.func31, Try.ntmps31
    go_wp2
    go_ret
    exact ⟨rfl, Below.refl _ _⟩
end Go.Proofs.Ytibcgallhldnnaa.P
