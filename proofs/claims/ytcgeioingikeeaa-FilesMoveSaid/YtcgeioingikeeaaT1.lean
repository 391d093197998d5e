/- The closures of files (is this the name, does this name lie ahead) and slices.IndexFunc over files: what each returns, for every row of files that reads. -/
import Derived.Test.YtcgeioingikeeaaS
namespace Go.Proofs.Ytcgeioingikeeaa.P
open Go.RowKit Go.Proofs.YtcgeioingikeeaaW.PrintWords Go.Proofs.YtcgeioingikeeaaW.PrintLast Go.Proofs.YtcgeioingikeeaaW.PrintMore
attribute [local go_sem] str_geq str_gtr str_leq
def named (name : ByteArray) (x : S38) : Bool := x.f0.toList == name.toList
def aheadOf (name : ByteArray) (x : S38) : Bool := Op.bytesLess name.toList x.f0.toList

set_option maxHeartbeats 1000000 in
theorem named_is (name : ByteArray) (x : ByteArray) (v : Value) (W : World) :
    Calls Try.prog 63 #[.string name, .agg #[.string x, v]] W fun e W' => e = .returned (.bool (x.toList == name.toList)) ∧ Below W.heap.size W W' := by
  go_enter Try.func63, Try.ntmps63
  go_wp2
  go_ret
  exact ⟨rfl, (Below.refl _ _).alloc (Nat.le_refl _) _⟩
set_option maxHeartbeats 1000000 in
theorem named_ahead (name : ByteArray) (x : ByteArray) (v : Value) (W : World) :
    Calls Try.prog 59 #[.string name, .agg #[.string x, v]] W fun e W' => e = .returned (.bool (Op.bytesLess name.toList x.toList)) ∧ Below W.heap.size W W' := by
  go_enter Try.func59, Try.ntmps59
  go_wp2
  go_ret
  exact ⟨rfl, (Below.refl _ _).alloc (Nat.le_refl _) _⟩

/-- The first that is so, or -1. -/
def idxOf (p : S38 → Bool) (l : List S38) : Int := match l.findIdx? p with | some i => (i : Int) | none => -1
theorem idxOf_at {p : S38 → Bool} {l : List S38} (i : Nat) (hi : i < l.length) (hp : p (l.getD i z38) = true) (hn : ∀ j, j < i → p (l.getD j z38) = false) : idxOf p l = i := by
  have : l.findIdx? p = some i := by
    rw [List.findIdx?_eq_some_iff_getElem]
    refine ⟨hi, by simpa [List.getD_eq_getElem?_getD, List.getElem?_eq_getElem hi] using hp, fun j hj => ?_⟩
    have := hn j hj
    rw [List.getD_eq_getElem?_getD, List.getElem?_eq_getElem (by omega)] at this
    simpa using this
  unfold idxOf; rw [this]
theorem all_succ {p : S38 → Bool} {l : List S38} {i : Nat} (hn : ∀ j, j < i → p (l.getD j z38) = false) (h : p (l.getD i z38) = false) : ∀ j, j < i + 1 → p (l.getD j z38) = false := by
  intro j hj
  rcases Nat.lt_or_ge j i with h1 | h1
  · exact hn j h1
  · obtain rfl : j = i := by omega
    exact h
theorem idxOf_none {p : S38 → Bool} {l : List S38} (hn : ∀ j, j < l.length → p (l.getD j z38) = false) : idxOf p l = -1 := by
  have : l.findIdx? p = none := by
    rw [List.findIdx?_eq_none_iff]
    intro x hx
    obtain ⟨j, hj, rfl⟩ := List.mem_iff_getElem.1 hx
    have := hn j hj
    rwa [List.getD_eq_getElem?_getD, List.getElem?_eq_getElem hj] at this
  unfold idxOf; rw [this]

set_option maxHeartbeats 2000000 in
theorem indexFunc_is (name : ByteArray) (A0 : Option Addr) (c0 : Nat) (l0 : List S38) (w : World) (hr0 : Kd.C k38 w A0 l0.length l0) :
    Calls Try.prog 58 #[.slice A0 l0.length c0, .func (.func 63) #[.string name] #[]] w fun e w' => e = .returned (.int .i64 (idxOf (named name) l0)) ∧ Below w.heap.size w w' := by
  have HR := Aside0.mk hr0
  have hmax := Kd.C_max hr0
  clear hr0
  go_enter Try.func58, Try.ntmps58
  go_wp2
  go_loopg [8] l0.length (fun kq v8 w' => ∃ i : Nat, v8 = .int .i64 i ∧ i + kq = l0.length ∧ Aside0 (∀ j, j < i → named name (l0.getD j z38) = false) ∧ Aside0 (Below w.heap.size w w'))
  case atStart => exact ⟨0, rfl, by omega, ⟨fun j hj => absurd hj (by omega)⟩, ⟨Below.refl _ _⟩⟩
  case round =>
    obtain ⟨i, rfl, hi, HN, HB⟩ := hrel
    by_cases hlt : i < l0.length
    · obtain ⟨ad, A1, c1, e1, hx0, hx1, _, _⟩ := at_T38 (Kd.C_below HR.out HB.out) (i : Int) (by omega) (by omega)
      cases e1
      rw [Int.toNat_natCast] at hx0 hx1
      have HRD : rd_T38 l0 (i : Int) = l0.getD i z38 := by unfold rd_T38; rw [Int.toNat_natCast]
      rw [HRD] at hx0 hx1
      clear HRD
      obtain ⟨x, hxe⟩ : ∃ x, l0.getD i z38 = x := ⟨_, rfl⟩
      rw [hxe] at hx0 hx1
      have HX := Aside0.mk hxe
      clear hxe
      obtain ⟨k1, rfl⟩ : ∃ k1, gk = k1 + 1 := ⟨gk - 1, by omega⟩
      cases hp : named name x
      · have HP := Aside0.mk hp
        have hp' : (x.f0.toList == name.toList) = false := hp
        clear hp
        go_wp2_with (go_at_call 63; refine (named_is name _ _ _).mono ?_; rintro e w1 ⟨rfl, hb⟩; have HB1 := Aside0.mk (below_step HB.out hb); clear hb HB; rw [hp'])
        go_roundg k1
        case measure => omega
        case rel => exact ⟨i + 1, by go_num, by omega, ⟨all_succ HN.out (by rw [HX.out]; exact HP.out)⟩, HB1⟩
      · have HP := Aside0.mk hp
        have hp' : (x.f0.toList == name.toList) = true := hp
        clear hp
        go_wp2_with (go_at_call 63; refine (named_is name _ _ _).mono ?_; rintro e w1 ⟨rfl, hb⟩; have HB1 := Aside0.mk (below_step HB.out hb); clear hb HB; rw [hp'])
        go_ret
        exact ⟨by rw [idxOf_at i hlt (by rw [HX.out]; exact HP.out) HN.out]; rfl, HB1.out⟩
    · have hge : l0.length ≤ i := by omega
      clear hlt
      go_wp2
      go_ret
      exact ⟨by rw [idxOf_none (by intro j hj; exact HN.out j (by omega))]; rfl, HB.out⟩

set_option maxHeartbeats 2000000 in
theorem indexFunc_ahead (name : ByteArray) (A0 : Option Addr) (c0 : Nat) (l0 : List S38) (w : World) (hr0 : Kd.C k38 w A0 l0.length l0) :
    Calls Try.prog 58 #[.slice A0 l0.length c0, .func (.func 59) #[.string name] #[]] w fun e w' => e = .returned (.int .i64 (idxOf (aheadOf name) l0)) ∧ Below w.heap.size w w' := by
  have HR := Aside0.mk hr0
  have hmax := Kd.C_max hr0
  clear hr0
  go_enter Try.func58, Try.ntmps58
  go_wp2
  go_loopg [8] l0.length (fun kq v8 w' => ∃ i : Nat, v8 = .int .i64 i ∧ i + kq = l0.length ∧ Aside0 (∀ j, j < i → aheadOf name (l0.getD j z38) = false) ∧ Aside0 (Below w.heap.size w w'))
  case atStart => exact ⟨0, rfl, by omega, ⟨fun j hj => absurd hj (by omega)⟩, ⟨Below.refl _ _⟩⟩
  case round =>
    obtain ⟨i, rfl, hi, HN, HB⟩ := hrel
    by_cases hlt : i < l0.length
    · obtain ⟨ad, A1, c1, e1, hx0, hx1, _, _⟩ := at_T38 (Kd.C_below HR.out HB.out) (i : Int) (by omega) (by omega)
      cases e1
      rw [Int.toNat_natCast] at hx0 hx1
      have HRD : rd_T38 l0 (i : Int) = l0.getD i z38 := by unfold rd_T38; rw [Int.toNat_natCast]
      rw [HRD] at hx0 hx1
      clear HRD
      obtain ⟨x, hxe⟩ : ∃ x, l0.getD i z38 = x := ⟨_, rfl⟩
      rw [hxe] at hx0 hx1
      have HX := Aside0.mk hxe
      clear hxe
      obtain ⟨k1, rfl⟩ : ∃ k1, gk = k1 + 1 := ⟨gk - 1, by omega⟩
      cases hp : aheadOf name x
      · have HP := Aside0.mk hp
        have hp' : Op.bytesLess name.toList x.f0.toList = false := hp
        clear hp
        go_wp2_with (go_at_call 59; refine (named_ahead name _ _ _).mono ?_; rintro e w1 ⟨rfl, hb⟩; have HB1 := Aside0.mk (below_step HB.out hb); clear hb HB; rw [hp'])
        go_roundg k1
        case measure => omega
        case rel => exact ⟨i + 1, by go_num, by omega, ⟨all_succ HN.out (by rw [HX.out]; exact HP.out)⟩, HB1⟩
      · have HP := Aside0.mk hp
        have hp' : Op.bytesLess name.toList x.f0.toList = true := hp
        clear hp
        go_wp2_with (go_at_call 59; refine (named_ahead name _ _ _).mono ?_; rintro e w1 ⟨rfl, hb⟩; have HB1 := Aside0.mk (below_step HB.out hb); clear hb HB; rw [hp'])
        go_ret
        exact ⟨by rw [idxOf_at i hlt (by rw [HX.out]; exact HP.out) HN.out]; rfl, HB1.out⟩
    · have hge : l0.length ≤ i := by omega
      clear hlt
      go_wp2
      go_ret
      exact ⟨by rw [idxOf_none (by intro j hj; exact HN.out j (by omega))]; rfl, HB.out⟩
end Go.Proofs.Ytcgeioingikeeaa.P
