/- crc.Read: strconv.ParseUint with its errors, and what crc.Read makes of it. -/
import Derived.Shelf.Strconv.ToError
import Derived.Shelf.Strconv.ToErrorRange
import Derived.WideShapes
import Derived.Laws.Strings
import Derived.Test.YtibnbapbgbcpoaaDoorH5
namespace Go.Proofs.YtibnbapbgbcpoaaDoor.P
open Go.Shelf Go.RowKit Go.Proofs.YtibnbapbgbcpoaaDoor Go.Proofs.YtibnbapbgbcpoaaDoorW.PrintWords Go.Proofs.YtibnbapbgbcpoaaDoorW.PrintLast Go.Proofs.YtibnbapbgbcpoaaDoorW.PrintMore
set_option linter.unusedVariables false
set_option linter.unusedSimpArgs false

def Tryd.laysToError_ren : Go.Shelf.Ren := ⟨fun | 245 => 27 | 279 => 37 | 280 => 38 | 281 => 39 | 282 => 40 | 316 => 50 | 171 => 52 | 205 => 51 | 243 => 60 | 246 => 63 | 283 => 41 | 284 => 42 | 285 => 43 | 286 => 44 | 129 => 54 | 317 => 53 | 318 => 55 | 319 => 56 | 320 => 57 | 337 => 61 | 338 => 62 | n => n, fun | 9 => 9 | 3 => 3 | 75 => 46 | 167 => 63 | 4 => 4 | 168 => 66 | 210 => 82 | 37 => 23 | 0 => 0 | 127 => 79 | 145 => 95 | 143 => 93 | 2 => 2 | 171 => 70 | 53 => 44 | 5 => 5 | 173 => 73 | 212 => 86 | 51 => 22 | 20 => 20 | 213 => 87 | 46 => 42 | 232 => 98 | 233 => 99 | 80 => 62 | n => n, fun | 15 => 0 | 16 => 1 | 17 => 2 | 18 => 4 | 19 => 5 | n => n⟩
theorem Tryd.laysToError : Go.Proofs.LaysC.n245 Tryd.prog Tryd.laysToError_ren :=
  { mixed := by kernel_rfl
    f129 := Tryd.func54.trans (congrArg some (by kernel_rfl))
    f171 := Tryd.func52.trans (congrArg some (by kernel_rfl))
    f205 := Tryd.func51.trans (congrArg some (by kernel_rfl))
    f243 := Tryd.func60.trans (congrArg some (by kernel_rfl))
    f245 := Tryd.func27.trans (congrArg some (by kernel_rfl))
    f246 := Tryd.func63.trans (congrArg some (by kernel_rfl))
    f279 := Tryd.func37.trans (congrArg some (by kernel_rfl))
    f280 := Tryd.func38.trans (congrArg some (by kernel_rfl))
    f281 := Tryd.func39.trans (congrArg some (by kernel_rfl))
    f282 := Tryd.func40.trans (congrArg some (by kernel_rfl))
    f283 := Tryd.func41.trans (congrArg some (by kernel_rfl))
    f284 := Tryd.func42.trans (congrArg some (by kernel_rfl))
    f285 := Tryd.func43.trans (congrArg some (by kernel_rfl))
    f286 := Tryd.func44.trans (congrArg some (by kernel_rfl))
    f316 := Tryd.func50.trans (congrArg some (by kernel_rfl))
    f317 := Tryd.func53.trans (congrArg some (by kernel_rfl))
    f318 := Tryd.func55.trans (congrArg some (by kernel_rfl))
    f319 := Tryd.func56.trans (congrArg some (by kernel_rfl))
    f320 := Tryd.func57.trans (congrArg some (by kernel_rfl))
    f337 := Tryd.func61.trans (congrArg some (by kernel_rfl))
    f338 := Tryd.func62.trans (congrArg some (by kernel_rfl))
    t0 := Tryd.underlying0
    a0 := Tryd.isAgg0
    z0 := Tryd.sizeOf0
    v0 := Tryd.zeroValue0
    t2 := Tryd.underlying2
    a2 := Tryd.isAgg2
    z2 := Tryd.sizeOf2
    v2 := Tryd.zeroValue2
    t3 := Tryd.underlying3
    a3 := Tryd.isAgg3
    z3 := Tryd.sizeOf3
    v3 := Tryd.zeroValue3
    t4 := Tryd.underlying4
    a4 := Tryd.isAgg4
    z4 := Tryd.sizeOf4
    v4 := Tryd.zeroValue4
    t5 := Tryd.underlying5
    a5 := Tryd.isAgg5
    z5 := Tryd.sizeOf5
    v5 := Tryd.zeroValue5
    t9 := Tryd.underlying9
    a9 := Tryd.isAgg9
    z9 := Tryd.sizeOf9
    v9 := Tryd.zeroValue9
    t20 := Tryd.underlying20
    a20 := Tryd.isAgg20
    z20 := Tryd.sizeOf20
    v20 := Tryd.zeroValue20
    t37 := Tryd.underlying23
    a37 := Tryd.isAgg23
    z37 := Tryd.sizeOf23
    v37 := Tryd.zeroValue23
    t46 := Tryd.underlying42
    a46 := Tryd.isAgg42
    z46 := Tryd.sizeOf42
    v46 := Tryd.zeroValue42
    t51 := Tryd.underlying22
    a51 := Tryd.isAgg22
    z51 := Tryd.sizeOf22
    v51 := Tryd.zeroValue22
    t53 := Tryd.underlying44
    a53 := Tryd.isAgg44
    z53 := Tryd.sizeOf44
    v53 := Tryd.zeroValue44
    t75 := Tryd.underlying46
    a75 := Tryd.isAgg46
    z75 := Tryd.sizeOf46
    v75 := Tryd.zeroValue46
    t127 := Tryd.underlying79
    a127 := Tryd.isAgg79
    z127 := Tryd.sizeOf79
    v127 := Tryd.zeroValue79
    t143 := Tryd.underlying93
    a143 := Tryd.isAgg93
    z143 := Tryd.sizeOf93
    v143 := Tryd.zeroValue93
    t145 := Tryd.underlying95
    a145 := Tryd.isAgg95
    z145 := Tryd.sizeOf95
    v145 := Tryd.zeroValue95
    t167 := Tryd.underlying63
    a167 := Tryd.isAgg63
    z167 := Tryd.sizeOf63
    v167 := Tryd.zeroValue63
    t168 := Tryd.underlying66
    a168 := Tryd.isAgg66
    z168 := Tryd.sizeOf66
    v168 := Tryd.zeroValue66
    t171 := Tryd.underlying70
    a171 := Tryd.isAgg70
    z171 := Tryd.sizeOf70
    v171 := Tryd.zeroValue70
    t173 := Tryd.underlying73
    a173 := Tryd.isAgg73
    z173 := Tryd.sizeOf73
    v173 := Tryd.zeroValue73
    t210 := Tryd.underlying82
    a210 := Tryd.isAgg82
    z210 := Tryd.sizeOf82
    v210 := Tryd.zeroValue82
    t212 := Tryd.underlying86
    a212 := Tryd.isAgg86
    z212 := Tryd.sizeOf86
    v212 := Tryd.zeroValue86
    t213 := Tryd.underlying87
    a213 := Tryd.isAgg87
    z213 := Tryd.sizeOf87
    t232 := Tryd.underlying98
    a232 := Tryd.isAgg98
    z232 := Tryd.sizeOf98
    v232 := Tryd.zeroValue98
    t233 := Tryd.underlying99
    a233 := Tryd.isAgg99
    z233 := Tryd.sizeOf99
    v233 := Tryd.zeroValue99
    g15 := by kernel_rfl
    g16 := by kernel_rfl
    g17 := by kernel_rfl
    g18 := by kernel_rfl
    g19 := by kernel_rfl
    t80 := Tryd.underlying62
    a80 := Tryd.isAgg62
    z80 := Tryd.sizeOf62
    v80 := Tryd.zeroValue62
    i0 := by kernel_rfl
    i2 := by kernel_rfl
    i3 := by kernel_rfl
    i4 := by kernel_rfl
    i5 := by kernel_rfl
    i9 := by kernel_rfl
    i20 := by kernel_rfl
    i37 := by kernel_rfl
    i46 := by kernel_rfl
    i51 := by kernel_rfl
    i53 := by kernel_rfl
    i75 := by kernel_rfl
    i80 := by kernel_rfl
    i127 := by kernel_rfl
    i143 := by kernel_rfl
    i145 := by kernel_rfl
    i167 := by kernel_rfl
    i168 := by kernel_rfl
    i171 := by kernel_rfl
    i173 := by kernel_rfl
    i210 := by kernel_rfl
    i212 := by kernel_rfl
    i232 := by kernel_rfl
    i233 := by kernel_rfl
    m15 := by kernel_rfl
    m16 := by kernel_rfl
    m17 := by kernel_rfl
    m18 := by kernel_rfl
    m19 := by kernel_rfl
    c0 := by kernel_rfl
    c2 := by kernel_rfl
    c3 := by kernel_rfl
    c4 := by kernel_rfl
    c5 := by kernel_rfl
    c9 := by kernel_rfl
    c20 := by kernel_rfl
    c37 := by kernel_rfl
    c46 := by kernel_rfl
    c51 := by kernel_rfl
    c53 := by kernel_rfl
    c75 := by kernel_rfl
    c80 := by kernel_rfl
    c127 := by kernel_rfl
    c143 := by kernel_rfl
    c145 := by kernel_rfl
    c167 := by kernel_rfl
    c168 := by kernel_rfl
    c171 := by kernel_rfl
    c173 := by kernel_rfl
    c210 := by kernel_rfl
    c212 := by kernel_rfl
    c213 := by kernel_rfl
    c232 := by kernel_rfl
    c233 := by kernel_rfl }
/-- What is needed of the library's variables. -/
def LG (w : World) : Prop := LW w ∧ (∃ t p, w.cell? ⟨0, 0, none⟩ = some (.iface t p)) ∧ ∃ t p, w.cell? ⟨1, 0, none⟩ = some (.iface t p)
theorem LG.below {w w' : World} (h : LG w) (hb : Below w.heap.size w w') : LG w' := by
  have hs := h.1.2
  obtain ⟨t0, p0, h0⟩ := h.2.1
  obtain ⟨t1, p1, h1⟩ := h.2.2
  exact ⟨h.1.below hb, ⟨t0, p0, (hb.cell (by show 0 < _; omega)).trans h0⟩, ⟨t1, p1, (hb.cell (by show 1 < _; omega)).trans h1⟩⟩
theorem te_calls (fn s : ByteArray) (c : Int) (hc : c = 1 ∨ c = 2) (w : World) (hlim : s.size ≤ 281474976710656) (h : LG w) :
    Calls Tryd.prog 27 #[.string fn, .string s, .int .i64 16, .int .i64 32, .iface 63 (.int .i64 c)] w fun e w' => (∃ t p, e = .returned (.iface t p)) ∧ Below w.heap.size w w' := by
  obtain ⟨t0, p0, h0⟩ := h.2.1
  obtain ⟨t1, p1, h1⟩ := h.2.2
  rcases hc with rfl | rfl
  · refine (Any.strconv_toError_range Tryd.laysToError fn s 16 32 _ w hlim h1 (.inr ⟨_, _, rfl⟩)).mono ?_
    rintro e w' ⟨N, rfl, _, _, hb⟩
    exact ⟨⟨_, _, rfl⟩, hb⟩
  · refine (Any.strconv_toError_syntax Tryd.laysToError fn s 16 32 _ w hlim h0 (.inr ⟨_, _, rfl⟩)).mono ?_
    rintro e w' ⟨N, rfl, _, _, hb⟩
    exact ⟨⟨_, _, rfl⟩, hb⟩
theorem puF_some : ∀ (l : List Nat) (acc n : Nat) (c : Int), puF acc l = (n, some c) → c = 1 ∨ c = 2
  | [], acc, n, c, h => by simp [puF] at h
  | x :: l, acc, n, c, h => by
    unfold puF at h
    split at h
    · simp at h; omega
    · split at h
      · simp at h; omega
      · split at h
        · simp at h; omega
        · exact puF_some l _ n c h
theorem puF_lt : ∀ (l : List Nat) (acc : Nat), acc < 4294967296 → (puF acc l).1 < 4294967296
  | [], acc, h => h
  | x :: l, acc, h => by
    unfold puF
    split
    · simp
    · split
      · simp
      · split
        · simp
        · exact puF_lt l _ (by omega)
/-- A string's bytes, as numbers. -/
def byS (s : ByteArray) : List Nat := s.data.toList.map UInt8.toNat
/-- ParseUint, the empty text among them. -/
def puS (s : ByteArray) : Nat × Option Int := if s.size = 0 then (0, some 2) else puF 0 (byS s)
theorem puS_calls (s : ByteArray) (hmax : s.size ≤ 9223372036854775806) (w : World) :
    Calls Tryd.prog 26 #[.string s, .int .i64 16, .int .i64 32] w fun e w' => e = .returned (puV (puS s)) ∧ Below w.heap.size w w' := by
  unfold puS
  by_cases h : s.size = 0
  · rw [if_pos h]
    obtain rfl : s = ⟨#[]⟩ := by
      apply ByteArray.ext
      exact Array.eq_empty_of_size_eq_zero h
    exact (pu_empty w).mono fun e w' ⟨he, hw⟩ => ⟨he, hw ▸ Below.refl _ _⟩
  · rw [if_neg h]
    exact pu_calls s h hmax w
set_option maxRecDepth 100000 in
set_option maxHeartbeats 4000000 in
theorem sp_ok (s : ByteArray) (hmax : s.size ≤ 9223372036854775806) (n : Nat) (h : puS s = (n, none)) (w : World) :
    Calls Tryd.prog 22 #[.string s, .int .i64 16, .int .i64 32] w fun e w' => e = .returned (.tuple #[.int .u64 (n : Int), .nilIface]) ∧ Below w.heap.size w w' := by
  have hp : ∀ w : World, Calls Tryd.prog 26 #[.string s, .int .i64 16, .int .i64 32] w fun e w' => e = .returned (.tuple #[.int .u64 (n : Int), .nilIface]) ∧ Below w.heap.size w w' := fun w => by
    have := puS_calls s hmax w
    rw [h] at this
    exact this
  have HP := Aside0.mk hp
  clear h hp
  go_enter Tryd.func22, Tryd.ntmps22
  go_wp2_with (go_at_call 26; refine (HP.out _).mono ?_; rintro e w2 ⟨rfl, hb⟩; have HB := Aside0.mk hb; clear hb)
  go_ret2
  exact ⟨rfl, HB.out⟩
set_option maxRecDepth 100000 in
set_option maxHeartbeats 4000000 in
theorem sp_err (s : ByteArray) (hmax : s.size ≤ 281474976710656) (n : Nat) (c : Int) (h : puS s = (n, some c)) (hc : c = 1 ∨ c = 2) (w : World) (hL : LG w) :
    Calls Tryd.prog 22 #[.string s, .int .i64 16, .int .i64 32] w fun e w' => (∃ t p, e = .returned (.tuple #[.int .u64 (n : Int), .iface t p])) ∧ Below w.heap.size w w' := by
  have hp : ∀ w : World, Calls Tryd.prog 26 #[.string s, .int .i64 16, .int .i64 32] w fun e w' => e = .returned (.tuple #[.int .u64 (n : Int), .iface 63 (.int .i64 c)]) ∧ Below w.heap.size w w' := fun w => by
    have := puS_calls s (by omega) w
    rw [h] at this
    exact this
  have HP := Aside0.mk hp
  have HC := Aside0.mk hc
  clear h hp hc
  go_enter Tryd.func22, Tryd.ntmps22
  go_wp2_with (first
    | (go_at_call 26; refine (HP.out _).mono ?_; rintro e w2 ⟨rfl, hb⟩; have HB := Aside0.mk hb; clear hb)
    | (go_at_call 27; refine (te_calls _ s c HC.out _ hmax (hL.below HB.out)).mono ?_; rintro e w3 ⟨⟨t, p, rfl⟩, hb⟩; have HB2 := Aside0.mk hb; clear hb))
  go_ret2
  exact ⟨⟨_, _, rfl⟩, below_step HB.out HB2.out⟩
/-- crc.Read, plainly. -/
def rdS (s : ByteArray) : Int × Bool := match puS s with
  | (n, none) => if hexT n = s then ((n : Int), true) else (0, false)
  | (_, some _) => (0, false)
def crc_Read.f (s : ByteArray) : Option (Int × Bool) := if s.size ≤ 140737488351232 then some (rdS s) else none
def crc_Text.f (a0 : Int) : Option ByteArray := if 0 ≤ a0 ∧ a0 < 4294967296 then some (hexT a0.toNat) else none
theorem crc_Text.calls (a0 : Int) (r : ByteArray) (w : World) (h : crc_Text.f a0 = some r) (hL : LG w) :
    Calls Tryd.prog 17 #[.int .u32 a0] w fun e w' => e = .returned (.string r) ∧ Below w.heap.size w w' := by
  unfold crc_Text.f at h
  by_cases hc : 0 ≤ a0 ∧ a0 < 4294967296
  · rw [if_pos hc] at h
    obtain rfl := Option.some.inj h
    obtain ⟨n, rfl⟩ := Int.eq_ofNat_of_zero_le hc.1
    exact text_calls n (by omega) w hL.1
  · rw [if_neg hc] at h
    cases h
theorem puS_lt (s : ByteArray) : (puS s).1 < 4294967296 := by
  unfold puS
  split
  · simp
  · exact puF_lt _ _ (by omega)
theorem puS_some (s : ByteArray) (n : Nat) (c : Int) (h : puS s = (n, some c)) : c = 1 ∨ c = 2 := by
  unfold puS at h
  split at h
  · simp at h; omega
  · exact puF_some _ _ _ _ h
theorem bytes_same {a b : ByteArray} (h : a.toList = b.toList) : a = b := by
  rw [ByteArray.toList_eq, ByteArray.toList_eq] at h
  exact Go.WideShapes.bytes_inj h
set_option maxRecDepth 100000 in
set_option maxHeartbeats 4000000 in
theorem read_calls (s : ByteArray) (hmax : s.size ≤ 140737488351232) (w : World) (hL : LG w) :
    Calls Tryd.prog 16 #[.string s] w fun e w' => e = .returned (.tuple #[.int .u32 (rdS s).1, .bool (rdS s).2]) ∧ Below w.heap.size w w' := by
  unfold rdS
  rcases hp : puS s with ⟨n, _ | c⟩
  · have hn : n < 4294967296 := by have := puS_lt s; rw [hp] at this; exact this
    have hsp := sp_ok s (by omega) n hp
    have HSP := Aside0.mk hsp
    clear hsp hp
    obtain ⟨r, hr⟩ : ∃ r : Int × Bool, r = if hexT n = s then ((n : Int), true) else (0, false) := ⟨_, rfl⟩
    simp only [← hr]
    have HR := Aside0.mk hr
    clear hr
    go_enter Tryd.func16, Tryd.ntmps16
    go_wp2_with (first
      | (go_at_call 22; refine (HSP.out _).mono ?_; rintro e w2 ⟨rfl, hb⟩; have HB := Aside0.mk hb; clear hb)
      | (go_at_call 17; refine (text_calls n hn _ (hL.below HB.out).1).mono ?_; rintro e w3 ⟨rfl, hb⟩; have HB2 := Aside0.mk hb; clear hb))
    · rename_i hbe
      go_ret2
      refine ⟨?_, below_step HB.out HB2.out⟩
      have hne : hexT n ≠ s := fun h => by rw [h] at hbe; simp at hbe
      rw [HR.out, if_neg hne]
      rfl
    · rename_i hbe
      go_ret2
      refine ⟨?_, below_step HB.out HB2.out⟩
      have heq : hexT n = s := bytes_same (by simpa using hbe)
      rw [HR.out, if_pos heq]
      rfl
  · have hsp := sp_err s (by omega) n c hp (puS_some s n c hp)
    have HSP := Aside0.mk hsp
    clear hsp hp
    go_enter Tryd.func16, Tryd.ntmps16
    go_wp2_with (first
      | (go_at_call 22; refine (HSP.out _ hL).mono ?_; rintro e w2 ⟨⟨t, p, rfl⟩, hb⟩; have HB := Aside0.mk hb; clear hb))
    go_ret2
    exact ⟨rfl, HB.out⟩
theorem crc_Read.calls (s : ByteArray) (r1 : Int) (r2 : Bool) (w : World) (h : crc_Read.f s = some (r1, r2)) (hL : LG w) :
    Calls Tryd.prog 16 #[.string s] w fun e w' => e = .returned (.tuple #[.int .u32 r1, .bool r2]) ∧ Below w.heap.size w w' := by
  unfold crc_Read.f at h
  by_cases hc : s.size ≤ 140737488351232
  · rw [if_pos hc] at h
    have hr := Option.some.inj h
    have := read_calls s hc w hL
    rw [hr] at this
    exact this
  · rw [if_neg hc] at h
    cases h
end Go.Proofs.YtibnbapbgbcpoaaDoor.P
