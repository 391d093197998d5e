/- strings.Repeat of the shelf, laid at this program; crc.Text. -/
import Derived.Shelf.Strings.Repeat
import Derived.Test.YtibnbapbgbcpoaaDoorH3
namespace Go.Proofs.YtibnbapbgbcpoaaDoor.P
open Go.Shelf Go.RowKit Go.Proofs.YtibnbapbgbcpoaaDoor Go.Proofs.YtibnbapbgbcpoaaDoorW.PrintWords Go.Proofs.YtibnbapbgbcpoaaDoorW.PrintLast Go.Proofs.YtibnbapbgbcpoaaDoorW.PrintMore
set_option linter.unusedVariables false
set_option linter.unusedSimpArgs false

def Tryd.laysRepeat_ren : Go.Shelf.Ren := ⟨fun | 105 => 24 | 212 => 29 | 99 => 30 | 165 => 31 | 166 => 32 | 170 => 33 | 169 => 34 | 263 => 45 | 264 => 46 | 206 => 47 | 240 => 48 | 241 => 49 | 276 => 58 | 277 => 59 | n => n, fun | 9 => 9 | 3 => 3 | 4 => 4 | 20 => 20 | 0 => 0 | 46 => 42 | 109 => 52 | 5 => 5 | 72 => 57 | 76 => 59 | 51 => 22 | 146 => 75 | 53 => 44 | 148 => 77 | 70 => 55 | 37 => 23 | 75 => 46 | 127 => 79 | 164 => 90 | 80 => 62 | n => n, fun | n => n⟩
theorem Tryd.laysRepeat : Go.Proofs.Lays.n105 Tryd.prog Tryd.laysRepeat_ren :=
  { mixed := by kernel_rfl
    f99 := Tryd.func30.trans (congrArg some (by kernel_rfl))
    f105 := Tryd.func24.trans (congrArg some (by kernel_rfl))
    f165 := Tryd.func31.trans (congrArg some (by kernel_rfl))
    f166 := Tryd.func32.trans (congrArg some (by kernel_rfl))
    f169 := Tryd.func34.trans (congrArg some (by kernel_rfl))
    f170 := Tryd.func33.trans (congrArg some (by kernel_rfl))
    f206 := Tryd.func47.trans (congrArg some (by kernel_rfl))
    f212 := Tryd.func29.trans (congrArg some (by kernel_rfl))
    f240 := Tryd.func48.trans (congrArg some (by kernel_rfl))
    f241 := Tryd.func49.trans (congrArg some (by kernel_rfl))
    f263 := Tryd.func45.trans (congrArg some (by kernel_rfl))
    f264 := Tryd.func46.trans (congrArg some (by kernel_rfl))
    f276 := Tryd.func58.trans (congrArg some (by kernel_rfl))
    f277 := Tryd.func59.trans (congrArg some (by kernel_rfl))
    t0 := Tryd.underlying0
    a0 := Tryd.isAgg0
    z0 := Tryd.sizeOf0
    v0 := Tryd.zeroValue0
    t3 := Tryd.underlying3
    a3 := Tryd.isAgg3
    z3 := Tryd.sizeOf3
    v3 := Tryd.zeroValue3
    t4 := Tryd.underlying4
    a4 := Tryd.isAgg4
    z4 := Tryd.sizeOf4
    v4 := Tryd.zeroValue4
    t5 := Tryd.underlying5
    a5 := Tryd.isAgg5
    z5 := Tryd.sizeOf5
    v5 := Tryd.zeroValue5
    t9 := Tryd.underlying9
    a9 := Tryd.isAgg9
    z9 := Tryd.sizeOf9
    v9 := Tryd.zeroValue9
    t20 := Tryd.underlying20
    a20 := Tryd.isAgg20
    z20 := Tryd.sizeOf20
    v20 := Tryd.zeroValue20
    t37 := Tryd.underlying23
    a37 := Tryd.isAgg23
    z37 := Tryd.sizeOf23
    v37 := Tryd.zeroValue23
    t46 := Tryd.underlying42
    a46 := Tryd.isAgg42
    z46 := Tryd.sizeOf42
    v46 := Tryd.zeroValue42
    t51 := Tryd.underlying22
    a51 := Tryd.isAgg22
    z51 := Tryd.sizeOf22
    v51 := Tryd.zeroValue22
    t53 := Tryd.underlying44
    a53 := Tryd.isAgg44
    z53 := Tryd.sizeOf44
    v53 := Tryd.zeroValue44
    t70 := Tryd.underlying55
    a70 := Tryd.isAgg55
    z70 := Tryd.sizeOf55
    v70 := Tryd.zeroValue55
    t72 := Tryd.underlying57
    a72 := Tryd.isAgg57
    z72 := Tryd.sizeOf57
    v72 := Tryd.zeroValue57
    t75 := Tryd.underlying46
    a75 := Tryd.isAgg46
    z75 := Tryd.sizeOf46
    v75 := Tryd.zeroValue46
    t76 := Tryd.underlying59
    a76 := Tryd.isAgg59
    z76 := Tryd.sizeOf59
    v76 := Tryd.zeroValue59
    t109 := Tryd.underlying52
    a109 := Tryd.isAgg52
    z109 := Tryd.sizeOf52
    v109 := Tryd.zeroValue52
    t127 := Tryd.underlying79
    a127 := Tryd.isAgg79
    z127 := Tryd.sizeOf79
    v127 := Tryd.zeroValue79
    t146 := Tryd.underlying75
    a146 := Tryd.isAgg75
    z146 := Tryd.sizeOf75
    v146 := Tryd.zeroValue75
    t148 := Tryd.underlying77
    a148 := Tryd.isAgg77
    z148 := Tryd.sizeOf77
    v148 := Tryd.zeroValue77
    t164 := Tryd.underlying90
    a164 := Tryd.isAgg90
    z164 := Tryd.sizeOf90
    v164 := Tryd.zeroValue90 }
theorem rpExtra : Builder.Extra Tryd.prog Tryd.laysRepeat_ren :=
  { sizeBuilder := by kernel_rfl
    liesBuilder := by kernel_rfl
    t5 := Tryd.laysRepeat.t5
    a5 := Tryd.laysRepeat.a5
    z5 := Tryd.laysRepeat.z5
    v5 := Tryd.laysRepeat.v5
    infoByte := by kernel_rfl
    cellsByte := by kernel_rfl
    sizeByte := by kernel_rfl
    neB5 := by decide }
theorem rp_calls (s : ByteArray) (c : Nat) (w : World) (hc : c ≤ 9223372036854775807) (hlen : s.size * c ≤ 140737488355328) :
    Calls Tryd.prog 24 #[.string s, .int .i64 c] w fun e w' => e = .returned (.string ⟨(Lib.repeatL s.data.toList c).toArray⟩) ∧ Below w.heap.size w w' :=
  Any.strings_Repeat Tryd.laysRepeat rpExtra s c w hc hlen

theorem hexF_len : ∀ k u, 1 ≤ (hexF k u).length ∧ (hexF k u).length ≤ k + 1
  | 0, u => by simp [hexF]
  | k + 1, u => by
    have := hexF_len k (u / 16)
    rw [hexF]
    split
    · simp
    · simp; omega
theorem hexF_len8 (k u : Nat) (h : u < 16 ^ k) (hk : 0 < k) : (hexF k u).length ≤ k := by
  induction k generalizing u with
  | zero => omega
  | succ k ih =>
    rw [hexF]
    split
    · simp
    · rw [Nat.pow_succ] at h
      have : 0 < k := by
        rcases Nat.eq_zero_or_pos k with rfl | h0
        · simp at h; omega
        · exact h0
      have := ih (u / 16) (by omega) this
      simp; omega
/-- A sum as a text. -/
def hexT (u : Nat) : ByteArray := ⟨((List.replicate (8 - (hexF 8 u).length) 48 ++ hexF 8 u).map (fun d => UInt8.ofNat d)).toArray⟩
def zeroS (k : Nat) : ByteArray := ⟨(Lib.repeatL [48] k).toArray⟩
theorem rep48 : ∀ k, Lib.repeatL [48] k = List.replicate k 48
  | 0 => rfl
  | k + 1 => by rw [Lib.repeatL, rep48 k]; rfl
theorem zeroS_size (k : Nat) : (zeroS k).size = k := by
  show (zeroS k).data.size = k
  simp [zeroS, rep48]
theorem zeroS_hexS (u : Nat) : zeroS (8 - (hexF 8 u).length) ++ hexS u = hexT u := by
  apply ByteArray.ext
  rw [ByteArray.data_append]
  simp [zeroS, hexS, hexT, rep48]
theorem rp8 (m : Nat) (h : m ≤ 8) (w : World) : Calls Tryd.prog 24 #[.string ⟨#[48]⟩, .int .i64 (8 - (m : Int))] w fun e w' => e = .returned (.string (zeroS (8 - m))) ∧ Below w.heap.size w w' := by
  have := rp_calls ⟨#[48]⟩ (8 - m) w (by omega) (by show 1 * (8 - m) ≤ _; omega)
  rw [show ((8 - m : Nat) : Int) = 8 - (m : Int) from by omega] at this
  exact this
set_option maxRecDepth 100000 in
set_option maxHeartbeats 4000000 in
theorem text_calls (u : Nat) (hu : u < 4294967296) (w : World) (hL : LW w) :
    Calls Tryd.prog 17 #[.int .u32 (u : Int)] w fun e w' => e = .returned (.string (hexT u)) ∧ Below w.heap.size w w' := by
  have hl1 := (hexF_len 8 u).1
  have hl8 := hexF_len8 8 u (by omega) (by omega)
  have hsz : (hexS u).size = (hexF 8 u).length := by
    show (hexS u).data.size = _
    simp [hexS]
  obtain ⟨m, hm⟩ : ∃ m, (hexS u).size = m := ⟨_, rfl⟩
  rw [hm] at hsz
  rw [← hsz] at hl1 hl8
  have hw : wrap64 (8 - (m : Int)) = ((8 - m : Nat) : Int) := by unfold wrap64; omega
  have hz := zeroS_size (8 - m)
  have HS := Aside0.mk hsz
  clear hsz
  go_enter Tryd.func17, Tryd.ntmps17
  go_wp2_with (first
    | (go_at_call 23; refine (fu2_calls u hu w hL).mono ?_; rintro e w2 ⟨rfl, hb⟩; have HB := Aside0.mk hb; clear hb)
    | (go_at_call 24; refine (rp8 m hl8 _).mono ?_; rintro e w3 ⟨rfl, hb⟩; have HB2 := Aside0.mk hb; clear hb))
  go_ret
  refine ⟨?_, below_step HB.out HB2.out⟩
  show Ending.returned (Value.string (zeroS (8 - m) ++ hexS u)) = _
  rw [HS.out, zeroS_hexS]
end Go.Proofs.YtibnbapbgbcpoaaDoor.P
