/- A text as a number of base 16: internal/strconv.ParseUint(s, 16, 32). -/
import Derived.Test.YtibnbapbgbcpoaaDoorH4
import Derived.Lib.Strings
import Derived.Lib.Walk
import Derived.Lib.Hide
import Derived.Lib.AtoiErrMem
namespace Go.Proofs.YtibnbapbgbcpoaaDoor.P
open Go.RowKit Go.Proofs.YtibnbapbgbcpoaaDoor Go.Proofs.YtibnbapbgbcpoaaDoorW.PrintWords Go.Proofs.YtibnbapbgbcpoaaDoorW.PrintLast Go.Proofs.YtibnbapbgbcpoaaDoorW.PrintMore
set_option linter.unusedVariables false
set_option linter.unusedSimpArgs false

theorem or_u8 (a b : Nat) (ha : a < 256) (hb : b < 256) : Go.bits .or .u8 (a : Int) (b : Int) = ((a ||| b : Nat) : Int) ∧ a ||| b < 256 := by
  have hlt : a ||| b < 2 ^ 8 := Nat.or_lt_two_pow (by omega) (by omega)
  refine ⟨?_, hlt⟩
  have ha' : a % 2 ^ 8 = a := Nat.mod_eq_of_lt ha
  have hb' : b % 2 ^ 8 = b := Nat.mod_eq_of_lt hb
  show IntKind.u8.wrap (((BitVec.ofInt 8 (a : Int)) ||| (BitVec.ofInt 8 (b : Int))).toNat : Int) = _
  rw [BitVec.ofInt_natCast, BitVec.ofInt_natCast, BitVec.toNat_or, BitVec.toNat_ofNat, BitVec.toNat_ofNat, ha', hb', IntKind.wrap_u8]
  omega
/-- What a figure says, to any base. -/
def fgN (c : Nat) : Option Nat := if 48 ≤ c ∧ c ≤ 57 then some (c - 48) else if 97 ≤ c ||| 32 ∧ c ||| 32 ≤ 122 then some ((c ||| 32) - 97 + 10) else none
/-- The number that is read: or an error's number. -/
def puF : Nat → List Nat → Nat × Option Int
  | acc, [] => (acc, none)
  | acc, c :: l => match fgN c with
    | none => (0, some 2)
    | some d => if 16 ≤ d then (0, some 2) else if 4294967295 < acc * 16 + d then (4294967295, some 1) else puF (acc * 16 + d) l
def erW : Option Int → Value
  | none => .nilIface
  | some c => .iface 63 (.int .i64 c)
def puV (r : Nat × Option Int) : Value := .tuple #[.int .u64 (r.1 : Int), erW r.2]

set_option maxRecDepth 100000 in
set_option maxHeartbeats 4000000 in
theorem pu_empty (w : World) : Calls Tryd.prog 26 #[.string ⟨#[]⟩, .int .i64 16, .int .i64 32] w fun e w' => e = .returned (puV (0, some 2)) ∧ w' = w := by
  go_enter Tryd.func26, Tryd.ntmps26
  go_wp2
  go_ret2
  exact ⟨rfl, rfl⟩
set_option maxRecDepth 100000 in
set_option maxHeartbeats 32000000 in
theorem pu_calls (t : ByteArray) (hne : t.size ≠ 0) (hmax : t.size ≤ 9223372036854775806) (w : World) :
    Calls Tryd.prog 26 #[.string t, .int .i64 16, .int .i64 32] w fun e w' => e = .returned (puV (puF 0 (t.data.toList.map UInt8.toNat))) ∧ Below w.heap.size w w' := by
  have hemp : t.toList.isEmpty = false := by
    rw [← decide_eq_emptyBytes]
    exact decide_eq_false (fun h => hne (by rw [h]; rfl))
  have hcv := Lib.run_convert_string_bytes (P := Tryd.prog) w 9 23 5 t (u := .string) Tryd.underlying9 Tryd.underlying23 Tryd.underlying5
  have hB : ∀ j, j < t.size → (Lib.bytesWorld w 5 t).cell? ⟨w.heap.size, j, none⟩ = some (.int .u8 (t.data.toList.getD j 0).toNat) := fun j hj => Lib.bytesWorld_cell w 5 t j hj
  have hBL : Below w.heap.size w (Lib.bytesWorld w 5 t) := Lib.bytesWorld_below _ _ _
  obtain ⟨W1, hW1⟩ : ∃ W1, W1 = Lib.bytesWorld w 5 t := ⟨_, rfl⟩
  rw [← hW1] at hcv hB hBL
  have HBL := Aside0.mk hBL
  clear hW1 hBL
  obtain ⟨bs, hL⟩ : ∃ bs, bs = t.data.toList := ⟨_, rfl⟩
  have hLn : bs.length = t.size := by rw [hL, Array.length_toList]; rfl
  rw [← hL] at hB ⊢
  clear hL
  have hmv : IntKind.u64.wrap (IntKind.u64.wrap 4294967296 - 1) = 4294967295 := by
    rw [IntKind.wrap_u64, IntKind.wrap_u64]
    decide
  go_enter Tryd.func26, Tryd.ntmps26
  go_wp2
  go_loop [12, 13, 101] (fun vu vn vi => ∃ (k acc : Nat) (a : Int), vu = .bool false ∧ vn = .int .u64 a ∧ vi = .int .i64 k ∧ k ≤ t.size ∧ Hid (a = (acc : Int) ∧ acc < 4294967296 ∧ puF 0 (bs.map UInt8.toNat) = puF acc ((bs.drop k).map UInt8.toNat)))
    (fun _ _ vi => t.size - (intOf vi).toNat)
  case atStart => exact ⟨0, 0, 0, rfl, rfl, rfl, by omega, rfl, by omega, rfl⟩
  case round =>
    obtain ⟨k, acc, a, rfl, rfl, rfl, hk, hh⟩ := hrel
    obtain ⟨ha, hacc, hdec⟩ := hh.out
    clear hh
    have a0 : 0 ≤ a := by omega
    have a1 : a < 4294967296 := by omega
    by_cases hkn : k < t.size
    · have hc := hB k hkn
      have hdrop : bs.drop k = bs[k]'(by omega) :: bs.drop (k + 1) := List.drop_eq_getElem_cons (by omega)
      have hget : bs.getD k 0 = bs[k]'(by omega) := by simp [List.getD, List.getElem?_eq_getElem (show k < bs.length by omega)]
      rw [hdrop, List.map_cons] at hdec
      rw [hget] at hc
      have hc256 : (bs[k]'(by omega)).toNat < 256 := UInt8.toNat_lt _
      generalize (bs[k]'(by omega)).toNat = c at hc hdec hc256
      clear hB hdrop hget
      obtain ⟨q, hq⟩ : ∃ q : Int, q = (c : Int) := ⟨_, rfl⟩
      rw [← hq] at hc
      have icut : a < 1152921504606846976 := by omega
      obtain ⟨hor, hlt⟩ := or_u8 c 32 hc256 (by omega)
      obtain ⟨lw, hlw⟩ : ∃ lw, c ||| 32 = lw := ⟨_, rfl⟩
      rw [hlw] at hor hlt
      obtain ⟨z, hz⟩ : ∃ z : Int, z = (lw : Int) := ⟨_, rfl⟩
      have hor' : Go.bits .or .u8 q 32 = z := by rw [hq, hz, ← hor]; rfl
      have q0 : 0 ≤ q := by omega
      have q1 : q < 256 := by omega
      have z0 : 0 ≤ z := by omega
      have z1 : z < 256 := by omega
      have h95 : Go.bits .or .u8 95 32 = 127 := by decide
      clear hor
      by_cases hdg : 48 ≤ q ∧ q ≤ 57
      · obtain ⟨hd0, hd1⟩ := hdg
        have hfg : fgN c = some (c - 48) := by unfold fgN; rw [if_pos (by omega)]
        clear hor' hz hlw z0 z1 hlt
        by_cases h16 : 16 ≤ q - 48
        · omega
        · by_cases hov : 4294967295 < a * 16 + (q - 48)
          · have hF : puF acc (c :: (bs.drop (k + 1)).map UInt8.toNat) = (4294967295, some 1) := by
              simp only [puF, hfg]
              rw [if_neg (by omega), if_pos (by omega)]
            rw [hF] at hdec
            have HDEC := Aside0.mk hdec
            have HQ := Aside0.mk hq
            have HA := Aside0.mk ha
            clear hdec hF hfg hq ha hacc hemp hLn
            go_wp2
            go_ret2
            exact ⟨by first | rfl | (rw [HDEC.out]; rfl), HBL.out⟩
          · have hF : puF acc (c :: (bs.drop (k + 1)).map UInt8.toNat) = puF (acc * 16 + (c - 48)) ((bs.drop (k + 1)).map UInt8.toNat) := by
              simp only [puF, hfg]
              rw [if_neg (by omega), if_neg (by omega)]
            rw [hF] at hdec
            have HN : Hid (a * 16 + (q - 48) = ((acc * 16 + (c - 48) : Nat) : Int) ∧ acc * 16 + (c - 48) < 4294967296 ∧ puF 0 (bs.map UInt8.toNat) = puF (acc * 16 + (c - 48)) ((bs.drop (k + 1)).map UInt8.toNat)) := Lib.hid ⟨by omega, by omega, hdec⟩
            have iov : a * 16 + (q - 48) ≤ 4294967295 := by omega
            clear hdec hF hfg hq ha hacc hemp hLn hov
            go_wp2
            refine ⟨⟨k + 1, acc * 16 + (c - 48), a * 16 + (q - 48), rfl, (by first | rfl | (congr 1; omega)), (by first | rfl | (congr 1; omega)), by omega, HN⟩, by simp [intOf]; omega⟩
      · have hq2 : q < 48 ∨ 57 < q := by omega
        by_cases hlt2 : 97 ≤ z ∧ z ≤ 122
        · obtain ⟨hl0, hl1⟩ := hlt2
          have hfg : fgN c = some (lw - 97 + 10) := by
            unfold fgN
            rw [if_neg (by omega), hlw, if_pos (by omega)]
          have hn95 : q ≠ 95 := by
            rintro rfl
            rw [h95] at hor'
            omega
          clear h95 hdg
          have HZ := Aside0.mk hz
          rcases hq2 with hq2 | hq2
          · have hz2 := hz
            clear hz
            by_cases h16 : 16 ≤ z - 97 + 10
            · have hF : puF acc (c :: (bs.drop (k + 1)).map UInt8.toNat) = (0, some 2) := by
                simp only [puF, hfg]
                rw [if_pos (by omega)]
              rw [hF] at hdec
              have HDEC := Aside0.mk hdec
              have HQ := Aside0.mk hq
              have HA := Aside0.mk ha
              clear hdec hF hfg hq ha hz2 hlw hacc hemp hLn
              go_wp2
              go_ret2
              exact ⟨by first | rfl | (rw [HDEC.out]; rfl), HBL.out⟩
            · by_cases hov : 4294967295 < a * 16 + (z - 97 + 10)
              · have hF : puF acc (c :: (bs.drop (k + 1)).map UInt8.toNat) = (4294967295, some 1) := by
                  simp only [puF, hfg]
                  rw [if_neg (by omega), if_pos (by omega)]
                rw [hF] at hdec
                have HDEC := Aside0.mk hdec
                have HQ := Aside0.mk hq
                have HA := Aside0.mk ha
                clear hdec hF hfg hq ha hz2 hlw hacc hemp hLn
                go_wp2
                go_ret2
                exact ⟨by first | rfl | (rw [HDEC.out]; rfl), HBL.out⟩
              · have hF : puF acc (c :: (bs.drop (k + 1)).map UInt8.toNat) = puF (acc * 16 + (lw - 97 + 10)) ((bs.drop (k + 1)).map UInt8.toNat) := by
                  simp only [puF, hfg]
                  rw [if_neg (by omega), if_neg (by omega)]
                rw [hF] at hdec
                have HN : Hid (a * 16 + (z - 97 + 10) = ((acc * 16 + (lw - 97 + 10) : Nat) : Int) ∧ acc * 16 + (lw - 97 + 10) < 4294967296 ∧ puF 0 (bs.map UInt8.toNat) = puF (acc * 16 + (lw - 97 + 10)) ((bs.drop (k + 1)).map UInt8.toNat)) := Lib.hid ⟨by omega, by omega, hdec⟩
                have iov : a * 16 + (z - 97 + 10) ≤ 4294967295 := by omega
                clear hdec hF hfg hq ha hz2 hlw hacc hemp hLn hov
                go_wp2
                refine ⟨⟨k + 1, acc * 16 + (lw - 97 + 10), a * 16 + (z - 97 + 10), rfl, (by first | rfl | (congr 1; omega)), (by first | rfl | (congr 1; omega)), by omega, HN⟩, by simp [intOf]; omega⟩
          · have hz2 := hz
            clear hz
            by_cases h16 : 16 ≤ z - 97 + 10
            · have hF : puF acc (c :: (bs.drop (k + 1)).map UInt8.toNat) = (0, some 2) := by
                simp only [puF, hfg]
                rw [if_pos (by omega)]
              rw [hF] at hdec
              have HDEC := Aside0.mk hdec
              have HQ := Aside0.mk hq
              have HA := Aside0.mk ha
              clear hdec hF hfg hq ha hz2 hlw hacc hemp hLn
              go_wp2
              go_ret2
              exact ⟨by first | rfl | (rw [HDEC.out]; rfl), HBL.out⟩
            · by_cases hov : 4294967295 < a * 16 + (z - 97 + 10)
              · have hF : puF acc (c :: (bs.drop (k + 1)).map UInt8.toNat) = (4294967295, some 1) := by
                  simp only [puF, hfg]
                  rw [if_neg (by omega), if_pos (by omega)]
                rw [hF] at hdec
                have HDEC := Aside0.mk hdec
                have HQ := Aside0.mk hq
                have HA := Aside0.mk ha
                clear hdec hF hfg hq ha hz2 hlw hacc hemp hLn
                go_wp2
                go_ret2
                exact ⟨by first | rfl | (rw [HDEC.out]; rfl), HBL.out⟩
              · have hF : puF acc (c :: (bs.drop (k + 1)).map UInt8.toNat) = puF (acc * 16 + (lw - 97 + 10)) ((bs.drop (k + 1)).map UInt8.toNat) := by
                  simp only [puF, hfg]
                  rw [if_neg (by omega), if_neg (by omega)]
                rw [hF] at hdec
                have HN : Hid (a * 16 + (z - 97 + 10) = ((acc * 16 + (lw - 97 + 10) : Nat) : Int) ∧ acc * 16 + (lw - 97 + 10) < 4294967296 ∧ puF 0 (bs.map UInt8.toNat) = puF (acc * 16 + (lw - 97 + 10)) ((bs.drop (k + 1)).map UInt8.toNat)) := Lib.hid ⟨by omega, by omega, hdec⟩
                have iov : a * 16 + (z - 97 + 10) ≤ 4294967295 := by omega
                clear hdec hF hfg hq ha hz2 hlw hacc hemp hLn hov
                go_wp2
                refine ⟨⟨k + 1, acc * 16 + (lw - 97 + 10), a * 16 + (z - 97 + 10), rfl, (by first | rfl | (congr 1; omega)), (by first | rfl | (congr 1; omega)), by omega, HN⟩, by simp [intOf]; omega⟩
        · have hl2 : z < 97 ∨ 122 < z := by omega
          have hF : puF acc (c :: (bs.drop (k + 1)).map UInt8.toNat) = (0, some 2) := by
            have hfg : fgN c = none := by
              unfold fgN
              rw [if_neg (by omega), hlw, if_neg (by omega)]
            simp only [puF, hfg]
          rw [hF] at hdec
          have HDEC := Aside0.mk hdec
          clear hdec hF hq ha hacc hemp hLn hz hlw hdg hlt2
          rcases hq2 with hq2 | hq2 <;> rcases hl2 with hl2 | hl2
          all_goals
            go_wp2
            all_goals
              go_ret2
              exact ⟨by first | rfl | (rw [HDEC.out]; rfl), HBL.out⟩
    · have hkk : k = t.size := by omega
      subst hkk
      have hF : puF acc ((bs.drop t.size).map UInt8.toNat) = (acc, none) := by rw [List.drop_eq_nil_of_le (by omega)]; rfl
      rw [hF] at hdec
      subst ha
      clear hacc hF a0 a1
      go_wp2
      go_ret2
      exact ⟨by first | rfl | (rw [hdec]; rfl), HBL.out⟩
end Go.Proofs.YtibnbapbgbcpoaaDoor.P
