/- A number as a text of base 16: internal/strconv.formatBits, and the callers of it. -/
import Derived.Test.YtibnbapbgbcpoaaDoorH2
import Derived.Laws.Bits64b
namespace Go.Proofs.YtibnbapbgbcpoaaDoor.P
open Go.RowKit Go.Proofs.YtibnbapbgbcpoaaDoorW.PrintWords Go.Proofs.YtibnbapbgbcpoaaDoorW.PrintLast Go.Proofs.YtibnbapbgbcpoaaDoorW.PrintMore
set_option linter.unusedVariables false
set_option linter.unusedSimpArgs false

/-- What is needed of the library's table: the place of 16. -/
def LW (w : World) : Prop := w.cell? ⟨5, 15, none⟩ = some (.int .u8 4) ∧ 5 < w.heap.size
theorem LW.below {w w' : World} (h : LW w) (hb : Below w.heap.size w w') : LW w' := by
  refine ⟨?_, Nat.lt_of_lt_of_le h.2 hb.size⟩
  rw [← h.1]
  exact hb.cell h.2

theorem tz_key : IntKind.u64.wrap (bits BinOp.and IntKind.u64 16 (IntKind.u64.wrap (-16)) * 285870213051353865) / 288230376151711744 = 15 := by decide
set_option maxRecDepth 100000 in
set_option maxHeartbeats 4000000 in
theorem tz64 (w : World) (h : LW w) : Calls Tryd.prog 62 #[.int .u64 16] w fun e w' => e = .returned (.int .i64 4) ∧ w' = w := by
  have hc := h.1
  go_enter Tryd.func62, Tryd.ntmps62
  go_wp2_with (simp only [tz_key])
  go_ret
  exact ⟨rfl, rfl⟩
set_option maxRecDepth 100000 in
set_option maxHeartbeats 4000000 in
theorem tz (w : World) (h : LW w) : Calls Tryd.prog 57 #[.int .u64 16] w fun e w' => e = .returned (.int .i64 4) ∧ w' = w := by
  go_enter Tryd.func57, Tryd.ntmps57
  go_wp2_with (go_at_call 62; refine (tz64 w h).mono ?_; rintro e w2 ⟨rfl, rfl⟩)
  go_ret
  exact ⟨rfl, rfl⟩
set_option maxRecDepth 100000 in
set_option maxHeartbeats 4000000 in
theorem pow2 (w : World) : Calls Tryd.prog 56 #[.int .i64 16] w fun e w' => e = .returned (.bool true) ∧ w' = w := by
  have h1 : Go.bits BinOp.and IntKind.i64 16 15 = 0 := by decide
  go_enter Tryd.func56, Tryd.ntmps56
  go_wp2
  go_ret
  exact ⟨rfl, rfl⟩

/-- A figure of base 16; the figures of a number. -/
def dgN (d : Nat) : Nat := if d < 10 then 48 + d else 87 + d
def hexF : Nat → Nat → List Nat
  | 0, u => [dgN u]
  | k + 1, u => if u < 16 then [dgN u] else hexF k (u / 16) ++ [dgN (u % 16)]
/-- A row of 65 bytes whose last ones are figures. -/
def buf (l : List Nat) : Array Value := (List.replicate (65 - l.length) (Value.int .u8 0) ++ l.map (fun d => Value.int .u8 ((d : Nat) : Int))).toArray
theorem buf_zero : Tryd.zeroCells87 = buf [] := by kernel_rfl
theorem buf_set (d : Nat) (l : List Nat) (h : l.length < 65) : (buf l).setIfInBounds (65 - l.length - 1) (.int .u8 ((d : Nat) : Int)) = buf (d :: l) := by
  apply Array.ext'
  simp only [buf, Array.toList_setIfInBounds]
  obtain ⟨m, hm⟩ : ∃ m, 65 - l.length = m + 1 := ⟨65 - l.length - 1, by omega⟩
  rw [hm, List.set_append_left _ _ (by simp), List.length_cons, show 65 - (l.length + 1) = m from by omega, Nat.add_sub_cancel]
  rw [List.replicate_succ', List.set_append_right _ _ (by simp)]
  simp
theorem buf_size (l : List Nat) (h : l.length ≤ 65) : (buf l).size = 65 := by simp [buf]; omega
theorem buf_free (l : List Nat) (h : l.length < 65) : ∃ v, (buf l)[65 - l.length - 1]? = some v := by
  have := buf_size l (by omega)
  exact ⟨_, Array.getElem?_eq_getElem (by omega)⟩
theorem dig_get (d : Nat) (h : d < 16) (h2 : d < (⟨#[48, 49, 50, 51, 52, 53, 54, 55, 56, 57, 97, 98, 99, 100, 101, 102, 103, 104, 105, 106, 107, 108, 109, 110, 111, 112, 113, 114, 115, 116, 117, 118, 119, 120, 121, 122]⟩ : ByteArray).size) : ((⟨#[48, 49, 50, 51, 52, 53, 54, 55, 56, 57, 97, 98, 99, 100, 101, 102, 103, 104, 105, 106, 107, 108, 109, 110, 111, 112, 113, 114, 115, 116, 117, 118, 119, 120, 121, 122]⟩ : ByteArray)[d]'h2).toNat = dgN d := by
  have : ∀ e : Fin 16, ((#[48, 49, 50, 51, 52, 53, 54, 55, 56, 57, 97, 98, 99, 100, 101, 102, 103, 104, 105, 106, 107, 108, 109, 110, 111, 112, 113, 114, 115, 116, 117, 118, 119, 120, 121, 122] : Array UInt8)[e.val]'(Nat.lt_trans e.isLt (by decide))).toNat = dgN e.val := by decide
  exact this ⟨d, h⟩
theorem dg_lt (d : Nat) (h : d < 16) : dgN d < 256 := by unfold dgN; split <;> omega
theorem sl87 (b i : Nat) (h : i < 65) (W : World) : (Instr.sliceAt 87 (.pointer (some ⟨b, 0, none⟩)) (some (.int .i64 (i : Int))) none none).run Tryd.prog W = .ok (.slice (some ⟨b, i, none⟩) (65 - i) (65 - i)) W := by
  have hal : Tryd.prog.arrayLen 87 = 65 := by kernel_rfl
  have hsz : (sizeOf (Tryd.prog.elem 87)).run Tryd.prog W = .ok 1 W := by kernel_rfl
  rw [run_sliceAt_array_l W 87 ⟨b, 0, none⟩ (by kernel_rfl) .i64 (i : Int) (by omega) (by rw [hal]; omega), hsz, hal]
  simp only [Result.andThen, slicedAt, Int.toNat_natCast, Nat.mul_one]
  rw [if_neg (by omega), Addr.add_lit, Nat.zero_add]
theorem cv87 (W : World) (b i : Nat) (l : List Nat) (hl : l.length = 65 - i) (hd : ∀ d ∈ l, d < 256) (h : W.heap[b]? = some (.cells (buf l) 87 (0, 0))) :
    (convert 23 9 (.slice (some ⟨b, i, none⟩) (65 - i) (65 - i))).run Tryd.prog W = .ok (.string ⟨(l.map (fun d => UInt8.ofNat d)).toArray⟩) W := by
  have := run_convert_bytes_back (P := Tryd.prog) W 23 9 5 ⟨b, i, none⟩ (65 - i) (l.map (fun d => UInt8.ofNat d)) Tryd.underlying23 Tryd.underlying5 Tryd.underlying9 (fun j hj => by
    rw [List.length_map] at hj
    have hc := blk_cell h (i + j)
    rw [Addr.add_lit, hc]
    simp only [buf, List.getElem?_toArray]
    rw [List.getElem?_append_right (by simp; omega)]
    have : i + j - (List.replicate (65 - l.length) (Value.int .u8 0)).length = j := by simp; omega
    rw [this, List.getElem?_map, List.getElem?_eq_getElem hj]
    have h1 := hd l[j] (List.getElem_mem hj)
    simp only [Option.map_some, List.getElem_map, UInt8.toNat_ofNat']
    rw [Nat.mod_eq_of_lt (by omega)])
  rw [List.length_map, hl] at this
  exact this
theorem and15 (u : Nat) (h : u < 18446744073709551616) : Go.bits .and .u64 (u : Int) 15 = ((u % 16 : Nat) : Int) := by
  have := bits_and_u64_nat u 15 h (by decide)
  rw [Nat.and_two_pow_sub_one_eq_mod u 4] at this
  exact this

set_option maxRecDepth 100000 in
set_option maxHeartbeats 4000000 in
theorem fb_calls (u : Nat) (hu : u < 4294967296) (w : World) (hL : LW w) :
    Calls Tryd.prog 44 #[.slice none 0 0, .int .u64 (u : Int), .int .i64 16, .bool false, .bool false] w fun e w' => e = .returned (.tuple #[.slice none 0 0, .string ⟨((hexF 8 u).map (fun d => UInt8.ofNat d)).toArray⟩]) ∧ Below w.heap.size w w' := by
  go_enter Tryd.func44, Tryd.ntmps44
  go_wp2_with (first
    | (go_at_call 56; refine (pow2 _).mono ?_; rintro e w2 ⟨rfl, rfl⟩)
    | (go_at_call 57; refine (tz _ (hL.below (below_alloc (Below.refl _ _) _))).mono ?_; rintro e w2 ⟨rfl, rfl⟩))
  have HL0 : Aside0 (Below w.heap.size w (w.alloc (Obj.cells Tryd.zeroCells87 87))) := ⟨below_alloc (Below.refl _ _) _⟩
  have HT0 : Aside0 ((w.alloc (Obj.cells Tryd.zeroCells87 87)).heap[w.heap.size]? = some (.cells (buf []) 87 (0, 0))) := ⟨by rw [← buf_zero]; exact heap_alloc_new _ _⟩
  go_loopw [1, 13] (fun v1 v13 wr => ∃ (x i k : Nat) (acc : List Nat), v1 = .int .u64 x ∧ v13 = .int .i64 i ∧ i + acc.length = 65 ∧ k + acc.length = 8 ∧ 0 < k ∧ x < 16 ^ k ∧ Aside0 (hexF 8 u = hexF k x ++ acc) ∧ Aside0 (∀ y < 16, ∀ d ∈ dgN y :: acc, d < 256) ∧ Aside0 (wr.heap[w.heap.size]? = some (.cells (buf acc) 87 (0, 0))) ∧ Aside0 (Below w.heap.size w wr))
    (fun v1 _ _ => (intOf v1).toNat)
  case atStart => exact ⟨u, 65, 8, [], rfl, rfl, rfl, rfl, by omega, by omega, ⟨by simp⟩, ⟨fun y hy d hd => by
    simp only [List.mem_cons, List.not_mem_nil, or_false] at hd
    subst hd
    exact dg_lt y hy⟩, HT0, HL0⟩
  case round =>
    obtain ⟨x, i, k, acc, rfl, rfl, hi, hk, hk0, hx, HX, HA, HT, HB⟩ := hrel
    obtain ⟨i1, rfl⟩ : ∃ i1, i = i1 + 1 := ⟨i - 1, by omega⟩
    have hx32 : x < 4294967296 := Nat.lt_of_lt_of_le hx (Nat.pow_le_pow_right (by omega) (show k ≤ 8 by omega))
    have hie : 65 - acc.length - 1 = i1 := by omega
    obtain ⟨v0, hv0⟩ := buf_free acc (by omega)
    rw [hie] at hv0
    have hcell := (blk_cell HT.out i1).trans hv0
    have hfr := blk_frozen HT.out i1
    have HI := Aside0.mk hie
    clear hie hv0
    by_cases hlt : 16 ≤ x
    · have hand := and15 x (by omega)
      have hm16 : x % 16 < 16 := Nat.mod_lt _ (by omega)
      obtain ⟨d, hd⟩ : ∃ d, x % 16 = d := ⟨_, rfl⟩
      rw [hd] at hand hm16
      have HD := Aside0.mk hd
      clear hd
      have hdig := dig_get d (by omega)
      go_wp2
      go_roundw
      case rel =>
        exact ⟨x / 16, i1, k - 1, dgN d :: acc, by rfl, rfl, by simp only [List.length_cons]; omega, by simp only [List.length_cons]; omega, by
          have : 1 < k := by
            rcases Nat.lt_or_ge 1 k with h | h
            · exact h
            · obtain rfl : k = 1 := by omega
              simp at hx; omega
          omega, by
          obtain ⟨k1, rfl⟩ : ∃ k1, k = k1 + 1 := ⟨k - 1, by omega⟩
          rw [Nat.pow_succ] at hx
          simp only [Nat.add_sub_cancel]
          omega, ⟨by
          rw [HX.out]
          obtain ⟨k1, rfl⟩ : ∃ k1, k = k1 + 1 := ⟨k - 1, by omega⟩
          rw [hexF, if_neg (by omega), HD.out, Nat.add_sub_cancel, List.append_assoc]
          rfl⟩, ⟨fun y hy e he => by
          rcases List.mem_cons.1 he with rfl | he
          · exact dg_lt y hy
          · exact HA.out d hm16 e he⟩, ⟨by
          have := blk_set HT.out i1 (.int .u8 ((dgN d : Nat) : Int))
          rw [← HI.out, buf_set _ _ (by omega)] at this
          rw [← HI.out]
          exact this⟩, ⟨below_set HB.out (Nat.le_refl _)⟩⟩
      case measure => simp [intOf]; omega
    · have hdig := dig_get x (by omega)
      have hsl := sl87 w.heap.size i1 (by omega)
      have hT2 : (wr.setCell ⟨w.heap.size, i1, none⟩ (.int .u8 ((dgN x : Nat) : Int))).heap[w.heap.size]? = some (.cells (buf (dgN x :: acc)) 87 (0, 0)) := by
        have := blk_set HT.out i1 (.int .u8 ((dgN x : Nat) : Int))
        rw [← HI.out, buf_set _ _ (by omega)] at this
        rw [← HI.out]
        exact this
      have hcv := cv87 _ w.heap.size i1 (dgN x :: acc) (by simp only [List.length_cons]; omega) (HA.out x (by omega)) hT2
      have HT2 := Aside0.mk hT2
      clear hT2
      go_wp2
      go_ret2
      refine ⟨?_, below_set HB.out (Nat.le_refl _)⟩
      have hX := HX.out
      obtain ⟨k1, rfl⟩ : ∃ k1, k = k1 + 1 := ⟨k - 1, by omega⟩
      rw [show hexF (k1 + 1) x = [dgN x] from by rw [hexF, if_pos (by omega)]] at hX
      rw [hX]
      rfl
/-- The figures of a number, as a text. -/
def hexS (u : Nat) : ByteArray := ⟨((hexF 8 u).map (fun d => UInt8.ofNat d)).toArray⟩
set_option maxRecDepth 100000 in
set_option maxHeartbeats 4000000 in
theorem fu_calls (u : Nat) (hu : u < 4294967296) (w : World) (hL : LW w) :
    Calls Tryd.prog 28 #[.int .u64 (u : Int), .int .i64 16] w fun e w' => e = .returned (.string (hexS u)) ∧ Below w.heap.size w w' := by
  go_enter Tryd.func28, Tryd.ntmps28
  go_wp2_with (go_at_call 44; refine (fb_calls u hu w hL).mono ?_; rintro e w2 ⟨rfl, hb⟩)
  go_ret
  exact ⟨rfl, hb⟩
set_option maxRecDepth 100000 in
set_option maxHeartbeats 4000000 in
theorem fu2_calls (u : Nat) (hu : u < 4294967296) (w : World) (hL : LW w) :
    Calls Tryd.prog 23 #[.int .u64 (u : Int), .int .i64 16] w fun e w' => e = .returned (.string (hexS u)) ∧ Below w.heap.size w w' := by
  go_enter Tryd.func23, Tryd.ntmps23
  go_wp2_with (go_at_call 28; refine (fu_calls u hu w hL).mono ?_; rintro e w2 ⟨rfl, hb⟩)
  go_ret
  exact ⟨rfl, hb⟩
end Go.Proofs.YtibnbapbgbcpoaaDoor.P
