/- crc.More: the sum of bytes behind others. -/
import Derived.Test.YtibnbapbgbcpoaaDoorH1
namespace Go.Proofs.YtibnbapbgbcpoaaDoor.P
open Go.RowKit Go.Proofs.YtibnbapbgbcpoaaDoorW.PrintWords Go.Proofs.YtibnbapbgbcpoaaDoorW.PrintLast Go.Proofs.YtibnbapbgbcpoaaDoorW.PrintMore
set_option linter.unusedVariables false
set_option linter.unusedSimpArgs false

theorem xor_u8 (a b : Nat) (ha : a < 256) (hb : b < 256) : Go.bits .xor .u8 (a : Int) (b : Int) = ((a ^^^ b : Nat) : Int) ∧ a ^^^ b < 256 := by
  have hlt : a ^^^ b < 2 ^ 8 := Nat.xor_lt_two_pow (by omega) (by omega)
  refine ⟨?_, hlt⟩
  have ha' : a % 2 ^ 8 = a := Nat.mod_eq_of_lt ha
  have hb' : b % 2 ^ 8 = b := Nat.mod_eq_of_lt hb
  show IntKind.u8.wrap (((BitVec.ofInt 8 (a : Int)) ^^^ (BitVec.ofInt 8 (b : Int))).toNat : Int) = _
  rw [BitVec.ofInt_natCast, BitVec.ofInt_natCast, BitVec.toNat_xor, BitVec.toNat_ofNat, BitVec.toNat_ofNat, ha', hb', IntKind.wrap_u8]
  omega
/-- A byte is taken, by the table. -/
def tkN (n c : Nat) : Nat := (n / 256) ^^^ tN ((n % 256) ^^^ c)
def foldN (n : Nat) (l : List Nat) : Nat := l.foldl tkN n
theorem tN_lt (i : Nat) (h : i < 256) : tN i < 4294967296 := it_lt i (by omega) 8
theorem tk_lt (n c : Nat) (h : n < 4294967296) (hc : c < 256) : tkN n c < 4294967296 := by
  have h1 := (xor_u8 (n % 256) c (by omega) hc).2
  exact (xor_u32 (n / 256) (tN ((n % 256) ^^^ c)) (by omega) (tN_lt _ h1)).2
theorem fold_lt : ∀ (l : List Nat) (n : Nat), n < 4294967296 → (∀ c ∈ l, c < 256) → foldN n l < 4294967296
  | [], n, h, _ => h
  | c :: l, n, h, hc => fold_lt l (tkN n c) (tk_lt n c h (hc c (by simp))) (fun d hd => hc d (by simp [hd]))
theorem tab_at (y : Nat) (h : y < 256) : (tabRow 256)[y]? = some (.int .u32 ((tN y : Nat) : Int)) := by
  simp [tabRow, h]
theorem byte_at {w : World} {A : Option Addr} {xs : List Int} (h : Kd.C (Kd.int .u8) w A xs.length xs) (i : Nat) (hi : i < xs.length) : ∃ ad, A = some ad ∧ w.cell? (ad.add i) = some (.int .u8 xs[i]) := by
  obtain ⟨ad, c, e, hl, hK, hc⟩ := Kd.C_get h (0 : Int) (i : Int) (by omega) (by omega)
  have hK' : c = [Value.int .u8 (xs.getD (i : Int).toNat 0)] := hK
  refine ⟨ad, e, ?_⟩
  have h1 := hc 0 (.int .u8 (xs.getD (i : Int).toNat 0)) (by rw [hK']; rfl)
  rw [Int.toNat_natCast, List.getD_eq_getElem?_getD, List.getElem?_eq_getElem hi] at h1
  have h2 : (Kd.int .u8).sz = 1 := rfl
  rw [h2, Nat.mul_one, Nat.add_zero] at h1
  exact h1
theorem not_u32 (n : Nat) (h : n < 4294967296) : Go.bits .xor .u32 IntKind.u32.max (n : Int) = ((4294967295 - n : Nat) : Int) := by
  have h1 : IntKind.u32.max = ((4294967295 : Nat) : Int) := by decide
  have ha : n % 2 ^ 32 = n := Nat.mod_eq_of_lt h
  rw [h1]
  show IntKind.u32.wrap (((BitVec.ofInt 32 ((4294967295 : Nat) : Int)) ^^^ (BitVec.ofInt 32 (n : Int))).toNat : Int) = _
  have h2 : BitVec.ofInt 32 ((4294967295 : Nat) : Int) = BitVec.allOnes 32 := by decide
  rw [h2, BitVec.allOnes_xor, BitVec.toNat_not, BitVec.ofInt_natCast, BitVec.toNat_ofNat, ha, IntKind.wrap_u32]
  omega
set_option maxHeartbeats 1000000 in
theorem turned_calls (n : Nat) (hnl : n < 4294967296) (w : World) : Calls Tryd.prog 20 #[.int .u32 (n : Int)] w fun e w' => e = .returned (.int .u32 ((4294967295 - n : Nat) : Int)) ∧ w' = w := by
  go_enter Tryd.func20, Tryd.ntmps20
  go_wp2
  go_ret
  exact ⟨by show Ending.returned (.int .u32 (Go.bits .xor .u32 IntKind.u32.max (n : Int))) = _; rw [not_u32 n hnl], rfl⟩

set_option maxRecDepth 100000 in
set_option maxHeartbeats 4000000 in
theorem more_calls (n : Nat) (hn : n < 4294967296) (A1 : Option Addr) (c1 : Nat) (l1 : List Int) (w : World) (hr1 : Kd.C (Kd.int .u8) w A1 l1.length l1) (hb : ∀ v ∈ l1, 0 ≤ v ∧ v < 256) :
    Calls Tryd.prog 12 #[.int .u32 (n : Int), .slice A1 l1.length c1] w fun e w' => e = .returned (.int .u32 ((4294967295 - foldN (4294967295 - n) (l1.map Int.toNat) : Nat) : Int)) ∧ Below w.heap.size w w' := by
  have hmax := Kd.C_max hr1
  have HR := Aside0.mk hr1
  have HBY := Aside0.mk hb
  clear hr1 hb
  go_enter Tryd.func12, Tryd.ntmps12
  go_wp2_with (first
    | (go_at_call 14; refine (table_calls _).mono ?_; rintro e w1 ⟨rfl, hb1⟩; have HB1 := Aside0.mk hb1; clear hb1)
    | (refine wpList_store_row rfl 28 (.tmp 5) (.tmp 10) rfl w1.heap.size (tabRow 256) rfl rfl 28 _ (heap_alloc_new _ _) (by kernel_rfl) (by kernel_rfl) (by kernel_rfl) ?_)
    | (go_at_call 20; refine (turned_calls n hn _).mono ?_; rintro e w2 ⟨rfl, rfl⟩))
  have HT : Aside0 (((w1.alloc (Obj.cells Tryd.zeroCells28 28)).setRow w1.heap.size (tabRow 256)).heap[w1.heap.size]? = some (.cells (tabRow 256) 28 (0, 0))) := ⟨setRow_heap _ _ _ _ _ _ (heap_alloc_new _ _)⟩
  have HB : Aside0 (Below w.heap.size w ((w1.alloc (Obj.cells Tryd.zeroCells28 28)).setRow w1.heap.size (tabRow 256))) := ⟨by
    have hb2 := below_alloc HB1.out (Obj.cells Tryd.zeroCells28 28)
    have hs := HB1.out.size
    exact ⟨hb2.os, hb2.tape, hb2.output, by rw [size_setRow]; exact hb2.size, fun k hk => (setRow_other _ _ _ _ (by omega)).trans (hb2.block k hk)⟩⟩
  obtain ⟨s0, hs0⟩ : ∃ s, s = 4294967295 - n := ⟨_, rfl⟩
  have hs0l : s0 < 4294967296 := by omega
  rw [← hs0]
  have HS := Aside0.mk hs0
  clear hs0
  have hbl : ∀ i : Nat, ∀ c ∈ (l1.take i).map Int.toNat, c < 256 := by
    intro i c hc
    obtain ⟨v, hv, rfl⟩ := List.mem_map.1 hc
    have := HBY.out v (List.mem_of_mem_take hv)
    omega
  have HBL := Aside0.mk hbl
  clear hbl
  go_loopg [7, 16] l1.length (fun kq v7 v16 w' => ∃ i : Nat, v7 = .int .u32 ((foldN s0 ((l1.take i).map Int.toNat) : Nat) : Int) ∧ v16 = .int .i64 i ∧ i + kq = l1.length ∧ Aside0 (w'.heap[w1.heap.size]? = some (.cells (tabRow 256) 28 (0, 0))) ∧ Aside0 (Below w.heap.size w w'))
  case atStart => exact ⟨0, rfl, rfl, by omega, HT, HB⟩
  case round =>
    obtain ⟨i, rfl, rfl, hi, HT2, HB2⟩ := hrel
    have hx := fold_lt ((l1.take i).map Int.toNat) s0 hs0l (HBL.out i)
    by_cases hlt : i < l1.length
    · obtain ⟨k1, rfl⟩ : ∃ k1, gk = k1 + 1 := ⟨gk - 1, by omega⟩
      obtain ⟨x, hxe⟩ : ∃ x, foldN s0 ((l1.take i).map Int.toNat) = x := ⟨_, rfl⟩
      rw [hxe] at hx ⊢
      obtain ⟨ad, ea, hcell⟩ := byte_at (Kd.C_below HR.out HB2.out) i hlt
      subst ea
      have hcr := HBY.out _ (List.getElem_mem hlt)
      obtain ⟨c, hce⟩ := Int.eq_ofNat_of_zero_le hcr.1
      rw [hce] at hcell hcr
      have hc : c < 256 := by omega
      obtain ⟨hy8, hy8l⟩ := xor_u8 (x % 256) c (by omega) hc
      obtain ⟨y, hye⟩ : ∃ y, (x % 256) ^^^ c = y := ⟨_, rfl⟩
      rw [hye] at hy8 hy8l
      have hy8' : Go.bits .xor .u8 ((x : Int) % 256) (c : Int) = (y : Int) := by rw [← hy8]; rfl
      have htab := (blk_cell HT2.out y).trans (tab_at y hy8l)
      obtain ⟨hz, hzl⟩ := xor_u32 (x / 256) (tN y) (by omega) (tN_lt y hy8l)
      have hz' : Go.bits .xor .u32 ((x : Int) / 256) ((tN y : Nat) : Int) = (((x / 256) ^^^ tN y : Nat) : Int) := by rw [← hz]; rfl
      have HX := Aside0.mk hxe
      have HC := Aside0.mk hce
      have HY := Aside0.mk hye
      clear hxe hce hye hy8 hz
      go_wp2
      go_roundg k1
      case measure => omega
      case rel =>
        exact ⟨i + 1, by
          rw [List.take_succ_eq_append_getElem hlt, List.map_append]
          unfold foldN
          rw [List.foldl_append]
          have h0 : List.foldl tkN s0 ((l1.take i).map Int.toNat) = x := HX.out
          rw [h0]
          show _ = Value.int .u32 ((tkN x (l1[i].toNat) : Nat) : Int)
          unfold tkN
          rw [HC.out]
          show _ = Value.int .u32 (((x / 256) ^^^ tN ((x % 256) ^^^ c) : Nat) : Int)
          rw [HY.out], by go_num, by omega, HT2, HB2⟩
    · obtain rfl : i = l1.length := by omega
      have htk : (l1.take l1.length).map Int.toNat = l1.map Int.toNat := by rw [List.take_length]
      rw [htk] at hx ⊢
      go_wp2_with (first
        | (go_at_call 20; refine (turned_calls _ hx _).mono ?_; rintro e w2 ⟨rfl, rfl⟩))
      go_ret
      refine ⟨?_, HB2.out⟩
      rw [← HS.out]
      rfl

def crc_More.f (a0 : Int) (l1 : List Int) : Option Int :=
  if 0 ≤ a0 ∧ a0 < 4294967296 ∧ ∀ v ∈ l1, 0 ≤ v ∧ v < 256 then some ((4294967295 - foldN (4294967295 - a0.toNat) (l1.map Int.toNat) : Nat) : Int) else none
theorem crc_More.calls (a0 : Int) (A1 : Option Addr) (c1 : Nat) (l1 : List Int) (r : Int) (w : World) (hr1 : Kd.C (Kd.int .u8) w A1 l1.length l1) (hc1 : l1.length ≤ c1) (h : crc_More.f a0 l1 = some r) :
    Calls Tryd.prog 12 #[.int .u32 a0, .slice A1 l1.length c1] w fun e w' => e = .returned (.int .u32 r) ∧ Below w.heap.size w w' := by
  unfold crc_More.f at h
  by_cases hc : 0 ≤ a0 ∧ a0 < 4294967296 ∧ ∀ v ∈ l1, 0 ≤ v ∧ v < 256
  · rw [if_pos hc] at h
    obtain rfl := Option.some.inj h
    obtain ⟨n, rfl⟩ := Int.eq_ofNat_of_zero_le hc.1
    exact more_calls n (by omega) A1 c1 l1 w hr1 hc.2.2
  · rw [if_neg hc] at h
    cases h
end Go.Proofs.YtibnbapbgbcpoaaDoor.P
