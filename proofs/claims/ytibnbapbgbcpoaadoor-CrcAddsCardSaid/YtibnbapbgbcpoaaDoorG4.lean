/- The law CrcAdds, plainly: of bytes, all as long, three added have their three sums, added. -/
import Derived.Test.YtibnbapbgbcpoaaDoorG2
import Derived.Test.YtibnbapbgbcpoaaDoorPf7
namespace Go.Proofs.YtibnbapbgbcpoaaDoor.P
open Go.RowKit Go.Proofs.YtibnbapbgbcpoaaDoorW.PrintWords Go.Proofs.YtibnbapbgbcpoaaDoorW.PrintLast Go.Proofs.YtibnbapbgbcpoaaDoorW.PrintMore
set_option linter.unusedVariables false

/-- Three rows added. -/
def z3 : List Nat → List Nat → List Nat → List Nat
  | a :: A, b :: B, c :: C => (a ^^^ b ^^^ c) :: z3 A B C
  | _, _, _ => []
theorem xor3 (a b c d e f : Nat) : (a ^^^ b ^^^ c) ^^^ (d ^^^ e ^^^ f) = (a ^^^ d) ^^^ (b ^^^ e) ^^^ (c ^^^ f) := by
  apply Nat.eq_of_testBit_eq
  intro i
  simp only [Nat.testBit_xor]
  cases a.testBit i <;> cases b.testBit i <;> cases c.testBit i <;> cases d.testBit i <;> cases e.testBit i <;> cases f.testBit i <;> rfl
theorem tk3 (n m p a b c : Nat) (ha : a < 256) (hb : b < 256) (hc : c < 256) : tkN (n ^^^ m ^^^ p) (a ^^^ b ^^^ c) = tkN n a ^^^ tkN m b ^^^ tkN p c := by
  have h1 := (xor_u8 a b ha hb).2
  have h2 := (xor_u8 (a ^^^ b) c h1 hc).2
  rw [tk_it _ _ h2, tk_it _ _ ha, tk_it _ _ hb, tk_it _ _ hc, xor3, it_xor, it_xor]
theorem fold3 : ∀ (A B C : List Nat) (n m p : Nat), A.length = B.length → A.length = C.length → (∀ v ∈ A, v < 256) → (∀ v ∈ B, v < 256) → (∀ v ∈ C, v < 256) →
    foldN (n ^^^ m ^^^ p) (z3 A B C) = foldN n A ^^^ foldN m B ^^^ foldN p C
  | [], [], [], n, m, p, _, _, _, _, _ => rfl
  | a :: A, b :: B, c :: C, n, m, p, h1, h2, ha, hb, hc => by
    show foldN (tkN (n ^^^ m ^^^ p) (a ^^^ b ^^^ c)) (z3 A B C) = foldN (tkN n a) A ^^^ foldN (tkN m b) B ^^^ foldN (tkN p c) C
    rw [tk3 n m p a b c (ha a (by simp)) (hb b (by simp)) (hc c (by simp))]
    exact fold3 A B C _ _ _ (by simpa using h1) (by simpa using h2) (fun v hv => ha v (by simp [hv])) (fun v hv => hb v (by simp [hv])) (fun v hv => hc v (by simp [hv]))
  | [], _ :: _, _, _, _, _, h, _, _, _, _ => by simp at h
  | _ :: _, [], _, _, _, _, h, _, _, _, _ => by simp at h
  | [], _, _ :: _, _, _, _, _, h, _, _, _ => by simp at h
  | _ :: _, _, [], _, _, _, _, h, _, _, _ => by simp at h
theorem z3_lt : ∀ (A B C : List Nat), (∀ v ∈ A, v < 256) → (∀ v ∈ B, v < 256) → (∀ v ∈ C, v < 256) → ∀ v ∈ z3 A B C, v < 256
  | [], _, _, _, _, _, v, h => by simp [z3] at h
  | _ :: _, [], _, _, _, _, v, h => by simp [z3] at h
  | _ :: _, _ :: _, [], _, _, _, v, h => by simp [z3] at h
  | a :: A, b :: B, c :: C, ha, hb, hc, v, h => by
    rcases List.mem_cons.1 h with rfl | h
    · have h1 := (xor_u8 a b (ha a (by simp)) (hb b (by simp))).2
      exact (xor_u8 (a ^^^ b) c h1 (hc c (by simp))).2
    · exact z3_lt A B C (fun v hv => ha v (by simp [hv])) (fun v hv => hb v (by simp [hv])) (fun v hv => hc v (by simp [hv])) v h
/-- Numbers as they stand in a row. -/
def upL (l : List Nat) : List Int := l.map (fun x : Nat => (x : Int))
theorem bys_up (l : List Nat) : bysL (upL l) = l := by
  unfold bysL upL
  rw [List.map_map]
  conv => rhs; rw [← List.map_id l]
  exact List.map_congr_left (fun x _ => by simp)
theorem sum3 (A B C : List Int) (hA : ∀ v ∈ A, 0 ≤ v ∧ v < 256) (hB : ∀ v ∈ B, 0 ≤ v ∧ v < 256) (hC : ∀ v ∈ C, 0 ≤ v ∧ v < 256) (h1 : A.length = B.length) (h2 : A.length = C.length) :
    mrN 0 (upL (z3 (bysL A) (bysL B) (bysL C))) = mrN 0 A ^^^ mrN 0 B ^^^ mrN 0 C := by
  unfold mrN
  rw [bys_up, Nat.sub_zero]
  have hf := fold3 (bysL A) (bysL B) (bysL C) 4294967295 4294967295 4294967295 (by simp [bysL, h1]) (by simp [bysL, h2]) (bys_lt hA) (bys_lt hB) (bys_lt hC)
  rw [show 4294967295 ^^^ 4294967295 ^^^ 4294967295 = 4294967295 from by decide] at hf
  have fA : foldN 4294967295 (bysL A) < 4294967296 := fold_lt _ _ (by omega) (bys_lt hA)
  have fB : foldN 4294967295 (bysL B) < 4294967296 := fold_lt _ _ (by omega) (bys_lt hB)
  have fC : foldN 4294967295 (bysL C) < 4294967296 := fold_lt _ _ (by omega) (bys_lt hC)
  have fZ : foldN 4294967295 (z3 (bysL A) (bysL B) (bysL C)) < 4294967296 := fold_lt _ _ (by omega) (z3_lt _ _ _ (bys_lt hA) (bys_lt hB) (bys_lt hC))
  rw [compl _ fA, compl _ fB, compl _ fC, compl _ fZ, hf]
  have := xor3 4294967295 4294967295 4294967295 (foldN 4294967295 (bysL A)) (foldN 4294967295 (bysL B)) (foldN 4294967295 (bysL C))
  rw [show 4294967295 ^^^ 4294967295 ^^^ 4294967295 = 4294967295 from by decide] at this
  exact this
theorem bys_take (l : List Int) (n : Nat) : bysL (l.take n) = (bysL l).take n := by unfold bysL; rw [List.map_take]
theorem bys_len (l : List Int) : (bysL l).length = l.length := by simp [bysL]
theorem xor3_u8 (x y z : Int) (hx : 0 ≤ x ∧ x < 256) (hy : 0 ≤ y ∧ y < 256) (hz : 0 ≤ z ∧ z < 256) :
    Go.bits .xor .u8 (Go.bits .xor .u8 x y) z = ((x.toNat ^^^ y.toNat ^^^ z.toNat : Nat) : Int) := by
  obtain ⟨a, rfl⟩ := Int.eq_ofNat_of_zero_le hx.1
  obtain ⟨b, rfl⟩ := Int.eq_ofNat_of_zero_le hy.1
  obtain ⟨c, rfl⟩ := Int.eq_ofNat_of_zero_le hz.1
  obtain ⟨h1, h2⟩ := xor_u8 a b (by omega) (by omega)
  rw [h1, (xor_u8 (a ^^^ b) c h2 (by omega)).1]
  rfl
theorem adds_end (k : Nat) (x0 x1 x2 : List Int) (n : Nat) (x9 : List Int) (h0 : ∀ v ∈ x0, 0 ≤ v ∧ v < 256) (h1 : ∀ v ∈ x1, 0 ≤ v ∧ v < 256) (h2 : ∀ v ∈ x2, 0 ≤ v ∧ v < 256)
    (n0 : n ≤ x0.length) (n1 : n ≤ x1.length) (n2 : n ≤ x2.length) (h9 : x9 = upL (z3 (bysL (x0.take n)) (bysL (x1.take n)) (bysL (x2.take n)))) :
    gambrellaw13_CrcAdds.l0 (k + 1) x0 x1 x2 true (n : Int) x9 (n : Int) = some true := by
  have t0 : ∀ v ∈ x0.take n, 0 ≤ v ∧ v < 256 := fun v hv => h0 v (List.mem_of_mem_take hv)
  have t1 : ∀ v ∈ x1.take n, 0 ≤ v ∧ v < 256 := fun v hv => h1 v (List.mem_of_mem_take hv)
  have t2 : ∀ v ∈ x2.take n, 0 ≤ v ∧ v < 256 := fun v hv => h2 v (List.mem_of_mem_take hv)
  have t9 : ∀ v ∈ x9, 0 ≤ v ∧ v < 256 := fun v hv => by
    rw [h9] at hv
    obtain ⟨u, hu, rfl⟩ := List.mem_map.1 hv
    have := z3_lt _ _ _ (bys_lt t0) (bys_lt t1) (bys_lt t2) u hu
    omega
  rw [gambrellaw13_CrcAdds.l0, if_neg (by omega), if_pos rfl, sum_f _ t9, Option.bind_some, if_pos (by omega), if_pos (by omega), Int.toNat_natCast, sum_f _ t0, Option.bind_some, if_pos (by omega), sum_f _ t1, Option.bind_some,
    if_pos (by omega), sum_f _ t2, Option.bind_some, h9, sum3 _ _ _ t0 t1 t2 (by simp; omega) (by simp; omega)]
  have e1 := xor_u32 (mrN 0 (x0.take n)) (mrN 0 (x1.take n)) (mr_lt _ _) (mr_lt _ _)
  have e2 := xor_u32 (mrN 0 (x0.take n) ^^^ mrN 0 (x1.take n)) (mrN 0 (x2.take n)) e1.2 (mr_lt _ _)
  rw [e1.1, e2.1]
  simp
theorem z3_step : ∀ (A B C : List Nat) (i : Nat) (hA : i < A.length) (hB : i < B.length) (hC : i < C.length),
    z3 (A.take (i + 1)) (B.take (i + 1)) (C.take (i + 1)) = z3 (A.take i) (B.take i) (C.take i) ++ [A[i] ^^^ B[i] ^^^ C[i]]
  | a :: A, b :: B, c :: C, 0, _, _, _ => by simp [z3]
  | a :: A, b :: B, c :: C, i + 1, hA, hB, hC => by
    have := z3_step A B C i (by simpa using hA) (by simpa using hB) (by simpa using hC)
    simp only [List.take_succ_cons, z3, List.getElem_cons_succ, List.cons_append]
    rw [this]
theorem z3_len : ∀ (A B C : List Nat), (z3 A B C).length ≤ A.length
  | [], _, _ => by simp [z3]
  | _ :: _, [], _ => by simp [z3]
  | _ :: _, _ :: _, [] => by simp [z3]
  | a :: A, b :: B, c :: C => by have := z3_len A B C; simp [z3]; omega
theorem adds_loop (x0 x1 x2 : List Int) (n : Nat) (h0 : ∀ v ∈ x0, 0 ≤ v ∧ v < 256) (h1 : ∀ v ∈ x1, 0 ≤ v ∧ v < 256) (h2 : ∀ v ∈ x2, 0 ≤ v ∧ v < 256)
    (n0 : n ≤ x0.length) (n1 : n ≤ x1.length) (n2 : n ≤ x2.length) (hn : n ≤ 200) :
    ∀ (m i k : Nat) (x9 : List Int), i + m = n → m + 1 ≤ k → x9 = upL (z3 (bysL (x0.take i)) (bysL (x1.take i)) (bysL (x2.take i))) →
      gambrellaw13_CrcAdds.l0 k x0 x1 x2 true (n : Int) x9 (i : Int) = some true
  | 0, i, k, x9, hi, hk, h9 => by
    obtain ⟨k1, rfl⟩ : ∃ k1, k = k1 + 1 := ⟨k - 1, by omega⟩
    obtain rfl : i = n := by omega
    exact adds_end k1 x0 x1 x2 i x9 h0 h1 h2 n0 n1 n2 h9
  | m + 1, i, k, x9, hi, hk, h9 => by
    obtain ⟨k1, rfl⟩ : ∃ k1, k = k1 + 1 := ⟨k - 1, by omega⟩
    have hl : x9.length ≤ 200 := by
      rw [h9]
      have := z3_len (bysL (x0.take i)) (bysL (x1.take i)) (bysL (x2.take i))
      simp only [upL, List.length_map]
      simp only [bysL, List.length_map, List.length_take] at this ⊢
      omega
    have hw : wrap64 ((i : Int) + 1) = ((i + 1 : Nat) : Int) := by unfold wrap64; omega
    rw [gambrellaw13_CrcAdds.l0, if_pos (by omega), if_pos (by omega), if_pos (by omega), if_pos (by omega), if_pos (by omega), if_pos (by omega), rd_nat x0 i (by omega), rd_nat x1 i (by omega), rd_nat x2 i (by omega), hw]
    refine adds_loop x0 x1 x2 n h0 h1 h2 n0 n1 n2 hn m (i + 1) k1 _ (by omega) (by omega) ?_
    rw [h9, xor3_u8 _ _ _ (h0 _ (List.getElem_mem _)) (h1 _ (List.getElem_mem _)) (h2 _ (List.getElem_mem _)), bys_take, bys_take, bys_take, bys_take, bys_take, bys_take,
      z3_step _ _ _ i (by rw [bys_len]; omega) (by rw [bys_len]; omega) (by rw [bys_len]; omega)]
    simp [upL, bysL]
theorem crc_adds : gambrellaw13_CrcAdds.Pure := by
  intro l0 l1 l2 m0 y0 w0 m1 y1 w1 m2 y2 w2
  refine ⟨201, ?_⟩
  unfold gambrellaw13_CrcAdds.f gambrellaw13_awake.f
  rw [Option.bind_some]
  obtain ⟨n, hn, e⟩ : ∃ n : Nat, (n ≤ l0.length ∧ n ≤ l1.length ∧ n ≤ l2.length ∧ n ≤ 200) ∧ mn (mn (mn (l0.length : Int) (l1.length : Int)) (l2.length : Int)) 200 = (n : Int) := by
    refine ⟨(mn (mn (mn (l0.length : Int) (l1.length : Int)) (l2.length : Int)) 200).toNat, ?_, ?_⟩ <;> (unfold mn; repeat' split) <;> omega
  rw [e]
  exact adds_loop l0 l1 l2 n (fun v hv => u8_in (w0 v hv)) (fun v hv => u8_in (w1 v hv)) (fun v hv => u8_in (w2 v hv)) hn.1 hn.2.1 hn.2.2.1 hn.2.2.2 n 0 201 [] (by omega) (by omega) (by simp [z3, bysL, upL])
end Go.Proofs.YtibnbapbgbcpoaaDoor.P
