/- The law CrcOther, plainly: with one byte otherwise, or two beside each other, a sum is another one. -/
import Derived.Test.YtibnbapbgbcpoaaDoorG2
import Derived.Test.YtibnbapbgbcpoaaDoorPf6
namespace Go.Proofs.YtibnbapbgbcpoaaDoor.P
open Go.RowKit Go.Proofs.YtibnbapbgbcpoaaDoorW.PrintWords Go.Proofs.YtibnbapbgbcpoaaDoorW.PrintLast Go.Proofs.YtibnbapbgbcpoaaDoorW.PrintMore
set_option linter.unusedVariables false

theorem it_inj (a b : Nat) (ha : a < 4294967296) (hb : b < 4294967296) (h : itN 8 a = itN 8 b) : a = b := by
  have h0 : itN 8 (a ^^^ b) = 0 := by rw [it_xor, h, Nat.xor_self]
  exact xor_zero (it_zero _ (xor_u32 a b ha hb).2 8 h0)
theorem xor_cancel {a b c : Nat} (h : a ^^^ c = b ^^^ c) : a = b := by
  have : (a ^^^ c) ^^^ c = (b ^^^ c) ^^^ c := by rw [h]
  rwa [Nat.xor_assoc, Nat.xor_self, Nat.xor_zero, Nat.xor_assoc, Nat.xor_self, Nat.xor_zero] at this
theorem xor_cancel_left {a b c : Nat} (h : c ^^^ a = c ^^^ b) : a = b := by
  rw [Nat.xor_comm c a, Nat.xor_comm c b] at h
  exact xor_cancel h
theorem nc_lt (n c : Nat) (h : n < 4294967296) (hc : c < 256) : n ^^^ c < 4294967296 := (xor_u32 n c h (by omega)).2
theorem tk_inj (n m c : Nat) (hn : n < 4294967296) (hm : m < 4294967296) (hc : c < 256) (h : tkN n c = tkN m c) : n = m := by
  rw [tk_it _ _ hc, tk_it _ _ hc] at h
  exact xor_cancel (it_inj _ _ (nc_lt n c hn hc) (nc_lt m c hm hc) h)
theorem fold_inj : ∀ (l : List Nat) (n m : Nat), n < 4294967296 → m < 4294967296 → (∀ c ∈ l, c < 256) → foldN n l = foldN m l → n = m
  | [], n, m, _, _, _, h => h
  | c :: l, n, m, hn, hm, hc, h => tk_inj n m c hn hm (hc c (by simp)) (fold_inj l _ _ (tk_lt n c hn (hc c (by simp))) (tk_lt m c hm (hc c (by simp))) (fun d hd => hc d (by simp [hd])) h)
theorem tk_diff (n x b : Nat) (hx : x < 256) (hb : b < 256) : tkN n (x ^^^ b) = tkN n x ^^^ tN b := by
  rw [tk_it _ _ (xor_u8 x b hx hb).2, tk_it _ _ hx, ← Nat.xor_assoc, it_xor]
  rfl
/-- One byte otherwise. -/
theorem one_other (P R : List Nat) (n x b : Nat) (hn : n < 4294967296) (hP : ∀ c ∈ P, c < 256) (hx : x < 256) (hR : ∀ c ∈ R, c < 256) (hb : b < 256) (h0 : b ≠ 0) :
    foldN n (P ++ (x ^^^ b) :: R) ≠ foldN n (P ++ x :: R) := by
  intro h
  unfold foldN at h
  rw [List.foldl_append, List.foldl_append, List.foldl_cons, List.foldl_cons] at h
  have hs : foldN n P < 4294967296 := fold_lt _ _ hn hP
  have hxb := (xor_u8 x b hx hb).2
  have := fold_inj R (tkN (foldN n P) (x ^^^ b)) (tkN (foldN n P) x) (tk_lt _ _ hs hxb) (tk_lt _ _ hs hx) hR h
  rw [tk_diff _ x b hx hb] at this
  have ht : tkN (foldN n P) x ^^^ tN b = tkN (foldN n P) x ^^^ 0 := by rw [this, Nat.xor_zero]
  have hz := xor_cancel_left ht
  have := tN_big ⟨b, hb⟩ h0
  simp only at this
  omega
/-- Two beside each other otherwise. -/
theorem two_other (P R : List Nat) (n x y b d : Nat) (hn : n < 4294967296) (hP : ∀ c ∈ P, c < 256) (hx : x < 256) (hy : y < 256) (hR : ∀ c ∈ R, c < 256) (hb : b < 256) (hd : d < 256) (h0 : b ≠ 0) :
    foldN n (P ++ (x ^^^ b) :: (y ^^^ d) :: R) ≠ foldN n (P ++ x :: y :: R) := by
  intro h
  unfold foldN at h
  rw [List.foldl_append, List.foldl_append, List.foldl_cons, List.foldl_cons, List.foldl_cons, List.foldl_cons] at h
  have hs : foldN n P < 4294967296 := fold_lt _ _ hn hP
  have hxb := (xor_u8 x b hx hb).2
  have hyd := (xor_u8 y d hy hd).2
  have h1 := tk_lt (foldN n P) x hs hx
  have h2 := tk_lt (foldN n P) (x ^^^ b) hs hxb
  have e := fold_inj R (tkN (tkN (foldN n P) (x ^^^ b)) (y ^^^ d)) (tkN (tkN (foldN n P) x) y) (tk_lt _ _ h2 hyd) (tk_lt _ _ h1 hy) hR h
  rw [tk_it _ _ hyd, tk_it _ _ hy] at e
  have e2 := it_inj _ _ (nc_lt _ _ h2 hyd) (nc_lt _ _ h1 hy) e
  rw [tk_diff _ x b hx hb] at e2
  have e3 : tkN (foldN n P) x ^^^ (tN b ^^^ (y ^^^ d)) = tkN (foldN n P) x ^^^ y := by rw [← Nat.xor_assoc]; exact e2
  have e4 := xor_cancel_left e3
  have e5 : (tN b ^^^ d) ^^^ y = 0 ^^^ y := by rw [Nat.zero_xor, Nat.xor_assoc, Nat.xor_comm d y]; exact e4
  have e6 := xor_zero (xor_cancel e5)
  have := tN_big ⟨b, hb⟩ h0
  simp only at this
  omega
theorem bys_set (l : List Int) (i : Nat) (v : Int) (h : i < l.length) : bysL (l.set i v) = (bysL l).take i ++ v.toNat :: (bysL l).drop (i + 1) := by
  unfold bysL
  rw [List.map_set, List.set_eq_take_append_cons_drop, if_pos (by simpa using h)]
theorem bys_split (l : List Int) (i : Nat) (h : i < l.length) : bysL l = (bysL l).take i ++ (l[i]).toNat :: (bysL l).drop (i + 1) := by
  have hl : i < (bysL l).length := by rw [bysL, List.length_map]; exact h
  have : (bysL l)[i] = (l[i]).toNat := by
    have h2 : (l.map Int.toNat)[i]'hl = (l[i]).toNat := List.getElem_map _
    exact h2
  rw [← this, List.getElem_cons_drop, List.take_append_drop]
theorem xor_int (x y : Int) (hx : 0 ≤ x ∧ x < 256) (hy : 0 ≤ y ∧ y < 256) : Go.bits .xor .u8 x y = ((x.toNat ^^^ y.toNat : Nat) : Int) ∧ x.toNat ^^^ y.toNat < 256 := by
  obtain ⟨a, rfl⟩ := Int.eq_ofNat_of_zero_le hx.1
  obtain ⟨b, rfl⟩ := Int.eq_ofNat_of_zero_le hy.1
  exact xor_u8 a b (by omega) (by omega)
theorem mr_ne (l m : List Int) (hl : ∀ v ∈ l, 0 ≤ v ∧ v < 256) (hm : ∀ v ∈ m, 0 ≤ v ∧ v < 256) (h : foldN 4294967295 (bysL l) ≠ foldN 4294967295 (bysL m)) : mrN 0 l ≠ mrN 0 m := by
  have h1 : foldN 4294967295 (bysL l) < 4294967296 := fold_lt _ _ (by omega) (bys_lt hl)
  have h2 : foldN 4294967295 (bysL m) < 4294967296 := fold_lt _ _ (by omega) (bys_lt hm)
  unfold mrN
  rw [Nat.sub_zero]
  omega
theorem set_in (l : List Int) (i : Nat) (v : Int) (hl : ∀ v ∈ l, 0 ≤ v ∧ v < 256) (hv : 0 ≤ v ∧ v < 256) : ∀ u ∈ l.set i v, 0 ≤ u ∧ u < 256 := fun u hu => by
  rcases List.mem_or_eq_of_mem_set hu with h | h
  · exact hl u h
  · rw [h]; exact hv
theorem crc_other (l0 : List Int) (a1 b0 b1 : Int) (hm : l0.length ≤ maxLen) (y0 : l0.length * 1 ≤ 140737488351232) (hw : ∀ x ∈ l0, (Lit.int .u8 x).wf = true)
    (w1 : (Lit.int .u16 a1).wf = true) (wb0 : (Lit.int .u8 b0).wf = true) (wb1 : (Lit.int .u8 b1).wf = true) : ∃ k, gambrellaw13_CrcOther.f k l0 a1 b0 b1 = some true := by
  refine ⟨1, ?_⟩
  have hl : ∀ v ∈ l0, 0 ≤ v ∧ v < 256 := fun v hv => u8_in (hw v hv)
  have h0 := u8_in wb0
  have h1 := u8_in wb1
  have ha : 0 ≤ a1 ∧ a1 < 65536 := by
    have h' : 0 ≤ a1 ∧ a1 ≤ 65535 := by simpa [Lit.wf, IntKind.min, IntKind.max, IntKind.signed, IntKind.bits] using w1
    omega
  unfold gambrellaw13_CrcOther.f gambrellaw13_awake.f
  rw [Option.bind_some]
  by_cases c0 : (l0.length : Int) = 0
  · rw [if_pos c0, gambrellaw13_CrcOther.j0, if_pos rfl]
  · rw [if_neg c0]
    by_cases c1 : (l0.length : Int) > 500
    · rw [if_pos c1, gambrellaw13_CrcOther.j0, if_pos rfl]
    · rw [if_neg c1]
      by_cases cb : b0 = 0
      · subst cb
        rw [gambrellaw13_CrcOther.j0, if_pos (by rfl)]
      · obtain ⟨a, rfl⟩ := Int.eq_ofNat_of_zero_le ha.1
        have hwa : wrap64 (a : Int) = (a : Int) := by unfold wrap64; omega
        obtain ⟨i, hi⟩ : ∃ i, i = a % l0.length := ⟨_, rfl⟩
        have hil : i < l0.length := by rw [hi]; exact Nat.mod_lt _ (by omega)
        have ht : Int.tmod (wrap64 (a : Int)) (l0.length : Int) = (i : Int) := by rw [hwa, hi]; rfl
        have hw1 : wrap64 ((i : Int) + 1) = ((i + 1 : Nat) : Int) := by unfold wrap64; omega
        have hx := hl _ (List.getElem_mem hil)
        obtain ⟨hxe, hxl⟩ := xor_int l0[i] b0 hx h0
        have hbn : b0.toNat ≠ 0 := by omega
        have hP : ∀ c ∈ (bysL l0).take i, c < 256 := fun c hc => bys_lt hl c (List.mem_of_mem_take hc)
        have hsum := sum_f l0 hl
        rw [gambrellaw13_CrcOther.j0, if_neg (by simp [cb]), if_neg c0, Option.bind_some, if_pos (by simp; omega), Option.bind_some, ht, List.nil_append, if_pos (by omega), if_pos (by omega), Option.bind_some, hw1, Int.toNat_natCast, rd_nat l0 i hil, hxe]
        have hset := set_in l0 i ((l0[i].toNat ^^^ b0.toNat : Nat) : Int) hl (by omega)
        by_cases c2 : ((i + 1 : Nat) : Int) < (l0.length : Int)
        · have hil2 : i + 1 < l0.length := by omega
          rw [if_pos c2, if_pos (by omega), if_pos rfl, Int.toNat_natCast, rd_nat _ (i + 1) (by rw [List.length_set]; exact hil2), List.getElem_set_ne (by omega)]
          obtain ⟨hye, hyl⟩ := xor_int l0[i + 1] b1 (hl _ (List.getElem_mem hil2)) h1
          rw [hye]
          have hset2 := set_in (l0.set i ((l0[i].toNat ^^^ b0.toNat : Nat) : Int)) (i + 1) ((l0[i + 1].toNat ^^^ b1.toNat : Nat) : Int) hset (by omega)
          rw [sum_f _ hset2, Option.bind_some, hsum, Option.bind_some]
          have hne := mr_ne _ _ hset2 hl (by
            rw [bys_set _ (i + 1) _ (by rw [List.length_set]; exact hil2), bys_set l0 i _ hil, bys_split l0 i hil]
            have hlen : ((bysL l0).take i).length = i := by simp [bysL]; omega
            have hdr : (bysL l0).drop (i + 1) = (l0[i + 1]).toNat :: (bysL l0).drop (i + 2) := by
              have hb2 : i + 1 < (bysL l0).length := by rw [bysL, List.length_map]; exact hil2
              rw [List.drop_eq_getElem_cons hb2]
              congr 1
              have h2 : (l0.map Int.toNat)[i + 1]'hb2 = (l0[i + 1]).toNat := List.getElem_map _
              exact h2
            have e1 : List.take i ((bysL l0).take i ++ l0[i].toNat :: (bysL l0).drop (i + 1)) = (bysL l0).take i := by rw [← bys_split l0 i hil]
            have e2 : List.drop (i + 1) ((bysL l0).take i ++ l0[i].toNat :: (bysL l0).drop (i + 1)) = (bysL l0).drop (i + 1) := by rw [← bys_split l0 i hil]
            rw [e1, e2, hdr]
            have e3 : List.take (i + 1) (List.take i (bysL l0) ++ (((l0[i].toNat ^^^ b0.toNat : Nat) : Int)).toNat :: l0[i + 1].toNat :: List.drop (i + 2) (bysL l0)) = List.take i (bysL l0) ++ [l0[i].toNat ^^^ b0.toNat] := by
              rw [List.take_append, hlen, List.take_of_length_le (by omega), show i + 1 - i = 1 from by omega, Int.toNat_natCast]
              rfl
            have e4 : List.drop (i + 1 + 1) (List.take i (bysL l0) ++ (((l0[i].toNat ^^^ b0.toNat : Nat) : Int)).toNat :: l0[i + 1].toNat :: List.drop (i + 2) (bysL l0)) = List.drop (i + 2) (bysL l0) := by
              rw [List.drop_append, hlen, List.drop_of_length_le (by omega), show i + 1 + 1 - i = 2 from by omega]
              rfl
            rw [e3, e4, Int.toNat_natCast, List.append_assoc, List.singleton_append]
            exact two_other _ _ _ _ _ _ _ (by omega) hP (by omega) (by have := hl _ (List.getElem_mem hil2); omega) (fun c hc => bys_lt hl c (List.mem_of_mem_drop hc)) (by omega) (by omega) hbn)
          simp; omega
        · rw [if_neg c2, if_pos rfl, sum_f _ hset, Option.bind_some, hsum, Option.bind_some]
          have hne := mr_ne _ _ hset hl (by
            rw [bys_set _ i _ hil]
            conv => rhs; rw [bys_split l0 i hil]
            rw [Int.toNat_natCast]
            exact one_other _ _ _ _ _ (by omega) hP (by omega) (fun c hc => bys_lt hl c (List.mem_of_mem_drop hc)) (by omega) hbn)
          simp; omega
end Go.Proofs.YtibnbapbgbcpoaaDoor.P
