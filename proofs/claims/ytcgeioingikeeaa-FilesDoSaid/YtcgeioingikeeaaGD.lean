/- The plain law files_do and what it needs, for every row of files whose data are bytes. -/
import Derived.Test.YtcgeioingikeeaaH2
import Derived.Test.YtcgeioingikeeaaPf16
import Derived.Test.YtcgeioingikeeaaPf3
namespace Go.Proofs.Ytcgeioingikeeaa.P
open Go.RowKit Go.Proofs.YtcgeioingikeeaaW.PrintWords Go.Proofs.YtcgeioingikeeaaW.PrintLast Go.Proofs.YtcgeioingikeeaaW.PrintMore
set_option linter.unusedVariables false
set_option linter.unusedSimpArgs false

def small (x : S38) : Prop := x.f0.size ≤ 60 ∧ x.f1.length ≤ 1000
theorem wrap_nat (i : Nat) (h : i < 4611686018427387904) : wrap64 ((i : Int) + 1) = ((i + 1 : Nat) : Int) := by unfold wrap64; omega
theorem few_l (l : List S38) : ∀ m i : Nat, i + m = 31 → i ≤ l.length → (∀ j : Nat, j < i → small (rd_T38 l j)) → ∃ k b, gambrelref17_Few.l0 k l i = some b ∧ (b = true → l.length ≤ 30 ∧ ∀ j : Nat, j < l.length → small (rd_T38 l j))
  | 0, i, hi, hl, hs => by
    refine ⟨2, decide ((l.length : Int) ≤ 30), ?_, fun h => ?_⟩
    · obtain rfl : i = 31 := by omega
      simp [gambrelref17_Few.l0, gambrelref17_Few.j1]
    · have := of_decide_eq_true h
      omega
  | m + 1, i, hi, hl, hs => by
    by_cases h : i < l.length
    · by_cases h1 : (((rd_T38 l (i : Int)).f0).size : Int) > 60
      · refine ⟨2, false, ?_, fun h => by cases h⟩
        unfold gambrelref17_Few.l0
        rw [if_pos (by omega), show decide ((i : Int) < 31) = true from decide_eq_true (by omega)]
        unfold gambrelref17_Few.j1
        rw [if_pos rfl, if_pos (by omega), if_pos (by omega), if_pos h1]
      by_cases h2 : (((rd_T38 l (i : Int)).f1).length : Int) > 1000
      · refine ⟨2, false, ?_, fun h => by cases h⟩
        unfold gambrelref17_Few.l0
        rw [if_pos (by omega), show decide ((i : Int) < 31) = true from decide_eq_true (by omega)]
        unfold gambrelref17_Few.j1
        rw [if_pos rfl, if_pos (by omega), if_pos (by omega), if_neg h1, if_pos h2]
      obtain ⟨k, b, h3, h4⟩ := few_l l m (i + 1) (by omega) (by omega) (fun j hj => by
        by_cases e : j = i
        · subst e; exact ⟨by omega, by omega⟩
        · exact hs j (by omega))
      refine ⟨k + 2, b, ?_, h4⟩
      unfold gambrelref17_Few.l0
      rw [if_pos (by omega), show decide ((i : Int) < 31) = true from decide_eq_true (by omega)]
      unfold gambrelref17_Few.j1
      rw [if_pos rfl, if_pos (by omega), if_pos (by omega), if_neg h1, if_neg h2, wrap_nat i (by omega)]
      exact h3
    · refine ⟨2, decide ((l.length : Int) ≤ 30), ?_, fun h => ⟨by have := of_decide_eq_true h; omega, fun j hj => hs j (by omega)⟩⟩
      unfold gambrelref17_Few.l0
      rw [if_neg (by omega)]
      simp [gambrelref17_Few.j1]
theorem rd_mem {l : List S38} {x : S38} (h : x ∈ l) : ∃ j : Nat, j < l.length ∧ rd_T38 l j = x := by
  obtain ⟨j, hj, e⟩ := List.mem_iff_getElem.1 h
  exact ⟨j, hj, by simp [rd_T38, hj, e, List.getD]⟩
theorem rd_at (l : List S38) (j : Nat) (h : j < l.length) : rd_T38 l (j : Int) = l[j] := by simp [rd_T38, h, List.getD]
theorem few_ends (l : List S38) : ∃ k b, gambrelref17_Few.f k l = some b ∧ (b = true → l.length ≤ 30 ∧ ∀ x ∈ l, small x) := by
  obtain ⟨k, b, h, h1⟩ := few_l l 31 0 rfl (Nat.zero_le _) (fun j hj => by omega)
  refine ⟨k, b, h, fun hb => ⟨(h1 hb).1, fun x hx => ?_⟩⟩
  obtain ⟨j, hj, rfl⟩ := rd_mem hx
  exact (h1 hb).2 j hj
theorem insertAt_mem (x : S38) : ∀ (l : List S38) (y : S38), y ∈ insertAt x l ↔ y = x ∨ y ∈ l
  | [], y => by simp [insertAt]
  | z :: l, y => by
    unfold insertAt
    split
    · simp
    · simp [insertAt_mem x l y]; grind
theorem insertAt_len (x : S38) : ∀ (l : List S38), (insertAt x l).length = l.length + 1
  | [] => by simp [insertAt]
  | z :: l => by
    unfold insertAt
    split
    · simp
    · simp [insertAt_len x l]
theorem sameL_refl : ∀ l : List S38, sameL l l = true
  | [] => rfl
  | x :: l => by simp [sameL, sameB, sameL_refl l]
def getL (l : List S38) (n : ByteArray) : List Int × Bool := match l.find? (named n) with | some x => (x.f1, true) | none => ([], false)
theorem getL_some {l : List S38} {n : ByteArray} {x : S38} (h : l.find? (named n) = some x) : getL l n = (x.f1, true) := by unfold getL; rw [h]
theorem put_len (l : List S38) (n : ByteArray) (d : List Int) : (putL l n d).length ≤ l.length + 1 := by
  unfold putL; rw [insertAt_len]; have := List.length_filter_le (fun x => !named n x) l; omega
theorem drop_at (l : List S38) (i : Nat) (h : i < l.length) : l.drop i = rd_T38 l (i : Int) :: l.drop (i + 1) := by rw [rd_at l i h, List.drop_eq_getElem_cons h]
theorem refGet_l (l : List S38) (n : ByteArray) (hl : l.length ≤ 1000000) : ∀ m i : Nat, i + m = l.length → ∃ k, gambrelref17_Get.l0 k l n i = some (getL (l.drop i) n)
  | 0, i, hi => ⟨1, by rw [gambrelref17_Get.l0, if_neg (by omega), List.drop_eq_nil_of_le (by omega)]; rfl⟩
  | m + 1, i, hi => by
    rw [drop_at l i (by omega)]
    by_cases h : ((rd_T38 l (i : Int)).f0).toList = n.toList
    · refine ⟨1, ?_⟩
      rw [gambrelref17_Get.l0, if_pos (by omega), if_pos (by omega), if_pos h, getL_some (x := rd_T38 l (i : Int)) (by rw [List.find?_cons, show named n (rd_T38 l (i : Int)) = true from beq_iff_eq.mpr h])]
    · obtain ⟨k, hk⟩ := refGet_l l n hl m (i + 1) (by omega)
      refine ⟨k + 1, ?_⟩
      rw [gambrelref17_Get.l0, if_pos (by omega), if_pos (by omega), if_neg h, wrap_nat i (by omega), hk]
      unfold getL
      rw [List.find?_cons, show named n (rd_T38 l (i : Int)) = false from beq_eq_false_iff_ne.mpr h]
theorem refGet (l : List S38) (n : ByteArray) (hl : l.length ≤ 1000000) : ∃ k, gambrelref17_Get.f k l n = some (getL l n) := by
  obtain ⟨k, hk⟩ := refGet_l l n hl l.length 0 (by omega)
  exact ⟨k, by rw [List.drop_zero] at hk; exact hk⟩
def bytesIn (l : List S38) : Prop := ∀ y ∈ l, ∀ n ∈ y.f1, 0 ≤ n ∧ n < 256
theorem ofNum_inj {a b : Int} (ha : 0 ≤ a ∧ a < 256) (hb : 0 ≤ b ∧ b < 256) (h : UInt8.ofNat a.toNat = UInt8.ofNat b.toNat) : a = b := by
  have := congrArg UInt8.toNat h
  simp only [UInt8.toNat_ofNat'] at this
  omega
theorem nums_inj : ∀ (x y : List Int), (∀ n ∈ x, 0 ≤ n ∧ n < 256) → (∀ n ∈ y, 0 ≤ n ∧ n < 256) → x.map (fun n => UInt8.ofNat n.toNat) = y.map (fun n => UInt8.ofNat n.toNat) → x = y
  | [], [], _, _, _ => rfl
  | [], b :: y, _, _, h => by simp at h
  | a :: x, [], _, _, h => by simp at h
  | a :: x, b :: y, hx, hy, h => by
    simp only [List.map_cons, List.cons.injEq] at h
    rw [ofNum_inj (hx a (by simp)) (hy b (by simp)) h.1, nums_inj x y (fun n hn => hx n (by simp [hn])) (fun n hn => hy n (by simp [hn])) h.2]
theorem strOf_list (x : List Int) : (strOfNums x).toList = x.map fun n => UInt8.ofNat n.toNat := by simp [strOfNums, Lib.toList_data]
theorem strOf_eq {x y : List Int} (hx : ∀ n ∈ x, 0 ≤ n ∧ n < 256) (hy : ∀ n ∈ y, 0 ≤ n ∧ n < 256) : (strOfNums x).toList = (strOfNums y).toList ↔ x = y := by
  rw [strOf_list, strOf_list]
  exact ⟨nums_inj x y hx hy, fun h => by rw [h]⟩
theorem rd_bytes {l : List S38} (h : bytesIn l) (i : Nat) (hi : i < l.length) : ∀ n ∈ (rd_T38 l (i : Int)).f1, 0 ≤ n ∧ n < 256 := by
  rw [rd_at l i hi]
  exact h _ (List.getElem_mem hi)
theorem sameR (l q : List S38) (hb : bytesIn l) (hc : bytesIn q) (he : l.length = q.length) (hl : l.length ≤ 1000000) : ∀ m i : Nat, i + m = l.length → ∃ k, gambrelref17_Same.l0 k l q i = some (sameL (l.drop i) (q.drop i))
  | 0, i, hi => ⟨1, by rw [gambrelref17_Same.l0, if_neg (by omega), List.drop_eq_nil_of_le (by omega), List.drop_eq_nil_of_le (by omega)]; rfl⟩
  | m + 1, i, hi => by
    rw [drop_at l i (by omega), drop_at q i (by omega), sameL, sameB]
    by_cases h1 : ((rd_T38 l (i : Int)).f0).toList = ((rd_T38 q (i : Int)).f0).toList
    · by_cases h2 : (rd_T38 l (i : Int)).f1 = (rd_T38 q (i : Int)).f1
      · obtain ⟨k, hk⟩ := sameR l q hb hc he hl m (i + 1) (by omega)
        refine ⟨k + 1, ?_⟩
        rw [gambrelref17_Same.l0, if_pos (by omega), if_pos (by omega), if_pos (by omega), if_pos h1, if_pos ((strOf_eq (rd_bytes hb i (by omega)) (rd_bytes hc i (by omega))).2 h2), wrap_nat i (by omega), hk, beq_iff_eq.mpr h1, beq_iff_eq.mpr h2]
        rfl
      · refine ⟨1, ?_⟩
        rw [gambrelref17_Same.l0, if_pos (by omega), if_pos (by omega), if_pos (by omega), if_pos h1, if_neg (fun h => h2 ((strOf_eq (rd_bytes hb i (by omega)) (rd_bytes hc i (by omega))).1 h)), beq_eq_false_iff_ne.mpr h2]
        simp
    · refine ⟨1, ?_⟩
      rw [gambrelref17_Same.l0, if_pos (by omega), if_pos (by omega), if_pos (by omega), if_neg h1, beq_eq_false_iff_ne.mpr h1]
      simp
theorem sameL_len : ∀ x y : List S38, sameL x y = true → x.length = y.length
  | [], [], _ => rfl
  | [], _ :: _, h => by simp [sameL] at h
  | _ :: _, [], h => by simp [sameL] at h
  | _ :: x, _ :: y, h => by
    simp only [sameL, Bool.and_eq_true] at h
    simp [sameL_len x y h.2]
theorem refSame (l q : List S38) (hb : bytesIn l) (hc : bytesIn q) (hl : l.length ≤ 1000000) : ∃ k, gambrelref17_Same.f k l q = some (sameL l q) := by
  by_cases he : l.length = q.length
  · obtain ⟨k, hk⟩ := sameR l q hb hc he hl l.length 0 (by omega)
    exact ⟨k, by unfold gambrelref17_Same.f; rw [if_pos (by omega)]; simpa using hk⟩
  · refine ⟨0, ?_⟩
    unfold gambrelref17_Same.f
    rw [if_neg (by omega)]
    cases e : sameL l q with
    | false => rfl
    | true => exact absurd (sameL_len l q e) he
theorem refDrop_l (l : List S38) (n : ByteArray) (hl : l.length ≤ 1000000) : ∀ m i : Nat, ∀ acc : List S38, i + m = l.length → acc.length ≤ i → ∃ k, gambrelref17_Drop.l0 k l n acc i = some (acc ++ (l.drop i).filter fun x => !named n x)
  | 0, i, acc, hi, ha => ⟨1, by rw [gambrelref17_Drop.l0, if_neg (by omega), List.drop_eq_nil_of_le (by omega)]; simp⟩
  | m + 1, i, acc, hi, ha => by
    rw [drop_at l i (by omega), List.filter_cons]
    by_cases h : ((rd_T38 l (i : Int)).f0).toList = n.toList
    · obtain ⟨k, hk⟩ := refDrop_l l n hl m (i + 1) acc (by omega) (by omega)
      refine ⟨k + 1, ?_⟩
      rw [gambrelref17_Drop.l0, if_pos (by omega), if_pos (by omega), if_pos h, wrap_nat i (by omega), hk, show named n (rd_T38 l (i : Int)) = true from beq_iff_eq.mpr h]
      simp
    · obtain ⟨k, hk⟩ := refDrop_l l n hl m (i + 1) (acc ++ [rd_T38 l i]) (by omega) (by simp; omega)
      refine ⟨k + 1, ?_⟩
      rw [gambrelref17_Drop.l0, if_pos (by omega), if_pos (by omega), if_neg h, if_pos (by omega), wrap_nat i (by omega), show named n (rd_T38 l (i : Int)) = false from beq_eq_false_iff_ne.mpr h]
      refine hk.trans ?_
      simp
theorem refDrop (l : List S38) (n : ByteArray) (hl : l.length ≤ 1000000) : ∃ k, gambrelref17_Drop.f k l n = some (l.filter fun x => !named n x) := by
  obtain ⟨k, hk⟩ := refDrop_l l n hl l.length 0 [] (by omega) (by simp)
  exact ⟨k, by rw [List.drop_zero, List.nil_append] at hk; exact hk⟩
theorem refPut_done (t : List S38) (n : ByteArray) (d : List Int) (hl : t.length ≤ 1000000) : ∀ m i : Nat, ∀ acc : List S38, i + m = t.length → acc.length ≤ i + 1 → ∃ k, gambrelref17_Put.l0 k n d t acc true i = some (acc ++ t.drop i)
  | 0, i, acc, hi, ha => ⟨1, by rw [gambrelref17_Put.l0, if_neg (by omega), if_pos rfl, List.drop_eq_nil_of_le (by omega)]; simp⟩
  | m + 1, i, acc, hi, ha => by
    obtain ⟨k, hk⟩ := refPut_done t n d hl m (i + 1) (acc ++ [rd_T38 t i]) (by omega) (by simp; omega)
    refine ⟨k + 1, ?_⟩
    rw [gambrelref17_Put.l0, if_pos (by omega), if_pos rfl, if_pos (by omega), if_pos (by omega), wrap_nat i (by omega), drop_at t i (by omega)]
    refine hk.trans ?_
    simp
theorem refPut_l (t : List S38) (n : ByteArray) (d : List Int) (hl : t.length ≤ 1000000) : ∀ m i : Nat, ∀ acc : List S38, i + m = t.length → acc.length ≤ i → ∃ k, gambrelref17_Put.l0 k n d t acc false i = some (acc ++ insertAt ⟨n, d⟩ (t.drop i))
  | 0, i, acc, hi, ha => ⟨1, by rw [gambrelref17_Put.l0, if_neg (by omega), if_neg (by decide), if_pos (by omega), List.drop_eq_nil_of_le (by omega)]; simp [insertAt]⟩
  | m + 1, i, acc, hi, ha => by
    rw [drop_at t i (by omega), insertAt]
    by_cases h : Op.bytesLess n.toList ((rd_T38 t (i : Int)).f0.toList) = true
    · obtain ⟨k, hk⟩ := refPut_done t n d hl m (i + 1) (acc ++ [⟨n, d⟩] ++ [rd_T38 t i]) (by omega) (by simp; omega)
      refine ⟨k + 1, ?_⟩
      rw [gambrelref17_Put.l0, if_pos (by omega), if_neg (by decide), if_pos (by omega), if_pos h, if_pos (by omega), Option.bind_some, if_pos (by simp; omega), wrap_nat i (by omega), if_pos h]
      refine hk.trans ?_
      simp
    · obtain ⟨k, hk⟩ := refPut_l t n d hl m (i + 1) (acc ++ [rd_T38 t i]) (by omega) (by simp; omega)
      refine ⟨k + 1, ?_⟩
      rw [gambrelref17_Put.l0, if_pos (by omega), if_neg (by decide), if_pos (by omega), if_neg h, if_pos (by omega), wrap_nat i (by omega), if_neg h]
      refine hk.trans ?_
      simp
theorem refPut (l : List S38) (n : ByteArray) (d : List Int) (hl : l.length ≤ 1000000) : ∃ k, gambrelref17_Put.f k l n d = some (putL l n d) := by
  obtain ⟨k1, h1⟩ := refDrop l n hl
  have hf := List.length_filter_le (fun x => !named n x) l
  obtain ⟨k2, h2⟩ := refPut_l (l.filter fun x => !named n x) n d (by omega) _ 0 [] (by rw [Nat.zero_add]) (by simp)
  refine ⟨k1 + k2, ?_⟩
  unfold gambrelref17_Put.f
  rw [at_rounds (gambrelref17_Drop.mono l n) (show k1 ≤ k1 + k2 by omega) h1, Option.bind_some]
  have := at_rounds (fun k => gambrelref17_Put.mono_l k _ _ _ _ _ _) (show k2 ≤ k1 + k2 by omega) h2
  rw [List.drop_zero, List.nil_append] at this
  exact this
theorem bytesIn_put {l : List S38} (h : bytesIn l) (n : ByteArray) {d : List Int} (hd : ∀ n ∈ d, 0 ≤ n ∧ n < 256) : bytesIn (putL l n d) := by
  intro x hx
  unfold putL at hx
  rcases (insertAt_mem _ _ _).1 hx with rfl | hx
  · exact hd
  · exact h x (List.mem_filter.1 hx).1
def lay (y : List Int) (F : Nat) (kept : List Int) (i : Nat) : List Int := y.take F ++ kept.take i ++ y.drop (F + i)
theorem lay_len {y kept : List Int} {F i : Nat} (hF : F ≤ y.length) (hi : i ≤ kept.length) : (lay y F kept i).length = F + i + (y.length - (F + i)) := by
  unfold lay
  simp only [List.length_append, List.length_take, List.length_drop]
  omega
theorem lay_set {y kept : List Int} {F i : Nat} (hF : F ≤ y.length) (hi : i < kept.length) (h : F + i < y.length) : (lay y F kept i).set (F + i) (rd kept (i : Int)) = lay y F kept (i + 1) := by
  unfold lay
  have hl : (y.take F ++ kept.take i).length = F + i := by simp only [List.length_append, List.length_take]; omega
  have hr : rd kept (i : Int) = kept[i] := by simp [rd, hi]
  rw [List.set_append_right _ _ (by omega), hl, Nat.sub_self, List.drop_eq_getElem_cons h, List.set_cons_zero, hr, List.take_succ_eq_append_getElem hi]
  simp only [List.append_assoc, List.singleton_append, Nat.add_assoc]
theorem lay_add {y kept : List Int} {F i : Nat} (hF : F ≤ y.length) (hi : i < kept.length) (h : ¬ F + i < y.length) : lay y F kept i ++ [rd kept (i : Int)] = lay y F kept (i + 1) := by
  unfold lay
  have hr : rd kept (i : Int) = kept[i] := by simp [rd, hi]
  rw [List.drop_eq_nil_of_le (show y.length ≤ F + i by omega), List.drop_eq_nil_of_le (show y.length ≤ F + (i + 1) by omega), hr, List.take_succ_eq_append_getElem hi]
  simp
theorem wrap_small (n : Nat) (h : n < 4611686018427387904) : wrap64 (n : Int) = (n : Int) := by unfold wrap64; omega
theorem refDo_l1 (l : List S38) (kept y : List Int) (F : Nat) (n : ByteArray) (kind off : Int) (wd : List Int) (hl : l.length ≤ 1000000) (hF : F ≤ y.length) (hy : y.length ≤ 200000) (hk : kept.length ≤ 200000) :
    ∀ m i : Nat, i + m = kept.length → ∃ k, gambrelref17_Do.l1 k l kept (F : Int) (lay y F kept i) i n kind off wd = some (putL l n (lay y F kept kept.length), 0)
  | 0, i, hi => by
    obtain ⟨k, hp⟩ := refPut l n (lay y F kept kept.length) hl
    refine ⟨k + 1, ?_⟩
    rw [gambrelref17_Do.l1, if_neg (by omega), show i = kept.length by omega, hp, Option.bind_some]
  | m + 1, i, hi => by
    obtain ⟨k, hk'⟩ := refDo_l1 l kept y F n kind off wd hl hF hy hk m (i + 1) (by omega)
    have hlen := lay_len (y := y) (kept := kept) (F := F) (i := i) hF (by omega)
    refine ⟨k + 1, ?_⟩
    rw [gambrelref17_Do.l1, if_pos (by omega), show (F : Int) + (i : Int) = ((F + i : Nat) : Int) by omega, wrap_small (F + i) (by omega)]
    by_cases h : F + i < y.length
    · rw [if_pos (by omega), if_pos (by omega), if_pos (by omega), Int.toNat_natCast, lay_set hF (by omega) h, wrap_nat i (by omega), hk']
    · rw [if_neg (by omega), if_pos (by omega), if_pos (by omega), lay_add hF (by omega) h, wrap_nat i (by omega), hk']
theorem refDo_l0 (l : List S38) (kept : List Int) (F : Nat) (n : ByteArray) (kind off : Int) (wd : List Int) (hl : l.length ≤ 1000000) (hF : F ≤ 100000) (hk : kept.length ≤ 200000) :
    ∀ m : Nat, ∀ x : List Int, x.length ≤ 200000 → F - x.length = m → ∃ k, gambrelref17_Do.l0 k l kept (F : Int) x n kind off wd = some (putL l n (lay (x ++ List.replicate m 0) F kept kept.length), 0)
  | 0, x, hx, hm => by
    obtain ⟨k, h1⟩ := refDo_l1 l kept x F n kind off wd hl (by omega) hx hk kept.length 0 (by omega)
    refine ⟨k + 1, ?_⟩
    have e : lay x F kept 0 = x := by simp [lay]
    rw [e] at h1
    rw [gambrelref17_Do.l0, if_neg (by omega)]
    simpa using h1
  | m + 1, x, hx, hm => by
    obtain ⟨k, h1⟩ := refDo_l0 l kept F n kind off wd hl hF hk m (x ++ [0]) (by simp; omega) (by simp; omega)
    refine ⟨k + 1, ?_⟩
    rw [gambrelref17_Do.l0, if_pos (by omega), if_pos (by omega), h1, List.append_assoc]
    rfl
theorem lay_overlay (old kept : List Int) (F : Nat) : lay (old ++ List.replicate (F - old.length) 0) F kept kept.length = overlay old F kept := by
  unfold lay overlay
  rw [List.take_length]
  congr 1
  by_cases h : F ≤ old.length
  · rw [Nat.sub_eq_zero_of_le h]; simp
  · rw [List.drop_eq_nil_of_le (by simp; omega), List.drop_eq_nil_of_le (by omega)]
theorem kept_of (d : List Int) (keep : Int) : keptOf d keep = if 0 ≤ keep ∧ keep < (d.length : Int) then d.take keep.toNat else d := by
  unfold keptOf
  by_cases h : keep ≥ 0
  · rw [if_pos h]
    by_cases h2 : keep < (d.length : Int)
    · rw [if_pos ⟨h, h2⟩]
    · rw [if_neg (fun c => h2 c.2), List.take_of_length_le (by omega)]
  · rw [if_neg h, if_neg (fun c => h c.1)]
theorem refDo_j4 (l : List S38) (n : ByteArray) (kind off : Int) (wd kept old : List Int) (frm : Int) (hl : l.length ≤ 1000000) (h0 : 0 ≤ frm) (hk : kept.length ≤ 2000) (ho : old.length ≤ 1000) (hkd : kind = 1 ∨ kind = 2 ∨ kind = 3) :
    ∃ k, gambrelref17_Do.j4 k l kept old frm n kind off wd = some (doRes kind.toNat l n frm old wd kept) := by
  by_cases h1 : frm > 65536
  · refine ⟨2, ?_⟩
    rw [gambrelref17_Do.j4, if_pos h1, gambrelref17_Do.j5, if_pos rfl]
    unfold doRes
    rw [if_pos (.inl h1)]
  obtain ⟨F, rfl⟩ : ∃ F : Nat, frm = (F : Int) := ⟨frm.toNat, by omega⟩
  have hw : wrap64 ((F : Int) + (kept.length : Int)) = ((F + kept.length : Nat) : Int) := by rw [show (F : Int) + (kept.length : Int) = ((F + kept.length : Nat) : Int) by omega]; exact wrap_small _ (by omega)
  by_cases h2 : (F : Int) + (kept.length : Int) > 65536
  · refine ⟨2, ?_⟩
    rw [gambrelref17_Do.j4, if_neg h1, hw, if_pos (by omega), gambrelref17_Do.j5, if_pos rfl]
    unfold doRes
    rw [if_pos (.inr (.inl h2))]
  have hres : doRes kind.toNat l n (F : Int) old wd kept = if kept.length = 0 ∧ wd.length > 0 then (l, 0) else (putL l n (overlay (if kind.toNat = 1 then [] else old) F kept), 0) := by
    unfold doRes
    rw [if_neg (by omega), Int.toNat_natCast]
  rw [hres]
  have hj4 : ∀ k, gambrelref17_Do.j4 (k + 1) l kept old (F : Int) n kind off wd = gambrelref17_Do.j5 k l kept old (F : Int) false n kind off wd := by
    intro k
    rw [gambrelref17_Do.j4, if_neg h1, hw, if_neg (by omega)]
    split
    · rw [decide_eq_false (by omega)]
    · rfl
  have hj5 : ∀ k, gambrelref17_Do.j5 (k + 1) l kept old (F : Int) false n kind off wd = gambrelref17_Do.j6 k l kept old (F : Int) (decide (kept.length = 0 ∧ wd.length > 0)) n kind off wd := by
    intro k
    rw [gambrelref17_Do.j5, if_neg (by decide)]
    by_cases a : kept.length = 0
    · rw [if_pos (by omega)]
      congr 1
      exact decide_eq_decide.2 ⟨fun h => ⟨a, by omega⟩, fun h => by omega⟩
    · rw [if_neg (by omega), decide_eq_false (fun h => a h.1)]
  by_cases h3 : kept.length = 0 ∧ wd.length > 0
  · refine ⟨3, ?_⟩
    rw [hj4, hj5, decide_eq_true h3, gambrelref17_Do.j6, if_pos rfl, if_pos h3]
  · rw [if_neg h3]
    obtain ⟨k, hk0⟩ := refDo_l0 l kept F n kind off wd hl (by omega) (by omega) (F - (if kind.toNat = 1 then [] else old).length) (if kind.toNat = 1 then [] else old) (by split <;> first | omega | simp) rfl
    rw [lay_overlay] at hk0
    refine ⟨k + 4, ?_⟩
    rw [show k + 4 = k + 3 + 1 from rfl, hj4, show k + 3 = k + 2 + 1 from rfl, hj5, decide_eq_false h3, show k + 2 = k + 1 + 1 from rfl, gambrelref17_Do.j6, if_neg (by decide)]
    by_cases h4 : kind = 1
    · rw [if_pos h4, gambrelref17_Do.j7]
      rw [if_pos (by omega)] at hk0
      rw [if_pos (by omega)]
      exact hk0
    · rw [if_neg h4, if_pos (by simp; omega), gambrelref17_Do.j7, List.nil_append]
      rw [if_neg (by omega)] at hk0
      rw [if_neg (by omega)]
      exact hk0
theorem refDo_j0 (l : List S38) (n : ByteArray) (kind off : Int) (wd : List Int) (keep : Int) (hl : l.length ≤ 1000000) (hd : ∀ x ∈ l, x.f1.length ≤ 1000) (hwd : wd.length ≤ 1000) (hkd : kind = 1 ∨ kind = 2 ∨ kind = 3) (hoff : kind = 3 → 0 ≤ off) :
    ∃ k, gambrelref17_Do.j0 k l keep false n kind off wd = some (doRes kind.toNat l n (frmOf kind off (oldOf l n)) (oldOf l n) wd (keptOf wd keep)) := by
  have ho : (oldOf l n).length ≤ 1000 := by
    unfold oldOf
    split
    · rename_i x hx; exact hd x (List.mem_of_find?_eq_some hx)
    · simp
  have hg : (getL l n).1 = oldOf l n := by unfold getL oldOf; cases l.find? (named n) <;> rfl
  have hkl : (keptOf wd keep).length ≤ 1000 := by rw [kept_of]; split <;> (try simp) <;> omega
  have h0 : 0 ≤ frmOf kind off (oldOf l n) := by
    unfold frmOf
    rcases hkd with rfl | rfl | rfl
    · simp
    · simp
    · simpa using hoff rfl
  obtain ⟨k1, h1⟩ := refDo_j4 l n kind off wd (keptOf wd keep) (oldOf l n) (frmOf kind off (oldOf l n)) hl h0 (by omega) ho hkd
  obtain ⟨k2, h2⟩ := refGet l n hl
  obtain ⟨K, hK⟩ : ∃ K, K = k1 + k2 := ⟨_, rfl⟩
  have e1 : gambrelref17_Do.j4 K l (keptOf wd keep) (oldOf l n) (frmOf kind off (oldOf l n)) n kind off wd = _ := at_rounds (fun k => (gambrelref17_Do.mono_l k).2.2.2.2.1 _ _ _ _ _ _ _ _) (show k1 ≤ K by omega) h1
  have e2 := at_rounds (gambrelref17_Get.mono l n) (show k2 ≤ K + 1 by omega) h2
  have hj2 : gambrelref17_Do.j2 (K + 2) l (keptOf wd keep) n kind off wd = some (doRes kind.toNat l n (frmOf kind off (oldOf l n)) (oldOf l n) wd (keptOf wd keep)) := by
    rw [gambrelref17_Do.j2, e2, Option.bind_some, hg]
    rcases hkd with rfl | rfl | rfl
    · rw [if_neg (by decide), gambrelref17_Do.j3, if_neg (by decide)]
      exact e1
    · rw [if_pos rfl, gambrelref17_Do.j3, if_neg (by decide)]
      exact e1
    · rw [if_neg (by decide), gambrelref17_Do.j3, if_pos rfl]
      exact e1
  have hj1 : ∀ b, (b = true ↔ 0 ≤ keep ∧ keep < (wd.length : Int)) → gambrelref17_Do.j1 (K + 3) l keep wd b n kind off wd = some (doRes kind.toNat l n (frmOf kind off (oldOf l n)) (oldOf l n) wd (keptOf wd keep)) := by
    intro b hb
    rw [gambrelref17_Do.j1]
    have hk' := kept_of wd keep
    cases b with
    | true =>
      have hb' := hb.1 rfl
      rw [if_pos hb'] at hk'
      rw [if_pos rfl, if_pos hb'.1, if_pos (by omega), ← hk', hj2]
    | false =>
      rw [if_neg (fun c => by cases hb.2 c)] at hk'
      rw [if_neg (by decide)]
      rw [hk'] at hj2 ⊢
      exact hj2
  refine ⟨K + 4, ?_⟩
  rw [gambrelref17_Do.j0, if_neg (by decide)]
  by_cases a : keep ≥ 0
  · rw [if_pos a]
    exact hj1 _ ⟨fun h => ⟨a, of_decide_eq_true h⟩, fun h => decide_eq_true h.2⟩
  · rw [if_neg a]
    exact hj1 _ ⟨(fun h => by cases h), (fun h => absurd h.1 a)⟩
theorem refDo (l : List S38) (n : ByteArray) (kind off : Int) (wd : List Int) (keep : Int) (hl : l.length ≤ 1000) (hd : ∀ x ∈ l, x.f1.length ≤ 1000) (hwd : wd.length ≤ 1000) :
    ∃ k r, gambrelref17_Do.f k l n kind off wd keep = some r ∧ files_Do.f l n kind off wd keep = some r := by
  have hj : ∀ k, gambrelref17_Do.j0 (k + 1) l keep true n kind off wd = some ([], 1) := fun k => by rw [gambrelref17_Do.j0, if_pos rfl]
  have hfd : files_Do.f l n kind off wd keep = if kind < 1 ∨ kind > 3 ∨ n.size < 1 ∨ n.size > 40 ∨ (kind = 3 ∧ off < 0) then some ([], 1) else some (doRes kind.toNat l n (frmOf kind off (oldOf l n)) (oldOf l n) wd (keptOf wd keep)) := by
    unfold files_Do.f
    rw [if_pos ⟨by omega, by omega, fun x hx => by have := hd x hx; omega⟩]
  by_cases c : kind < 1 ∨ kind > 3 ∨ n.size < 1 ∨ n.size > 40 ∨ (kind = 3 ∧ off < 0)
  · refine ⟨1, ([], 1), ?_, by rw [hfd, if_pos c]⟩
    unfold gambrelref17_Do.f
    by_cases c1 : kind < 1
    · rw [if_pos c1, hj]
    by_cases c2 : kind > 3
    · rw [if_neg c1, if_pos c2, hj]
    by_cases c3 : (n.size : Int) < 1
    · rw [if_neg c1, if_neg c2, if_pos c3, hj]
    by_cases c4 : (n.size : Int) > 40
    · rw [if_neg c1, if_neg c2, if_neg c3, if_pos c4, hj]
    rw [if_neg c1, if_neg c2, if_neg c3, if_neg c4, if_pos (by omega), decide_eq_true (by omega), hj]
  · obtain ⟨k, hk⟩ := refDo_j0 l n kind off wd keep (by omega) hd hwd (by omega) (by omega)
    refine ⟨k, _, ?_, by rw [hfd, if_neg c]⟩
    unfold gambrelref17_Do.f
    rw [if_neg (by omega), if_neg (by omega), if_neg (by omega), if_neg (by omega)]
    split
    · rw [decide_eq_false (by omega)]; exact hk
    · exact hk
theorem do_bytes {l : List S38} {n : ByteArray} {kind off : Int} {wd : List Int} {keep : Int} {r : List S38 × Int} (hb : bytesIn l) (hw : ∀ n ∈ wd, 0 ≤ n ∧ n < 256) (hl : l.length ≤ 30) (h : files_Do.f l n kind off wd keep = some r) : bytesIn r.1 ∧ r.1.length ≤ 40 := by
  have hold : ∀ x ∈ oldOf l n, 0 ≤ x ∧ x < 256 := by
    unfold oldOf
    split
    · rename_i x hx; exact hb x (List.mem_of_find?_eq_some hx)
    · simp
  have hkept : ∀ x ∈ keptOf wd keep, 0 ≤ x ∧ x < 256 := by
    unfold keptOf
    split
    · exact fun x hx => hw x (List.mem_of_mem_take hx)
    · exact hw
  have hnil : bytesIn ([] : List S38) := fun y hy => by simp at hy
  unfold files_Do.f at h
  split at h
  · split at h
    · obtain rfl := Option.some.inj h; exact ⟨hnil, by simp⟩
    · obtain rfl := Option.some.inj h
      unfold doRes
      split
      · exact ⟨hnil, by simp⟩
      · split
        · exact ⟨hb, by show l.length ≤ 40; omega⟩
        · refine ⟨bytesIn_put hb _ fun x hx => ?_, by have := put_len l n (overlay (if kind.toNat = 1 then [] else oldOf l n) (frmOf kind off (oldOf l n)).toNat (keptOf wd keep)); show (putL _ _ _).length ≤ 40; omega⟩
          have hold' : ∀ x ∈ (if kind.toNat = 1 then [] else oldOf l n), 0 ≤ x ∧ x < 256 := by split; exact (fun x hx => by simp at hx); exact hold
          unfold overlay at hx
          rcases List.mem_append.1 hx with hx | hx
          · rcases List.mem_append.1 hx with hx | hx
            · rcases List.mem_append.1 (List.mem_of_mem_take hx) with hx | hx
              · exact hold' x hx
              · have := List.eq_of_mem_replicate hx; omega
            · exact hkept x hx
          · exact hold' x (List.mem_of_mem_drop hx)
  · cases h
theorem files_do_true (l : List S38) (n : ByteArray) (kind off : Int) (wd : List Int) (keep : Int) (hb : bytesIn l) (hw : ∀ n ∈ wd, 0 ≤ n ∧ n < 256) (hl : l.length ≤ 30) (hd : ∀ x ∈ l, x.f1.length ≤ 1000) (hwd : wd.length ≤ 1000) :
    ∃ k, gambrellaw17_FilesDo.j0 k l keep true false n kind off wd = some true := by
  obtain ⟨k1, r, h1, h2⟩ := refDo l n kind off wd keep (by omega) hd hwd
  obtain ⟨hr, hrl⟩ := do_bytes hb hw hl h2
  obtain ⟨k2, h3⟩ := refSame r.1 r.1 hr hr (by omega)
  rw [sameL_refl] at h3
  have e1 := at_rounds (gambrelref17_Do.mono l n kind off wd keep) (show k1 ≤ k1 + k2 by omega) h1
  have e2 := at_rounds (gambrelref17_Same.mono r.1 r.1) (show k2 ≤ k1 + k2 by omega) h3
  refine ⟨k1 + k2 + 1, ?_⟩
  rw [gambrellaw17_FilesDo.j0, if_neg (by decide), gambrellaw17_made.f, Option.bind_some]
  simp only [h2, Option.bind_some, e1, if_true, e2]
  simp
theorem files_do (l : List S38) (n : ByteArray) (kind off : Int) (wd : List Int) (keep : Int) (hb : bytesIn l) (hw : ∀ n ∈ wd, 0 ≤ n ∧ n < 256) : ∃ k, gambrellaw17_FilesDo.f k l n kind off wd keep = some true := by
  obtain ⟨k1, b1, h1, g1⟩ := few_ends l
  have ht : ∀ k, gambrellaw17_FilesDo.j0 (k + 1) l keep true true n kind off wd = some true := fun k => by rw [gambrellaw17_FilesDo.j0, if_pos rfl]
  cases b1 with
  | false =>
    refine ⟨k1 + 1, ?_⟩
    unfold gambrellaw17_FilesDo.f
    rw [at_rounds (gambrelref17_Few.mono l) (by omega) h1]
    simp [gambrellaw17_awake.f, ht]
  | true =>
    obtain ⟨hl, hsm⟩ := g1 rfl
    by_cases c : wd.length ≤ 1000
    · obtain ⟨k2, h2⟩ := files_do_true l n kind off wd keep hb hw hl (fun x hx => (hsm x hx).2) c
      refine ⟨k1 + k2 + 1, ?_⟩
      unfold gambrellaw17_FilesDo.f
      rw [at_rounds (gambrelref17_Few.mono l) (show k1 ≤ k1 + k2 + 1 by omega) h1]
      simp only [gambrellaw17_awake.f, Option.bind_some, if_true]
      split
      · exact ht _
      · rw [decide_eq_false (by omega)]
        exact at_rounds (fun k => gambrellaw17_FilesDo.mono_l k _ _ _ _ _ _ _ _) (show k2 ≤ k1 + k2 + 1 by omega) h2
    · refine ⟨k1 + 1, ?_⟩
      unfold gambrellaw17_FilesDo.f
      rw [at_rounds (gambrelref17_Few.mono l) (by omega) h1]
      simp only [gambrellaw17_awake.f, Option.bind_some, if_true]
      rw [decide_eq_true (show (wd.length : Int) > 1000 by omega)]
      split <;> exact ht _
end Go.Proofs.Ytcgeioingikeeaa.P
