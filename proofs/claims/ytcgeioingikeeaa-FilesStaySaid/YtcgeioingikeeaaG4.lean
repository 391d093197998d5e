/- Plain law: FilesTell answers true for every two rows of files and a name, the files' data being bytes. -/
import Derived.Test.YtcgeioingikeeaaG2
import Derived.Test.YtcgeioingikeeaaPf6
namespace Go.Proofs.Ytcgeioingikeeaa.P
open Go.RowKit Go.Proofs.YtcgeioingikeeaaW.PrintWords Go.Proofs.YtcgeioingikeeaaW.PrintLast Go.Proofs.YtcgeioingikeeaaW.PrintMore
set_option linter.unusedVariables false
set_option linter.unusedSimpArgs false

theorem drop_at (l : List S38) (i : Nat) (h : i < l.length) : l.drop i = rd_T38 l (i : Int) :: l.drop (i + 1) := by rw [rd_at l i h, List.drop_eq_getElem_cons h]

theorem refGet_l (l : List S38) (n : ByteArray) (hl : l.length ≤ 1000000) : ∀ m i : Nat, i + m = l.length → ∃ k, gambrelref17_Get.l0 k l n i = some (getL (l.drop i) n)
  | 0, i, hi => ⟨1, by rw [gambrelref17_Get.l0, if_neg (by omega), List.drop_eq_nil_of_le (by omega)]; rfl⟩
  | m + 1, i, hi => by
    rw [drop_at l i (by omega)]
    by_cases h : ((rd_T38 l (i : Int)).f0).toList = n.toList
    · refine ⟨1, ?_⟩
      rw [gambrelref17_Get.l0, if_pos (by omega), if_pos (by omega), if_pos h, getL_some (x := rd_T38 l (i : Int)) (by rw [List.find?_cons, show named n (rd_T38 l (i : Int)) = true from beq_iff_eq.mpr h])]
    · obtain ⟨k, hk⟩ := refGet_l l n hl m (i + 1) (by omega)
      refine ⟨k + 1, ?_⟩
      rw [gambrelref17_Get.l0, if_pos (by omega), if_pos (by omega), if_neg h, wrap_nat i (by omega), hk]
      unfold getL
      rw [List.find?_cons, show named n (rd_T38 l (i : Int)) = false from beq_eq_false_iff_ne.mpr h]
theorem refGet (l : List S38) (n : ByteArray) (hl : l.length ≤ 1000000) : ∃ k, gambrelref17_Get.f k l n = some (getL l n) := by
  obtain ⟨k, hk⟩ := refGet_l l n hl l.length 0 (by omega)
  exact ⟨k, by rw [List.drop_zero] at hk; exact hk⟩

def okAt (l : List S38) (j : Nat) : Bool := decide (1 ≤ (rd_T38 l j).f0.size) && decide ((rd_T38 l j).f0.size ≤ 40) && decide ((rd_T38 l j).f1.length ≤ 65536) && (decide (j = 0) || Op.bytesLess (rd_T38 l ((j - 1 : Nat) : Int)).f0.toList (rd_T38 l j).f0.toList)
theorem mayA (l : List S38) (hl : l.length ≤ 1000000) : ∀ m i : Nat, i + m = l.length → ∃ k, files_May.l0 k l l (l.length : Int) i = some ((List.range' i m).all (okAt l))
  | 0, i, hi => ⟨1, by rw [files_May.l0, if_neg (by omega)]; rfl⟩
  | m + 1, i, hi => by
    rw [List.range'_succ, List.all_cons]
    by_cases h1 : 1 ≤ (rd_T38 l i).f0.size ∧ (rd_T38 l i).f0.size ≤ 40
    · have hf : files_fine.f (rd_T38 l (i : Int)).f0 = some true := by unfold files_fine.f; rw [if_pos (by omega)]; congr 1; exact decide_eq_true (by omega)
      by_cases h2 : (rd_T38 l i).f1.length ≤ 65536
      · obtain ⟨k, hk⟩ := mayA l hl m (i + 1) (by omega)
        cases i with
        | zero =>
          refine ⟨k + 1, ?_⟩
          rw [files_May.l0, if_pos (by omega), if_pos (by omega), if_pos (by omega), hf, Option.bind_some, if_pos rfl, if_neg (by omega), if_neg (by simp), wrap_nat 0 (by omega), hk]
          have : okAt l 0 = true := by simp only [okAt, decide_eq_true h1.1, decide_eq_true h1.2, decide_eq_true h2]; rfl
          rw [this, Bool.true_and]
        | succ i =>
          by_cases h3 : Op.bytesLess ((rd_T38 l (i : Int)).f0.toList) ((rd_T38 l ((i + 1 : Nat) : Int)).f0.toList) = true
          · refine ⟨k + 1, ?_⟩
            rw [files_May.l0, if_pos (by omega), if_pos (by omega), if_pos (by omega), hf, Option.bind_some, if_pos rfl, if_neg (by omega), if_pos (by omega), wrap_pred i (by omega), if_pos (by omega), if_pos (by omega), if_pos h3, wrap_nat (i + 1) (by omega), hk]
            have : okAt l (i + 1) = true := by simp only [okAt, decide_eq_true h1.1, decide_eq_true h1.2, decide_eq_true h2, Nat.add_sub_cancel, h3, Bool.or_true, Bool.and_true]
            rw [this, Bool.true_and]
          · refine ⟨1, ?_⟩
            rw [files_May.l0, if_pos (by omega), if_pos (by omega), if_pos (by omega), hf, Option.bind_some, if_pos rfl, if_neg (by omega), if_pos (by omega), wrap_pred i (by omega), if_pos (by omega), if_pos (by omega), if_neg h3]
            have : okAt l (i + 1) = false := by simp only [okAt, Nat.add_sub_cancel, h3]; simp
            rw [this, Bool.false_and]
      · refine ⟨1, ?_⟩
        rw [files_May.l0, if_pos (by omega), if_pos (by omega), if_pos (by omega), hf, Option.bind_some, if_pos rfl, if_pos (by omega)]
        have : okAt l i = false := by simp only [okAt, decide_eq_false h2]; simp
        rw [this, Bool.false_and]
    · have hf : files_fine.f (rd_T38 l (i : Int)).f0 = some false := by
        unfold files_fine.f
        split
        · congr 1; exact decide_eq_false (by omega)
        · rfl
      refine ⟨1, ?_⟩
      rw [files_May.l0, if_pos (by omega), if_pos (by omega), if_pos (by omega), hf, Option.bind_some, if_neg (by decide)]
      have : okAt l i = false := by
        unfold okAt
        by_cases a : 1 ≤ (rd_T38 l i).f0.size
        · rw [decide_eq_true a, decide_eq_false (show ¬ (rd_T38 l i).f0.size ≤ 40 by omega)]; simp
        · rw [decide_eq_false a]; simp
      rw [this, Bool.false_and]
theorem mayB (l : List S38) (hl : l.length ≤ 1000000) : ∀ m i : Nat, i + m = l.length → ∃ k, gambrelref17_May.l0 k l i = some ((List.range' i m).all (okAt l))
  | 0, i, hi => ⟨1, by rw [gambrelref17_May.l0, if_neg (by omega)]; rfl⟩
  | m + 1, i, hi => by
    rw [List.range'_succ, List.all_cons]
    by_cases a : (rd_T38 l i).f0.size < 1
    · refine ⟨1, ?_⟩
      rw [gambrelref17_May.l0, if_pos (by omega), if_pos (by omega), if_pos (by omega)]
      have : okAt l i = false := by unfold okAt; rw [decide_eq_false (show ¬ 1 ≤ (rd_T38 l i).f0.size by omega)]; simp
      rw [this, Bool.false_and]
    by_cases b : (rd_T38 l i).f0.size > 40
    · refine ⟨1, ?_⟩
      rw [gambrelref17_May.l0, if_pos (by omega), if_pos (by omega), if_neg (by omega), if_pos (by omega)]
      have : okAt l i = false := by unfold okAt; rw [decide_eq_false (show ¬ (rd_T38 l i).f0.size ≤ 40 by omega)]; simp
      rw [this, Bool.false_and]
    by_cases h2 : (rd_T38 l i).f1.length ≤ 65536
    · obtain ⟨k, hk⟩ := mayB l hl m (i + 1) (by omega)
      have h1 : 1 ≤ (rd_T38 l i).f0.size ∧ (rd_T38 l i).f0.size ≤ 40 := by omega
      cases i with
      | zero =>
        refine ⟨k + 1, ?_⟩
        rw [gambrelref17_May.l0, if_pos (by omega), if_pos (by omega), if_neg (by omega), if_neg (by omega), if_neg (by omega), if_neg (by simp), wrap_nat 0 (by omega), hk]
        have : okAt l 0 = true := by simp only [okAt, decide_eq_true h1.1, decide_eq_true h1.2, decide_eq_true h2]; rfl
        rw [this, Bool.true_and]
      | succ i =>
        by_cases h3 : Op.bytesLess ((rd_T38 l (i : Int)).f0.toList) ((rd_T38 l ((i + 1 : Nat) : Int)).f0.toList) = true
        · refine ⟨k + 1, ?_⟩
          rw [gambrelref17_May.l0, if_pos (by omega), if_pos (by omega), if_neg (by omega), if_neg (by omega), if_neg (by omega), if_pos (by omega), wrap_pred i (by omega), if_pos (by omega), if_pos (by omega), if_pos h3, wrap_nat (i + 1) (by omega), hk]
          have : okAt l (i + 1) = true := by simp only [okAt, decide_eq_true h1.1, decide_eq_true h1.2, decide_eq_true h2, Nat.add_sub_cancel, h3, Bool.or_true, Bool.and_true]
          rw [this, Bool.true_and]
        · refine ⟨1, ?_⟩
          rw [gambrelref17_May.l0, if_pos (by omega), if_pos (by omega), if_neg (by omega), if_neg (by omega), if_neg (by omega), if_pos (by omega), wrap_pred i (by omega), if_pos (by omega), if_pos (by omega), if_neg h3]
          have : okAt l (i + 1) = false := by simp only [okAt, Nat.add_sub_cancel, h3]; simp
          rw [this, Bool.false_and]
    · refine ⟨1, ?_⟩
      rw [gambrelref17_May.l0, if_pos (by omega), if_pos (by omega), if_neg (by omega), if_neg (by omega), if_pos (by omega)]
      have : okAt l i = false := by simp only [okAt, decide_eq_false h2]; simp
      rw [this, Bool.false_and]

theorem namesA (l : List S38) (hl : l.length ≤ 1000000) : ∀ m i : Nat, ∀ acc : List ByteArray, i + m = l.length → acc.length ≤ i → ∃ k, files_Names.l0 k acc l (l.length : Int) i = some (acc ++ (l.drop i).map (·.f0))
  | 0, i, acc, hi, ha => ⟨1, by rw [files_Names.l0, if_neg (by omega), List.drop_eq_nil_of_le (by omega)]; simp⟩
  | m + 1, i, acc, hi, ha => by
    obtain ⟨k, hk⟩ := namesA l hl m (i + 1) (acc ++ [(rd_T38 l i).f0]) (by omega) (by simp; omega)
    refine ⟨k + 1, ?_⟩
    rw [files_Names.l0, if_pos (by omega), if_pos (by omega), if_pos (by omega), if_pos (by omega), wrap_nat i (by omega), hk, drop_at l i (by omega)]
    simp
theorem namesB (l : List S38) (hl : l.length ≤ 1000000) : ∀ m i : Nat, ∀ acc : List ByteArray, i + m = l.length → acc.length ≤ i → ∃ k, gambrelref17_Names.l0 k l acc i = some (acc ++ (l.drop i).map (·.f0))
  | 0, i, acc, hi, ha => ⟨1, by rw [gambrelref17_Names.l0, if_neg (by omega), List.drop_eq_nil_of_le (by omega)]; simp⟩
  | m + 1, i, acc, hi, ha => by
    obtain ⟨k, hk⟩ := namesB l hl m (i + 1) (acc ++ [(rd_T38 l i).f0]) (by omega) (by simp; omega)
    refine ⟨k + 1, ?_⟩
    rw [gambrelref17_Names.l0, if_pos (by omega), if_pos (by omega), if_pos (by omega), wrap_nat i (by omega), hk, drop_at l i (by omega)]
    simp
theorem strings_same (x : List ByteArray) (hl : x.length ≤ 1000000) : ∀ m i : Nat, i + m = x.length → ∃ k, gambrelref15_Strings.l0 k x x i = some true
  | 0, i, hi => ⟨1, by rw [gambrelref15_Strings.l0, if_neg (by omega)]⟩
  | m + 1, i, hi => by
    obtain ⟨k, hk⟩ := strings_same x hl m (i + 1) (by omega)
    refine ⟨k + 1, ?_⟩
    rw [gambrelref15_Strings.l0, if_pos (by omega), if_pos (by omega), if_pos (by omega), if_pos rfl, wrap_nat i (by omega), hk]
def sumW (acc : Int) : List S38 → Int
  | [] => acc
  | x :: l => sumW (wrap64 (acc + (x.f1.length : Int))) l
theorem sizeA (l : List S38) (hl : l.length ≤ 1000000) : ∀ m i : Nat, ∀ acc : Int, i + m = l.length → ∃ k, files_Size.l0 k acc l (l.length : Int) i = some (sumW acc (l.drop i))
  | 0, i, acc, hi => ⟨1, by rw [files_Size.l0, if_neg (by omega), List.drop_eq_nil_of_le (by omega)]; rfl⟩
  | m + 1, i, acc, hi => by
    obtain ⟨k, hk⟩ := sizeA l hl m (i + 1) (wrap64 (acc + ((rd_T38 l i).f1.length : Int))) (by omega)
    refine ⟨k + 1, ?_⟩
    rw [files_Size.l0, if_pos (by omega), if_pos (by omega), if_pos (by omega), wrap_nat i (by omega), hk, drop_at l i (by omega)]
    rfl
theorem sizeB (l : List S38) (hl : l.length ≤ 1000000) : ∀ m i : Nat, ∀ acc : Int, i + m = l.length → ∃ k, gambrelref17_Size.l0 k l acc i = some (sumW acc (l.drop i))
  | 0, i, acc, hi => ⟨1, by rw [gambrelref17_Size.l0, if_neg (by omega), List.drop_eq_nil_of_le (by omega)]; rfl⟩
  | m + 1, i, acc, hi => by
    obtain ⟨k, hk⟩ := sizeB l hl m (i + 1) (wrap64 (acc + ((rd_T38 l i).f1.length : Int))) (by omega)
    refine ⟨k + 1, ?_⟩
    rw [gambrelref17_Size.l0, if_pos (by omega), if_pos (by omega), wrap_nat i (by omega), hk, drop_at l i (by omega)]
    rfl

def bytesIn (l : List S38) : Prop := ∀ y ∈ l, ∀ n ∈ y.f1, 0 ≤ n ∧ n < 256
theorem ofNum_inj {a b : Int} (ha : 0 ≤ a ∧ a < 256) (hb : 0 ≤ b ∧ b < 256) (h : UInt8.ofNat a.toNat = UInt8.ofNat b.toNat) : a = b := by
  have := congrArg UInt8.toNat h
  simp only [UInt8.toNat_ofNat'] at this
  omega
theorem nums_inj : ∀ (x y : List Int), (∀ n ∈ x, 0 ≤ n ∧ n < 256) → (∀ n ∈ y, 0 ≤ n ∧ n < 256) → x.map (fun n => UInt8.ofNat n.toNat) = y.map (fun n => UInt8.ofNat n.toNat) → x = y
  | [], [], _, _, _ => rfl
  | [], b :: y, _, _, h => by simp at h
  | a :: x, [], _, _, h => by simp at h
  | a :: x, b :: y, hx, hy, h => by
    simp only [List.map_cons, List.cons.injEq] at h
    rw [ofNum_inj (hx a (by simp)) (hy b (by simp)) h.1, nums_inj x y (fun n hn => hx n (by simp [hn])) (fun n hn => hy n (by simp [hn])) h.2]
theorem strOf_list (x : List Int) : (strOfNums x).toList = x.map fun n => UInt8.ofNat n.toNat := by simp [strOfNums, Lib.toList_data]
theorem strOf_eq {x y : List Int} (hx : ∀ n ∈ x, 0 ≤ n ∧ n < 256) (hy : ∀ n ∈ y, 0 ≤ n ∧ n < 256) : (strOfNums x).toList = (strOfNums y).toList ↔ x = y := by
  rw [strOf_list, strOf_list]
  exact ⟨nums_inj x y hx hy, fun h => by rw [h]⟩
theorem rd_bytes {l : List S38} (h : bytesIn l) (i : Nat) (hi : i < l.length) : ∀ n ∈ (rd_T38 l (i : Int)).f1, 0 ≤ n ∧ n < 256 := by
  rw [rd_at l i hi]
  exact h _ (List.getElem_mem hi)
theorem sameR (l q : List S38) (hb : bytesIn l) (hc : bytesIn q) (he : l.length = q.length) (hl : l.length ≤ 1000000) : ∀ m i : Nat, i + m = l.length → ∃ k, gambrelref17_Same.l0 k l q i = some (sameL (l.drop i) (q.drop i))
  | 0, i, hi => ⟨1, by rw [gambrelref17_Same.l0, if_neg (by omega), List.drop_eq_nil_of_le (by omega), List.drop_eq_nil_of_le (by omega)]; rfl⟩
  | m + 1, i, hi => by
    rw [drop_at l i (by omega), drop_at q i (by omega), sameL, sameB]
    by_cases h1 : ((rd_T38 l (i : Int)).f0).toList = ((rd_T38 q (i : Int)).f0).toList
    · by_cases h2 : (rd_T38 l (i : Int)).f1 = (rd_T38 q (i : Int)).f1
      · obtain ⟨k, hk⟩ := sameR l q hb hc he hl m (i + 1) (by omega)
        refine ⟨k + 1, ?_⟩
        rw [gambrelref17_Same.l0, if_pos (by omega), if_pos (by omega), if_pos (by omega), if_pos h1, if_pos ((strOf_eq (rd_bytes hb i (by omega)) (rd_bytes hc i (by omega))).2 h2), wrap_nat i (by omega), hk, beq_iff_eq.mpr h1, beq_iff_eq.mpr h2]
        rfl
      · refine ⟨1, ?_⟩
        rw [gambrelref17_Same.l0, if_pos (by omega), if_pos (by omega), if_pos (by omega), if_pos h1, if_neg (fun h => h2 ((strOf_eq (rd_bytes hb i (by omega)) (rd_bytes hc i (by omega))).1 h)), beq_eq_false_iff_ne.mpr h2]
        simp
    · refine ⟨1, ?_⟩
      rw [gambrelref17_Same.l0, if_pos (by omega), if_pos (by omega), if_pos (by omega), if_neg h1, beq_eq_false_iff_ne.mpr h1]
      simp
theorem sameL_len : ∀ x y : List S38, sameL x y = true → x.length = y.length
  | [], [], _ => rfl
  | [], _ :: _, h => by simp [sameL] at h
  | _ :: _, [], h => by simp [sameL] at h
  | _ :: x, _ :: y, h => by
    simp only [sameL, Bool.and_eq_true] at h
    simp [sameL_len x y h.2]
theorem refSame (l q : List S38) (hb : bytesIn l) (hc : bytesIn q) (hl : l.length ≤ 1000000) : ∃ k, gambrelref17_Same.f k l q = some (sameL l q) := by
  by_cases he : l.length = q.length
  · obtain ⟨k, hk⟩ := sameR l q hb hc he hl l.length 0 (by omega)
    exact ⟨k, by unfold gambrelref17_Same.f; rw [if_pos (by omega)]; simpa using hk⟩
  · refine ⟨0, ?_⟩
    unfold gambrelref17_Same.f
    rw [if_neg (by omega)]
    cases e : sameL l q with
    | false => rfl
    | true => exact absurd (sameL_len l q e) he

theorem files_tell_true (l q : List S38) (n : ByteArray) (hb : bytesIn l) (hc : bytesIn q) (hl : l.length ≤ 30) (hd : ∀ x ∈ l, x.f1.length ≤ 1000) : ∃ k, gambrellaw17_FilesTell.j0 k l q n true false = some true := by
  obtain ⟨k1, h1⟩ := refGet l n (by omega)
  obtain ⟨k2, h2⟩ := mayA l (by omega) l.length 0 (by omega)
  obtain ⟨k3, h3⟩ := mayB l (by omega) l.length 0 (by omega)
  obtain ⟨k4, h4⟩ := namesA l (by omega) l.length 0 [] (by omega) (by simp)
  obtain ⟨k5, h5⟩ := namesB l (by omega) l.length 0 [] (by omega) (by simp)
  obtain ⟨k6, h6⟩ := strings_same (l.map (·.f0)) (by simp; omega) (l.map (·.f0)).length 0 (by omega)
  obtain ⟨k7, h7⟩ := sizeA l (by omega) l.length 0 0 (by omega)
  obtain ⟨k8, h8⟩ := sizeB l (by omega) l.length 0 0 (by omega)
  obtain ⟨k9, h9⟩ := refSame l q hb hc (by omega)
  rw [List.drop_zero, List.nil_append] at h4 h5
  rw [List.drop_zero] at h7 h8
  obtain ⟨K, hK⟩ : ∃ K, K = k1 + k2 + k3 + k4 + k5 + k6 + k7 + k8 + k9 := ⟨_, rfl⟩
  have e1 := at_rounds (gambrelref17_Get.mono l n) (show k1 ≤ K by omega) h1
  have e2 := at_rounds (files_May.mono l) (show k2 ≤ K by omega) (show files_May.f k2 l = _ from h2)
  have e3 := at_rounds (gambrelref17_May.mono l) (show k3 ≤ K by omega) (show gambrelref17_May.f k3 l = _ from h3)
  have e4 := at_rounds (files_Names.mono l) (show k4 ≤ K by omega) (show files_Names.f k4 l = _ from h4)
  have e5 := at_rounds (gambrelref17_Names.mono l) (show k5 ≤ K by omega) (show gambrelref17_Names.f k5 l = _ from h5)
  have e6 := at_rounds (gambrelref15_Strings.mono (l.map (·.f0)) (l.map (·.f0))) (show k6 ≤ K by omega) (show gambrelref15_Strings.f k6 _ _ = some true from by unfold gambrelref15_Strings.f; rw [if_pos rfl]; exact h6)
  have e7 := at_rounds (files_Size.mono l) (show k7 ≤ K by omega) (show files_Size.f k7 l = _ from h7)
  have e8 := at_rounds (gambrelref17_Size.mono l) (show k8 ≤ K by omega) (show gambrelref17_Size.f k8 l = _ from h8)
  have e9 := at_rounds (gambrelref17_Same.mono l q) (show k9 ≤ K by omega) h9
  refine ⟨K + 1, ?_⟩
  rw [gambrellaw17_FilesTell.j0, if_neg (by decide), get_of ⟨by omega, hd⟩ n, Option.bind_some, e1, Option.bind_some, if_pos rfl, e2, Option.bind_some, e3, Option.bind_some, if_pos (by simp), if_pos rfl, if_pos (by simp), e4, Option.bind_some, e5, Option.bind_some, e6, Option.bind_some, if_pos rfl, e7, Option.bind_some, e8, Option.bind_some, if_pos rfl, files_Same.f, Option.bind_some, e9, Option.bind_some]
  simp

theorem files_tell (l q : List S38) (n : ByteArray) (hb : bytesIn l) (hc : bytesIn q) : ∃ k, gambrellaw17_FilesTell.f k l q n = some true := by
  obtain ⟨k1, b1, h1, g1⟩ := few_ends l
  obtain ⟨k2, b2, h2, g2⟩ := few_ends q
  have ht : ∀ k, gambrellaw17_FilesTell.j0 (k + 1) l q n true true = some true := fun k => by rw [gambrellaw17_FilesTell.j0, if_pos rfl]
  cases b1 with
  | false =>
    refine ⟨k1 + 1, ?_⟩
    unfold gambrellaw17_FilesTell.f
    rw [at_rounds (gambrelref17_Few.mono l) (by omega) h1]
    simp [gambrellaw17_awake.f, ht]
  | true =>
    obtain ⟨hl, hsm⟩ := g1 rfl
    obtain ⟨k3, h3⟩ := files_tell_true l q n hb hc hl (fun x hx => (hsm x hx).2)
    refine ⟨k1 + k2 + k3 + 1, ?_⟩
    unfold gambrellaw17_FilesTell.f
    rw [at_rounds (gambrelref17_Few.mono l) (by omega) h1, at_rounds (gambrelref17_Few.mono q) (show k2 ≤ k1 + k2 + k3 + 1 by omega) h2]
    cases b2 with
    | false => simp [gambrellaw17_awake.f, ht]
    | true =>
      simp only [gambrellaw17_awake.f, Option.bind_some, if_true]
      cases decide ((n.size : Int) > 60) with
      | true => exact ht _
      | false => exact at_rounds (fun k => gambrellaw17_FilesTell.mono_l k _ _ _ _ _) (show k3 ≤ k1 + k2 + k3 + 1 by omega) h3
end Go.Proofs.Ytcgeioingikeeaa.P
