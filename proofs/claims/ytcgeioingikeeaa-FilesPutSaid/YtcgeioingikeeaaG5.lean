/- Plain law: FilesPut answers true for every row of files, a file and a name, the data being bytes. -/
import Derived.Test.YtcgeioingikeeaaG4
import Derived.Test.YtcgeioingikeeaaPf4
namespace Go.Proofs.Ytcgeioingikeeaa.P
open Go.RowKit Go.Proofs.YtcgeioingikeeaaW.PrintWords Go.Proofs.YtcgeioingikeeaaW.PrintLast Go.Proofs.YtcgeioingikeeaaW.PrintMore
set_option linter.unusedVariables false
set_option linter.unusedSimpArgs false

theorem refDrop_l (l : List S38) (n : ByteArray) (hl : l.length ≤ 1000000) : ∀ m i : Nat, ∀ acc : List S38, i + m = l.length → acc.length ≤ i → ∃ k, gambrelref17_Drop.l0 k l n acc i = some (acc ++ (l.drop i).filter fun x => !named n x)
  | 0, i, acc, hi, ha => ⟨1, by rw [gambrelref17_Drop.l0, if_neg (by omega), List.drop_eq_nil_of_le (by omega)]; simp⟩
  | m + 1, i, acc, hi, ha => by
    rw [drop_at l i (by omega), List.filter_cons]
    by_cases h : ((rd_T38 l (i : Int)).f0).toList = n.toList
    · obtain ⟨k, hk⟩ := refDrop_l l n hl m (i + 1) acc (by omega) (by omega)
      refine ⟨k + 1, ?_⟩
      rw [gambrelref17_Drop.l0, if_pos (by omega), if_pos (by omega), if_pos h, wrap_nat i (by omega), hk, show named n (rd_T38 l (i : Int)) = true from beq_iff_eq.mpr h]
      simp
    · obtain ⟨k, hk⟩ := refDrop_l l n hl m (i + 1) (acc ++ [rd_T38 l i]) (by omega) (by simp; omega)
      refine ⟨k + 1, ?_⟩
      rw [gambrelref17_Drop.l0, if_pos (by omega), if_pos (by omega), if_neg h, if_pos (by omega), wrap_nat i (by omega), show named n (rd_T38 l (i : Int)) = false from beq_eq_false_iff_ne.mpr h]
      refine hk.trans ?_
      simp
theorem refDrop (l : List S38) (n : ByteArray) (hl : l.length ≤ 1000000) : ∃ k, gambrelref17_Drop.f k l n = some (l.filter fun x => !named n x) := by
  obtain ⟨k, hk⟩ := refDrop_l l n hl l.length 0 [] (by omega) (by simp)
  exact ⟨k, by rw [List.drop_zero, List.nil_append] at hk; exact hk⟩

theorem refPut_done (t : List S38) (n : ByteArray) (d : List Int) (hl : t.length ≤ 1000000) : ∀ m i : Nat, ∀ acc : List S38, i + m = t.length → acc.length ≤ i + 1 → ∃ k, gambrelref17_Put.l0 k n d t acc true i = some (acc ++ t.drop i)
  | 0, i, acc, hi, ha => ⟨1, by rw [gambrelref17_Put.l0, if_neg (by omega), if_pos rfl, List.drop_eq_nil_of_le (by omega)]; simp⟩
  | m + 1, i, acc, hi, ha => by
    obtain ⟨k, hk⟩ := refPut_done t n d hl m (i + 1) (acc ++ [rd_T38 t i]) (by omega) (by simp; omega)
    refine ⟨k + 1, ?_⟩
    rw [gambrelref17_Put.l0, if_pos (by omega), if_pos rfl, if_pos (by omega), if_pos (by omega), wrap_nat i (by omega), drop_at t i (by omega)]
    refine hk.trans ?_
    simp
theorem refPut_l (t : List S38) (n : ByteArray) (d : List Int) (hl : t.length ≤ 1000000) : ∀ m i : Nat, ∀ acc : List S38, i + m = t.length → acc.length ≤ i → ∃ k, gambrelref17_Put.l0 k n d t acc false i = some (acc ++ insertAt ⟨n, d⟩ (t.drop i))
  | 0, i, acc, hi, ha => ⟨1, by rw [gambrelref17_Put.l0, if_neg (by omega), if_neg (by decide), if_pos (by omega), List.drop_eq_nil_of_le (by omega)]; simp [insertAt]⟩
  | m + 1, i, acc, hi, ha => by
    rw [drop_at t i (by omega), insertAt]
    by_cases h : Op.bytesLess n.toList ((rd_T38 t (i : Int)).f0.toList) = true
    · obtain ⟨k, hk⟩ := refPut_done t n d hl m (i + 1) (acc ++ [⟨n, d⟩] ++ [rd_T38 t i]) (by omega) (by simp; omega)
      refine ⟨k + 1, ?_⟩
      rw [gambrelref17_Put.l0, if_pos (by omega), if_neg (by decide), if_pos (by omega), if_pos h, if_pos (by omega), Option.bind_some, if_pos (by simp; omega), wrap_nat i (by omega), if_pos h]
      refine hk.trans ?_
      simp
    · obtain ⟨k, hk⟩ := refPut_l t n d hl m (i + 1) (acc ++ [rd_T38 t i]) (by omega) (by simp; omega)
      refine ⟨k + 1, ?_⟩
      rw [gambrelref17_Put.l0, if_pos (by omega), if_neg (by decide), if_pos (by omega), if_neg h, if_pos (by omega), wrap_nat i (by omega), if_neg h]
      refine hk.trans ?_
      simp
theorem refPut (l : List S38) (n : ByteArray) (d : List Int) (hl : l.length ≤ 1000000) : ∃ k, gambrelref17_Put.f k l n d = some (putL l n d) := by
  obtain ⟨k1, h1⟩ := refDrop l n hl
  have hf := List.length_filter_le (fun x => !named n x) l
  obtain ⟨k2, h2⟩ := refPut_l (l.filter fun x => !named n x) n d (by omega) _ 0 [] (by rw [Nat.zero_add]) (by simp)
  refine ⟨k1 + k2, ?_⟩
  unfold gambrelref17_Put.f
  rw [at_rounds (gambrelref17_Drop.mono l n) (show k1 ≤ k1 + k2 by omega) h1, Option.bind_some]
  have := at_rounds (fun k => gambrelref17_Put.mono_l k _ _ _ _ _ _) (show k2 ≤ k1 + k2 by omega) h2
  rw [List.drop_zero, List.nil_append] at this
  exact this
theorem refMove (l : List S38) (a b : ByteArray) (hl : l.length ≤ 1000000) : ∃ k, gambrelref17_Move.f k l a b = some (match l.find? (named a) with | some x => (putL (l.filter fun y => !named a y) b x.f1, true) | none => (l, false)) := by
  obtain ⟨k1, h1⟩ := refGet l a hl
  obtain ⟨k2, h2⟩ := refDrop l a hl
  have hf := List.length_filter_le (fun x => !named a x) l
  obtain ⟨k3, h3⟩ := refDrop (l.filter fun x => !named a x) b (by omega)
  have hf2 := List.length_filter_le (fun x => !named b x) (l.filter fun x => !named a x)
  obtain ⟨k4, h4⟩ := refPut ((l.filter fun x => !named a x).filter fun x => !named b x) b (getL l a).1 (by omega)
  obtain ⟨K, hK⟩ : ∃ K, K = k1 + k2 + k3 + k4 := ⟨_, rfl⟩
  refine ⟨K, ?_⟩
  unfold gambrelref17_Move.f
  rw [at_rounds (gambrelref17_Get.mono l a) (show k1 ≤ K by omega) h1, at_rounds (gambrelref17_Drop.mono l a) (show k2 ≤ K by omega) h2, Option.bind_some, Option.bind_some,
    at_rounds (gambrelref17_Drop.mono _ b) (show k3 ≤ K by omega) h3, Option.bind_some, at_rounds (gambrelref17_Put.mono _ b _) (show k4 ≤ K by omega) h4, Option.bind_some]
  have e : putL ((l.filter fun x => !named a x).filter fun x => !named b x) b (getL l a).1 = putL (l.filter fun x => !named a x) b (getL l a).1 := by
    unfold putL
    rw [List.filter_filter (p := fun x => !named b x)]
    congr 1
    exact List.filter_congr fun x _ => by simp
  rw [e]
  unfold getL
  cases l.find? (named a) <;> rfl
theorem bytesIn_filter {l : List S38} (h : bytesIn l) (p : S38 → Bool) : bytesIn (l.filter p) := fun x hx => h x (List.mem_filter.1 hx).1
theorem bytesIn_put {l : List S38} (h : bytesIn l) (n : ByteArray) {d : List Int} (hd : ∀ n ∈ d, 0 ≤ n ∧ n < 256) : bytesIn (putL l n d) := by
  intro x hx
  unfold putL at hx
  rcases (insertAt_mem _ _ _).1 hx with rfl | hx
  · exact hd
  · exact h x (List.mem_filter.1 hx).1

theorem files_put_true (l : List S38) (nm : ByteArray) (d : List Int) (tn : ByteArray) (hb : bytesIn l) (hdb : ∀ n ∈ d, 0 ≤ n ∧ n < 256) (hl : l.length ≤ 30) (hd : ∀ x ∈ l, x.f1.length ≤ 1000) (hd1 : d.length ≤ 1000) : ∃ k, gambrellaw17_FilesPut.j0 k l tn true false nm d = some true := by
  obtain ⟨M, hM⟩ : ∃ M : List S38 × Bool, M = (match l.find? (named nm) with | some x => (putL (l.filter fun y => !named nm y) tn x.f1, true) | none => (l, false)) := ⟨_, rfl⟩
  have hf := List.length_filter_le (fun x => !named nm x) l
  have pl := put_len l nm d
  have hMb : bytesIn M.1 ∧ M.1.length ≤ 40 := by
    subst hM
    cases e : l.find? (named nm) with
    | none => exact ⟨hb, by show l.length ≤ 40; omega⟩
    | some x =>
      have hx := List.mem_of_find?_eq_some e
      exact ⟨bytesIn_put (bytesIn_filter hb _) _ (hb x hx), by
        show (putL (l.filter fun y => !named nm y) tn x.f1).length ≤ 40
        have := put_len (l.filter fun y => !named nm y) tn x.f1
        omega⟩
  have tl : tame l := ⟨by omega, hd⟩
  have hmove : files_Move.f l nm tn = some M := by
    subst hM
    unfold files_Move.f
    rw [get_of tl nm, Option.bind_some]
    cases e : l.find? (named nm) with
    | none =>
      rw [getL_none e]
      have hc : slices_CloneF.f l = some l := by unfold slices_CloneF.f; rw [if_pos (by omega)]
      simp [hc]
    | some x =>
      rw [getL_some e]
      have hxd : x.f1.length ≤ 1000 := hd x (List.mem_of_find?_eq_some e)
      have hdrop : files_Drop.f l nm = some (l.filter fun y => !named nm y) := by unfold files_Drop.f; rw [if_pos (by omega)]
      have hput : files_Put.f (l.filter fun y => !named nm y) tn x.f1 = some (putL (l.filter fun y => !named nm y) tn x.f1) := by unfold files_Put.f; rw [if_pos ⟨by omega, by omega⟩]
      simp [hdrop, hput]
  have hput : files_Put.f l nm d = some (putL l nm d) := by unfold files_Put.f; rw [if_pos ⟨by omega, by omega⟩]
  have hdrop : files_Drop.f l nm = some (l.filter fun y => !named nm y) := by unfold files_Drop.f; rw [if_pos (by omega)]
  obtain ⟨k1, h1⟩ := refMove l nm tn (by omega)
  rw [← hM] at h1
  obtain ⟨k2, h2⟩ := refPut l nm d (by omega)
  obtain ⟨k3, h3⟩ := refSame (putL l nm d) (putL l nm d) (bytesIn_put hb _ hdb) (bytesIn_put hb _ hdb) (by omega)
  obtain ⟨k4, h4⟩ := refDrop l nm (by omega)
  obtain ⟨k5, h5⟩ := refSame (l.filter fun y => !named nm y) (l.filter fun y => !named nm y) (bytesIn_filter hb _) (bytesIn_filter hb _) (by omega)
  obtain ⟨k6, h6⟩ := refSame M.1 M.1 hMb.1 hMb.1 (by omega)
  rw [sameL_refl] at h3 h5 h6
  obtain ⟨K, hK⟩ : ∃ K, K = k1 + k2 + k3 + k4 + k5 + k6 := ⟨_, rfl⟩
  have e1 := at_rounds (gambrelref17_Move.mono l nm tn) (show k1 ≤ K by omega) h1
  have e2 := at_rounds (gambrelref17_Put.mono l nm d) (show k2 ≤ K by omega) h2
  have e3 := at_rounds (gambrelref17_Same.mono _ _) (show k3 ≤ K by omega) h3
  have e4 := at_rounds (gambrelref17_Drop.mono l nm) (show k4 ≤ K by omega) h4
  have e5 := at_rounds (gambrelref17_Same.mono _ _) (show k5 ≤ K by omega) h5
  have e6 := at_rounds (gambrelref17_Same.mono _ _) (show k6 ≤ K by omega) h6
  refine ⟨K + 1, ?_⟩
  rw [gambrellaw17_FilesPut.j0, if_neg (by decide), hmove, Option.bind_some, e1, Option.bind_some, if_pos rfl, hput, Option.bind_some, e2, Option.bind_some, e3, Option.bind_some, if_pos rfl, hdrop, Option.bind_some, e4, Option.bind_some, e5, Option.bind_some, if_pos rfl, e6, Option.bind_some, if_pos rfl]
  simp

theorem files_put (l : List S38) (nm : ByteArray) (d : List Int) (tn : ByteArray) (hb : bytesIn l) (hdb : ∀ n ∈ d, 0 ≤ n ∧ n < 256) : ∃ k, gambrellaw17_FilesPut.f k l nm d tn = some true := by
  obtain ⟨k1, b1, h1, g1⟩ := few_ends l
  have ht : ∀ k, gambrellaw17_FilesPut.j0 (k + 1) l tn true true nm d = some true := fun k => by rw [gambrellaw17_FilesPut.j0, if_pos rfl]
  cases b1 with
  | false =>
    refine ⟨k1 + 1, ?_⟩
    unfold gambrellaw17_FilesPut.f
    rw [at_rounds (gambrelref17_Few.mono l) (by omega) h1]
    simp [gambrellaw17_awake.f, ht]
  | true =>
    obtain ⟨hl, hsm⟩ := g1 rfl
    by_cases c1 : (d.length : Int) > 1000
    · refine ⟨k1 + 1, ?_⟩
      unfold gambrellaw17_FilesPut.f
      rw [at_rounds (gambrelref17_Few.mono l) (by omega) h1]
      simp only [gambrellaw17_awake.f, Option.bind_some, if_true]
      rw [if_pos c1]
      split <;> exact ht _
    · obtain ⟨k2, h2⟩ := files_put_true l nm d tn hb hdb hl (fun x hx => (hsm x hx).2) (by omega)
      refine ⟨k1 + k2 + 1, ?_⟩
      unfold gambrellaw17_FilesPut.f
      rw [at_rounds (gambrelref17_Few.mono l) (by omega) h1]
      simp only [gambrellaw17_awake.f, Option.bind_some, if_true]
      rw [if_neg c1]
      split
      · exact ht _
      · cases decide ((tn.size : Int) > 60) with
        | true => exact ht _
        | false => exact at_rounds (fun k => gambrellaw17_FilesPut.mono_l k _ _ _ _ _ _) (show k2 ≤ k1 + k2 + 1 by omega) h2
end Go.Proofs.Ytcgeioingikeeaa.P
