/- Plain law: FilesStay answers true for every row of files, a file and a write. -/
import Derived.Test.YtcgeioingikeeaaG4
import Derived.Test.YtcgeioingikeeaaPf7
namespace Go.Proofs.Ytcgeioingikeeaa.P
open Go.RowKit Go.Proofs.YtcgeioingikeeaaW.PrintWords Go.Proofs.YtcgeioingikeeaaW.PrintLast Go.Proofs.YtcgeioingikeeaaW.PrintMore
set_option linter.unusedVariables false
set_option linter.unusedSimpArgs false

theorem oldOf_leq {l : List S38} {m : Nat} (h : ∀ x ∈ l, x.f1.length ≤ m) (n : ByteArray) : (oldOf l n).length ≤ m := by
  unfold oldOf
  split
  · rename_i x hx; exact h x (List.mem_of_find?_eq_some hx)
  · simp
def fine (x : S38) : Prop := 1 ≤ x.f0.size ∧ x.f0.size ≤ 40 ∧ x.f1.length ≤ 65536
def good (l : List S38) : Prop := asc l ∧ ∀ x ∈ l, fine x
theorem okAt_iff (l : List S38) (j : Nat) : okAt l j = true ↔ fine (rd_T38 l j) ∧ (j = 0 ∨ lessN (rd_T38 l ((j - 1 : Nat) : Int)) (rd_T38 l j)) := by
  unfold okAt fine lessN
  simp only [Bool.and_eq_true, Bool.or_eq_true, decide_eq_true_eq, and_assoc]
theorem good_of_all {l : List S38} (h : (List.range' 0 l.length).all (okAt l) = true) : good l := by
  have h' : ∀ j, j < l.length → okAt l j = true := fun j hj => List.all_eq_true.1 h j (by simp [List.mem_range'_1]; exact hj)
  refine ⟨asc_of l fun j hj => ?_, fun x hx => ?_⟩
  · have := ((okAt_iff l (j + 1)).1 (h' (j + 1) hj)).2
    rcases this with h0 | h1
    · omega
    · exact h1
  · obtain ⟨j, hj, rfl⟩ := rd_mem hx
    exact ((okAt_iff l j).1 (h' j hj)).1
theorem all_of_good {l : List S38} (h : good l) : (List.range' 0 l.length).all (okAt l) = true := by
  refine List.all_eq_true.2 fun j hj => ?_
  have hj' : j < l.length := by simp [List.mem_range'_1] at hj; exact hj
  refine (okAt_iff l j).2 ⟨?_, ?_⟩
  · rw [rd_at l j hj']; exact h.2 _ (List.getElem_mem hj')
  · rcases Nat.eq_zero_or_pos j with h0 | h0
    · exact .inl h0
    · right
      rw [rd_at l (j - 1) (by omega), rd_at l j hj']
      exact List.pairwise_iff_getElem.1 h.1 (j - 1) j (by omega) hj' (by omega)
theorem may_good {l : List S38} (h : good l) (hl : l.length ≤ 1000000) : ∃ k, files_May.f k l = some true := by
  obtain ⟨k, hk⟩ := mayA l hl l.length 0 (by omega)
  rw [all_of_good h] at hk
  exact ⟨k, hk⟩
theorem may_tells (l : List S38) (hl : l.length ≤ 1000000) : ∃ k b, files_May.f k l = some b ∧ (b = true → good l) := by
  obtain ⟨k, hk⟩ := mayA l hl l.length 0 (by omega)
  exact ⟨k, _, hk, fun h => good_of_all h⟩
theorem good_filter {l : List S38} (h : good l) (p : S38 → Bool) : good (l.filter p) := ⟨List.Pairwise.sublist List.filter_sublist h.1, fun x hx => h.2 x (List.mem_filter.1 hx).1⟩
theorem asc_insert (x : S38) : ∀ l : List S38, asc l → (∀ y ∈ l, y.f0.toList ≠ x.f0.toList) → asc (insertAt x l)
  | [], _, _ => by simp [insertAt, asc]
  | y :: l, h, hn => by
    have hy := List.pairwise_cons.1 h
    unfold insertAt
    split
    · rename_i hlt
      refine List.pairwise_cons.2 ⟨fun z hz => ?_, h⟩
      rcases List.mem_cons.1 hz with rfl | hz
      · exact hlt
      · exact less_trans _ _ _ hlt (hy.1 z hz)
    · rename_i hlt
      have hyx : lessN y x := by
        unfold lessN
        rw [less_turn x.f0.toList y.f0.toList]
        have e1 : Op.bytesLess x.f0.toList y.f0.toList = false := by simpa using hlt
        have e2 : (x.f0.toList == y.f0.toList) = false := beq_eq_false_iff_ne.mpr fun e => hn y (by simp) e.symm
        rw [e1, e2]; rfl
      refine List.pairwise_cons.2 ⟨fun z hz => ?_, asc_insert x l hy.2 fun z hz => hn z (by simp [hz])⟩
      rcases (insertAt_mem _ _ _).1 hz with rfl | hz
      · exact hyx
      · exact hy.1 z hz
theorem good_put {l : List S38} (h : good l) {n : ByteArray} {d : List Int} (hn : 1 ≤ n.size ∧ n.size ≤ 40) (hd : d.length ≤ 65536) : good (putL l n d) := by
  unfold putL
  refine ⟨asc_insert _ _ (good_filter h _).1 fun y hy => ?_, fun x hx => ?_⟩
  · have := (List.mem_filter.1 hy).2
    simpa [named] using this
  · rcases (insertAt_mem _ _ _).1 hx with rfl | hx
    · exact ⟨hn.1, hn.2, hd⟩
    · exact h.2 x (List.mem_filter.1 hx).1
theorem find_self {l : List S38} (h : asc l) {x : S38} (hx : x ∈ l) : l.find? (named x.f0) = some x := by
  induction l with
  | nil => simp at hx
  | cons y l ih =>
    have hy := List.pairwise_cons.1 h
    rw [List.find?_cons]
    rcases List.mem_cons.1 hx with rfl | hx
    · rw [show named x.f0 x = true from by simp [named]]
    · have h1 := hy.1 x hx
      have : named x.f0 y = false := by
        unfold named
        refine beq_eq_false_iff_ne.mpr fun e => ?_
        unfold lessN at h1
        rw [e, less_irrefl] at h1
        cases h1
      rw [this]
      exact ih hy.2 hx
theorem get_stays {l : List S38} (h : asc l) {x : S38} (hx : x ∈ l) {n : ByteArray} (d : List Int) (hn : x.f0.toList ≠ n.toList) : getL (putL l n d) x.f0 = (x.f1, true) := by
  refine getL_some ?_
  rw [find_put_other l d (fun e => hn e.symm)]
  exact find_self (List.Pairwise.sublist List.filter_sublist h) (List.mem_filter.2 ⟨hx, by simp [named, hn]⟩)

theorem stay_l (l p dr m n : List S38) (e : Int) (b : List Int) (nm : ByteArray) (d : List Int) (hl : l.length ≤ 1000000) (hp : p = putL l nm d) (hasc : asc l) (tp : tame p) (k0 : Nat)
    (hend : gambrellaw17_FilesStay.l0 (k0 + 1) l true p dr m n e b true false (l.length : Int) nm d = some true) :
    ∀ c i : Nat, i + c = l.length → ∃ k, gambrellaw17_FilesStay.l0 k l true p dr m n e b true false i nm d = some true
  | 0, i, hi => ⟨k0 + 1, by rw [show (i : Int) = (l.length : Int) by omega]; exact hend⟩
  | c + 1, i, hi => by
    obtain ⟨k, hk⟩ := stay_l l p dr m n e b nm d hl hp hasc tp k0 hend c (i + 1) (by omega)
    refine ⟨k + 1, ?_⟩
    have hx : rd_T38 l (i : Int) ∈ l := by rw [rd_at l i (by omega)]; exact List.getElem_mem _
    rw [gambrellaw17_FilesStay.l0, if_pos (by omega), if_pos (by omega), get_of tp, Option.bind_some]
    by_cases h : ((rd_T38 l (i : Int)).f0).toList = nm.toList
    · rw [if_pos h, wrap_nat i (by omega), hk]
    · rw [if_neg h, hp, get_stays hasc hx d h, if_pos rfl, if_pos rfl, wrap_nat i (by omega), ← hp, hk]

theorem files_stay_true (l : List S38) (nm : ByteArray) (d : List Int) (wn : ByteArray) (kind off : Int) (wd : List Int) (hg : good l) (hl : l.length ≤ 30) (hd : ∀ x ∈ l, x.f1.length ≤ 1000) (hn : 1 ≤ nm.size ∧ nm.size ≤ 40) (hdl : d.length ≤ 1000) (hwl : wd.length ≤ 1000) :
    ∃ k, gambrellaw17_FilesStay.j0 k l true false nm d wn kind off wd = some true := by
  have tl : tame l := ⟨by omega, hd⟩
  have hf := List.length_filter_le (fun x => !named nm x) l
  have hfw := List.length_filter_le (fun x => !named wn x) l
  have pl := put_len l nm d
  have tp : tame (putL l nm d) := ⟨by omega, put_data hd hdl⟩
  have hput : files_Put.f l nm d = some (putL l nm d) := by unfold files_Put.f; rw [if_pos ⟨by omega, by omega⟩]
  have hdrop : files_Drop.f l nm = some (l.filter fun y => !named nm y) := by unfold files_Drop.f; rw [if_pos (by omega)]
  have hdrop2 : files_Drop.f (putL l nm d) nm = some (l.filter fun y => !named nm y) := by
    unfold files_Drop.f
    rw [if_pos (by omega)]
    unfold putL
    rw [filter_insertAt_no _ _ (by simp [named_self]), List.filter_filter]
    congr 1
    exact List.filter_congr fun x _ => by simp
  obtain ⟨M, c, hM, gM, lM⟩ : ∃ M c, files_Move.f l wn nm = some (M, c) ∧ good M ∧ M.length ≤ 40 := by
    unfold files_Move.f
    rw [get_of tl wn, Option.bind_some]
    cases e : l.find? (named wn) with
    | none =>
      rw [getL_none e]
      have hc : slices_CloneF.f l = some l := by unfold slices_CloneF.f; rw [if_pos (by omega)]
      exact ⟨l, false, by simp [hc], hg, by omega⟩
    | some x =>
      rw [getL_some e]
      have hxd : x.f1.length ≤ 1000 := hd x (List.mem_of_find?_eq_some e)
      have h1 : files_Drop.f l wn = some (l.filter fun y => !named wn y) := by unfold files_Drop.f; rw [if_pos (by omega)]
      have h2 : files_Put.f (l.filter fun y => !named wn y) nm x.f1 = some (putL (l.filter fun y => !named wn y) nm x.f1) := by unfold files_Put.f; rw [if_pos ⟨by omega, by omega⟩]
      have := put_len (l.filter fun y => !named wn y) nm x.f1
      exact ⟨putL (l.filter fun y => !named wn y) nm x.f1, true, by simp [h1, h2], good_put (good_filter hg _) hn (by omega), by omega⟩
  have ho := oldOf_leq hd wn
  obtain ⟨D, e, hD, gD, lD⟩ : ∃ D e, files_Do.f l wn kind off wd (-1) = some (D, e) ∧ (e = 0 → good D) ∧ D.length ≤ 40 := by
    unfold files_Do.f
    rw [if_pos ⟨by omega, by omega, fun x hx => by have := hd x hx; omega⟩]
    split
    · exact ⟨[], 1, rfl, (fun h => absurd h (by decide)), by simp⟩
    · rename_i hbad
      unfold doRes
      split
      · exact ⟨[], 11, rfl, (fun h => absurd h (by decide)), by simp⟩
      · rename_i hfit
        split
        · exact ⟨l, 0, rfl, fun _ => hg, by omega⟩
        · refine ⟨_, 0, rfl, fun _ => good_put hg (by omega) ?_, by have := put_len l wn (overlay (if kind.toNat = 1 then [] else oldOf l wn) (frmOf kind off (oldOf l wn)).toNat (keptOf wd (-1))); omega⟩
          have h0 : 0 ≤ frmOf kind off (oldOf l wn) := by unfold frmOf; split; omega; split <;> omega
          have hk : keptOf wd (-1) = wd := by simp [keptOf]
          rw [hk] at hfit ⊢
          unfold overlay
          simp only [List.length_append, List.length_take, List.length_drop, List.length_replicate]
          split <;> ((try simp only [List.length_nil]); omega)
  obtain ⟨k1, h1⟩ := may_good (good_put hg hn (show d.length ≤ 65536 by omega)) (by omega)
  obtain ⟨k2, h2⟩ := may_good (good_filter hg fun y => !named nm y) (by omega)
  obtain ⟨k3, h3⟩ := may_good gM (by omega)
  obtain ⟨k4, h4⟩ : ∃ k, e = 0 → files_May.f k D = some true := by
    by_cases h : e = 0
    · obtain ⟨k, hk⟩ := may_good (gD h) (by omega); exact ⟨k, fun _ => hk⟩
    · exact ⟨0, fun h' => absurd h' h⟩
  obtain ⟨K, hK⟩ : ∃ K, K = k1 + k2 + k3 + k4 := ⟨_, rfl⟩
  have e1 := at_rounds (files_May.mono _) (show k1 ≤ K by omega) h1
  have e2 := at_rounds (files_May.mono _) (show k2 ≤ K by omega) h2
  have e3 := at_rounds (files_May.mono _) (show k3 ≤ K by omega) h3
  have e4 : e = 0 → files_May.f K D = some true := fun h => at_rounds (files_May.mono _) (show k4 ≤ K by omega) (h4 h)
  have hend : gambrellaw17_FilesStay.l0 (K + 1) l true (putL l nm d) (l.filter fun y => !named nm y) M D e d true false (l.length : Int) nm d = some true := by
    rw [gambrellaw17_FilesStay.l0, if_neg (by omega), if_pos rfl, e1, Option.bind_some, if_pos rfl, e2, Option.bind_some, if_pos rfl, e3, Option.bind_some, if_pos rfl]
    by_cases h : e = 0
    · rw [if_pos h, e4 h, Option.bind_some, if_pos rfl, if_pos rfl, if_pos rfl, if_neg (by decide), hdrop2, Option.bind_some, files_Same.f, sameL_refl]
      rfl
    · rw [if_neg h, if_pos rfl, if_pos rfl, if_neg (by decide), hdrop2, Option.bind_some, files_Same.f, sameL_refl]
      rfl
  obtain ⟨k, hk⟩ := stay_l l (putL l nm d) (l.filter fun y => !named nm y) M D e d nm d (by omega) rfl hg.1 tp K hend l.length 0 (by omega)
  refine ⟨k + 1, ?_⟩
  rw [gambrellaw17_FilesStay.j0, if_neg (by decide), hput, Option.bind_some, hdrop, Option.bind_some, hM, Option.bind_some, gambrellaw17_made.f, Option.bind_some]
  simp only [hD, Option.bind_some, get_of tp nm, get_of (tame_filter tl fun y => !named nm y) nm, getL_some (find_put l nm d), getL_none (find_filter_self l nm)]
  exact hk

theorem files_stay (l : List S38) (nm : ByteArray) (d : List Int) (wn : ByteArray) (kind off : Int) (wd : List Int) : ∃ k, gambrellaw17_FilesStay.f k l nm d wn kind off wd = some true := by
  obtain ⟨k1, b1, h1, g1⟩ := few_ends l
  have ht : ∀ k, gambrellaw17_FilesStay.j0 (k + 1) l true true nm d wn kind off wd = some true := fun k => by rw [gambrellaw17_FilesStay.j0, if_pos rfl]
  cases b1 with
  | false =>
    refine ⟨k1 + 1, ?_⟩
    unfold gambrellaw17_FilesStay.f
    rw [at_rounds (gambrelref17_Few.mono l) (by omega) h1]
    simp [gambrellaw17_awake.f, ht]
  | true =>
    obtain ⟨hl, hsm⟩ := g1 rfl
    obtain ⟨k2, b2, h2, g2⟩ := may_tells l (by omega)
    cases b2 with
    | false =>
      refine ⟨k1 + k2 + 1, ?_⟩
      unfold gambrellaw17_FilesStay.f
      rw [at_rounds (gambrelref17_Few.mono l) (show k1 ≤ k1 + k2 + 1 by omega) h1, at_rounds (files_May.mono l) (show k2 ≤ k1 + k2 + 1 by omega) h2]
      simp [gambrellaw17_awake.f, ht]
    | true =>
      by_cases c : (1 ≤ nm.size ∧ nm.size ≤ 40) ∧ d.length ≤ 1000 ∧ wd.length ≤ 1000
      · obtain ⟨k3, h3⟩ := files_stay_true l nm d wn kind off wd (g2 rfl) hl (fun x hx => (hsm x hx).2) c.1 c.2.1 c.2.2
        refine ⟨k1 + k2 + k3, ?_⟩
        unfold gambrellaw17_FilesStay.f
        rw [at_rounds (gambrelref17_Few.mono l) (show k1 ≤ k1 + k2 + k3 by omega) h1, at_rounds (files_May.mono l) (show k2 ≤ k1 + k2 + k3 by omega) h2]
        simp only [gambrellaw17_awake.f, Option.bind_some, if_true]
        rw [if_neg (by omega), if_neg (by omega), if_neg (by omega), decide_eq_false (by omega)]
        exact at_rounds (fun k => (gambrellaw17_FilesStay.mono_l k).1 _ _ _ _ _ _ _ _ _) (show k3 ≤ k1 + k2 + k3 by omega) h3
      · refine ⟨k1 + k2 + 1, ?_⟩
        unfold gambrellaw17_FilesStay.f
        rw [at_rounds (gambrelref17_Few.mono l) (show k1 ≤ k1 + k2 + 1 by omega) h1, at_rounds (files_May.mono l) (show k2 ≤ k1 + k2 + 1 by omega) h2]
        simp only [gambrellaw17_awake.f, Option.bind_some, if_true]
        split
        · exact ht _
        · split
          · exact ht _
          · split
            · exact ht _
            · rw [decide_eq_true (by omega)]; exact ht _
end Go.Proofs.Ytcgeioingikeeaa.P
