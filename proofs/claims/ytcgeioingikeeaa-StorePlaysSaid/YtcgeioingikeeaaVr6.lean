/- Cut out of this seat's own texts and of the words that the kit's print laid for it, by a program of this seat (wip/tools/shake.py): what the claim needs of them. -/
import Derived.Test.YtcgeioingikeeaaVr5
import Derived.Laws.StructEq
import Derived.Deep.RegionHeld3
open Go.RowKit Go.Proofs.YtcgeioingikeeaaW.PrintWords Go.Proofs.YtcgeioingikeeaaW.PrintLast Go.Proofs.YtcgeioingikeeaaW.PrintMore
set_option linter.unusedSimpArgs false
set_option linter.unusedVariables false
set_option maxHeartbeats 16000000
set_option maxRecDepth 100000
namespace Go.Proofs.Ytcgeioingikeeaa.P
section
def lay (y : List Int) (F : Nat) (kept : List Int) (i : Nat) : List Int := y.take F ++ kept.take i ++ y.drop (F + i)
theorem lay_len {y kept : List Int} {F i : Nat} (hF : F ≤ y.length) (hi : i ≤ kept.length) : (lay y F kept i).length = F + i + (y.length - (F + i)) := by
 unfold lay
 simp only [List.length_append, List.length_take, List.length_drop]
 omega
theorem lay_set {y kept : List Int} {F i : Nat} (hF : F ≤ y.length) (hi : i < kept.length) (h : F + i < y.length) : (lay y F kept i).set (F + i) (rd kept (i : Int)) = lay y F kept (i + 1) := by
 unfold lay
 have hl : (y.take F ++ kept.take i).length = F + i := by simp only [List.length_append, List.length_take]; omega
 have hr : rd kept (i : Int) = kept[i] := by simp [rd, hi]
 rw [List.set_append_right _ _ (by omega), hl, Nat.sub_self, List.drop_eq_getElem_cons h, List.set_cons_zero, hr, List.take_succ_eq_append_getElem hi]
 simp only [List.append_assoc, List.singleton_append, Nat.add_assoc]
theorem lay_add {y kept : List Int} {F i : Nat} (hF : F ≤ y.length) (hi : i < kept.length) (h : ¬ F + i < y.length) : lay y F kept i ++ [rd kept (i : Int)] = lay y F kept (i + 1) := by
 unfold lay
 have hr : rd kept (i : Int) = kept[i] := by simp [rd, hi]
 rw [List.drop_eq_nil_of_le (show y.length ≤ F + i by omega), List.drop_eq_nil_of_le (show y.length ≤ F + (i + 1) by omega), hr, List.take_succ_eq_append_getElem hi]
 simp
theorem Bq3 (n : Nat) (h : n < 4611686018427387904) : wrap64 (n : Int) = (n : Int) := by unfold wrap64; omega
theorem Bzn (l : List S38) (kept y : List Int) (F : Nat) (n : ByteArray) (kind off : Int) (wd : List Int) (hl : l.length ≤ 1000000) (hF : F ≤ y.length) (hy : y.length ≤ 200000) (hk : kept.length ≤ 200000) :
 ∀ m i : Nat, i + m = kept.length → ∃ k, Aq0.l1 k l kept (F : Int) (lay y F kept i) i n kind off wd = some (putL l n (lay y F kept kept.length), 0)
 | 0, i, hi => by
   obtain ⟨k, hp⟩ := refPut l n (lay y F kept kept.length) hl
   refine ⟨k + 1, ?_⟩
   rw [Aq0.l1, if_neg (by omega), show i = kept.length by omega, hp, Option.bind_some]
 | m + 1, i, hi => by
   obtain ⟨k, hk'⟩ := Bzn l kept y F n kind off wd hl hF hy hk m (i + 1) (by omega)
   have hlen := lay_len (y := y) (kept := kept) (F := F) (i := i) hF (by omega)
   refine ⟨k + 1, ?_⟩
   rw [Aq0.l1, if_pos (by omega), show (F : Int) + (i : Int) = ((F + i : Nat) : Int) by omega, Bq3 (F + i) (by omega)]
   by_cases h : F + i < y.length
   · rw [if_pos (by omega), if_pos (by omega), if_pos (by omega), Int.toNat_natCast, lay_set hF (by omega) h, Az5 i (by omega), hk']
   · rw [if_neg (by omega), if_pos (by omega), if_pos (by omega), lay_add hF (by omega) h, Az5 i (by omega), hk']
theorem Bzo (l : List S38) (kept : List Int) (F : Nat) (n : ByteArray) (kind off : Int) (wd : List Int) (hl : l.length ≤ 1000000) (hF : F ≤ 100000) (hk : kept.length ≤ 200000) :
 ∀ m : Nat, ∀ x : List Int, x.length ≤ 200000 → F - x.length = m → ∃ k, Aq0.l0 k l kept (F : Int) x n kind off wd = some (putL l n (lay (x ++ List.replicate m 0) F kept kept.length), 0)
 | 0, x, hx, hm => by
   obtain ⟨k, h1⟩ := Bzn l kept x F n kind off wd hl (by omega) hx hk kept.length 0 (by omega)
   refine ⟨k + 1, ?_⟩
   have e : lay x F kept 0 = x := by simp [lay]
   rw [e] at h1
   rw [Aq0.l0, if_neg (by omega)]
   simpa using h1
 | m + 1, x, hx, hm => by
   obtain ⟨k, h1⟩ := Bzo l kept F n kind off wd hl hF hk m (x ++ [0]) (by simp; omega) (by simp; omega)
   refine ⟨k + 1, ?_⟩
   rw [Aq0.l0, if_pos (by omega), if_pos (by omega), h1, List.append_assoc]
   rfl
theorem Bz9 (old kept : List Int) (F : Nat) : lay (old ++ List.replicate (F - old.length) 0) F kept kept.length = Aj1 old F kept := by
 unfold lay Aj1
 rw [List.take_length]
 congr 1
 by_cases h : F ≤ old.length
 · rw [Nat.sub_eq_zero_of_le h]; simp
 · rw [List.drop_eq_nil_of_le (by simp; omega), List.drop_eq_nil_of_le (by omega)]
theorem Bkq (d : List Int) (keep : Int) : Axp d keep = if 0 ≤ keep ∧ keep < (d.length : Int) then d.take keep.toNat else d := by
 unfold Axp
 by_cases h : keep ≥ 0
 · rw [if_pos h]
   by_cases h2 : keep < (d.length : Int)
   · rw [if_pos ⟨h, h2⟩]
   · rw [if_neg (fun c => h2 c.2), List.take_of_length_le (by omega)]
 · rw [if_neg h, if_neg (fun c => h c.1)]
end
section
theorem refDB_j4 (l : List S38) (n : ByteArray) (kind off : Int) (wd kept old : List Int) (frm : Int) (hl : l.length ≤ 1000000) (h0 : 0 ≤ frm) (hk : kept.length ≤ 2000) (ho : old.length ≤ 65536) (hkd : kind = 1 ∨ kind = 2 ∨ kind = 3) :
 ∃ k, Aq0.j4 k l kept old frm n kind off wd = some (Aze kind.toNat l n frm old wd kept) := by
 by_cases h1 : frm > 65536
 · refine ⟨2, ?_⟩
   rw [Aq0.j4, if_pos h1, Aq0.j5, if_pos rfl]
   unfold Aze
   rw [if_pos (.inl h1)]
 obtain ⟨F, rfl⟩ : ∃ F : Nat, frm = (F : Int) := ⟨frm.toNat, by omega⟩
 have hw : wrap64 ((F : Int) + (kept.length : Int)) = ((F + kept.length : Nat) : Int) := by rw [show (F : Int) + (kept.length : Int) = ((F + kept.length : Nat) : Int) by omega]; exact Bq3 _ (by omega)
 by_cases h2 : (F : Int) + (kept.length : Int) > 65536
 · refine ⟨2, ?_⟩
   rw [Aq0.j4, if_neg h1, hw, if_pos (by omega), Aq0.j5, if_pos rfl]
   unfold Aze
   rw [if_pos (.inr (.inl h2))]
 have hres : Aze kind.toNat l n (F : Int) old wd kept = if kept.length = 0 ∧ wd.length > 0 then (l, 0) else (putL l n (Aj1 (if kind.toNat = 1 then [] else old) F kept), 0) := by
  unfold Aze
  rw [if_neg (by omega), Int.toNat_natCast]
 rw [hres]
 have hj4 : ∀ k, Aq0.j4 (k + 1) l kept old (F : Int) n kind off wd = Aq0.j5 k l kept old (F : Int) false n kind off wd := by
  intro k
  rw [Aq0.j4, if_neg h1, hw, if_neg (by omega)]
  split
  · rw [decide_eq_false (by omega)]
  · rfl
 have hj5 : ∀ k, Aq0.j5 (k + 1) l kept old (F : Int) false n kind off wd = Aq0.j6 k l kept old (F : Int) (decide (kept.length = 0 ∧ wd.length > 0)) n kind off wd := by
  intro k
  rw [Aq0.j5, if_neg (by decide)]
  by_cases a : kept.length = 0
  · rw [if_pos (by omega)]
    congr 1
    exact decide_eq_decide.2 ⟨fun h => ⟨a, by omega⟩, fun h => by omega⟩
  · rw [if_neg (by omega), decide_eq_false (fun h => a h.1)]
 by_cases h3 : kept.length = 0 ∧ wd.length > 0
 · refine ⟨3, ?_⟩
   rw [hj4, hj5, decide_eq_true h3, Aq0.j6, if_pos rfl, if_pos h3]
 · rw [if_neg h3]
   obtain ⟨k, hk0⟩ := Bzo l kept F n kind off wd hl (by omega) (by omega) (F - (if kind.toNat = 1 then [] else old).length) (if kind.toNat = 1 then [] else old) (by split <;> first | omega | simp) rfl
   rw [Bz9] at hk0
   refine ⟨k + 4, ?_⟩
   rw [show k + 4 = k + 3 + 1 from rfl, hj4, show k + 3 = k + 2 + 1 from rfl, hj5, decide_eq_false h3, show k + 2 = k + 1 + 1 from rfl, Aq0.j6, if_neg (by decide)]
   by_cases h4 : kind = 1
   · rw [if_pos h4, Aq0.j7]
     rw [if_pos (by omega)] at hk0
     rw [if_pos (by omega)]
     exact hk0
   · rw [if_neg h4, if_pos (by simp; omega), Aq0.j7, List.nil_append]
     rw [if_neg (by omega)] at hk0
     rw [if_neg (by omega)]
     exact hk0
theorem refDB_j0 (l : List S38) (n : ByteArray) (kind off : Int) (wd : List Int) (keep : Int) (hl : l.length ≤ 1000000) (hd : ∀ x ∈ l, x.f1.length ≤ 65536) (hwd : wd.length ≤ 1000) (hkd : kind = 1 ∨ kind = 2 ∨ kind = 3) (hoff : kind = 3 → 0 ≤ off) :
 ∃ k, Aq0.j0 k l keep false n kind off wd = some (Aze kind.toNat l n (Akc kind off (Aj7 l n)) (Aj7 l n) wd (Axp wd keep)) := by
 have ho : (Aj7 l n).length ≤ 65536 := by
  unfold Aj7
  split
  · rename_i x hx; exact hd x (List.mem_of_find?_eq_some hx)
  · simp
 have hg : (getL l n).1 = Aj7 l n := by unfold getL Aj7; cases l.find? (Ax8 n) <;> rfl
 have hkl : (Axp wd keep).length ≤ 1000 := by rw [Bkq]; split <;> (try simp) <;> omega
 have h0 : 0 ≤ Akc kind off (Aj7 l n) := by
  unfold Akc
  rcases hkd with rfl | rfl | rfl
  · simp
  · simp
  · simpa using hoff rfl
 obtain ⟨k1, h1⟩ := refDB_j4 l n kind off wd (Axp wd keep) (Aj7 l n) (Akc kind off (Aj7 l n)) hl h0 (by omega) ho hkd
 obtain ⟨k2, h2⟩ := Bk8 l n hl
 obtain ⟨K, hK⟩ : ∃ K, K = k1 + k2 := ⟨_, rfl⟩
 have e1 : Aq0.j4 K l (Axp wd keep) (Aj7 l n) (Akc kind off (Aj7 l n)) n kind off wd = _ := Azw (fun k => (Aq0.mono_l k).2.2.2.2.1 _ _ _ _ _ _ _ _) (show k1 ≤ K by omega) h1
 have e2 := Azw (Aq9.mono l n) (show k2 ≤ K + 1 by omega) h2
 have hj2 : Aq0.j2 (K + 2) l (Axp wd keep) n kind off wd = some (Aze kind.toNat l n (Akc kind off (Aj7 l n)) (Aj7 l n) wd (Axp wd keep)) := by
  rw [Aq0.j2, e2, Option.bind_some, hg]
  rcases hkd with rfl | rfl | rfl
  · rw [if_neg (by decide), Aq0.j3, if_neg (by decide)]
    exact e1
  · rw [if_pos rfl, Aq0.j3, if_neg (by decide)]
    exact e1
  · rw [if_neg (by decide), Aq0.j3, if_pos rfl]
    exact e1
 have hj1 : ∀ b, (b = true ↔ 0 ≤ keep ∧ keep < (wd.length : Int)) → Aq0.j1 (K + 3) l keep wd b n kind off wd = some (Aze kind.toNat l n (Akc kind off (Aj7 l n)) (Aj7 l n) wd (Axp wd keep)) := by
  intro b hb
  rw [Aq0.j1]
  have hk' := Bkq wd keep
  cases b with
  | true =>
    have hb' := hb.1 rfl
    rw [if_pos hb'] at hk'
    rw [if_pos rfl, if_pos hb'.1, if_pos (by omega), ← hk', hj2]
  | false =>
    rw [if_neg (fun c => by cases hb.2 c)] at hk'
    rw [if_neg (by decide)]
    rw [hk'] at hj2 ⊢
    exact hj2
 refine ⟨K + 4, ?_⟩
 rw [Aq0.j0, if_neg (by decide)]
 by_cases a : keep ≥ 0
 · rw [if_pos a]
   exact hj1 _ ⟨fun h => ⟨a, of_decide_eq_true h⟩, fun h => decide_eq_true h.2⟩
 · rw [if_neg a]
   exact hj1 _ ⟨(fun h => by cases h), (fun h => absurd h.1 a)⟩
theorem refDB (l : List S38) (n : ByteArray) (kind off : Int) (wd : List Int) (keep : Int) (hl : l.length ≤ 1000) (hd : ∀ x ∈ l, x.f1.length ≤ 65536) (hwd : wd.length ≤ 1000) :
 ∃ k r, Aq0.f k l n kind off wd keep = some r ∧ Aj0.f l n kind off wd keep = some r := by
 have hj : ∀ k, Aq0.j0 (k + 1) l keep true n kind off wd = some ([], 1) := fun k => by rw [Aq0.j0, if_pos rfl]
 have hfd : Aj0.f l n kind off wd keep = if kind < 1 ∨ kind > 3 ∨ n.size < 1 ∨ n.size > 40 ∨ (kind = 3 ∧ off < 0) then some ([], 1) else some (Aze kind.toNat l n (Akc kind off (Aj7 l n)) (Aj7 l n) wd (Axp wd keep)) := by
  unfold Aj0.f
  rw [if_pos ⟨by omega, by omega, fun x hx => by have := hd x hx; omega⟩]
 by_cases c : kind < 1 ∨ kind > 3 ∨ n.size < 1 ∨ n.size > 40 ∨ (kind = 3 ∧ off < 0)
 · refine ⟨1, ([], 1), ?_, by rw [hfd, if_pos c]⟩
   unfold Aq0.f
   by_cases c1 : kind < 1
   · rw [if_pos c1, hj]
   by_cases c2 : kind > 3
   · rw [if_neg c1, if_pos c2, hj]
   by_cases c3 : (n.size : Int) < 1
   · rw [if_neg c1, if_neg c2, if_pos c3, hj]
   by_cases c4 : (n.size : Int) > 40
   · rw [if_neg c1, if_neg c2, if_neg c3, if_pos c4, hj]
   rw [if_neg c1, if_neg c2, if_neg c3, if_neg c4, if_pos (by omega), decide_eq_true (by omega), hj]
 · obtain ⟨k, hk⟩ := refDB_j0 l n kind off wd keep (by omega) hd hwd (by omega) (by omega)
   refine ⟨k, _, ?_, by rw [hfd, if_neg c]⟩
   unfold Aq0.f
   rw [if_neg (by omega), if_neg (by omega), if_neg (by omega), if_neg (by omega)]
   split
   · rw [decide_eq_false (by omega)]; exact hk
   · exact hk
theorem refDoT (l : List S38) (x : S31) (keep : Int) (hl : l.length ≤ 1000) (hd : okL l) (hx : x.f3.length ≤ 1000) : ∃ k, Aq0.f k l x.f0 x.f1 x.f2 x.f3 keep = some (doT l x keep) := by
 obtain ⟨k, r, h1, h2⟩ := refDB l x.f0 x.f1 x.f2 x.f3 keep hl hd hx
 rw [Bxd l x keep (by omega) hd (by omega)] at h2
 exact ⟨k, by rw [h1, ← Option.some.inj h2]⟩
end
section
attribute [local go_sem] Axk Axr Az3 Az7 Axj Axi Axz Axy
def Ax0.l0 : Nat → List Int → Int → Int → Option (Bool)
 | 0, _, _, _ => none
 | k + 1, x0, x1, x5 => if x5 < (x0.length : Int) then (if 0 ≤ x5 then (if (rd x0 x5) = x1 then (some true) else (Ax0.l0 k x0 x1 (wrap64 (x5 + 1)))) else (none)) else (some false)
def Ax0.f (k : Nat) (l0 : List Int) (a1 : Int) : Option (Bool) := Ax0.l0 k l0 a1 0
theorem Ax0.calls (k : Nat) (A0 : Option Addr) (c0 : Nat) (l0 : List Int) (a1 : Int) (r : Bool) (w : World) (hr0 : Kd.C (Kd.int .i64) w A0 l0.length l0) (hc0 : l0.length ≤ c0) (h : Ax0.f k l0 a1 = some r) :
 Calls Try.prog 98 #[.slice A0 l0.length c0, .int .i64 a1] w fun e w' => e = .returned (.bool r) ∧ Axa w w' := by
 have HR0 := Bvh hr0
 have HC0 := Bvh hc0
 clear hr0 hc0
 have H : (Ax0.l0 k l0 a1 0) = some r := h
 clear h
 have H' := Bvh H
 clear H
 go_enter Try.func98, Try.ntmps98
 go_wp2
 go_loopg [5] k (fun kq v5 w' => ∃ (x5_1 : Int), v5 = .int .i64 x5_1 ∧ Aside0 (Ax0.l0 kq l0 a1 x5_1 = some r) ∧ Aside0 (kq ≤ k) ∧ Axa w w')
 case atStart => exact ⟨(0), rfl, H', ⟨Nat.le_refl _⟩, by repeat (first | exact Axa.refl _ | apply Axa.step)⟩
 case round =>
  clear H'
  obtain ⟨x5_1, rfl, HA, HK1, ⟨m1, rfl⟩⟩ := hrel
  cases gk with
  | zero => exact absurd HA.out (by simp [Ax0.l0])
  | succ k1 =>
    have H := HA.out
    clear HA
    simp only [Ax0.l0] at H
    by_cases c3 : x5_1 < (l0.length : Int)
    · rw [if_pos c3] at H
      have c3b0 : decide (x5_1 < (l0.length : Int)) = true := decide_eq_true c3
      clear c3
      by_cases c4 : 0 ≤ x5_1
      · rw [if_pos c4] at H
        have c4b0 : decide (0 ≤ x5_1) = true := decide_eq_true c4
        clear c4
        by_cases c5 : (rd l0 x5_1) = a1
        · rw [if_pos c5] at H
          have c5b0 : ((rd l0 x5_1) == a1) = true := beq_iff_eq.mpr c5
          have c5b1 : ((rd l0 x5_1) != a1) = false := bne_eq_false_iff_eq.mpr c5
          clear c5
          obtain rfl := Option.some.inj H
          have p423 : 0 ≤ (x5_1 : Int) := of_decide_eq_true (by first | (with_reducible assumption) | assumption)
          have q423 : x5_1 < (l0.length : Int) := of_decide_eq_true (by first | (with_reducible assumption) | assumption)
          obtain ⟨ad423, e423, hx423_0⟩ := Kd.at_int HR0.out x5_1 p423 q423
          cases e423
          replace p423 := eq_true p423
          replace q423 := eq_true q423
          go_wp2
          go_ret
          exact ⟨by first | rfl | (simp; done) | (simp [*]; done), by repeat (first | exact Axa.refl _ | apply Axa.step)⟩
        · rw [if_neg c5] at H
          have c5b0 : ((rd l0 x5_1) == a1) = false := beq_eq_false_iff_ne.mpr c5
          have c5b1 : ((rd l0 x5_1) != a1) = true := bne_iff_ne.mpr c5
          have H' := Bvh H
          clear H
          have p423 : 0 ≤ (x5_1 : Int) := of_decide_eq_true (by first | (with_reducible assumption) | assumption)
          have q423 : x5_1 < (l0.length : Int) := of_decide_eq_true (by first | (with_reducible assumption) | assumption)
          obtain ⟨ad423, e423, hx423_0⟩ := Kd.at_int HR0.out x5_1 p423 q423
          cases e423
          replace p423 := eq_true p423
          replace q423 := eq_true q423
          go_wp2
          go_roundg k1
          case measure => have := HK1.out; omega
          case rel => exact ⟨(wrap64 (x5_1 + 1)), rfl, H', ⟨by have := HK1.out; omega⟩, by repeat (first | exact Axa.refl _ | apply Axa.step)⟩
      · rw [if_neg c4] at H
        exact absurd H (by simp)
    · rw [if_neg c3] at H
      have c3b0 : decide (x5_1 < (l0.length : Int)) = false := decide_eq_false c3
      clear c3
      obtain rfl := Option.some.inj H
      go_wp2
      go_ret
      exact ⟨by first | rfl | (simp; done) | (simp [*]; done), by repeat (first | exact Axa.refl _ | apply Axa.step)⟩
end
section
attribute [local go_sem] Axk Axr Az3 Az7 Axj Axi Axz Axy
def Aqm.l0 : Nat → List (S38) → Int → List (S38) → List (S25) → Int → Int → List Int → Int → Bool → Int → Option ((List (S38)))
 | 0, _, _, _, _, _, _, _, _, _, _ => none
 | k + 1, x3, x4, x403000, x403001, x403002, x403003, x403004, x403005, x403006, x403007 => if x4 < (x403001.length : Int) then (if 0 ≤ x4 then ((Aq0.f k x3 ((Aqr x403001 x4).f0) ((Aqr x403001 x4).f1) ((Aqr x403001 x4).f2) ((Aqr x403001 x4).f3) (-1)).bind fun bt404 => (if bt404.2 = 0 then (Aqm.l0 k bt404.1 (wrap64 (x4 + 1)) x403000 x403001 x403002 x403003 x403004 x403005 x403006 x403007) else (Aqm.l0 k x3 (wrap64 (x4 + 1)) x403000 x403001 x403002 x403003 x403004 x403005 x403006 x403007))) else (none)) else (some x3)
def Aqm.f (k : Nat) (l0_0 : List (S38)) (l0_1 : List (S25)) (a0_2 : Int) (a0_3 : Int) (l0_4 : List Int) (a0_5 : Int) (a0_6 : Bool) (a0_7 : Int) : Option ((List (S38))) := Aqm.l0 k l0_0 0 l0_0 l0_1 a0_2 a0_3 l0_4 a0_5 a0_6 a0_7
theorem Aqm.mono_l : ∀ k, (∀ y0 y1 y2 y3 y4 y5 y6 y7 y8 y9, LeO (Aqm.l0 k y0 y1 y2 y3 y4 y5 y6 y7 y8 y9) (Aqm.l0 (k + 1) y0 y1 y2 y3 y4 y5 y6 y7 y8 y9))
 | 0 => fun _ _ _ _ _ _ _ _ _ _ r h => by simp [Aqm.l0] at h
 | k + 1 => by
   have ih0 := Aqm.mono_l k
   · intro y0 y1 y2 y3 y4 y5 y6 y7 y8 y9
     unfold Aqm.l0
     repeat' first
     | (with_reducible exact ih0 _ _ _ _ _ _ _ _ _ _)
     | (with_reducible exact Aq0.mono _ _ _ _ _ _ _)
     | (with_reducible exact LeO.refl _)
     | (with_reducible exact LeO.none _)
     | (with_reducible refine LeO.ite ?_ ?_)
     | (with_reducible refine LeO.bind ?_ (fun _ => ?_))
     | exact ih0 _ _ _ _ _ _ _ _ _ _
     | exact Aq0.mono _ _ _ _ _ _ _
     | exact LeO.none _
     | refine LeO.ite ?_ ?_
     | refine LeO.bind ?_ (fun _ => ?_)
theorem Aqm.calls (k : Nat) (P0_0_ : Nat → Prop) (A0_0 : Option Addr) (c0_0 : Nat) (l0_0 : List (S38)) (P0_1_ : Nat → Prop) (A0_1 : Option Addr) (c0_1 : Nat) (l0_1 : List (S25)) (a0_2 : Int) (a0_3 : Int) (A0_4 : Option Addr) (c0_4 : Nat) (l0_4 : List Int) (a0_5 : Int) (a0_6 : Bool) (a0_7 : Int) (r : List (S38)) (w : World) (hs0_0 : Kd.V k38 38 w w.heap.size (fun k_ => P0_0_ k_) (.slice A0_0 l0_0.length c0_0) l0_0) (hs0_1 : Kd.V k25 25 w w.heap.size (fun k_ => P0_1_ k_) (.slice A0_1 l0_1.length c0_1) l0_1) (hr0_4 : Kd.C (Kd.int .i64) w A0_4 l0_4.length l0_4) (hc0_4 : l0_4.length ≤ c0_4) (h : Aqm.f k l0_0 l0_1 a0_2 a0_3 l0_4 a0_5 a0_6 a0_7 = some r) :
 Calls Try.prog 51 #[.agg #[.slice A0_0 l0_0.length c0_0, .slice A0_1 l0_1.length c0_1, .int .i64 a0_2, .int .i64 a0_3, .slice A0_4 l0_4.length c0_4, .int .i64 a0_5, .bool a0_6, .int .i64 a0_7]] w fun e w' => ∃ v0_ : Value, e = .returned (v0_) ∧ Kd.V k38 38 w' w.heap.size (fun k_ => ((P0_0_ k_ ∨ P0_1_ k_) ∨ w.heap.size ≤ k_)) v0_ r ∧ Below w.heap.size w w' := by
 have hu71 := Try.underlying71
 have hu25 := Try.underlying25
 have HO0_0 := Bvh (show Kd.V k38 38 w w.heap.size (fun k_ => ((P0_0_ k_ ∨ P0_1_ k_) ∨ w.heap.size ≤ k_)) (.slice A0_0 l0_0.length c0_0) l0_0 from Kd.V_mono hs0_0 (fun k_ hk => .inl (.inl hk)))
 have HO0_1 := Bvh (show Kd.V k25 25 w w.heap.size (fun k_ => ((P0_0_ k_ ∨ P0_1_ k_) ∨ w.heap.size ≤ k_)) (.slice A0_1 l0_1.length c0_1) l0_1 from Kd.V_mono hs0_1 (fun k_ hk => .inl (.inr hk)))
 have HR0_4 := Bvh hr0_4
 have HC0_4 := Bvh hc0_4
 clear hr0_4 hc0_4
 have HB := Bvh (Below.refl w.heap.size w)
 have H : (Aqm.l0 k l0_0 0 l0_0 l0_1 a0_2 a0_3 l0_4 a0_5 a0_6 a0_7) = some r := h
 clear h
 have H' := Bvh H
 clear H
 go_enter Try.func51, Try.ntmps51
 go_wp2_with (first | ((with_reducible refine Ax1 (N := 1) rfl ?_); refine Axd ?hg (N := 1) ?hd (cs := #[.slice A0_0 l0_0.length c0_0, .slice A0_1 l0_1.length c0_1, .int .i64 a0_2, .int .i64 a0_3, .slice A0_4 l0_4.length c0_4, .int .i64 a0_5, .bool a0_6, .int .i64 a0_7]) (t := 71) ?hr ?_; (case hd => rfl); (case hg => rfl); (case hr => first | (go_simp; done) | (go_simp; rfl)); intro gb402 hg w2 hbox hb; have n0_ := Bvh (Kd.V_below (Kd.V_elderB (by (with_reducible repeat (first | apply Kd.V_alloc | apply Kd.V_drewN | apply Kd.V_drew)); exact HO0_0.out) gb402 (Nat.le_of_eq hg.symm)) hb); have n1_ := Bvh (Kd.V_below (Kd.V_elderB (by (with_reducible repeat (first | apply Kd.V_alloc | apply Kd.V_drewN | apply Kd.V_drew)); exact HO0_1.out) gb402 (Nat.le_of_eq hg.symm)) hb); have n2_ := Bvh (Aq1 (by repeat (first | (with_reducible first | exact HB.out | apply Aq4 | apply Aq7 | apply Aq5) | exact HB.out)) hb); have n3_ := Bvh (hbox); have n4_ := Bvh ((by rw [hg]; exact (Aqb (by repeat (first | (with_reducible first | exact HB.out | apply Aq4 | apply Aq7 | apply Aq5) | exact HB.out))) : w.heap.size ≤ gb402)); have n5_ := Bvh ((by rw [hg]; exact (Aqb (by repeat (first | (with_reducible first | exact HB.out | apply Aq4 | apply Aq7 | apply Aq5) | exact HB.out))) : w.heap.size ≤ gb402)); clear HO0_0; clear HO0_1; clear HB; have HO0_0 := n0_; have HO0_1 := n1_; have HB := n2_; have BK402 := n3_; have GW402 := n4_; have GE402 := n5_; clear n0_ n1_ n2_ n3_ n4_ n5_; clear hb hbox hg; have hcz3_0 : w2.cell? ⟨gb402, 0, none⟩ = some (.slice A0_0 l0_0.length c0_0) := (Aq3 BK402.out 0).trans rfl; have hcz3_1 : w2.cell? ⟨gb402, 1, none⟩ = some (.slice A0_1 l0_1.length c0_1) := (Aq3 BK402.out 1).trans rfl; have hcz3_2 : w2.cell? ⟨gb402, 2, none⟩ = some (.int .i64 a0_2) := (Aq3 BK402.out 2).trans rfl; have hcz3_3 : w2.cell? ⟨gb402, 3, none⟩ = some (.int .i64 a0_3) := (Aq3 BK402.out 3).trans rfl; have hcz3_4 : w2.cell? ⟨gb402, 4, none⟩ = some (.slice A0_4 l0_4.length c0_4) := (Aq3 BK402.out 4).trans rfl; have hcz3_5 : w2.cell? ⟨gb402, 5, none⟩ = some (.int .i64 a0_5) := (Aq3 BK402.out 5).trans rfl; have hcz3_6 : w2.cell? ⟨gb402, 6, none⟩ = some (.bool a0_6) := (Aq3 BK402.out 6).trans rfl; have hcz3_7 : w2.cell? ⟨gb402, 7, none⟩ = some (.int .i64 a0_7) := (Aq3 BK402.out 7).trans rfl; have hfz3_0 := Aq2 BK402.out 0; have hfz3_1 := Aq2 BK402.out 1; have hfz3_2 := Aq2 BK402.out 2; have hfz3_3 := Aq2 BK402.out 3; have hfz3_4 := Aq2 BK402.out 4; have hfz3_5 := Aq2 BK402.out 5; have hfz3_6 := Aq2 BK402.out 6; have hfz3_7 := Aq2 BK402.out 7))
 go_loopg [3, 4] k (fun kq v3 v4 w' => ∃ (x3_1 : List (S38)) (x4_1 : Int), v4 = .int .i64 x4_1 ∧ Aside0 (Aqm.l0 kq x3_1 x4_1 l0_0 l0_1 a0_2 a0_3 l0_4 a0_5 a0_6 a0_7 = some r) ∧ Aside0 (kq ≤ k) ∧ Aside0 (Kd.V k38 38 w' w.heap.size (fun k_ => ((P0_0_ k_ ∨ P0_1_ k_) ∨ w.heap.size ≤ k_) ∧ k_ ≠ gb402) v3 x3_1) ∧ Aside0 (Kd.V k38 38 w' w.heap.size (fun k_ => ((P0_0_ k_ ∨ P0_1_ k_) ∨ w.heap.size ≤ k_) ∧ k_ ≠ gb402) (.slice A0_0 l0_0.length c0_0) l0_0) ∧ Aside0 (Kd.V k25 25 w' w.heap.size (fun k_ => ((P0_0_ k_ ∨ P0_1_ k_) ∨ w.heap.size ≤ k_) ∧ k_ ≠ gb402) (.slice A0_1 l0_1.length c0_1) l0_1) ∧ Aside0 (w'.heap[gb402]? = some (.cells #[(.slice A0_0 l0_0.length c0_0), (.slice A0_1 l0_1.length c0_1), .int .i64 a0_2, .int .i64 a0_3, (.slice A0_4 l0_4.length c0_4), .int .i64 a0_5, .bool a0_6, .int .i64 a0_7] 71 (0, 0))) ∧ Aside0 (Below w.heap.size w w'))
 case atStart => exact ⟨(l0_0), (0), (by first | rfl | (simp; done) | (simp [*]; done)), H', ⟨Nat.le_refl _⟩, ⟨by (with_reducible repeat (first | apply Kd.V_alloc | apply Kd.V_drewN | apply Kd.V_drew)); exact HO0_0.out⟩, ⟨by (with_reducible repeat (first | apply Kd.V_alloc | apply Kd.V_drewN | apply Kd.V_drew)); exact HO0_0.out⟩, ⟨by (with_reducible repeat (first | apply Kd.V_alloc | apply Kd.V_drewN | apply Kd.V_drew)); exact HO0_1.out⟩, ⟨by (with_reducible repeat (first | refine Axg ?_ _ | refine Axu ?_ | refine Aqe ?_ _)); exact BK402.out⟩, ⟨by repeat (first | (with_reducible first | exact HB.out | apply Aq4 | apply Aq7 | apply Aq5 | refine Ax2 ?_ GE402.out) | exact HB.out)⟩⟩
 case round =>
  clear H'
  obtain ⟨x3_1, x4_1, rfl, HA, HK1, HO_3, HO_403000, HO_403001, BK402, HB⟩ := hrel
  cases gk with
  | zero => exact absurd HA.out (by simp [Aqm.l0])
  | succ k1 =>
    have H := HA.out
    clear HA
    simp only [Aqm.l0] at H
    by_cases c4 : x4_1 < (l0_1.length : Int)
    · rw [if_pos c4] at H
      have c4b0 : decide (x4_1 < (l0_1.length : Int)) = true := decide_eq_true c4
      clear c4
      by_cases c5 : 0 ≤ x4_1
      · rw [if_pos c5] at H
        have c5b0 : decide (0 ≤ x4_1) = true := decide_eq_true c5
        clear c5
        replace H := Option.bind_eq_some_iff.mp H
        obtain ⟨⟨t404, t407⟩, A60, H⟩ := H
        replace H : (if t407 = 0 then (Aqm.l0 k1 t404 (wrap64 (x4_1 + 1)) l0_0 l0_1 a0_2 a0_3 l0_4 a0_5 a0_6 a0_7) else (Aqm.l0 k1 x3_1 (wrap64 (x4_1 + 1)) l0_0 l0_1 a0_2 a0_3 l0_4 a0_5 a0_6 a0_7)) = some r := H
        have A6 := Bvh A60
        clear A60
        by_cases c7 : t407 = 0
        · rw [if_pos c7] at H
          have c7b0 : (t407 == 0) = true := beq_iff_eq.mpr c7
          have c7b1 : (t407 != 0) = false := bne_eq_false_iff_eq.mpr c7
          clear c7
          have H' := Bvh H
          clear H
          have hcz8_0 : wr.cell? ⟨gb402, 0, none⟩ = some (.slice A0_0 l0_0.length c0_0) := (Aq3 BK402.out 0).trans rfl
          have hcz8_1 : wr.cell? ⟨gb402, 1, none⟩ = some (.slice A0_1 l0_1.length c0_1) := (Aq3 BK402.out 1).trans rfl
          have hcz8_2 : wr.cell? ⟨gb402, 2, none⟩ = some (.int .i64 a0_2) := (Aq3 BK402.out 2).trans rfl
          have hcz8_3 : wr.cell? ⟨gb402, 3, none⟩ = some (.int .i64 a0_3) := (Aq3 BK402.out 3).trans rfl
          have hcz8_4 : wr.cell? ⟨gb402, 4, none⟩ = some (.slice A0_4 l0_4.length c0_4) := (Aq3 BK402.out 4).trans rfl
          have hcz8_5 : wr.cell? ⟨gb402, 5, none⟩ = some (.int .i64 a0_5) := (Aq3 BK402.out 5).trans rfl
          have hcz8_6 : wr.cell? ⟨gb402, 6, none⟩ = some (.bool a0_6) := (Aq3 BK402.out 6).trans rfl
          have hcz8_7 : wr.cell? ⟨gb402, 7, none⟩ = some (.int .i64 a0_7) := (Aq3 BK402.out 7).trans rfl
          have hfz8_0 := Aq2 BK402.out 0
          have hfz8_1 := Aq2 BK402.out 1
          have hfz8_2 := Aq2 BK402.out 2
          have hfz8_3 := Aq2 BK402.out 3
          have hfz8_4 := Aq2 BK402.out 4
          have hfz8_5 := Aq2 BK402.out 5
          have hfz8_6 := Aq2 BK402.out 6
          have hfz8_7 := Aq2 BK402.out 7
          have p403 : 0 ≤ (x4_1 : Int) := of_decide_eq_true (by first | (with_reducible assumption) | assumption)
          have q403 : x4_1 < (l0_1.length : Int) := of_decide_eq_true (by first | (with_reducible assumption) | assumption)
          obtain ⟨ad403, A403_3, c403_3, e403, hx403_0, hx403_1, hx403_2, hx403_3, hl403_3, hi403_3⟩ := Bxk (Kd.V_reads' HO_403001.out).2.2 x4_1 p403 q403
          cases e403
          obtain ⟨ce403, hce403, hMe403, hcc403⟩ := Kd.V_get HO_403001.out z25 x4_1 p403 (by first | exact q403 | exact of_decide_eq_true (by first | (with_reducible assumption) | assumption) | (have e_ := (Kd.V_reads' HO_403001.out).1; omega))
          obtain ⟨ua403_3, uc403_3, rfl, ul403_3, ge403_3⟩ := Ak2 hMe403
          have hv403_3 := hcc403 3 _ rfl
          rw [Ax3 _ _ 3 (by omega)] at hv403_3
          replace hv403_3 := Option.some.inj (hv403_3.symm.trans hx403_3)
          injection hv403_3 with hva_ hvn_ hvc_
          rw [hva_] at ge403_3
          rw [hvc_] at ul403_3
          have HL403_3 := Bvh (show Kd.V (Kd.int .u8) 5 _ w.heap.size _ _ ((Aqr l0_1 x4_1).f3) from Kd.V_mk ul403_3 ge403_3)
          clear hva_ hvn_ hvc_ ge403_3 ul403_3
          clear hcc403 hce403
          have HR403_3 := Bvh hi403_3
          have HC403_3 := Bvh hl403_3
          clear hi403_3 hl403_3
          replace p403 := eq_true p403
          replace q403 := eq_true q403
          obtain ⟨Ao9, co9, eo9⟩ := Kd.V_slice HO_3.out
          subst eo9
          go_wp2_with (first | ((with_reducible refine Axm (f := 19) rfl ?_); refine Ajq (some 23) rfl rfl Try.func19 (by kernel_rfl) rfl #[.slice Ao9 x3_1.length co9, .agg #[.string ((Aqr l0_1 x4_1).f0), .int .i64 ((Aqr l0_1 x4_1).f1), .int .i64 ((Aqr l0_1 x4_1).f2), .slice A403_3 ((Aqr l0_1 x4_1).f3).length c403_3], .int .i64 (-1)] rfl (by (try simp only [List.map_toArray, List.map_cons, List.map_nil]); first | done | rfl | (simp only [List.length_drop, List.length_take]; rfl)) ?_; (with_reducible refine (Aq0.calls k1 (fun k_ => (((P0_0_ k_ ∨ P0_1_ k_) ∨ w.heap.size ≤ k_) ∧ k_ ≠ gb402)) _ _ x3_1 ((Aqr l0_1 x4_1).f0) ((Aqr l0_1 x4_1).f1) ((Aqr l0_1 x4_1).f2) (fun k_ => (((P0_0_ k_ ∨ P0_1_ k_) ∨ w.heap.size ≤ k_) ∧ k_ ≠ gb402)) _ _ ((Aqr l0_1 x4_1).f3) (-1) t404 t407 _ ?side1 ?side2 A6.out).mono ?_); (case side1 => exact HO_3.out); (case side2 => exact HL403_3.out); rintro e w10 ⟨v405, rfl, ho0, hb⟩; refine ⟨_, rfl, ?_⟩; have n0_ := Bvh (Kd.V_below HO_3.out hb); have n1_ := Bvh (Kd.V_below HO_403000.out hb); have n2_ := Bvh (Kd.V_below HO_403001.out hb); have n3_ := Bvh (Kd.V_below HL403_3.out hb); have n4_ := Bvh (Kd.V_lower (Kd.V_mono (ok' := fun k_ => ((P0_0_ k_ ∨ P0_1_ k_) ∨ w.heap.size ≤ k_) ∧ k_ ≠ gb402) ho0 (fun k_ hk_ => ⟨Or.elim hk_ (fun hs_ => Or.elim hs_ (fun hs_ => hs_.1) (fun hs_ => hs_.1)) (fun hn_ => (.inr (Nat.le_trans (Aqb HB.out) hn_))), Or.elim hk_ (fun hs_ => Or.elim hs_ (fun hs_ => hs_.2) (fun hs_ => hs_.2)) (fun hn_ => (Kd.freshB (g := gb402) (o := .cells #[.slice A0_0 l0_0.length c0_0, .slice (some ad403) l0_1.length c0_1, .int .i64 a0_2, .int .i64 a0_3, .slice A0_4 l0_4.length c0_4, .int .i64 a0_5, .bool a0_6, .int .i64 a0_7] 71 (0, 0)) BK402.out k_ hn_))⟩)) (Aqb HB.out)); have n5_ := Bvh (Ajl (g := gb402) (o := .cells #[.slice A0_0 l0_0.length c0_0, .slice (some ad403) l0_1.length c0_1, .int .i64 a0_2, .int .i64 a0_3, .slice A0_4 l0_4.length c0_4, .int .i64 a0_5, .bool a0_6, .int .i64 a0_7] 71 (0, 0)) BK402.out hb); have n6_ := Bvh (Kd.C_below (by repeat (first | (with_reducible exact HR403_3.out) | (with_reducible refine Kd.C_alloc ?_ _) | (with_reducible refine Kd.C_drewN ?_ _) | (with_reducible refine Kd.C_drew ?_) | exact HR403_3.out)) hb); have n7_ := Bvh (Aq1 HB.out hb); clear HO_3; clear HO_403000; clear HO_403001; clear HL403_3; clear BK402; clear HR403_3; clear HB; have HO_3 := n0_; have HO_403000 := n1_; have HO_403001 := n2_; have HL403_3 := n3_; have HO406 := n4_; have BK402 := n5_; have HR403_3 := n6_; have HB := n7_; clear n0_ n1_ n2_ n3_ n4_ n5_ n6_ n7_; (try clear hb); (try clear hb2); (try clear hk); (try clear hi); (try clear ho0)))
          go_roundg k1
          case measure => have := HK1.out; omega
          case rel => exact ⟨(t404), (wrap64 (x4_1 + 1)), rfl, H', ⟨by have := HK1.out; omega⟩, HO406, HO_403000, HO_403001, BK402, HB⟩
        · rw [if_neg c7] at H
          have c7b0 : (t407 == 0) = false := beq_eq_false_iff_ne.mpr c7
          have c7b1 : (t407 != 0) = true := bne_iff_ne.mpr c7
          have H' := Bvh H
          clear H
          have hcz11_0 : wr.cell? ⟨gb402, 0, none⟩ = some (.slice A0_0 l0_0.length c0_0) := (Aq3 BK402.out 0).trans rfl
          have hcz11_1 : wr.cell? ⟨gb402, 1, none⟩ = some (.slice A0_1 l0_1.length c0_1) := (Aq3 BK402.out 1).trans rfl
          have hcz11_2 : wr.cell? ⟨gb402, 2, none⟩ = some (.int .i64 a0_2) := (Aq3 BK402.out 2).trans rfl
          have hcz11_3 : wr.cell? ⟨gb402, 3, none⟩ = some (.int .i64 a0_3) := (Aq3 BK402.out 3).trans rfl
          have hcz11_4 : wr.cell? ⟨gb402, 4, none⟩ = some (.slice A0_4 l0_4.length c0_4) := (Aq3 BK402.out 4).trans rfl
          have hcz11_5 : wr.cell? ⟨gb402, 5, none⟩ = some (.int .i64 a0_5) := (Aq3 BK402.out 5).trans rfl
          have hcz11_6 : wr.cell? ⟨gb402, 6, none⟩ = some (.bool a0_6) := (Aq3 BK402.out 6).trans rfl
          have hcz11_7 : wr.cell? ⟨gb402, 7, none⟩ = some (.int .i64 a0_7) := (Aq3 BK402.out 7).trans rfl
          have hfz11_0 := Aq2 BK402.out 0
          have hfz11_1 := Aq2 BK402.out 1
          have hfz11_2 := Aq2 BK402.out 2
          have hfz11_3 := Aq2 BK402.out 3
          have hfz11_4 := Aq2 BK402.out 4
          have hfz11_5 := Aq2 BK402.out 5
          have hfz11_6 := Aq2 BK402.out 6
          have hfz11_7 := Aq2 BK402.out 7
          have p403 : 0 ≤ (x4_1 : Int) := of_decide_eq_true (by first | (with_reducible assumption) | assumption)
          have q403 : x4_1 < (l0_1.length : Int) := of_decide_eq_true (by first | (with_reducible assumption) | assumption)
          obtain ⟨ad403, A403_3, c403_3, e403, hx403_0, hx403_1, hx403_2, hx403_3, hl403_3, hi403_3⟩ := Bxk (Kd.V_reads' HO_403001.out).2.2 x4_1 p403 q403
          cases e403
          obtain ⟨ce403, hce403, hMe403, hcc403⟩ := Kd.V_get HO_403001.out z25 x4_1 p403 (by first | exact q403 | exact of_decide_eq_true (by first | (with_reducible assumption) | assumption) | (have e_ := (Kd.V_reads' HO_403001.out).1; omega))
          obtain ⟨ua403_3, uc403_3, rfl, ul403_3, ge403_3⟩ := Ak2 hMe403
          have hv403_3 := hcc403 3 _ rfl
          rw [Ax3 _ _ 3 (by omega)] at hv403_3
          replace hv403_3 := Option.some.inj (hv403_3.symm.trans hx403_3)
          injection hv403_3 with hva_ hvn_ hvc_
          rw [hva_] at ge403_3
          rw [hvc_] at ul403_3
          have HL403_3 := Bvh (show Kd.V (Kd.int .u8) 5 _ w.heap.size _ _ ((Aqr l0_1 x4_1).f3) from Kd.V_mk ul403_3 ge403_3)
          clear hva_ hvn_ hvc_ ge403_3 ul403_3
          clear hcc403 hce403
          have HR403_3 := Bvh hi403_3
          have HC403_3 := Bvh hl403_3
          clear hi403_3 hl403_3
          replace p403 := eq_true p403
          replace q403 := eq_true q403
          obtain ⟨Ao12, co12, eo12⟩ := Kd.V_slice HO_3.out
          subst eo12
          go_wp2_with (first | ((with_reducible refine Axm (f := 19) rfl ?_); refine Ajq (some 23) rfl rfl Try.func19 (by kernel_rfl) rfl #[.slice Ao12 x3_1.length co12, .agg #[.string ((Aqr l0_1 x4_1).f0), .int .i64 ((Aqr l0_1 x4_1).f1), .int .i64 ((Aqr l0_1 x4_1).f2), .slice A403_3 ((Aqr l0_1 x4_1).f3).length c403_3], .int .i64 (-1)] rfl (by (try simp only [List.map_toArray, List.map_cons, List.map_nil]); first | done | rfl | (simp only [List.length_drop, List.length_take]; rfl)) ?_; (with_reducible refine (Aq0.calls k1 (fun k_ => (((P0_0_ k_ ∨ P0_1_ k_) ∨ w.heap.size ≤ k_) ∧ k_ ≠ gb402)) _ _ x3_1 ((Aqr l0_1 x4_1).f0) ((Aqr l0_1 x4_1).f1) ((Aqr l0_1 x4_1).f2) (fun k_ => (((P0_0_ k_ ∨ P0_1_ k_) ∨ w.heap.size ≤ k_) ∧ k_ ≠ gb402)) _ _ ((Aqr l0_1 x4_1).f3) (-1) t404 t407 _ ?side1 ?side2 A6.out).mono ?_); (case side1 => exact HO_3.out); (case side2 => exact HL403_3.out); rintro e w13 ⟨v405, rfl, ho0, hb⟩; refine ⟨_, rfl, ?_⟩; have n0_ := Bvh (Kd.V_below HO_3.out hb); have n1_ := Bvh (Kd.V_below HO_403000.out hb); have n2_ := Bvh (Kd.V_below HO_403001.out hb); have n3_ := Bvh (Kd.V_below HL403_3.out hb); have n4_ := Bvh (Kd.V_lower (Kd.V_mono (ok' := fun k_ => ((P0_0_ k_ ∨ P0_1_ k_) ∨ w.heap.size ≤ k_) ∧ k_ ≠ gb402) ho0 (fun k_ hk_ => ⟨Or.elim hk_ (fun hs_ => Or.elim hs_ (fun hs_ => hs_.1) (fun hs_ => hs_.1)) (fun hn_ => (.inr (Nat.le_trans (Aqb HB.out) hn_))), Or.elim hk_ (fun hs_ => Or.elim hs_ (fun hs_ => hs_.2) (fun hs_ => hs_.2)) (fun hn_ => (Kd.freshB (g := gb402) (o := .cells #[.slice A0_0 l0_0.length c0_0, .slice (some ad403) l0_1.length c0_1, .int .i64 a0_2, .int .i64 a0_3, .slice A0_4 l0_4.length c0_4, .int .i64 a0_5, .bool a0_6, .int .i64 a0_7] 71 (0, 0)) BK402.out k_ hn_))⟩)) (Aqb HB.out)); have n5_ := Bvh (Ajl (g := gb402) (o := .cells #[.slice A0_0 l0_0.length c0_0, .slice (some ad403) l0_1.length c0_1, .int .i64 a0_2, .int .i64 a0_3, .slice A0_4 l0_4.length c0_4, .int .i64 a0_5, .bool a0_6, .int .i64 a0_7] 71 (0, 0)) BK402.out hb); have n6_ := Bvh (Kd.C_below (by repeat (first | (with_reducible exact HR403_3.out) | (with_reducible refine Kd.C_alloc ?_ _) | (with_reducible refine Kd.C_drewN ?_ _) | (with_reducible refine Kd.C_drew ?_) | exact HR403_3.out)) hb); have n7_ := Bvh (Aq1 HB.out hb); clear HO_3; clear HO_403000; clear HO_403001; clear HL403_3; clear BK402; clear HR403_3; clear HB; have HO_3 := n0_; have HO_403000 := n1_; have HO_403001 := n2_; have HL403_3 := n3_; have HO406 := n4_; have BK402 := n5_; have HR403_3 := n6_; have HB := n7_; clear n0_ n1_ n2_ n3_ n4_ n5_ n6_ n7_; (try clear hb); (try clear hb2); (try clear hk); (try clear hi); (try clear ho0)))
          go_roundg k1
          case measure => have := HK1.out; omega
          case rel => exact ⟨(x3_1), (wrap64 (x4_1 + 1)), rfl, H', ⟨by have := HK1.out; omega⟩, HO_3, HO_403000, HO_403001, BK402, HB⟩
      · rw [if_neg c5] at H
        exact absurd H (by simp)
    · rw [if_neg c4] at H
      have c4b0 : decide (x4_1 < (l0_1.length : Int)) = false := decide_eq_false c4
      clear c4
      obtain rfl := Option.some.inj H
      have hcz14_0 : wr.cell? ⟨gb402, 0, none⟩ = some (.slice A0_0 l0_0.length c0_0) := (Aq3 BK402.out 0).trans rfl
      have hcz14_1 : wr.cell? ⟨gb402, 1, none⟩ = some (.slice A0_1 l0_1.length c0_1) := (Aq3 BK402.out 1).trans rfl
      have hcz14_2 : wr.cell? ⟨gb402, 2, none⟩ = some (.int .i64 a0_2) := (Aq3 BK402.out 2).trans rfl
      have hcz14_3 : wr.cell? ⟨gb402, 3, none⟩ = some (.int .i64 a0_3) := (Aq3 BK402.out 3).trans rfl
      have hcz14_4 : wr.cell? ⟨gb402, 4, none⟩ = some (.slice A0_4 l0_4.length c0_4) := (Aq3 BK402.out 4).trans rfl
      have hcz14_5 : wr.cell? ⟨gb402, 5, none⟩ = some (.int .i64 a0_5) := (Aq3 BK402.out 5).trans rfl
      have hcz14_6 : wr.cell? ⟨gb402, 6, none⟩ = some (.bool a0_6) := (Aq3 BK402.out 6).trans rfl
      have hcz14_7 : wr.cell? ⟨gb402, 7, none⟩ = some (.int .i64 a0_7) := (Aq3 BK402.out 7).trans rfl
      have hfz14_0 := Aq2 BK402.out 0
      have hfz14_1 := Aq2 BK402.out 1
      have hfz14_2 := Aq2 BK402.out 2
      have hfz14_3 := Aq2 BK402.out 3
      have hfz14_4 := Aq2 BK402.out 4
      have hfz14_5 := Aq2 BK402.out 5
      have hfz14_6 := Aq2 BK402.out 6
      have hfz14_7 := Aq2 BK402.out 7
      go_wp2
      go_ret
      exact ⟨_, by first | rfl | (simp [Aqj, Aqi] <;> rfl) | (simp [*, Aqj, Aqi] <;> rfl), by exact Kd.V_mono HO_3.out (fun _ hk => hk.1), by exact HB.out⟩
end
section
attribute [local go_sem] Axk Axr Az3 Az7 Axj Axi Axz Axy
def Aqp.l0 : Nat → List (S25) → ByteArray → List (S25) → Int → Option ((List (S25)))
 | 0, _, _, _, _ => none
 | k + 1, x0, x1, x5, x6 => if x6 < (x0.length : Int) then (if 0 ≤ x6 then (if ((Aqr x0 x6).f0).toList = x1.toList then (Aqp.l0 k x0 x1 x5 (wrap64 (x6 + 1))) else (if x5.length < 2513169434916 then (Aqp.l0 k x0 x1 (x5 ++ [(⟨(Aqr x0 x6).f0, (Aqr x0 x6).f1, (Aqr x0 x6).f2, (Aqr x0 x6).f3⟩ : S25)]) (wrap64 (x6 + 1))) else (none))) else (none)) else (some x5)
def Aqp.f (k : Nat) (l0 : List (S25)) (a1 : ByteArray) : Option ((List (S25))) := Aqp.l0 k l0 a1 ([] : List (S25)) 0
theorem Aqp.calls (k : Nat) (P0_ : Nat → Prop) (A0 : Option Addr) (c0 : Nat) (l0 : List (S25)) (a1 : ByteArray) (r : List (S25)) (w : World) (hs0 : Kd.V k25 25 w w.heap.size (fun k_ => P0_ k_) (.slice A0 l0.length c0) l0) (h : Aqp.f k l0 a1 = some r) :
 Calls Try.prog 87 #[.slice A0 l0.length c0, .string a1] w fun e w' => ∃ v0_ : Value, e = .returned (v0_) ∧ Kd.N k25 25 w' w.heap.size (fun k_ => (P0_ k_ ∨ w.heap.size ≤ k_)) v0_ r ∧ Below w.heap.size w w' := by
 have hu25 := Try.underlying25
 have HO0 := Bvh (show Kd.V k25 25 w w.heap.size (fun k_ => (P0_ k_ ∨ w.heap.size ≤ k_)) (.slice A0 l0.length c0) l0 from Kd.V_mono hs0 (fun k_ hk => .inl hk))
 have HB := Bvh (Below.refl w.heap.size w)
 have H : (Aqp.l0 k l0 a1 ([] : List (S25)) 0) = some r := h
 clear h
 have H' := Bvh H
 clear H
 go_enter Try.func87, Try.ntmps87
 go_wp2
 go_loopg [5, 6] k (fun kq v5 v6 w' => ∃ (x5_1 : List (S25)) (x6_1 : Int), v6 = .int .i64 x6_1 ∧ Aside0 (Aqp.l0 kq l0 a1 x5_1 x6_1 = some r) ∧ Aside0 (kq ≤ k) ∧ Aside0 (Kd.V k25 25 w' w.heap.size (fun k_ => (P0_ k_ ∨ w.heap.size ≤ k_) ∧ some k_ ≠ (v5 : Value).ownBlock) (.slice A0 l0.length c0) l0) ∧ Aside0 (Kd.N k25 25 w' w.heap.size (fun k_ => (P0_ k_ ∨ w.heap.size ≤ k_)) v5 x5_1) ∧ Aside0 (Below w.heap.size w w'))
 case atStart => exact ⟨(([] : List (S25))), (0), rfl, H', ⟨Nat.le_refl _⟩, ⟨by exact Kd.V_mono HO0.out (fun _ hk => ⟨hk, (by simp [Value.ownBlock])⟩)⟩, ⟨by first | exact Kd.S_nil _ _ _ _ _ | exact Kd.N_nil _ _ _ _ _ | exact Kd.V_nil _ _ _ _ _ | exact Kd.Q_nil _ _ _ _ _ | exact Kd.R_nil _ _ _ _ _⟩, HB⟩
 case round =>
  clear H'
  obtain ⟨x5_1, x6_1, rfl, HA, HK1, HO_0, HO_5, HB⟩ := hrel
  cases gk with
  | zero => exact absurd HA.out (by simp [Aqp.l0])
  | succ k1 =>
    have H := HA.out
    clear HA
    simp only [Aqp.l0] at H
    by_cases c3 : x6_1 < (l0.length : Int)
    · rw [if_pos c3] at H
      have c3b0 : decide (x6_1 < (l0.length : Int)) = true := decide_eq_true c3
      clear c3
      by_cases c4 : 0 ≤ x6_1
      · rw [if_pos c4] at H
        have c4b0 : decide (0 ≤ x6_1) = true := decide_eq_true c4
        clear c4
        by_cases c5 : ((Aqr l0 x6_1).f0).toList = a1.toList
        · rw [if_pos c5] at H
          have c5b0 : (((Aqr l0 x6_1).f0).toList == a1.toList) = true := beq_iff_eq.mpr c5
          have c5b1 : (((Aqr l0 x6_1).f0).toList != a1.toList) = false := bne_eq_false_iff_eq.mpr c5
          clear c5
          have H' := Bvh H
          clear H
          have p461 : 0 ≤ (x6_1 : Int) := of_decide_eq_true (by first | (with_reducible assumption) | assumption)
          have q461 : x6_1 < (l0.length : Int) := of_decide_eq_true (by first | (with_reducible assumption) | assumption)
          obtain ⟨ad461, A461_3, c461_3, e461, hx461_0, hx461_1, hx461_2, hx461_3, hl461_3, hi461_3⟩ := Bxk (Kd.V_reads' HO_0.out).2.2 x6_1 p461 q461
          cases e461
          obtain ⟨ce461, hce461, hMe461, hcc461⟩ := Kd.V_get HO_0.out z25 x6_1 p461 (by first | exact q461 | exact of_decide_eq_true (by first | (with_reducible assumption) | assumption) | (have e_ := (Kd.V_reads' HO_0.out).1; omega))
          obtain ⟨ua461_3, uc461_3, rfl, ul461_3, ge461_3⟩ := Ak2 hMe461
          have hv461_3 := hcc461 3 _ rfl
          rw [Ax3 _ _ 3 (by omega)] at hv461_3
          replace hv461_3 := Option.some.inj (hv461_3.symm.trans hx461_3)
          injection hv461_3 with hva_ hvn_ hvc_
          rw [hva_] at ge461_3
          rw [hvc_] at ul461_3
          have HL461_3 := Bvh (show Kd.V (Kd.int .u8) 5 _ w.heap.size _ _ ((Aqr l0 x6_1).f3) from Kd.V_mk ul461_3 ge461_3)
          clear hva_ hvn_ hvc_ ge461_3 ul461_3
          clear hcc461 hce461
          have HR461_3 := Bvh hi461_3
          have HC461_3 := Bvh hl461_3
          clear hi461_3 hl461_3
          replace p461 := eq_true p461
          replace q461 := eq_true q461
          go_wp2
          go_roundg k1
          case measure => have := HK1.out; omega
          case rel => exact ⟨(x5_1), (wrap64 (x6_1 + 1)), rfl, H', ⟨by have := HK1.out; omega⟩, HO_0, ⟨by (with_reducible repeat (first | apply Kd.N_alloc | apply Kd.N_drewN | apply Kd.N_drew)); exact HO_5.out⟩, HB⟩
        · rw [if_neg c5] at H
          have c5b0 : (((Aqr l0 x6_1).f0).toList == a1.toList) = false := beq_eq_false_iff_ne.mpr c5
          have c5b1 : (((Aqr l0 x6_1).f0).toList != a1.toList) = true := bne_iff_ne.mpr c5
          by_cases c6 : x5_1.length < 2513169434916
          · rw [if_pos c6] at H
            have LMc6 := Bvh c6
            clear c6
            obtain ⟨y463, hy463⟩ : ∃ y_ : List (S25), y_ = (x5_1 ++ [(⟨(Aqr l0 x6_1).f0, (Aqr l0 x6_1).f1, (Aqr l0 x6_1).f2, (Aqr l0 x6_1).f3⟩ : S25)]) := ⟨_, rfl⟩
            replace H : (Aqp.l0 k1 l0 a1 y463 (wrap64 (x6_1 + 1))) = some r := by first | (rw [hy463]; with_reducible exact H) | (have H2_ := (Option.bind_some _ _).symm.trans H; rw [hy463]; with_reducible exact H2_) | (have H2_ := (Option.bind_some _ _).symm.trans H; with_reducible exact H2_) | with_reducible exact H | (rw [hy463]; exact H) | exact H
            have Ny463 := Bvh hy463
            clear hy463
            have H' := Bvh H
            clear H
            have p461 : 0 ≤ (x6_1 : Int) := of_decide_eq_true (by first | (with_reducible assumption) | assumption)
            have q461 : x6_1 < (l0.length : Int) := of_decide_eq_true (by first | (with_reducible assumption) | assumption)
            obtain ⟨ad461, A461_3, c461_3, e461, hx461_0, hx461_1, hx461_2, hx461_3, hl461_3, hi461_3⟩ := Bxk (Kd.V_reads' HO_0.out).2.2 x6_1 p461 q461
            cases e461
            obtain ⟨ce461, hce461, hMe461, hcc461⟩ := Kd.V_get HO_0.out z25 x6_1 p461 (by first | exact q461 | exact of_decide_eq_true (by first | (with_reducible assumption) | assumption) | (have e_ := (Kd.V_reads' HO_0.out).1; omega))
            obtain ⟨ua461_3, uc461_3, rfl, ul461_3, ge461_3⟩ := Ak2 hMe461
            have hv461_3 := hcc461 3 _ rfl
            rw [Ax3 _ _ 3 (by omega)] at hv461_3
            replace hv461_3 := Option.some.inj (hv461_3.symm.trans hx461_3)
            injection hv461_3 with hva_ hvn_ hvc_
            rw [hva_] at ge461_3
            rw [hvc_] at ul461_3
            have HL461_3 := Bvh (show Kd.V (Kd.int .u8) 5 _ w.heap.size _ _ ((Aqr l0 x6_1).f3) from Kd.V_mk ul461_3 ge461_3)
            clear hva_ hvn_ hvc_ ge461_3 ul461_3
            clear hcc461 hce461
            have HR461_3 := Bvh hi461_3
            have HC461_3 := Bvh hl461_3
            clear hi461_3 hl461_3
            replace p461 := eq_true p461
            replace q461 := eq_true q461
            have p462 : 0 ≤ (x6_1 : Int) := of_decide_eq_true (by first | (with_reducible assumption) | assumption)
            have q462 : x6_1 < (l0.length : Int) := of_decide_eq_true (by first | (with_reducible assumption) | assumption)
            obtain ⟨ad462, A462_3, c462_3, e462, hx462_0, hx462_1, hx462_2, hx462_3, hl462_3, hi462_3⟩ := Bxk (Kd.V_reads' HO_0.out).2.2 x6_1 p462 q462
            obtain rfl : ad461 = ad462 := (by injection e462)
            obtain ⟨ce462, hce462, hMe462, hcc462⟩ := Kd.V_get HO_0.out z25 x6_1 p462 (by first | exact q462 | exact of_decide_eq_true (by first | (with_reducible assumption) | assumption) | (have e_ := (Kd.V_reads' HO_0.out).1; omega))
            obtain ⟨ua462_3, uc462_3, rfl, ul462_3, ge462_3⟩ := Ak2 hMe462
            have hv462_3 := hcc462 3 _ rfl
            rw [Ax3 _ _ 3 (by omega)] at hv462_3
            replace hv462_3 := Option.some.inj (hv462_3.symm.trans hx462_3)
            injection hv462_3 with hva_ hvn_ hvc_
            rw [hva_] at ge462_3
            rw [hvc_] at ul462_3
            have HL462_3 := Bvh (show Kd.V (Kd.int .u8) 5 _ w.heap.size _ _ ((Aqr l0 x6_1).f3) from Kd.V_mk ul462_3 ge462_3)
            clear hva_ hvn_ hvc_ ge462_3 ul462_3
            clear hcc462 hce462
            have HR462_3 := Bvh hi462_3
            have HC462_3 := Bvh hl462_3
            clear hi462_3 hl462_3
            replace p462 := eq_true p462
            replace q462 := eq_true q462
            have ea_ := Option.some.inj (hx461_3.symm.trans hx462_3)
            injection ea_ with ea_ en_ ec_
            subst ea_
            subst ec_
            clear en_
            go_wp2_with (first | ((with_reducible refine Axc (b := .append) (xs := #[.tmp 20, .tmp 25]) rfl ?_); at_builtin; refine Kd.N_append k25 (w0 := w) w.heap.size rfl (.tmp 20) (.tmp 25) 69 25 (.agg #[(.string ⟨#[]⟩), (.int .i64 0), (.int .i64 0), (.slice none 0 0)]) 56 rfl Try.underlying69 Awl rfl (by decide) (by omega) u5 x5_1 (⟨(Aqr l0 x6_1).f0, (Aqr l0 x6_1).f1, (Aqr l0 x6_1).f2, (Aqr l0 x6_1).f3⟩ : S25) [.string ((Aqr l0 x6_1).f0), .int .i64 ((Aqr l0 x6_1).f1), .int .i64 ((Aqr l0 x6_1).f2), .slice A461_3 ((Aqr l0 x6_1).f3).length c461_3] (fun k_ => (P0_ k_ ∨ w.heap.size ≤ k_)) (fun k_ => ((fun k_ => (P0_ k_ ∨ w.heap.size ≤ k_))) k_ ∧ some k_ ≠ (u5 : Value).ownBlock) rfl rfl ?aP (fun _ hk => hk) ?aF ?aO ?aB ?aS ?aL ?_; (case aP => exact (Awk _ _ (⟨(Aqr l0 x6_1).f0, (Aqr l0 x6_1).f1, (Aqr l0 x6_1).f2, (Aqr l0 x6_1).f3⟩ : S25) (Kd.V_reads' (Kd.V_mono (ok' := (fun k_ => ((fun k_ => (P0_ k_ ∨ w.heap.size ≤ k_))) k_ ∧ some k_ ≠ (u5 : Value).ownBlock)) (HL462_3.out) (fun k_ hk => ⟨hk.1, hk.2⟩))).2.1 (Kd.V_F (Kd.V_mono (ok' := (fun k_ => ((fun k_ => (P0_ k_ ∨ w.heap.size ≤ k_))) k_ ∧ some k_ ≠ (u5 : Value).ownBlock)) (HL462_3.out) (fun k_ hk => ⟨hk.1, hk.2⟩))))); (case aB => exact HB.out); (case aF => exact (fun k_ hk => (.inr (Nat.le_trans (Aqb HB.out) hk)))); (case aO => exact (by (with_reducible repeat (first | apply Kd.N_alloc | apply Kd.N_drewN | apply Kd.N_drew)); exact HO_5.out)); (case aS => exact (Aqb HB.out)); (case aL => have := LMc6.out; omega); intro v464 w7 ho hb hg hat; rw [← Ny463.out] at ho; have n0_ := Bvh (Kd.V_afterv (ok := (fun k_ => (P0_ k_ ∨ w.heap.size ≤ k_))) HO_0.out hg hat); have n1_ := Bvh (Kd.V_afterv (ok := (fun k_ => (P0_ k_ ∨ w.heap.size ≤ k_))) HL461_3.out hg hat); have n2_ := Bvh (Kd.V_afterv (ok := (fun k_ => (P0_ k_ ∨ w.heap.size ≤ k_))) HL462_3.out hg hat); have n3_ := Bvh (hb); have n4_ := Bvh (ho); clear HO_0; clear HL461_3; clear HL462_3; clear HB; clear HO_5; have HO_0 := n0_; have HL461_3 := n1_; have HL462_3 := n2_; have HB := n3_; have HO465 := n4_; clear n0_ n1_ n2_ n3_ n4_; clear ho hb hg hat))
            go_roundg k1
            case measure => have := HK1.out; omega
            case rel => exact ⟨(y463), (wrap64 (x6_1 + 1)), rfl, H', ⟨by have := HK1.out; omega⟩, HO_0, ⟨by (with_reducible repeat (first | apply Kd.N_alloc | apply Kd.N_drewN | apply Kd.N_drew)); exact HO465.out⟩, HB⟩
          · rw [if_neg c6] at H
            exact absurd H (by simp)
      · rw [if_neg c4] at H
        exact absurd H (by simp)
    · rw [if_neg c3] at H
      have c3b0 : decide (x6_1 < (l0.length : Int)) = false := decide_eq_false c3
      clear c3
      obtain rfl := Option.some.inj H
      go_wp2
      go_ret
      exact ⟨_, by first | rfl | (simp [Aqj, Aqi] <;> rfl) | (simp [*, Aqj, Aqi] <;> rfl), by (with_reducible repeat (first | apply Kd.N_alloc | apply Kd.N_drewN | apply Kd.N_drew)); exact HO_5.out, by exact HB.out⟩
end
section
structure RS where
 f : List S38
 p : List S25
 q : Int
 n : Int
 nn : List Int
 cr : Int
 dn : Bool
 pk : Int
def to25 (x : S31) : S25 := ⟨x.f0, x.f1, x.f2, x.f3⟩
def to31 (x : S25) : S31 := ⟨x.f0, x.f1, x.f2, x.f3⟩
section
variable {w w1 : World} {b : Nat} {x0 x1 x2 x3 x4 x5 x6 x7 : Value}
def VarX (w : World) (b : Nat) (x0 x1 x2 x3 x4 x5 x6 x7 : Value) : Prop := w.heap[b]? = some (.cells #[x0, x1, x2, x3, x4, x5, x6, x7] 71 (0, 0))
theorem VarX.below (h : VarX w b x0 x1 x2 x3 x4 x5 x6 x7) (hb : Below w.heap.size w w1) : VarX w1 b x0 x1 x2 x3 x4 x5 x6 x7 := Aqn hb h
theorem VarX.cell (h : VarX w b x0 x1 x2 x3 x4 x5 x6 x7) : w.cell? ⟨b, 0, none⟩ = some x0 ∧ w.cell? ⟨b, 1, none⟩ = some x1 ∧ w.cell? ⟨b, 2, none⟩ = some x2 ∧ w.cell? ⟨b, 3, none⟩ = some x3 ∧ w.cell? ⟨b, 4, none⟩ = some x4 ∧ w.cell? ⟨b, 5, none⟩ = some x5 ∧ w.cell? ⟨b, 6, none⟩ = some x6 ∧ w.cell? ⟨b, 7, none⟩ = some x7 := by
 refine ⟨?_, ?_, ?_, ?_, ?_, ?_, ?_, ?_⟩ <;> (rw [cell_of_row w b _ _ 71 (0, 0) h]; rfl)
theorem VarX.put (h : VarX w b x0 x1 x2 x3 x4 x5 x6 x7) (y0 y1 y2 y3 y4 y5 y6 y7 : Value) : w.frozen? ⟨b, 0, none⟩ = false ∧ w.cell? ⟨b, 0, none⟩ = some x0 ∧ (w.setCell ⟨b, 0, none⟩ y0).frozen? ⟨b, 1, none⟩ = false ∧ (w.setCell ⟨b, 0, none⟩ y0).cell? ⟨b, 1, none⟩ = some x1 ∧ ((w.setCell ⟨b, 0, none⟩ y0).setCell ⟨b, 1, none⟩ y1).frozen? ⟨b, 2, none⟩ = false ∧ ((w.setCell ⟨b, 0, none⟩ y0).setCell ⟨b, 1, none⟩ y1).cell? ⟨b, 2, none⟩ = some x2 ∧ (((w.setCell ⟨b, 0, none⟩ y0).setCell ⟨b, 1, none⟩ y1).setCell ⟨b, 2, none⟩ y2).frozen? ⟨b, 3, none⟩ = false ∧ (((w.setCell ⟨b, 0, none⟩ y0).setCell ⟨b, 1, none⟩ y1).setCell ⟨b, 2, none⟩ y2).cell? ⟨b, 3, none⟩ = some x3 ∧ ((((w.setCell ⟨b, 0, none⟩ y0).setCell ⟨b, 1, none⟩ y1).setCell ⟨b, 2, none⟩ y2).setCell ⟨b, 3, none⟩ y3).frozen? ⟨b, 4, none⟩ = false ∧ ((((w.setCell ⟨b, 0, none⟩ y0).setCell ⟨b, 1, none⟩ y1).setCell ⟨b, 2, none⟩ y2).setCell ⟨b, 3, none⟩ y3).cell? ⟨b, 4, none⟩ = some x4 ∧ (((((w.setCell ⟨b, 0, none⟩ y0).setCell ⟨b, 1, none⟩ y1).setCell ⟨b, 2, none⟩ y2).setCell ⟨b, 3, none⟩ y3).setCell ⟨b, 4, none⟩ y4).frozen? ⟨b, 5, none⟩ = false ∧ (((((w.setCell ⟨b, 0, none⟩ y0).setCell ⟨b, 1, none⟩ y1).setCell ⟨b, 2, none⟩ y2).setCell ⟨b, 3, none⟩ y3).setCell ⟨b, 4, none⟩ y4).cell? ⟨b, 5, none⟩ = some x5 ∧ ((((((w.setCell ⟨b, 0, none⟩ y0).setCell ⟨b, 1, none⟩ y1).setCell ⟨b, 2, none⟩ y2).setCell ⟨b, 3, none⟩ y3).setCell ⟨b, 4, none⟩ y4).setCell ⟨b, 5, none⟩ y5).frozen? ⟨b, 6, none⟩ = false ∧ ((((((w.setCell ⟨b, 0, none⟩ y0).setCell ⟨b, 1, none⟩ y1).setCell ⟨b, 2, none⟩ y2).setCell ⟨b, 3, none⟩ y3).setCell ⟨b, 4, none⟩ y4).setCell ⟨b, 5, none⟩ y5).cell? ⟨b, 6, none⟩ = some x6 ∧ (((((((w.setCell ⟨b, 0, none⟩ y0).setCell ⟨b, 1, none⟩ y1).setCell ⟨b, 2, none⟩ y2).setCell ⟨b, 3, none⟩ y3).setCell ⟨b, 4, none⟩ y4).setCell ⟨b, 5, none⟩ y5).setCell ⟨b, 6, none⟩ y6).frozen? ⟨b, 7, none⟩ = false ∧ (((((((w.setCell ⟨b, 0, none⟩ y0).setCell ⟨b, 1, none⟩ y1).setCell ⟨b, 2, none⟩ y2).setCell ⟨b, 3, none⟩ y3).setCell ⟨b, 4, none⟩ y4).setCell ⟨b, 5, none⟩ y5).setCell ⟨b, 6, none⟩ y6).cell? ⟨b, 7, none⟩ = some x7 ∧ VarX ((((((((w.setCell ⟨b, 0, none⟩ y0).setCell ⟨b, 1, none⟩ y1).setCell ⟨b, 2, none⟩ y2).setCell ⟨b, 3, none⟩ y3).setCell ⟨b, 4, none⟩ y4).setCell ⟨b, 5, none⟩ y5).setCell ⟨b, 6, none⟩ y6).setCell ⟨b, 7, none⟩ y7) b y0 y1 y2 y3 y4 y5 y6 y7 := by
 have h1 : (w.setCell ⟨b, 0, none⟩ y0).heap[b]? = some (.cells #[y0, x1, x2, x3, x4, x5, x6, x7] 71 (0, 0)) := Axb h 0 y0
 have h2 : ((w.setCell ⟨b, 0, none⟩ y0).setCell ⟨b, 1, none⟩ y1).heap[b]? = some (.cells #[y0, y1, x2, x3, x4, x5, x6, x7] 71 (0, 0)) := Axb h1 1 y1
 have h3 : (((w.setCell ⟨b, 0, none⟩ y0).setCell ⟨b, 1, none⟩ y1).setCell ⟨b, 2, none⟩ y2).heap[b]? = some (.cells #[y0, y1, y2, x3, x4, x5, x6, x7] 71 (0, 0)) := Axb h2 2 y2
 have h4 : ((((w.setCell ⟨b, 0, none⟩ y0).setCell ⟨b, 1, none⟩ y1).setCell ⟨b, 2, none⟩ y2).setCell ⟨b, 3, none⟩ y3).heap[b]? = some (.cells #[y0, y1, y2, y3, x4, x5, x6, x7] 71 (0, 0)) := Axb h3 3 y3
 have h5 : (((((w.setCell ⟨b, 0, none⟩ y0).setCell ⟨b, 1, none⟩ y1).setCell ⟨b, 2, none⟩ y2).setCell ⟨b, 3, none⟩ y3).setCell ⟨b, 4, none⟩ y4).heap[b]? = some (.cells #[y0, y1, y2, y3, y4, x5, x6, x7] 71 (0, 0)) := Axb h4 4 y4
 have h6 : ((((((w.setCell ⟨b, 0, none⟩ y0).setCell ⟨b, 1, none⟩ y1).setCell ⟨b, 2, none⟩ y2).setCell ⟨b, 3, none⟩ y3).setCell ⟨b, 4, none⟩ y4).setCell ⟨b, 5, none⟩ y5).heap[b]? = some (.cells #[y0, y1, y2, y3, y4, y5, x6, x7] 71 (0, 0)) := Axb h5 5 y5
 have h7 : (((((((w.setCell ⟨b, 0, none⟩ y0).setCell ⟨b, 1, none⟩ y1).setCell ⟨b, 2, none⟩ y2).setCell ⟨b, 3, none⟩ y3).setCell ⟨b, 4, none⟩ y4).setCell ⟨b, 5, none⟩ y5).setCell ⟨b, 6, none⟩ y6).heap[b]? = some (.cells #[y0, y1, y2, y3, y4, y5, y6, x7] 71 (0, 0)) := Axb h6 6 y6
 have h8 : ((((((((w.setCell ⟨b, 0, none⟩ y0).setCell ⟨b, 1, none⟩ y1).setCell ⟨b, 2, none⟩ y2).setCell ⟨b, 3, none⟩ y3).setCell ⟨b, 4, none⟩ y4).setCell ⟨b, 5, none⟩ y5).setCell ⟨b, 6, none⟩ y6).setCell ⟨b, 7, none⟩ y7).heap[b]? = some (.cells #[y0, y1, y2, y3, y4, y5, y6, y7] 71 (0, 0)) := Axb h7 7 y7
 exact ⟨Aq2 h 0, (cell_of_row _ b 0 _ 71 (0, 0) h).trans rfl, Aq2 h1 1, (cell_of_row _ b 1 _ 71 (0, 0) h1).trans rfl, Aq2 h2 2, (cell_of_row _ b 2 _ 71 (0, 0) h2).trans rfl, Aq2 h3 3, (cell_of_row _ b 3 _ 71 (0, 0) h3).trans rfl, Aq2 h4 4, (cell_of_row _ b 4 _ 71 (0, 0) h4).trans rfl, Aq2 h5 5, (cell_of_row _ b 5 _ 71 (0, 0) h5).trans rfl, Aq2 h6 6, (cell_of_row _ b 6 _ 71 (0, 0) h6).trans rfl, Aq2 h7 7, (cell_of_row _ b 7 _ 71 (0, 0) h7).trans rfl, h8⟩
theorem Axo (y0 y1 y2 y3 y4 y5 y6 y7 : Value) {k : Nat} (hk : k ≠ b) : ((((((((w.setCell ⟨b, 0, none⟩ y0).setCell ⟨b, 1, none⟩ y1).setCell ⟨b, 2, none⟩ y2).setCell ⟨b, 3, none⟩ y3).setCell ⟨b, 4, none⟩ y4).setCell ⟨b, 5, none⟩ y5).setCell ⟨b, 6, none⟩ y6).setCell ⟨b, 7, none⟩ y7).heap[k]? = w.heap[k]? := by
 rw [Below.heap_setCell _ ⟨b, 7, none⟩ _ k hk, Below.heap_setCell _ ⟨b, 6, none⟩ _ k hk, Below.heap_setCell _ ⟨b, 5, none⟩ _ k hk, Below.heap_setCell _ ⟨b, 4, none⟩ _ k hk, Below.heap_setCell _ ⟨b, 3, none⟩ _ k hk, Below.heap_setCell _ ⟨b, 2, none⟩ _ k hk, Below.heap_setCell _ ⟨b, 1, none⟩ _ k hk, Below.heap_setCell _ ⟨b, 0, none⟩ _ k hk]
theorem Ak0 (y0 y1 y2 y3 y4 y5 y6 y7 : Value) : ((((((((w.setCell ⟨b, 0, none⟩ y0).setCell ⟨b, 1, none⟩ y1).setCell ⟨b, 2, none⟩ y2).setCell ⟨b, 3, none⟩ y3).setCell ⟨b, 4, none⟩ y4).setCell ⟨b, 5, none⟩ y5).setCell ⟨b, 6, none⟩ y6).setCell ⟨b, 7, none⟩ y7).heap.size = w.heap.size := by simp [World.setCell]
theorem Aqg {n : Nat} {w0 : World} (h : Below n w0 w) (hb : n ≤ b) (i : Nat) (u : Value) : Below n w0 (w.setCell ⟨b, i, none⟩ u) :=
 ⟨h.os, h.tape, h.output, by rw [Ajc]; exact h.size, fun k hk => (Below.heap_setCell _ ⟨b, i, none⟩ _ k (by show k ≠ b; omega)).trans (h.block k hk)⟩
theorem Ax5 {n : Nat} {w0 : World} (h : Below n w0 w) (hb : n ≤ b) (y0 y1 y2 y3 y4 y5 y6 y7 : Value) : Below n w0 ((((((((w.setCell ⟨b, 0, none⟩ y0).setCell ⟨b, 1, none⟩ y1).setCell ⟨b, 2, none⟩ y2).setCell ⟨b, 3, none⟩ y3).setCell ⟨b, 4, none⟩ y4).setCell ⟨b, 5, none⟩ y5).setCell ⟨b, 6, none⟩ y6).setCell ⟨b, 7, none⟩ y7) :=
 Aqg (Aqg (Aqg (Aqg (Aqg (Aqg (Aqg (Aqg h hb 0 y0) hb 1 y1) hb 2 y2) hb 3 y3) hb 4 y4) hb 5 y5) hb 6 y6) hb 7 y7
theorem VarX.set1 {cs : Array Value} {t : Nat} (h : w.heap[b]? = some (Obj.cells cs t (0, 0))) (i : Nat) (u : Value) {v : Value} (hv : cs[i]? = some v) : w.frozen? ⟨b, i, none⟩ = false ∧ w.cell? ⟨b, i, none⟩ = some v ∧ (w.setCell ⟨b, i, none⟩ u).heap[b]? = some (Obj.cells (cs.setIfInBounds i u) t (0, 0)) :=
 ⟨Aq2 h i, by rw [cell_of_row _ b _ _ t (0, 0) h]; exact hv, Axb h i u⟩
end
def askX (n cr : Int) (nn : List Int) (dn : Bool) : Int × Bool × Int := if dn = true then (n, dn, 9) else if n + 1 = cr then (n + 1, true, 9) else if n + 1 ∈ nn then (n + 1, dn, 7) else (n + 1, dn, 0)
theorem drop_rd (l : List Int) (i : Nat) (h : i < l.length) : l.drop i = rd l (i : Int) :: l.drop (i + 1) := by
 rw [List.drop_eq_getElem_cons h]
 congr 1
 simp [rd, List.getD, h]
theorem has_l (l : List Int) (m : Int) (hl : l.length ≤ 1000) : ∀ j i : Nat, i + j = l.length → ∃ k, Ax0.l0 k l m i = some (decide (m ∈ l.drop i))
 | 0, i, hi => ⟨1, by rw [Ax0.l0, if_neg (by omega), List.drop_eq_nil_of_le (by omega)]; simp⟩
 | j + 1, i, hi => by
   rw [drop_rd l i (by omega)]
   by_cases h : rd l (i : Int) = m
   · exact ⟨1, by rw [Ax0.l0, if_pos (by omega), if_pos (by omega), if_pos h]; simp [h]⟩
   · obtain ⟨k, hk⟩ := has_l l m hl j (i + 1) (by omega)
     refine ⟨k + 1, ?_⟩
     rw [Ax0.l0, if_pos (by omega), if_pos (by omega), if_neg h, Az5 i (by omega), hk]
     congr 1
     rw [decide_eq_decide]
     simp [Ne.symm h]
theorem has_f (l : List Int) (m : Int) (hl : l.length ≤ 1000) : ∃ k, Ax0.f k l m = some (decide (m ∈ l)) := by
 obtain ⟨k, hk⟩ := has_l l m hl l.length 0 (by omega)
 exact ⟨k, hk⟩
section
variable {w : World}
theorem Bxp (A0 : Option Addr) (l0 c0 : Nat) (A1 : Option Addr) (l1 c1 : Nat) (q n : Int) (A4 : Option Addr) (c4 : Nat) (nn : List Int) (cr : Int) (pk : Int) (hN : (Kd.int .i64).C w A4 nn.length nn) (hc : nn.length ≤ c4) (hl : nn.length ≤ 1000) (h0 : 0 ≤ n) (h1 : n ≤ 1000000)  :
 Calls Try.prog 83 #[.agg #[.slice A0 l0 c0, .slice A1 l1 c1, .int .i64 q, .int .i64 n, .slice A4 nn.length c4, .int .i64 cr, .bool true, .int .i64 pk]] w fun e w' => e = .returned (.tuple #[.agg #[.slice A0 l0 c0, .slice A1 l1 c1, .int .i64 q, .int .i64 n, .slice A4 nn.length c4, .int .i64 cr, .bool true, .int .i64 pk], .int .i64 9]) ∧ Below w.heap.size w w' := by
 have hb2 : Below w.heap.size w ((w.alloc (.cells #[.slice A0 l0 c0, .slice A1 l1 c1, .int .i64 q, .int .i64 n, .slice A4 nn.length c4, .int .i64 cr, .bool true, .int .i64 pk] 71)).alloc (.cells #[.slice none 0 0, .slice none 0 0, .int .i64 0, .int .i64 0, .slice none 0 0, .int .i64 0, .bool false, .int .i64 0] 71)) := Aq4 (Aq4 (Below.refl _ _) _) _
 have hx1 : VarX ((w.alloc (.cells #[.slice A0 l0 c0, .slice A1 l1 c1, .int .i64 q, .int .i64 n, .slice A4 nn.length c4, .int .i64 cr, .bool true, .int .i64 pk] 71)).alloc (.cells #[.slice none 0 0, .slice none 0 0, .int .i64 0, .int .i64 0, .slice none 0 0, .int .i64 0, .bool false, .int .i64 0] 71)) w.heap.size (.slice A0 l0 c0) (.slice A1 l1 c1) (.int .i64 q) (.int .i64 n) (.slice A4 nn.length c4) (.int .i64 cr) (.bool true) (.int .i64 pk) := Aqe (heap_alloc_new _ _) _
 have hx2 : VarX ((w.alloc (.cells #[.slice A0 l0 c0, .slice A1 l1 c1, .int .i64 q, .int .i64 n, .slice A4 nn.length c4, .int .i64 cr, .bool true, .int .i64 pk] 71)).alloc (.cells #[.slice none 0 0, .slice none 0 0, .int .i64 0, .int .i64 0, .slice none 0 0, .int .i64 0, .bool false, .int .i64 0] 71)) (w.heap.size + 1) (.slice none 0 0) (.slice none 0 0) (.int .i64 0) (.int .i64 0) (.slice none 0 0) (.int .i64 0) (.bool false) (.int .i64 0) := by
  have := heap_alloc_new (w.alloc (.cells #[.slice A0 l0 c0, .slice A1 l1 c1, .int .i64 q, .int .i64 n, .slice A4 nn.length c4, .int .i64 cr, .bool true, .int .i64 pk] 71)) (.cells #[.slice none 0 0, .slice none 0 0, .int .i64 0, .int .i64 0, .slice none 0 0, .int .i64 0, .bool false, .int .i64 0] 71)
  rw [World.size_alloc] at this
  exact this
 have hle : w.heap.size ≤ w.heap.size + 1 := Nat.le_succ _
 have HB2 := Bvh hb2
 have HX1 := Bvh hx1
 have HX2 := Bvh hx2
 clear hb2 hx1 hx2
 go_enter Try.func83, Try.ntmps83
 go_upto_region 1 with fail
 generalize ((w.alloc (.cells #[.slice A0 l0 c0, .slice A1 l1 c1, .int .i64 q, .int .i64 n, .slice A4 nn.length c4, .int .i64 cr, .bool true, .int .i64 pk] 71)).alloc (.cells #[.slice none 0 0, .slice none 0 0, .int .i64 0, .int .i64 0, .slice none 0 0, .int .i64 0, .bool false, .int .i64 0] 71)) = W at HB2 HX1 HX2 ⊢
 obtain ⟨y0, y1, y2, y3, y4, y5, y6, y7⟩ := HX1.out.cell
 obtain ⟨pf0, pg0, pf1, pg1, pf2, pg2, pf3, pg3, pf4, pg4, pf5, pg5, pf6, pg6, pf7, pg7, hT⟩ := HX2.out.put (.slice A0 l0 c0) (.slice A1 l1 c1) (.int .i64 q) (.int .i64 n) (.slice A4 nn.length c4) (.int .i64 cr) (.bool true) (.int .i64 pk)
 have HT := Bvh hT
 clear hT hN
 go_wp2
 refine bodyPost_ret (Azy rfl _ _ (w.heap.size + 1) 71 #[.slice A0 l0 c0, .slice A1 l1 c1, .int .i64 q, .int .i64 n, .slice A4 nn.length c4, .int .i64 cr, .bool true, .int .i64 pk] (0, 0) _ rfl HT.out Try.underlying71 rfl (by kernel_rfl)) rfl ?_
 exact ⟨rfl, Ax5 HB2.out hle _ _ _ _ _ _ _ _⟩
theorem Bqy (A0 : Option Addr) (l0 c0 : Nat) (A1 : Option Addr) (l1 c1 : Nat) (q n : Int) (A4 : Option Addr) (c4 : Nat) (nn : List Int) (cr : Int) (pk : Int) (hN : (Kd.int .i64).C w A4 nn.length nn) (hc : nn.length ≤ c4) (hl : nn.length ≤ 1000) (h0 : 0 ≤ n) (h1 : n ≤ 1000000) (he : n + 1 = cr) :
 Calls Try.prog 83 #[.agg #[.slice A0 l0 c0, .slice A1 l1 c1, .int .i64 q, .int .i64 n, .slice A4 nn.length c4, .int .i64 cr, .bool false, .int .i64 pk]] w fun e w' => e = .returned (.tuple #[.agg #[.slice A0 l0 c0, .slice A1 l1 c1, .int .i64 q, .int .i64 (n + 1), .slice A4 nn.length c4, .int .i64 cr, .bool true, .int .i64 pk], .int .i64 9]) ∧ Below w.heap.size w w' := by
 have hb2 : Below w.heap.size w ((w.alloc (.cells #[.slice A0 l0 c0, .slice A1 l1 c1, .int .i64 q, .int .i64 n, .slice A4 nn.length c4, .int .i64 cr, .bool false, .int .i64 pk] 71)).alloc (.cells #[.slice none 0 0, .slice none 0 0, .int .i64 0, .int .i64 0, .slice none 0 0, .int .i64 0, .bool false, .int .i64 0] 71)) := Aq4 (Aq4 (Below.refl _ _) _) _
 have hx1 : VarX ((w.alloc (.cells #[.slice A0 l0 c0, .slice A1 l1 c1, .int .i64 q, .int .i64 n, .slice A4 nn.length c4, .int .i64 cr, .bool false, .int .i64 pk] 71)).alloc (.cells #[.slice none 0 0, .slice none 0 0, .int .i64 0, .int .i64 0, .slice none 0 0, .int .i64 0, .bool false, .int .i64 0] 71)) w.heap.size (.slice A0 l0 c0) (.slice A1 l1 c1) (.int .i64 q) (.int .i64 n) (.slice A4 nn.length c4) (.int .i64 cr) (.bool false) (.int .i64 pk) := Aqe (heap_alloc_new _ _) _
 have hx2 : VarX ((w.alloc (.cells #[.slice A0 l0 c0, .slice A1 l1 c1, .int .i64 q, .int .i64 n, .slice A4 nn.length c4, .int .i64 cr, .bool false, .int .i64 pk] 71)).alloc (.cells #[.slice none 0 0, .slice none 0 0, .int .i64 0, .int .i64 0, .slice none 0 0, .int .i64 0, .bool false, .int .i64 0] 71)) (w.heap.size + 1) (.slice none 0 0) (.slice none 0 0) (.int .i64 0) (.int .i64 0) (.slice none 0 0) (.int .i64 0) (.bool false) (.int .i64 0) := by
  have := heap_alloc_new (w.alloc (.cells #[.slice A0 l0 c0, .slice A1 l1 c1, .int .i64 q, .int .i64 n, .slice A4 nn.length c4, .int .i64 cr, .bool false, .int .i64 pk] 71)) (.cells #[.slice none 0 0, .slice none 0 0, .int .i64 0, .int .i64 0, .slice none 0 0, .int .i64 0, .bool false, .int .i64 0] 71)
  rw [World.size_alloc] at this
  exact this
 have hle : w.heap.size ≤ w.heap.size + 1 := Nat.le_succ _
 subst he
 have HB2 := Bvh hb2
 have HX1 := Bvh hx1
 have HX2 := Bvh hx2
 clear hb2 hx1 hx2
 go_enter Try.func83, Try.ntmps83
 go_upto_region 1 with fail
 generalize ((w.alloc (.cells #[.slice A0 l0 c0, .slice A1 l1 c1, .int .i64 q, .int .i64 n, .slice A4 nn.length c4, .int .i64 (n + 1), .bool false, .int .i64 pk] 71)).alloc (.cells #[.slice none 0 0, .slice none 0 0, .int .i64 0, .int .i64 0, .slice none 0 0, .int .i64 0, .bool false, .int .i64 0] 71)) = W at HB2 HX1 HX2 ⊢
 obtain ⟨y0, y1, y2, y3, y4, y5, y6, y7⟩ := HX1.out.cell
 obtain ⟨s0, s1, hx3'⟩ := VarX.set1 HX1.out 3 (.int .i64 (n + 1)) rfl
 have hx3 : VarX (W.setCell ⟨w.heap.size, 3, none⟩ (.int .i64 (n + 1))) w.heap.size (.slice A0 l0 c0) (.slice A1 l1 c1) (.int .i64 q) (.int .i64 (n + 1)) (.slice A4 nn.length c4) (.int .i64 (n + 1)) (.bool false) (.int .i64 pk) := hx3'
 obtain ⟨z0, z1, z2, z3, z4, z5, z6, z7⟩ := hx3.cell
 obtain ⟨t0, t1, hx4'⟩ := VarX.set1 hx3 6 (.bool true) rfl
 have hx4 : VarX ((W.setCell ⟨w.heap.size, 3, none⟩ (.int .i64 (n + 1))).setCell ⟨w.heap.size, 6, none⟩ (.bool true)) w.heap.size (.slice A0 l0 c0) (.slice A1 l1 c1) (.int .i64 q) (.int .i64 (n + 1)) (.slice A4 nn.length c4) (.int .i64 (n + 1)) (.bool true) (.int .i64 pk) := hx4'
 obtain ⟨u0, u1, u2, u3, u4, u5, u6, u7⟩ := hx4.cell
 have hx24 : VarX ((W.setCell ⟨w.heap.size, 3, none⟩ (.int .i64 (n + 1))).setCell ⟨w.heap.size, 6, none⟩ (.bool true)) (w.heap.size + 1) (.slice none 0 0) (.slice none 0 0) (.int .i64 0) (.int .i64 0) (.slice none 0 0) (.int .i64 0) (.bool false) (.int .i64 0) := by
  show _ = _
  rw [Below.heap_setCell _ ⟨w.heap.size, 6, none⟩ _ _ (by show w.heap.size + 1 ≠ w.heap.size; omega), Below.heap_setCell _ ⟨w.heap.size, 3, none⟩ _ _ (by show w.heap.size + 1 ≠ w.heap.size; omega)]
  exact HX2.out
 obtain ⟨pf0, pg0, pf1, pg1, pf2, pg2, pf3, pg3, pf4, pg4, pf5, pg5, pf6, pg6, pf7, pg7, hT⟩ := hx24.put (.slice A0 l0 c0) (.slice A1 l1 c1) (.int .i64 q) (.int .i64 (n + 1)) (.slice A4 nn.length c4) (.int .i64 (n + 1)) (.bool true) (.int .i64 pk)
 have hb4 := Aqg (Aqg HB2.out (Nat.le_refl _) 3 (.int .i64 (n + 1))) (Nat.le_refl _) 6 (.bool true)
 have HT := Bvh hT
 have HB4 := Bvh hb4
 have hwr : IntKind.i64.wrap (n + 1) = n + 1 := IntWalk.i64_in _ (by omega)
 clear hx3 hx3' hx4 hx4' hx24 hT hb4 hN
 go_wp2
 refine bodyPost_ret (Azy rfl _ _ (w.heap.size + 1) 71 #[.slice A0 l0 c0, .slice A1 l1 c1, .int .i64 q, .int .i64 (n + 1), .slice A4 nn.length c4, .int .i64 (n + 1), .bool true, .int .i64 pk] (0, 0) _ rfl HT.out Try.underlying71 rfl (by kernel_rfl)) rfl ?_
 exact ⟨rfl, Ax5 HB4.out hle _ _ _ _ _ _ _ _⟩
theorem Bxo (A0 : Option Addr) (l0 c0 : Nat) (A1 : Option Addr) (l1 c1 : Nat) (q n : Int) (A4 : Option Addr) (c4 : Nat) (nn : List Int) (cr : Int) (pk : Int) (hN : (Kd.int .i64).C w A4 nn.length nn) (hc : nn.length ≤ c4) (hl : nn.length ≤ 1000) (h0 : 0 ≤ n) (h1 : n ≤ 1000000) (he : ¬ n + 1 = cr) (hm : decide (n + 1 ∈ nn) = true) :
 Calls Try.prog 83 #[.agg #[.slice A0 l0 c0, .slice A1 l1 c1, .int .i64 q, .int .i64 n, .slice A4 nn.length c4, .int .i64 cr, .bool false, .int .i64 pk]] w fun e w' => e = .returned (.tuple #[.agg #[.slice A0 l0 c0, .slice A1 l1 c1, .int .i64 q, .int .i64 (n + 1), .slice A4 nn.length c4, .int .i64 cr, .bool false, .int .i64 pk], .int .i64 7]) ∧ Below w.heap.size w w' := by
 have hb2 : Below w.heap.size w ((w.alloc (.cells #[.slice A0 l0 c0, .slice A1 l1 c1, .int .i64 q, .int .i64 n, .slice A4 nn.length c4, .int .i64 cr, .bool false, .int .i64 pk] 71)).alloc (.cells #[.slice none 0 0, .slice none 0 0, .int .i64 0, .int .i64 0, .slice none 0 0, .int .i64 0, .bool false, .int .i64 0] 71)) := Aq4 (Aq4 (Below.refl _ _) _) _
 have hx1 : VarX ((w.alloc (.cells #[.slice A0 l0 c0, .slice A1 l1 c1, .int .i64 q, .int .i64 n, .slice A4 nn.length c4, .int .i64 cr, .bool false, .int .i64 pk] 71)).alloc (.cells #[.slice none 0 0, .slice none 0 0, .int .i64 0, .int .i64 0, .slice none 0 0, .int .i64 0, .bool false, .int .i64 0] 71)) w.heap.size (.slice A0 l0 c0) (.slice A1 l1 c1) (.int .i64 q) (.int .i64 n) (.slice A4 nn.length c4) (.int .i64 cr) (.bool false) (.int .i64 pk) := Aqe (heap_alloc_new _ _) _
 have hx2 : VarX ((w.alloc (.cells #[.slice A0 l0 c0, .slice A1 l1 c1, .int .i64 q, .int .i64 n, .slice A4 nn.length c4, .int .i64 cr, .bool false, .int .i64 pk] 71)).alloc (.cells #[.slice none 0 0, .slice none 0 0, .int .i64 0, .int .i64 0, .slice none 0 0, .int .i64 0, .bool false, .int .i64 0] 71)) (w.heap.size + 1) (.slice none 0 0) (.slice none 0 0) (.int .i64 0) (.int .i64 0) (.slice none 0 0) (.int .i64 0) (.bool false) (.int .i64 0) := by
  have := heap_alloc_new (w.alloc (.cells #[.slice A0 l0 c0, .slice A1 l1 c1, .int .i64 q, .int .i64 n, .slice A4 nn.length c4, .int .i64 cr, .bool false, .int .i64 pk] 71)) (.cells #[.slice none 0 0, .slice none 0 0, .int .i64 0, .int .i64 0, .slice none 0 0, .int .i64 0, .bool false, .int .i64 0] 71)
  rw [World.size_alloc] at this
  exact this
 have hle : w.heap.size ≤ w.heap.size + 1 := Nat.le_succ _
 obtain ⟨kh, hkh⟩ := has_f nn (n + 1) hl
 rw [hm] at hkh
 have HKH := Bvh hkh
 have HN := Bvh hN
 clear hkh hN hm
 have HB2 := Bvh hb2
 have HX1 := Bvh hx1
 have HX2 := Bvh hx2
 clear hb2 hx1 hx2
 go_enter Try.func83, Try.ntmps83
 go_upto_region 1 with fail
 generalize ((w.alloc (.cells #[.slice A0 l0 c0, .slice A1 l1 c1, .int .i64 q, .int .i64 n, .slice A4 nn.length c4, .int .i64 cr, .bool false, .int .i64 pk] 71)).alloc (.cells #[.slice none 0 0, .slice none 0 0, .int .i64 0, .int .i64 0, .slice none 0 0, .int .i64 0, .bool false, .int .i64 0] 71)) = W at HB2 HX1 HX2 ⊢
 obtain ⟨y0, y1, y2, y3, y4, y5, y6, y7⟩ := HX1.out.cell
 obtain ⟨s0, s1, hx3'⟩ := VarX.set1 HX1.out 3 (.int .i64 (n + 1)) rfl
 have hx3 : VarX (W.setCell ⟨w.heap.size, 3, none⟩ (.int .i64 (n + 1))) w.heap.size (.slice A0 l0 c0) (.slice A1 l1 c1) (.int .i64 q) (.int .i64 (n + 1)) (.slice A4 nn.length c4) (.int .i64 cr) (.bool false) (.int .i64 pk) := hx3'
 obtain ⟨z0, z1, z2, z3, z4, z5, z6, z7⟩ := hx3.cell
 have hb3 := Aqg HB2.out (Nat.le_refl _) 3 (.int .i64 (n + 1))
 have hx23 : VarX (W.setCell ⟨w.heap.size, 3, none⟩ (.int .i64 (n + 1))) (w.heap.size + 1) (.slice none 0 0) (.slice none 0 0) (.int .i64 0) (.int .i64 0) (.slice none 0 0) (.int .i64 0) (.bool false) (.int .i64 0) := by
  show _ = _
  rw [Below.heap_setCell _ ⟨w.heap.size, 3, none⟩ _ _ (by show w.heap.size + 1 ≠ w.heap.size; omega)]
  exact HX2.out
 have HX3 := Bvh hx3
 have HX23 := Bvh hx23
 have HB3 := Bvh hb3
 have heq : (n + 1 == cr) = false := beq_eq_false_iff_ne.mpr he
 have hwr : IntKind.i64.wrap (n + 1) = n + 1 := IntWalk.i64_in _ (by omega)
 clear hx3 hx3' hx23 hb3
 go_wp2_with (go_at_call 98; refine (Ax0.calls kh A4 c4 nn (n + 1) true _ (Kd.C_below HN.out HB3.out) hc HKH.out).mono ?_; rintro e w5 ⟨rfl, hd⟩; have hb5 := hd.below; have HB5 := Bvh (Aq1 HB3.out hb5); obtain ⟨v0, v1, v2, v3, v4, v5, v6, v7⟩ := (HX3.out.below hb5).cell; obtain ⟨pf0, pg0, pf1, pg1, pf2, pg2, pf3, pg3, pf4, pg4, pf5, pg5, pf6, pg6, pf7, pg7, hT⟩ := (HX23.out.below hb5).put (.slice A0 l0 c0) (.slice A1 l1 c1) (.int .i64 q) (.int .i64 (n + 1)) (.slice A4 nn.length c4) (.int .i64 cr) (.bool false) (.int .i64 pk); have HT := Bvh hT; clear hd hb5 hT)
 refine bodyPost_ret (Azy rfl _ _ (w.heap.size + 1) 71 #[.slice A0 l0 c0, .slice A1 l1 c1, .int .i64 q, .int .i64 (n + 1), .slice A4 nn.length c4, .int .i64 cr, .bool false, .int .i64 pk] (0, 0) _ rfl HT.out Try.underlying71 rfl (by kernel_rfl)) rfl ?_
 exact ⟨rfl, Ax5 HB5.out hle _ _ _ _ _ _ _ _⟩
theorem Bk2 (A0 : Option Addr) (l0 c0 : Nat) (A1 : Option Addr) (l1 c1 : Nat) (q n : Int) (A4 : Option Addr) (c4 : Nat) (nn : List Int) (cr : Int) (pk : Int) (hN : (Kd.int .i64).C w A4 nn.length nn) (hc : nn.length ≤ c4) (hl : nn.length ≤ 1000) (h0 : 0 ≤ n) (h1 : n ≤ 1000000) (he : ¬ n + 1 = cr) (hm : decide (n + 1 ∈ nn) = false) :
 Calls Try.prog 83 #[.agg #[.slice A0 l0 c0, .slice A1 l1 c1, .int .i64 q, .int .i64 n, .slice A4 nn.length c4, .int .i64 cr, .bool false, .int .i64 pk]] w fun e w' => e = .returned (.tuple #[.agg #[.slice A0 l0 c0, .slice A1 l1 c1, .int .i64 q, .int .i64 (n + 1), .slice A4 nn.length c4, .int .i64 cr, .bool false, .int .i64 pk], .int .i64 0]) ∧ Below w.heap.size w w' := by
 have hb2 : Below w.heap.size w ((w.alloc (.cells #[.slice A0 l0 c0, .slice A1 l1 c1, .int .i64 q, .int .i64 n, .slice A4 nn.length c4, .int .i64 cr, .bool false, .int .i64 pk] 71)).alloc (.cells #[.slice none 0 0, .slice none 0 0, .int .i64 0, .int .i64 0, .slice none 0 0, .int .i64 0, .bool false, .int .i64 0] 71)) := Aq4 (Aq4 (Below.refl _ _) _) _
 have hx1 : VarX ((w.alloc (.cells #[.slice A0 l0 c0, .slice A1 l1 c1, .int .i64 q, .int .i64 n, .slice A4 nn.length c4, .int .i64 cr, .bool false, .int .i64 pk] 71)).alloc (.cells #[.slice none 0 0, .slice none 0 0, .int .i64 0, .int .i64 0, .slice none 0 0, .int .i64 0, .bool false, .int .i64 0] 71)) w.heap.size (.slice A0 l0 c0) (.slice A1 l1 c1) (.int .i64 q) (.int .i64 n) (.slice A4 nn.length c4) (.int .i64 cr) (.bool false) (.int .i64 pk) := Aqe (heap_alloc_new _ _) _
 have hx2 : VarX ((w.alloc (.cells #[.slice A0 l0 c0, .slice A1 l1 c1, .int .i64 q, .int .i64 n, .slice A4 nn.length c4, .int .i64 cr, .bool false, .int .i64 pk] 71)).alloc (.cells #[.slice none 0 0, .slice none 0 0, .int .i64 0, .int .i64 0, .slice none 0 0, .int .i64 0, .bool false, .int .i64 0] 71)) (w.heap.size + 1) (.slice none 0 0) (.slice none 0 0) (.int .i64 0) (.int .i64 0) (.slice none 0 0) (.int .i64 0) (.bool false) (.int .i64 0) := by
  have := heap_alloc_new (w.alloc (.cells #[.slice A0 l0 c0, .slice A1 l1 c1, .int .i64 q, .int .i64 n, .slice A4 nn.length c4, .int .i64 cr, .bool false, .int .i64 pk] 71)) (.cells #[.slice none 0 0, .slice none 0 0, .int .i64 0, .int .i64 0, .slice none 0 0, .int .i64 0, .bool false, .int .i64 0] 71)
  rw [World.size_alloc] at this
  exact this
 have hle : w.heap.size ≤ w.heap.size + 1 := Nat.le_succ _
 obtain ⟨kh, hkh⟩ := has_f nn (n + 1) hl
 rw [hm] at hkh
 have HKH := Bvh hkh
 have HN := Bvh hN
 clear hkh hN hm
 have HB2 := Bvh hb2
 have HX1 := Bvh hx1
 have HX2 := Bvh hx2
 clear hb2 hx1 hx2
 go_enter Try.func83, Try.ntmps83
 go_upto_region 1 with fail
 generalize ((w.alloc (.cells #[.slice A0 l0 c0, .slice A1 l1 c1, .int .i64 q, .int .i64 n, .slice A4 nn.length c4, .int .i64 cr, .bool false, .int .i64 pk] 71)).alloc (.cells #[.slice none 0 0, .slice none 0 0, .int .i64 0, .int .i64 0, .slice none 0 0, .int .i64 0, .bool false, .int .i64 0] 71)) = W at HB2 HX1 HX2 ⊢
 obtain ⟨y0, y1, y2, y3, y4, y5, y6, y7⟩ := HX1.out.cell
 obtain ⟨s0, s1, hx3'⟩ := VarX.set1 HX1.out 3 (.int .i64 (n + 1)) rfl
 have hx3 : VarX (W.setCell ⟨w.heap.size, 3, none⟩ (.int .i64 (n + 1))) w.heap.size (.slice A0 l0 c0) (.slice A1 l1 c1) (.int .i64 q) (.int .i64 (n + 1)) (.slice A4 nn.length c4) (.int .i64 cr) (.bool false) (.int .i64 pk) := hx3'
 obtain ⟨z0, z1, z2, z3, z4, z5, z6, z7⟩ := hx3.cell
 have hb3 := Aqg HB2.out (Nat.le_refl _) 3 (.int .i64 (n + 1))
 have hx23 : VarX (W.setCell ⟨w.heap.size, 3, none⟩ (.int .i64 (n + 1))) (w.heap.size + 1) (.slice none 0 0) (.slice none 0 0) (.int .i64 0) (.int .i64 0) (.slice none 0 0) (.int .i64 0) (.bool false) (.int .i64 0) := by
  show _ = _
  rw [Below.heap_setCell _ ⟨w.heap.size, 3, none⟩ _ _ (by show w.heap.size + 1 ≠ w.heap.size; omega)]
  exact HX2.out
 have HX3 := Bvh hx3
 have HX23 := Bvh hx23
 have HB3 := Bvh hb3
 have heq : (n + 1 == cr) = false := beq_eq_false_iff_ne.mpr he
 have hwr : IntKind.i64.wrap (n + 1) = n + 1 := IntWalk.i64_in _ (by omega)
 clear hx3 hx3' hx23 hb3
 go_wp2_with (go_at_call 98; refine (Ax0.calls kh A4 c4 nn (n + 1) false _ (Kd.C_below HN.out HB3.out) hc HKH.out).mono ?_; rintro e w5 ⟨rfl, hd⟩; have hb5 := hd.below; have HB5 := Bvh (Aq1 HB3.out hb5); obtain ⟨v0, v1, v2, v3, v4, v5, v6, v7⟩ := (HX3.out.below hb5).cell; obtain ⟨pf0, pg0, pf1, pg1, pf2, pg2, pf3, pg3, pf4, pg4, pf5, pg5, pf6, pg6, pf7, pg7, hT⟩ := (HX23.out.below hb5).put (.slice A0 l0 c0) (.slice A1 l1 c1) (.int .i64 q) (.int .i64 (n + 1)) (.slice A4 nn.length c4) (.int .i64 cr) (.bool false) (.int .i64 pk); have HT := Bvh hT; clear hd hb5 hT)
 refine bodyPost_ret (Azy rfl _ _ (w.heap.size + 1) 71 #[.slice A0 l0 c0, .slice A1 l1 c1, .int .i64 q, .int .i64 (n + 1), .slice A4 nn.length c4, .int .i64 cr, .bool false, .int .i64 pk] (0, 0) _ rfl HT.out Try.underlying71 rfl (by kernel_rfl)) rfl ?_
 exact ⟨rfl, Ax5 HB5.out hle _ _ _ _ _ _ _ _⟩
theorem xasked (A0 : Option Addr) (l0 c0 : Nat) (A1 : Option Addr) (l1 c1 : Nat) (q n : Int) (A4 : Option Addr) (c4 : Nat) (nn : List Int) (cr : Int) (dn : Bool) (pk : Int) (hN : (Kd.int .i64).C w A4 nn.length nn) (hc : nn.length ≤ c4) (hl : nn.length ≤ 1000) (h0 : 0 ≤ n) (h1 : n ≤ 1000000) :
 Calls Try.prog 83 #[.agg #[.slice A0 l0 c0, .slice A1 l1 c1, .int .i64 q, .int .i64 n, .slice A4 nn.length c4, .int .i64 cr, .bool dn, .int .i64 pk]] w fun e w' => e = .returned (.tuple #[.agg #[.slice A0 l0 c0, .slice A1 l1 c1, .int .i64 q, .int .i64 (askX n cr nn dn).1, .slice A4 nn.length c4, .int .i64 cr, .bool (askX n cr nn dn).2.1, .int .i64 pk], .int .i64 (askX n cr nn dn).2.2]) ∧ Below w.heap.size w w' := by
 unfold askX
 cases dn
 · rw [if_neg (by decide)]
   by_cases he : n + 1 = cr
   · rw [if_pos he]
     exact Bqy A0 l0 c0 A1 l1 c1 q n A4 c4 nn cr pk hN hc hl h0 h1 he
   · rw [if_neg he]
     by_cases hm : n + 1 ∈ nn
     · rw [if_pos hm]
       exact Bxo A0 l0 c0 A1 l1 c1 q n A4 c4 nn cr pk hN hc hl h0 h1 he (decide_eq_true hm)
     · rw [if_neg hm]
       exact Bk2 A0 l0 c0 A1 l1 c1 q n A4 c4 nn cr pk hN hc hl h0 h1 he (decide_eq_false hm)
 · rw [if_pos rfl]
   exact Bxp A0 l0 c0 A1 l1 c1 q n A4 c4 nn cr pk hN hc hl h0 h1
end
end
section
theorem Aw5 (l : List S31) : (l.map to25).map to31 = l := by
 induction l with
 | nil => rfl
 | cons x l ih => rw [List.map_cons, List.map_cons, ih]; rfl
theorem rd25 (P : List S25) (i : Nat) (h : i < P.length) : Aqr P (i : Int) = P[i] := by simp [Aqr, h, List.getD]
theorem Bxc (P : List S25) (i : Nat) (h : i < P.length) : P.drop i = Aqr P (i : Int) :: P.drop (i + 1) := by rw [rd25 P i h, List.drop_eq_getElem_cons h]
theorem Aks (keep : Nat → Int) (xs : List S31) (i : Nat) (l : List S38) (h : okL l) (hl : l.length + xs.length ≤ 1000) : okL (Az0 keep i l xs) ∧ (Az0 keep i l xs).length ≤ 1000 := by
 obtain ⟨h1, h2⟩ := Akt keep xs i l h
 exact ⟨h1, by omega⟩
theorem Bzi (P : List S25) (F : List S38) (q n : Int) (nn : List Int) (cr : Int) (dw : Bool) (pk : Int) (hP : ∀ x ∈ P, x.f3.length ≤ 1000) (hPl : P.length ≤ 1000) :
 ∀ m i : Nat, ∀ l : List S38, i + m = P.length → okL l → l.length + m ≤ 1000 → ∃ k, Aqm.l0 k l i F P q n nn cr dw pk = some (Az0 (fun _ => -1) i l ((P.drop i).map to31))
 | 0, i, l, hi, hd, hl => ⟨1, by rw [Aqm.l0, if_neg (by omega), List.drop_eq_nil_of_le (by omega)]; rfl⟩
 | m + 1, i, l, hi, hd, hl => by
   have hx : (Aqr P (i : Int)).f3.length ≤ 1000 := by rw [rd25 P i (by omega)]; exact hP _ (List.getElem_mem _)
   obtain ⟨k1, h1⟩ := refDoT l (to31 (Aqr P (i : Int))) (-1) (by omega) hd hx
   obtain ⟨hd2, hl2⟩ := Bjt l (to31 (Aqr P (i : Int))) (-1) hd
   obtain ⟨k2, h2⟩ := Bzi P F q n nn cr dw pk hP hPl m (i + 1) (dn l (to31 (Aqr P (i : Int))) (-1)) (by omega) hd2 (by omega)
   refine ⟨k1 + k2 + 1, ?_⟩
   have e1 := Azw (Aq0.mono _ _ _ _ _ _) (show k1 ≤ k1 + k2 by omega) h1
   have e2 := Azw (fun k => Aqm.mono_l k _ _ _ _ _ _ _ _ _ _) (show k2 ≤ k1 + k2 by omega) h2
   rw [Aqm.l0, if_pos (by omega), if_pos (by omega)]
   rw [show Aq0.f (k1 + k2) l (Aqr P (i : Int)).f0 (Aqr P (i : Int)).f1 (Aqr P (i : Int)).f2 (Aqr P (i : Int)).f3 (-1) = some (doT l (to31 (Aqr P (i : Int))) (-1)) from e1, Option.bind_some, Az5 i (by omega), Bxc P i (by omega), List.map_cons, Az0]
   unfold dn at e2 ⊢
   split
   · rename_i h0
     rw [if_pos h0] at e2
     exact e2
   · rename_i h0
     rw [if_neg h0] at e2
     exact e2
def Azd (F : List S38) (P : List S25) : List S38 := Az0 (fun _ => -1) 0 F (P.map to31)
theorem xfiles_f (P : List S25) (F : List S38) (q n : Int) (nn : List Int) (cr : Int) (dw : Bool) (pk : Int) (hP : ∀ x ∈ P, x.f3.length ≤ 1000) (hd : okL F) (hl : F.length + P.length ≤ 1000) : ∃ k, Aqm.f k F P q n nn cr dw pk = some (Azd F P) := by
 obtain ⟨k, hk⟩ := Bzi P F q n nn cr dw pk hP (by omega) P.length 0 F (by omega) hd hl
 exact ⟨k, hk⟩
section
variable {w : World}
theorem V_P {α : Type} {d : Kd α} {e e2 b b2 : Nat} {ok ok2 : Nat → Prop} {v : Value} {xs : List α} (h : Kd.V d e w b ok v xs) (hk : ∀ k, ok k → ok2 k) : Kd.V d e2 w b2 ok2 v xs := by
 obtain ⟨A, c, hv, hl, hf⟩ := h
 exact ⟨A, c, hv, hl, Kd.F_mono hf hk⟩
theorem Ajn {A0 : Option Addr} {c0 : Nat} {F : List S38} {A1 : Option Addr} {c1 : Nat} {P : List S25} (q n : Int) {A4 : Option Addr} {c4 : Nat} {nn : List Int} (cr : Int) (dw : Bool) (pk : Int) {Pf : Nat → Prop} {G : List S38}
 (hF : Kd.V k38 38 w 0 Pf (.slice A0 F.length c0) F) (hQ : Kd.V k25 25 w 0 Pf (.slice A1 P.length c1) P) (hN : Kd.V (Kd.int .i64) 3 w 0 Pf (.slice A4 nn.length c4) nn) (hP : ∀ x ∈ P, x.f3.length ≤ 1000) (hd : okL F) (hl : F.length + P.length ≤ 1000) (hG : Azd F P = G) :
 Calls Try.prog 51 #[.agg #[.slice A0 F.length c0, .slice A1 P.length c1, .int .i64 q, .int .i64 n, .slice A4 nn.length c4, .int .i64 cr, .bool dw, .int .i64 pk]] w fun e w' => ∃ A c, e = .returned (.slice A G.length c) ∧ Kd.V k38 38 w' 0 (fun k => Pf k ∨ w.heap.size ≤ k) (.slice A G.length c) G ∧ Below w.heap.size w w' := by
 obtain ⟨k, hk⟩ := xfiles_f P F q n nn cr dw pk hP hd hl
 rw [hG] at hk
 obtain ⟨_, hc4, hC4⟩ := Kd.V_reads' hN
 refine (Aqm.calls k Pf A0 c0 F Pf A1 c1 P q n A4 c4 nn cr dw pk G w (V_P hF fun _ h => h) (V_P hQ fun _ h => h) hC4 hc4 hk).mono ?_
 rintro e w' ⟨v, rfl, hv, hb⟩
 obtain ⟨A, c, rfl⟩ := Kd.V_slice hv
 exact ⟨A, c, rfl, V_P hv fun k h => h.elim (fun h => .inl (h.elim id id)) .inr, hb⟩
theorem xget {A0 : Option Addr} {c0 : Nat} {F : List S38} (nm : ByteArray) {Pf : Nat → Prop} {b : List Int} {i : Bool} (hF : Kd.V k38 38 w 0 Pf (.slice A0 F.length c0) F) (hl : F.length ≤ 1000000) (hg : getT F nm = (b, i)) :
 Calls Try.prog 30 #[.slice A0 F.length c0, .string nm] w fun e w' => ∃ A c, e = .returned (.tuple #[.slice A b.length c, .bool i]) ∧ Kd.V (Kd.int .u8) 5 w' 0 (fun k => Pf k ∨ w.heap.size ≤ k) (.slice A b.length c) b ∧ Below w.heap.size w w' := by
 obtain ⟨k, hk⟩ := Bk8 F nm hl
 have e : getL F nm = (b, i) := hg
 rw [e] at hk
 refine (Aq9.calls k Pf A0 c0 F nm b i w (V_P hF fun _ h => h) hk).mono ?_
 rintro e w' ⟨v, rfl, hv, hb⟩
 obtain ⟨A, c, rfl⟩ := Kd.V_slice hv
 exact ⟨A, c, rfl, V_P hv fun k h => h, hb⟩
theorem xdo {A0 : Option Addr} {c0 : Nat} {F : List S38} {A3 : Option Addr} {c3 : Nat} (x : S25) (keep : Int) {Pf : Nat → Prop} {G : List S38} {e : Int} (hF : Kd.V k38 38 w 0 Pf (.slice A0 F.length c0) F) (hD : Kd.V (Kd.int .u8) 5 w 0 Pf (.slice A3 x.f3.length c3) x.f3) (hl : F.length ≤ 1000) (hd : okL F) (hx : x.f3.length ≤ 1000) (hg : doT F (to31 x) keep = (G, e)) :
 Calls Try.prog 19 #[.slice A0 F.length c0, .agg #[.string x.f0, .int .i64 x.f1, .int .i64 x.f2, .slice A3 x.f3.length c3], .int .i64 keep] w fun v w' => ∃ A c, v = .returned (.tuple #[.slice A G.length c, .int .i64 e]) ∧ Kd.V k38 38 w' 0 (fun k => Pf k ∨ w.heap.size ≤ k) (.slice A G.length c) G ∧ Below w.heap.size w w' := by
 obtain ⟨k, hk⟩ := refDoT F (to31 x) keep hl hd hx
 rw [hg] at hk
 refine (Aq0.calls k Pf A0 c0 F x.f0 x.f1 x.f2 Pf A3 c3 x.f3 keep G e w (V_P hF fun _ h => h) (V_P hD fun _ h => h) hk).mono ?_
 rintro e w' ⟨v, rfl, hv, hb⟩
 obtain ⟨A, c, rfl⟩ := Kd.V_slice hv
 exact ⟨A, c, rfl, V_P hv fun k h => h.elim (fun h => .inl (h.elim id id)) .inr, hb⟩
theorem Bj2 {F : List S38} {A : Option Addr} {c e base : Nat} {ok : Nat → Prop} {z : Int} (hV : Kd.V k38 e w base ok (.slice A F.length c) F) (hl : F.length ≤ 1000000) (hz : Axs F = z) :
 Calls Try.prog 36 #[.slice A F.length c] w fun e w' => e = .returned (.int .i64 z) ∧ Below w.heap.size w w' := by
 obtain ⟨_, hc, hC⟩ := Kd.V_reads' hV
 obtain ⟨k, hk⟩ := sizeB F hl F.length 0 0 (by omega)
 rw [List.drop_zero] at hk
 rw [← hz]
 refine (Ax9.calls k A c F (Axs F) w hC hc hk).mono ?_
 rintro e w' ⟨he, hd⟩
 exact ⟨he, hd.below⟩
end
end
section
attribute [local go_sem] Axk Axr Az3 Az7
section
variable {w : World}
def VarY (w : World) (b : Nat) (x : S25) (A : Option Addr) (c : Nat) : Prop := w.heap[b]? = some (.cells #[.string x.f0, .int .i64 x.f1, .int .i64 x.f2, .slice A x.f3.length c] 25 (0, 0))
theorem VarY.below {w1 : World} {b c : Nat} {x : S25} {A : Option Addr} (h : VarY w b x A c) (hb : Below w.heap.size w w1) : VarY w1 b x A c := Aqn hb h
theorem VarY.cell {b c : Nat} {x : S25} {A : Option Addr} (h : VarY w b x A c) : w.cell? ⟨b, 0, none⟩ = some (.string x.f0) ∧ w.cell? ⟨b, 1, none⟩ = some (.int .i64 x.f1) ∧ w.cell? ⟨b, 2, none⟩ = some (.int .i64 x.f2) ∧ w.cell? ⟨b, 3, none⟩ = some (.slice A x.f3.length c) := by
 refine ⟨?_, ?_, ?_, ?_⟩ <;> (rw [cell_of_row w b _ _ 25 (0, 0) h]; rfl)
def Out (Pf : Nat → Prop) (n : Nat) : Nat → Prop := fun k => Pf k ∨ n ≤ k
theorem V_in {α : Type} {d : Kd α} {e e2 b b2 n : Nat} {Pf : Nat → Prop} {v : Value} {xs : List α} (h : Kd.V d e w b Pf v xs) : Kd.V d e2 w b2 (Out Pf n) v xs := V_P h fun k hk => .inl hk
theorem Aj4 {α : Type} {d : Kd α} {e e2 b b2 n m : Nat} {Pf : Nat → Prop} {v : Value} {xs : List α} (h : Kd.V d e w b (fun k => Out Pf n k ∨ m ≤ k) v xs) (hm : n ≤ m) : Kd.V d e2 w b2 (Out Pf n) v xs := V_P h fun k hk => hk.elim id fun h => .inr (Nat.le_trans hm h)
theorem Aqo {α : Type} {d : Kd α} {e b n g j : Nat} {Pf : Nat → Prop} {v : Value} {xs : List α} {u : Value} (h : Kd.V d e w b (Out Pf n) v xs) (hg : ¬ Out Pf n g) : Kd.V d e (w.setCell ⟨g, j, none⟩ u) b (Out Pf n) v xs := Kd.V_far (p := ⟨g, j, none⟩) h (fun k hk (he : k = g) => hg (by rw [← he]; exact hk)) u
theorem Axe {α : Type} {d : Kd α} {e b n g : Nat} {Pf : Nat → Prop} {v : Value} {xs : List α} (h : Kd.V d e w b (Out Pf n) v xs) (hg : ¬ Out Pf n g) (y0 y1 y2 y3 y4 y5 y6 y7 : Value) : Kd.V d e ((((((((w.setCell ⟨g, 0, none⟩ y0).setCell ⟨g, 1, none⟩ y1).setCell ⟨g, 2, none⟩ y2).setCell ⟨g, 3, none⟩ y3).setCell ⟨g, 4, none⟩ y4).setCell ⟨g, 5, none⟩ y5).setCell ⟨g, 6, none⟩ y6).setCell ⟨g, 7, none⟩ y7) b (Out Pf n) v xs :=
 Aqo (Aqo (Aqo (Aqo (Aqo (Aqo (Aqo (Aqo h hg) hg) hg) hg) hg) hg) hg) hg
theorem Bxm (A0 : Option Addr) (c0 : Nat) (F : List S38) (A1 : Option Addr) (c1 : Nat) (P : List S25) (q n : Int) (A4 : Option Addr) (c4 : Nat) (nn : List Int) (cr : Int) (dw : Bool) (pk : Int) (x : S25) (A3 : Option Addr) (c3 : Nat) (Pf : Nat → Prop) (hlt : ∀ k, Pf k → k < w.heap.size) (hF : Kd.V k38 38 w 0 Pf (.slice A0 F.length c0) F) (hQ : Kd.V k25 25 w 0 Pf (.slice A1 P.length c1) P) (hN : Kd.V (Kd.int .i64) 3 w 0 Pf (.slice A4 nn.length c4) nn) (hD : Kd.V (Kd.int .u8) 5 w 0 Pf (.slice A3 x.f3.length c3) x.f3) (hP : ∀ x ∈ P, x.f3.length ≤ 1000) (hd : okL F) (hl : F.length + P.length ≤ 990) (hx : x.f3.length ≤ 1000) (G : List S38) (gb : List Int) (gi : Bool) (hG : Azd F P = G) (hget : getT G x.f0 = (gb, gi)) (hk : ((x.f1 == 2) = true ∧ gi = false) ∨ ((x.f1 == 2) = false ∧ (x.f1 == 3) = true ∧ gi = false)) :
 Calls Try.prog 84 #[.agg #[.slice A0 F.length c0, .slice A1 P.length c1, .int .i64 q, .int .i64 n, .slice A4 nn.length c4, .int .i64 cr, .bool dw, .int .i64 pk], .agg #[.string x.f0, .int .i64 x.f1, .int .i64 x.f2, .slice A3 x.f3.length c3]] w fun e w' => e = .returned (.tuple #[.agg #[.slice A0 F.length c0, .slice A1 P.length c1, .int .i64 q, .int .i64 n, .slice A4 nn.length c4, .int .i64 cr, .bool dw, .int .i64 pk], .int .i64 4]) ∧ Below w.heap.size w w' := by
 rcases hk with ⟨h2, rfl⟩ | ⟨h2, h3, rfl⟩
 all_goals
  have hb0 : Below w.heap.size w (((w.alloc (.cells #[.slice A0 F.length c0, .slice A1 P.length c1, .int .i64 q, .int .i64 n, .slice A4 nn.length c4, .int .i64 cr, .bool dw, .int .i64 pk] 71)).alloc (.cells #[.string x.f0, .int .i64 x.f1, .int .i64 x.f2, .slice A3 x.f3.length c3] 25)).alloc (.cells #[.slice none 0 0, .slice none 0 0, .int .i64 0, .int .i64 0, .slice none 0 0, .int .i64 0, .bool false, .int .i64 0] 71)) := Aq4 (Aq4 (Aq4 (Below.refl _ _) _) _) _
  have hx1 : VarX (((w.alloc (.cells #[.slice A0 F.length c0, .slice A1 P.length c1, .int .i64 q, .int .i64 n, .slice A4 nn.length c4, .int .i64 cr, .bool dw, .int .i64 pk] 71)).alloc (.cells #[.string x.f0, .int .i64 x.f1, .int .i64 x.f2, .slice A3 x.f3.length c3] 25)).alloc (.cells #[.slice none 0 0, .slice none 0 0, .int .i64 0, .int .i64 0, .slice none 0 0, .int .i64 0, .bool false, .int .i64 0] 71)) w.heap.size (.slice A0 F.length c0) (.slice A1 P.length c1) (.int .i64 q) (.int .i64 n) (.slice A4 nn.length c4) (.int .i64 cr) (.bool dw) (.int .i64 pk) := Aqe (Aqe (heap_alloc_new _ _) _) _
  have hw1 : VarY (((w.alloc (.cells #[.slice A0 F.length c0, .slice A1 P.length c1, .int .i64 q, .int .i64 n, .slice A4 nn.length c4, .int .i64 cr, .bool dw, .int .i64 pk] 71)).alloc (.cells #[.string x.f0, .int .i64 x.f1, .int .i64 x.f2, .slice A3 x.f3.length c3] 25)).alloc (.cells #[.slice none 0 0, .slice none 0 0, .int .i64 0, .int .i64 0, .slice none 0 0, .int .i64 0, .bool false, .int .i64 0] 71)) (w.heap.size + 1) x A3 c3 := by
   have := Aqe (heap_alloc_new (w.alloc (.cells #[.slice A0 F.length c0, .slice A1 P.length c1, .int .i64 q, .int .i64 n, .slice A4 nn.length c4, .int .i64 cr, .bool dw, .int .i64 pk] 71)) (.cells #[.string x.f0, .int .i64 x.f1, .int .i64 x.f2, .slice A3 x.f3.length c3] 25)) (.cells #[.slice none 0 0, .slice none 0 0, .int .i64 0, .int .i64 0, .slice none 0 0, .int .i64 0, .bool false, .int .i64 0] 71)
   rw [World.size_alloc] at this
   exact this
  have hz1 : VarX (((w.alloc (.cells #[.slice A0 F.length c0, .slice A1 P.length c1, .int .i64 q, .int .i64 n, .slice A4 nn.length c4, .int .i64 cr, .bool dw, .int .i64 pk] 71)).alloc (.cells #[.string x.f0, .int .i64 x.f1, .int .i64 x.f2, .slice A3 x.f3.length c3] 25)).alloc (.cells #[.slice none 0 0, .slice none 0 0, .int .i64 0, .int .i64 0, .slice none 0 0, .int .i64 0, .bool false, .int .i64 0] 71)) (w.heap.size + 1 + 1) (.slice none 0 0) (.slice none 0 0) (.int .i64 0) (.int .i64 0) (.slice none 0 0) (.int .i64 0) (.bool false) (.int .i64 0) := by
   have := heap_alloc_new ((w.alloc (.cells #[.slice A0 F.length c0, .slice A1 P.length c1, .int .i64 q, .int .i64 n, .slice A4 nn.length c4, .int .i64 cr, .bool dw, .int .i64 pk] 71)).alloc (.cells #[.string x.f0, .int .i64 x.f1, .int .i64 x.f2, .slice A3 x.f3.length c3] 25)) (.cells #[.slice none 0 0, .slice none 0 0, .int .i64 0, .int .i64 0, .slice none 0 0, .int .i64 0, .bool false, .int .i64 0] 71)
   rw [World.size_alloc, World.size_alloc] at this
   exact this
  have hsz : (((w.alloc (.cells #[.slice A0 F.length c0, .slice A1 P.length c1, .int .i64 q, .int .i64 n, .slice A4 nn.length c4, .int .i64 cr, .bool dw, .int .i64 pk] 71)).alloc (.cells #[.string x.f0, .int .i64 x.f1, .int .i64 x.f2, .slice A3 x.f3.length c3] 25)).alloc (.cells #[.slice none 0 0, .slice none 0 0, .int .i64 0, .int .i64 0, .slice none 0 0, .int .i64 0, .bool false, .int .i64 0] 71)).heap.size = w.heap.size + 3 := by rw [World.size_alloc, World.size_alloc, World.size_alloc]
  have HB0 := Bvh hb0
  have HX := Bvh hx1
  have HW := Bvh hw1
  have HZ := Bvh hz1
  have HSZ := Bvh hsz
  have HF := Bvh (V_in (n := w.heap.size + 3) (e2 := 38) (b2 := 0) (Kd.V_below hF hb0))
  have HQ := Bvh (V_in (n := w.heap.size + 3) (e2 := 25) (b2 := 0) (Kd.V_below hQ hb0))
  have HN := Bvh (V_in (n := w.heap.size + 3) (e2 := 3) (b2 := 0) (Kd.V_below hN hb0))
  have HD := Bvh (V_in (n := w.heap.size + 3) (e2 := 5) (b2 := 0) (Kd.V_below hD hb0))
  have HP := Bvh hP
  have HOK := Bvh hd
  have HG := Bvh hG
  have HGET := Bvh hget
  have HGOK := Bvh (Aks (fun _ => -1) (P.map to31) 0 F hd (by rw [List.length_map]; omega))
  have hgl : G.length ≤ 1000 := by rw [← hG]; exact HGOK.out.2
  have hgo : okL G := by rw [← hG]; exact HGOK.out.1
  have HGO := Bvh hgo
  have hn3 : ¬ Out Pf (w.heap.size + 3) (w.heap.size + 1 + 1) := fun h => h.elim (fun h => by have := hlt _ h; omega) (fun h => by omega)
  have hn1 : ¬ Out Pf (w.heap.size + 3) w.heap.size := fun h => h.elim (fun h => by have := hlt _ h; omega) (fun h => by omega)
  have HN3 := Bvh hn3
  have HN1 := Bvh hn1
  have HLT := Bvh hlt
  have hle2 : w.heap.size ≤ w.heap.size + 1 + 1 := by omega
  have hle3 : w.heap.size ≤ w.heap.size + 3 := by omega
  clear hb0 hx1 hw1 hz1 hF hQ hN hD hP hd hG hget hgo hn3 hn1 hlt HGOK
  go_enter Try.func84, Try.ntmps84
  go_upto_region 1 with fail
  generalize (((w.alloc (.cells #[.slice A0 F.length c0, .slice A1 P.length c1, .int .i64 q, .int .i64 n, .slice A4 nn.length c4, .int .i64 cr, .bool dw, .int .i64 pk] 71)).alloc (.cells #[.string x.f0, .int .i64 x.f1, .int .i64 x.f2, .slice A3 x.f3.length c3] 25)).alloc (.cells #[.slice none 0 0, .slice none 0 0, .int .i64 0, .int .i64 0, .slice none 0 0, .int .i64 0, .bool false, .int .i64 0] 71)) = W at HB0 HX HW HZ HSZ HF HQ HN HD hsz ⊢
  clear hsz
  obtain ⟨y0, y1, y2, y3, y4, y5, y6, y7⟩ := HX.out.cell
  go_wp2_with (first
   | (go_at_call 51; (with_reducible refine (Ajn q n cr dw pk HF.out HQ.out HN.out HP.out HOK.out (by omega) HG.out).mono ?_); rintro e w2 ⟨A2, c2, rfl, hv2, hb2⟩; have HV2 := Bvh (Aj4 (e2 := 38) (b2 := 0) hv2 (by have := HSZ.out; omega)); have HB2 := Bvh hb2; clear y0 y1 y2 y3 y4 y5 y6 y7; obtain ⟨t0, t1, t2, t3⟩ := (HW.out.below hb2).cell; clear hb2 hv2)
   | (go_at_call 30; (with_reducible refine (xget x.f0 HV2.out (by omega) HGET.out).mono ?_); rintro e w3 ⟨Ab, cb, rfl, _, hb3⟩; have HB3 := Bvh (Aq1 HB2.out hb3); have HV3 := Bvh (Kd.V_below HV2.out hb3); clear t0 t1 t2 t3 hb3; obtain ⟨t0, t1, t2, t3⟩ := (HW.out.below HB3.out).cell; obtain ⟨y0, y1, y2, y3, y4, y5, y6, y7⟩ := (HX.out.below HB3.out).cell; obtain ⟨pf0, pg0, pf1, pg1, pf2, pg2, pf3, pg3, pf4, pg4, pf5, pg5, pf6, pg6, pf7, pg7, hT⟩ := (HZ.out.below HB3.out).put (.slice A0 F.length c0) (.slice A1 P.length c1) (.int .i64 q) (.int .i64 n) (.slice A4 nn.length c4) (.int .i64 cr) (.bool dw) (.int .i64 pk); have HT := Bvh hT; clear hT))
  refine bodyPost_ret (Azy rfl _ _ (w.heap.size + 1 + 1) 71 #[.slice A0 F.length c0, .slice A1 P.length c1, .int .i64 q, .int .i64 n, .slice A4 nn.length c4, .int .i64 cr, .bool dw, .int .i64 pk] (0, 0) _ rfl HT.out Try.underlying71 rfl (by kernel_rfl)) rfl ?_
  exact ⟨rfl, Ax5 (Aq1 HB0.out HB3.out) hle2 _ _ _ _ _ _ _ _⟩
theorem Bj1 (A0 : Option Addr) (c0 : Nat) (F : List S38) (A1 : Option Addr) (c1 : Nat) (P : List S25) (q n : Int) (A4 : Option Addr) (c4 : Nat) (nn : List Int) (cr : Int) (dw : Bool) (pk : Int) (x : S25) (A3 : Option Addr) (c3 : Nat) (Pf : Nat → Prop) (hlt : ∀ k, Pf k → k < w.heap.size) (hF : Kd.V k38 38 w 0 Pf (.slice A0 F.length c0) F) (hQ : Kd.V k25 25 w 0 Pf (.slice A1 P.length c1) P) (hN : Kd.V (Kd.int .i64) 3 w 0 Pf (.slice A4 nn.length c4) nn) (hD : Kd.V (Kd.int .u8) 5 w 0 Pf (.slice A3 x.f3.length c3) x.f3) (hP : ∀ x ∈ P, x.f3.length ≤ 1000) (hd : okL F) (hl : F.length + P.length ≤ 990) (hx : x.f3.length ≤ 1000) (G : List S38) (gb : List Int) (gi : Bool) (hG : Azd F P = G) (hget : getT G x.f0 = (gb, gi)) (hk : ((x.f1 == 2) = true ∧ gi = true) ∨ ((x.f1 == 2) = false ∧ (x.f1 == 3) = true ∧ gi = true) ∨ ((x.f1 == 2) = false ∧ (x.f1 == 3) = false)) (H : List S38) (er : Int) (hdo : doT G (to31 x) (-1) = (H, er)) (he : (er != 0) = true) :
 Calls Try.prog 84 #[.agg #[.slice A0 F.length c0, .slice A1 P.length c1, .int .i64 q, .int .i64 n, .slice A4 nn.length c4, .int .i64 cr, .bool dw, .int .i64 pk], .agg #[.string x.f0, .int .i64 x.f1, .int .i64 x.f2, .slice A3 x.f3.length c3]] w fun e w' => e = .returned (.tuple #[.agg #[.slice A0 F.length c0, .slice A1 P.length c1, .int .i64 q, .int .i64 n, .slice A4 nn.length c4, .int .i64 cr, .bool dw, .int .i64 pk], .int .i64 er]) ∧ Below w.heap.size w w' := by
 have HDO := Bvh hdo
 clear hdo
 rcases hk with ⟨h2, rfl⟩ | ⟨h2, h3, rfl⟩ | ⟨h2, h3⟩
 all_goals
  have hb0 : Below w.heap.size w (((w.alloc (.cells #[.slice A0 F.length c0, .slice A1 P.length c1, .int .i64 q, .int .i64 n, .slice A4 nn.length c4, .int .i64 cr, .bool dw, .int .i64 pk] 71)).alloc (.cells #[.string x.f0, .int .i64 x.f1, .int .i64 x.f2, .slice A3 x.f3.length c3] 25)).alloc (.cells #[.slice none 0 0, .slice none 0 0, .int .i64 0, .int .i64 0, .slice none 0 0, .int .i64 0, .bool false, .int .i64 0] 71)) := Aq4 (Aq4 (Aq4 (Below.refl _ _) _) _) _
  have hx1 : VarX (((w.alloc (.cells #[.slice A0 F.length c0, .slice A1 P.length c1, .int .i64 q, .int .i64 n, .slice A4 nn.length c4, .int .i64 cr, .bool dw, .int .i64 pk] 71)).alloc (.cells #[.string x.f0, .int .i64 x.f1, .int .i64 x.f2, .slice A3 x.f3.length c3] 25)).alloc (.cells #[.slice none 0 0, .slice none 0 0, .int .i64 0, .int .i64 0, .slice none 0 0, .int .i64 0, .bool false, .int .i64 0] 71)) w.heap.size (.slice A0 F.length c0) (.slice A1 P.length c1) (.int .i64 q) (.int .i64 n) (.slice A4 nn.length c4) (.int .i64 cr) (.bool dw) (.int .i64 pk) := Aqe (Aqe (heap_alloc_new _ _) _) _
  have hw1 : VarY (((w.alloc (.cells #[.slice A0 F.length c0, .slice A1 P.length c1, .int .i64 q, .int .i64 n, .slice A4 nn.length c4, .int .i64 cr, .bool dw, .int .i64 pk] 71)).alloc (.cells #[.string x.f0, .int .i64 x.f1, .int .i64 x.f2, .slice A3 x.f3.length c3] 25)).alloc (.cells #[.slice none 0 0, .slice none 0 0, .int .i64 0, .int .i64 0, .slice none 0 0, .int .i64 0, .bool false, .int .i64 0] 71)) (w.heap.size + 1) x A3 c3 := by
   have := Aqe (heap_alloc_new (w.alloc (.cells #[.slice A0 F.length c0, .slice A1 P.length c1, .int .i64 q, .int .i64 n, .slice A4 nn.length c4, .int .i64 cr, .bool dw, .int .i64 pk] 71)) (.cells #[.string x.f0, .int .i64 x.f1, .int .i64 x.f2, .slice A3 x.f3.length c3] 25)) (.cells #[.slice none 0 0, .slice none 0 0, .int .i64 0, .int .i64 0, .slice none 0 0, .int .i64 0, .bool false, .int .i64 0] 71)
   rw [World.size_alloc] at this
   exact this
  have hz1 : VarX (((w.alloc (.cells #[.slice A0 F.length c0, .slice A1 P.length c1, .int .i64 q, .int .i64 n, .slice A4 nn.length c4, .int .i64 cr, .bool dw, .int .i64 pk] 71)).alloc (.cells #[.string x.f0, .int .i64 x.f1, .int .i64 x.f2, .slice A3 x.f3.length c3] 25)).alloc (.cells #[.slice none 0 0, .slice none 0 0, .int .i64 0, .int .i64 0, .slice none 0 0, .int .i64 0, .bool false, .int .i64 0] 71)) (w.heap.size + 1 + 1) (.slice none 0 0) (.slice none 0 0) (.int .i64 0) (.int .i64 0) (.slice none 0 0) (.int .i64 0) (.bool false) (.int .i64 0) := by
   have := heap_alloc_new ((w.alloc (.cells #[.slice A0 F.length c0, .slice A1 P.length c1, .int .i64 q, .int .i64 n, .slice A4 nn.length c4, .int .i64 cr, .bool dw, .int .i64 pk] 71)).alloc (.cells #[.string x.f0, .int .i64 x.f1, .int .i64 x.f2, .slice A3 x.f3.length c3] 25)) (.cells #[.slice none 0 0, .slice none 0 0, .int .i64 0, .int .i64 0, .slice none 0 0, .int .i64 0, .bool false, .int .i64 0] 71)
   rw [World.size_alloc, World.size_alloc] at this
   exact this
  have hsz : (((w.alloc (.cells #[.slice A0 F.length c0, .slice A1 P.length c1, .int .i64 q, .int .i64 n, .slice A4 nn.length c4, .int .i64 cr, .bool dw, .int .i64 pk] 71)).alloc (.cells #[.string x.f0, .int .i64 x.f1, .int .i64 x.f2, .slice A3 x.f3.length c3] 25)).alloc (.cells #[.slice none 0 0, .slice none 0 0, .int .i64 0, .int .i64 0, .slice none 0 0, .int .i64 0, .bool false, .int .i64 0] 71)).heap.size = w.heap.size + 3 := by rw [World.size_alloc, World.size_alloc, World.size_alloc]
  have HB0 := Bvh hb0
  have HX := Bvh hx1
  have HW := Bvh hw1
  have HZ := Bvh hz1
  have HSZ := Bvh hsz
  have HF := Bvh (V_in (n := w.heap.size + 3) (e2 := 38) (b2 := 0) (Kd.V_below hF hb0))
  have HQ := Bvh (V_in (n := w.heap.size + 3) (e2 := 25) (b2 := 0) (Kd.V_below hQ hb0))
  have HN := Bvh (V_in (n := w.heap.size + 3) (e2 := 3) (b2 := 0) (Kd.V_below hN hb0))
  have HD := Bvh (V_in (n := w.heap.size + 3) (e2 := 5) (b2 := 0) (Kd.V_below hD hb0))
  have HP := Bvh hP
  have HOK := Bvh hd
  have HG := Bvh hG
  have HGET := Bvh hget
  have HGOK := Bvh (Aks (fun _ => -1) (P.map to31) 0 F hd (by rw [List.length_map]; omega))
  have hgl : G.length ≤ 1000 := by rw [← hG]; exact HGOK.out.2
  have hgo : okL G := by rw [← hG]; exact HGOK.out.1
  have HGO := Bvh hgo
  have hn3 : ¬ Out Pf (w.heap.size + 3) (w.heap.size + 1 + 1) := fun h => h.elim (fun h => by have := hlt _ h; omega) (fun h => by omega)
  have hn1 : ¬ Out Pf (w.heap.size + 3) w.heap.size := fun h => h.elim (fun h => by have := hlt _ h; omega) (fun h => by omega)
  have HN3 := Bvh hn3
  have HN1 := Bvh hn1
  have HLT := Bvh hlt
  have hle2 : w.heap.size ≤ w.heap.size + 1 + 1 := by omega
  have hle3 : w.heap.size ≤ w.heap.size + 3 := by omega
  clear hb0 hx1 hw1 hz1 hF hQ hN hD hP hd hG hget hgo hn3 hn1 hlt HGOK
  go_enter Try.func84, Try.ntmps84
  go_upto_region 1 with fail
  generalize (((w.alloc (.cells #[.slice A0 F.length c0, .slice A1 P.length c1, .int .i64 q, .int .i64 n, .slice A4 nn.length c4, .int .i64 cr, .bool dw, .int .i64 pk] 71)).alloc (.cells #[.string x.f0, .int .i64 x.f1, .int .i64 x.f2, .slice A3 x.f3.length c3] 25)).alloc (.cells #[.slice none 0 0, .slice none 0 0, .int .i64 0, .int .i64 0, .slice none 0 0, .int .i64 0, .bool false, .int .i64 0] 71)) = W at HB0 HX HW HZ HSZ HF HQ HN HD hsz ⊢
  clear hsz
  obtain ⟨y0, y1, y2, y3, y4, y5, y6, y7⟩ := HX.out.cell
  go_wp2_with (first
   | (go_at_call 51; (with_reducible refine (Ajn q n cr dw pk HF.out HQ.out HN.out HP.out HOK.out (by omega) HG.out).mono ?_); rintro e w2 ⟨A2, c2, rfl, hv2, hb2⟩; have HV2 := Bvh (Aj4 (e2 := 38) (b2 := 0) hv2 (by have := HSZ.out; omega)); have HB2 := Bvh hb2; clear y0 y1 y2 y3 y4 y5 y6 y7; obtain ⟨t0, t1, t2, t3⟩ := (HW.out.below hb2).cell; clear hb2 hv2)
   | (go_at_call 30; (with_reducible refine (xget x.f0 HV2.out (by omega) HGET.out).mono ?_); rintro e w3 ⟨Ab, cb, rfl, _, hb3⟩; have HB3 := Bvh (Aq1 HB2.out hb3); have HV3 := Bvh (Kd.V_below HV2.out hb3); clear t0 t1 t2 t3 hb3; obtain ⟨t0, t1, t2, t3⟩ := (HW.out.below HB3.out).cell; obtain ⟨y0, y1, y2, y3, y4, y5, y6, y7⟩ := (HX.out.below HB3.out).cell; obtain ⟨pf0, pg0, pf1, pg1, pf2, pg2, pf3, pg3, pf4, pg4, pf5, pg5, pf6, pg6, pf7, pg7, hT⟩ := (HZ.out.below HB3.out).put (.slice A0 F.length c0) (.slice A1 P.length c1) (.int .i64 q) (.int .i64 n) (.slice A4 nn.length c4) (.int .i64 cr) (.bool dw) (.int .i64 pk); have HT := Bvh hT; clear hT)
   | (go_at_call 19; (with_reducible refine (xdo x (-1) HV3.out (Kd.V_below HD.out HB3.out) hgl HGO.out hx HDO.out).mono ?_); rintro e w4 ⟨Ah, ch, rfl, hv4, hb4⟩; have HB4 := Bvh (Aq1 HB3.out hb4); have HV4 := Bvh (Aj4 (e2 := 38) (b2 := 0) hv4 (by have := HSZ.out; have := HB3.out.size; omega)); have HG4 := Bvh (Kd.V_below HV3.out hb4); clear t0 t1 t2 t3 y0 y1 y2 y3 y4 y5 y6 y7 pf0 pg0 pf1 pg1 pf2 pg2 pf3 pg3 pf4 pg4 pf5 pg5 pf6 pg6 pf7 pg7 HT hb4 hv4; obtain ⟨y0, y1, y2, y3, y4, y5, y6, y7⟩ := (HX.out.below HB4.out).cell; obtain ⟨pf0, pg0, pf1, pg1, pf2, pg2, pf3, pg3, pf4, pg4, pf5, pg5, pf6, pg6, pf7, pg7, hT⟩ := (HZ.out.below HB4.out).put (.slice A0 F.length c0) (.slice A1 P.length c1) (.int .i64 q) (.int .i64 n) (.slice A4 nn.length c4) (.int .i64 cr) (.bool dw) (.int .i64 pk); have HT := Bvh hT; clear hT))
  refine bodyPost_ret (Azy rfl _ _ (w.heap.size + 1 + 1) 71 #[.slice A0 F.length c0, .slice A1 P.length c1, .int .i64 q, .int .i64 n, .slice A4 nn.length c4, .int .i64 cr, .bool dw, .int .i64 pk] (0, 0) _ rfl HT.out Try.underlying71 rfl (by kernel_rfl)) rfl ?_
  exact ⟨rfl, Ax5 (Aq1 HB0.out HB4.out) hle2 _ _ _ _ _ _ _ _⟩
theorem Bxn (A0 : Option Addr) (c0 : Nat) (F : List S38) (A1 : Option Addr) (c1 : Nat) (P : List S25) (q n : Int) (A4 : Option Addr) (c4 : Nat) (nn : List Int) (cr : Int) (dw : Bool) (pk : Int) (x : S25) (A3 : Option Addr) (c3 : Nat) (Pf : Nat → Prop) (hlt : ∀ k, Pf k → k < w.heap.size) (hF : Kd.V k38 38 w 0 Pf (.slice A0 F.length c0) F) (hQ : Kd.V k25 25 w 0 Pf (.slice A1 P.length c1) P) (hN : Kd.V (Kd.int .i64) 3 w 0 Pf (.slice A4 nn.length c4) nn) (hD : Kd.V (Kd.int .u8) 5 w 0 Pf (.slice A3 x.f3.length c3) x.f3) (hP : ∀ x ∈ P, x.f3.length ≤ 1000) (hd : okL F) (hl : F.length + P.length ≤ 990) (hx : x.f3.length ≤ 1000) (G : List S38) (gb : List Int) (gi : Bool) (hG : Azd F P = G) (hget : getT G x.f0 = (gb, gi)) (hk : ((x.f1 == 2) = true ∧ gi = true) ∨ ((x.f1 == 2) = false ∧ (x.f1 == 3) = true ∧ gi = true) ∨ ((x.f1 == 2) = false ∧ (x.f1 == 3) = false)) (H : List S38) (hdo : doT G (to31 x) (-1) = (H, 0)) (hhl : H.length ≤ 1000000) (z z2 : Int) (hz : Axs H = z) (hz2 : Axs G = z2) (h1 : decide (q < z) = true) (h8 : decide (z2 < z) = true) :
 Calls Try.prog 84 #[.agg #[.slice A0 F.length c0, .slice A1 P.length c1, .int .i64 q, .int .i64 n, .slice A4 nn.length c4, .int .i64 cr, .bool dw, .int .i64 pk], .agg #[.string x.f0, .int .i64 x.f1, .int .i64 x.f2, .slice A3 x.f3.length c3]] w fun e w' => e = .returned (.tuple #[.agg #[.slice A0 F.length c0, .slice A1 P.length c1, .int .i64 q, .int .i64 n, .slice A4 nn.length c4, .int .i64 cr, .bool dw, .int .i64 pk], .int .i64 8]) ∧ Below w.heap.size w w' := by
 have HDO := Bvh hdo
 have HSIZE := Bvh hz
 have HSIZE2 := Bvh hz2
 clear hz hz2
 clear hdo
 rcases hk with ⟨h2, rfl⟩ | ⟨h2, h3, rfl⟩ | ⟨h2, h3⟩
 all_goals
  have hb0 : Below w.heap.size w (((w.alloc (.cells #[.slice A0 F.length c0, .slice A1 P.length c1, .int .i64 q, .int .i64 n, .slice A4 nn.length c4, .int .i64 cr, .bool dw, .int .i64 pk] 71)).alloc (.cells #[.string x.f0, .int .i64 x.f1, .int .i64 x.f2, .slice A3 x.f3.length c3] 25)).alloc (.cells #[.slice none 0 0, .slice none 0 0, .int .i64 0, .int .i64 0, .slice none 0 0, .int .i64 0, .bool false, .int .i64 0] 71)) := Aq4 (Aq4 (Aq4 (Below.refl _ _) _) _) _
  have hx1 : VarX (((w.alloc (.cells #[.slice A0 F.length c0, .slice A1 P.length c1, .int .i64 q, .int .i64 n, .slice A4 nn.length c4, .int .i64 cr, .bool dw, .int .i64 pk] 71)).alloc (.cells #[.string x.f0, .int .i64 x.f1, .int .i64 x.f2, .slice A3 x.f3.length c3] 25)).alloc (.cells #[.slice none 0 0, .slice none 0 0, .int .i64 0, .int .i64 0, .slice none 0 0, .int .i64 0, .bool false, .int .i64 0] 71)) w.heap.size (.slice A0 F.length c0) (.slice A1 P.length c1) (.int .i64 q) (.int .i64 n) (.slice A4 nn.length c4) (.int .i64 cr) (.bool dw) (.int .i64 pk) := Aqe (Aqe (heap_alloc_new _ _) _) _
  have hw1 : VarY (((w.alloc (.cells #[.slice A0 F.length c0, .slice A1 P.length c1, .int .i64 q, .int .i64 n, .slice A4 nn.length c4, .int .i64 cr, .bool dw, .int .i64 pk] 71)).alloc (.cells #[.string x.f0, .int .i64 x.f1, .int .i64 x.f2, .slice A3 x.f3.length c3] 25)).alloc (.cells #[.slice none 0 0, .slice none 0 0, .int .i64 0, .int .i64 0, .slice none 0 0, .int .i64 0, .bool false, .int .i64 0] 71)) (w.heap.size + 1) x A3 c3 := by
   have := Aqe (heap_alloc_new (w.alloc (.cells #[.slice A0 F.length c0, .slice A1 P.length c1, .int .i64 q, .int .i64 n, .slice A4 nn.length c4, .int .i64 cr, .bool dw, .int .i64 pk] 71)) (.cells #[.string x.f0, .int .i64 x.f1, .int .i64 x.f2, .slice A3 x.f3.length c3] 25)) (.cells #[.slice none 0 0, .slice none 0 0, .int .i64 0, .int .i64 0, .slice none 0 0, .int .i64 0, .bool false, .int .i64 0] 71)
   rw [World.size_alloc] at this
   exact this
  have hz1 : VarX (((w.alloc (.cells #[.slice A0 F.length c0, .slice A1 P.length c1, .int .i64 q, .int .i64 n, .slice A4 nn.length c4, .int .i64 cr, .bool dw, .int .i64 pk] 71)).alloc (.cells #[.string x.f0, .int .i64 x.f1, .int .i64 x.f2, .slice A3 x.f3.length c3] 25)).alloc (.cells #[.slice none 0 0, .slice none 0 0, .int .i64 0, .int .i64 0, .slice none 0 0, .int .i64 0, .bool false, .int .i64 0] 71)) (w.heap.size + 1 + 1) (.slice none 0 0) (.slice none 0 0) (.int .i64 0) (.int .i64 0) (.slice none 0 0) (.int .i64 0) (.bool false) (.int .i64 0) := by
   have := heap_alloc_new ((w.alloc (.cells #[.slice A0 F.length c0, .slice A1 P.length c1, .int .i64 q, .int .i64 n, .slice A4 nn.length c4, .int .i64 cr, .bool dw, .int .i64 pk] 71)).alloc (.cells #[.string x.f0, .int .i64 x.f1, .int .i64 x.f2, .slice A3 x.f3.length c3] 25)) (.cells #[.slice none 0 0, .slice none 0 0, .int .i64 0, .int .i64 0, .slice none 0 0, .int .i64 0, .bool false, .int .i64 0] 71)
   rw [World.size_alloc, World.size_alloc] at this
   exact this
  have hsz : (((w.alloc (.cells #[.slice A0 F.length c0, .slice A1 P.length c1, .int .i64 q, .int .i64 n, .slice A4 nn.length c4, .int .i64 cr, .bool dw, .int .i64 pk] 71)).alloc (.cells #[.string x.f0, .int .i64 x.f1, .int .i64 x.f2, .slice A3 x.f3.length c3] 25)).alloc (.cells #[.slice none 0 0, .slice none 0 0, .int .i64 0, .int .i64 0, .slice none 0 0, .int .i64 0, .bool false, .int .i64 0] 71)).heap.size = w.heap.size + 3 := by rw [World.size_alloc, World.size_alloc, World.size_alloc]
  have HB0 := Bvh hb0
  have HX := Bvh hx1
  have HW := Bvh hw1
  have HZ := Bvh hz1
  have HSZ := Bvh hsz
  have HF := Bvh (V_in (n := w.heap.size + 3) (e2 := 38) (b2 := 0) (Kd.V_below hF hb0))
  have HQ := Bvh (V_in (n := w.heap.size + 3) (e2 := 25) (b2 := 0) (Kd.V_below hQ hb0))
  have HN := Bvh (V_in (n := w.heap.size + 3) (e2 := 3) (b2 := 0) (Kd.V_below hN hb0))
  have HD := Bvh (V_in (n := w.heap.size + 3) (e2 := 5) (b2 := 0) (Kd.V_below hD hb0))
  have HP := Bvh hP
  have HOK := Bvh hd
  have HG := Bvh hG
  have HGET := Bvh hget
  have HGOK := Bvh (Aks (fun _ => -1) (P.map to31) 0 F hd (by rw [List.length_map]; omega))
  have hgl : G.length ≤ 1000 := by rw [← hG]; exact HGOK.out.2
  have hgo : okL G := by rw [← hG]; exact HGOK.out.1
  have HGO := Bvh hgo
  have hn3 : ¬ Out Pf (w.heap.size + 3) (w.heap.size + 1 + 1) := fun h => h.elim (fun h => by have := hlt _ h; omega) (fun h => by omega)
  have hn1 : ¬ Out Pf (w.heap.size + 3) w.heap.size := fun h => h.elim (fun h => by have := hlt _ h; omega) (fun h => by omega)
  have HN3 := Bvh hn3
  have HN1 := Bvh hn1
  have HLT := Bvh hlt
  have hle2 : w.heap.size ≤ w.heap.size + 1 + 1 := by omega
  have hle3 : w.heap.size ≤ w.heap.size + 3 := by omega
  clear hb0 hx1 hw1 hz1 hF hQ hN hD hP hd hG hget hgo hn3 hn1 hlt HGOK
  go_enter Try.func84, Try.ntmps84
  go_upto_region 1 with fail
  generalize (((w.alloc (.cells #[.slice A0 F.length c0, .slice A1 P.length c1, .int .i64 q, .int .i64 n, .slice A4 nn.length c4, .int .i64 cr, .bool dw, .int .i64 pk] 71)).alloc (.cells #[.string x.f0, .int .i64 x.f1, .int .i64 x.f2, .slice A3 x.f3.length c3] 25)).alloc (.cells #[.slice none 0 0, .slice none 0 0, .int .i64 0, .int .i64 0, .slice none 0 0, .int .i64 0, .bool false, .int .i64 0] 71)) = W at HB0 HX HW HZ HSZ HF HQ HN HD hsz ⊢
  clear hsz
  obtain ⟨y0, y1, y2, y3, y4, y5, y6, y7⟩ := HX.out.cell
  go_wp2_with (first
   | (go_at_call 51; (with_reducible refine (Ajn q n cr dw pk HF.out HQ.out HN.out HP.out HOK.out (by omega) HG.out).mono ?_); rintro e w2 ⟨A2, c2, rfl, hv2, hb2⟩; have HV2 := Bvh (Aj4 (e2 := 38) (b2 := 0) hv2 (by have := HSZ.out; omega)); have HB2 := Bvh hb2; clear y0 y1 y2 y3 y4 y5 y6 y7; obtain ⟨t0, t1, t2, t3⟩ := (HW.out.below hb2).cell; clear hb2 hv2)
   | (go_at_call 30; (with_reducible refine (xget x.f0 HV2.out (by omega) HGET.out).mono ?_); rintro e w3 ⟨Ab, cb, rfl, _, hb3⟩; have HB3 := Bvh (Aq1 HB2.out hb3); have HV3 := Bvh (Kd.V_below HV2.out hb3); clear t0 t1 t2 t3 hb3; obtain ⟨t0, t1, t2, t3⟩ := (HW.out.below HB3.out).cell; obtain ⟨y0, y1, y2, y3, y4, y5, y6, y7⟩ := (HX.out.below HB3.out).cell; obtain ⟨pf0, pg0, pf1, pg1, pf2, pg2, pf3, pg3, pf4, pg4, pf5, pg5, pf6, pg6, pf7, pg7, hT⟩ := (HZ.out.below HB3.out).put (.slice A0 F.length c0) (.slice A1 P.length c1) (.int .i64 q) (.int .i64 n) (.slice A4 nn.length c4) (.int .i64 cr) (.bool dw) (.int .i64 pk); have HT := Bvh hT; clear hT)
   | (go_at_call 19; (with_reducible refine (xdo x (-1) HV3.out (Kd.V_below HD.out HB3.out) hgl HGO.out hx HDO.out).mono ?_); rintro e w4 ⟨Ah, ch, rfl, hv4, hb4⟩; have HB4 := Bvh (Aq1 HB3.out hb4); have HV4 := Bvh (Aj4 (e2 := 38) (b2 := 0) hv4 (by have := HSZ.out; have := HB3.out.size; omega)); have HG4 := Bvh (Kd.V_below HV3.out hb4); clear t0 t1 t2 t3 y0 y1 y2 y3 y4 y5 y6 y7 pf0 pg0 pf1 pg1 pf2 pg2 pf3 pg3 pf4 pg4 pf5 pg5 pf6 pg6 pf7 pg7 HT hb4 hv4; obtain ⟨y0, y1, y2, y3, y4, y5, y6, y7⟩ := (HX.out.below HB4.out).cell; obtain ⟨pf0, pg0, pf1, pg1, pf2, pg2, pf3, pg3, pf4, pg4, pf5, pg5, pf6, pg6, pf7, pg7, hT⟩ := (HZ.out.below HB4.out).put (.slice A0 F.length c0) (.slice A1 P.length c1) (.int .i64 q) (.int .i64 n) (.slice A4 nn.length c4) (.int .i64 cr) (.bool dw) (.int .i64 pk); have HT := Bvh hT; clear hT)
   | (go_at_call 36; (with_reducible refine (Bj2 HV4.out hhl HSIZE.out).mono ?_); rintro e w5 ⟨rfl, hb5⟩; have HB5 := Bvh (Aq1 HB4.out hb5); have HG5 := Bvh (Kd.V_below HG4.out hb5); clear y0 y1 y2 y3 y4 y5 y6 y7 pf0 pg0 pf1 pg1 pf2 pg2 pf3 pg3 pf4 pg4 pf5 pg5 pf6 pg6 pf7 pg7 HT hb5; obtain ⟨y0, y1, y2, y3, y4, y5, y6, y7⟩ := (HX.out.below HB5.out).cell)
   | (go_at_call 36; (with_reducible refine (Bj2 HG5.out (by omega) HSIZE2.out).mono ?_); rintro e w6 ⟨rfl, hb6⟩; have HB6 := Bvh (Aq1 HB5.out hb6); clear y0 y1 y2 y3 y4 y5 y6 y7 hb6; obtain ⟨y0, y1, y2, y3, y4, y5, y6, y7⟩ := (HX.out.below HB6.out).cell; obtain ⟨pf0, pg0, pf1, pg1, pf2, pg2, pf3, pg3, pf4, pg4, pf5, pg5, pf6, pg6, pf7, pg7, hT⟩ := (HZ.out.below HB6.out).put (.slice A0 F.length c0) (.slice A1 P.length c1) (.int .i64 q) (.int .i64 n) (.slice A4 nn.length c4) (.int .i64 cr) (.bool dw) (.int .i64 pk); have HT := Bvh hT; clear hT))
  refine bodyPost_ret (Azy rfl _ _ (w.heap.size + 1 + 1) 71 #[.slice A0 F.length c0, .slice A1 P.length c1, .int .i64 q, .int .i64 n, .slice A4 nn.length c4, .int .i64 cr, .bool dw, .int .i64 pk] (0, 0) _ rfl HT.out Try.underlying71 rfl (by kernel_rfl)) rfl ?_
  exact ⟨rfl, Ax5 (Aq1 HB0.out HB6.out) hle2 _ _ _ _ _ _ _ _⟩
theorem Bj0 (A0 : Option Addr) (c0 : Nat) (F : List S38) (A1 : Option Addr) (c1 : Nat) (P : List S25) (q n : Int) (A4 : Option Addr) (c4 : Nat) (nn : List Int) (cr : Int) (dw : Bool) (pk : Int) (x : S25) (A3 : Option Addr) (c3 : Nat) (Pf : Nat → Prop) (hlt : ∀ k, Pf k → k < w.heap.size) (hF : Kd.V k38 38 w 0 Pf (.slice A0 F.length c0) F) (hQ : Kd.V k25 25 w 0 Pf (.slice A1 P.length c1) P) (hN : Kd.V (Kd.int .i64) 3 w 0 Pf (.slice A4 nn.length c4) nn) (hD : Kd.V (Kd.int .u8) 5 w 0 Pf (.slice A3 x.f3.length c3) x.f3) (hP : ∀ x ∈ P, x.f3.length ≤ 1000) (hd : okL F) (hl : F.length + P.length ≤ 990) (hx : x.f3.length ≤ 1000) (G : List S38) (gb : List Int) (gi : Bool) (hG : Azd F P = G) (hget : getT G x.f0 = (gb, gi)) (hk : ((x.f1 == 2) = true ∧ gi = true) ∨ ((x.f1 == 2) = false ∧ (x.f1 == 3) = true ∧ gi = true) ∨ ((x.f1 == 2) = false ∧ (x.f1 == 3) = false)) (H : List S38) (hdo : doT G (to31 x) (-1) = (H, 0)) (hhl : H.length ≤ 1000000) (z z2 : Int) (hz : Axs H = z) (hz2 : Axs G = z2) (h1 : decide (q < z) = false) (m : Int) (hm : (if pk < z then z else pk) = m) (Q : List S25) (hQQ : P ++ [x] = Q) :
 Calls Try.prog 84 #[.agg #[.slice A0 F.length c0, .slice A1 P.length c1, .int .i64 q, .int .i64 n, .slice A4 nn.length c4, .int .i64 cr, .bool dw, .int .i64 pk], .agg #[.string x.f0, .int .i64 x.f1, .int .i64 x.f2, .slice A3 x.f3.length c3]] w fun e w' => ∃ Ap cp, e = .returned (.tuple #[.agg #[.slice A0 F.length c0, .slice Ap Q.length cp, .int .i64 q, .int .i64 n, .slice A4 nn.length c4, .int .i64 cr, .bool dw, .int .i64 m], .int .i64 0]) ∧ Kd.V k25 25 w' 0 (fun k => Pf k ∨ w.heap.size ≤ k) (.slice Ap Q.length cp) Q ∧ Below w.heap.size w w' := by
 have hQ0 := hQ
 have hD0 := hD
 have HL := Bvh hl
 have HQQ := Bvh hQQ
 clear hQQ
 have HDO := Bvh hdo
 have HSIZE := Bvh hz
 have HSIZE2 := Bvh hz2
 clear hz hz2
 clear hdo
 rcases hk with ⟨h2, rfl⟩ | ⟨h2, h3, rfl⟩ | ⟨h2, h3⟩
 all_goals
  have hb0 : Below w.heap.size w (((w.alloc (.cells #[.slice A0 F.length c0, .slice A1 P.length c1, .int .i64 q, .int .i64 n, .slice A4 nn.length c4, .int .i64 cr, .bool dw, .int .i64 pk] 71)).alloc (.cells #[.string x.f0, .int .i64 x.f1, .int .i64 x.f2, .slice A3 x.f3.length c3] 25)).alloc (.cells #[.slice none 0 0, .slice none 0 0, .int .i64 0, .int .i64 0, .slice none 0 0, .int .i64 0, .bool false, .int .i64 0] 71)) := Aq4 (Aq4 (Aq4 (Below.refl _ _) _) _) _
  have hx1 : VarX (((w.alloc (.cells #[.slice A0 F.length c0, .slice A1 P.length c1, .int .i64 q, .int .i64 n, .slice A4 nn.length c4, .int .i64 cr, .bool dw, .int .i64 pk] 71)).alloc (.cells #[.string x.f0, .int .i64 x.f1, .int .i64 x.f2, .slice A3 x.f3.length c3] 25)).alloc (.cells #[.slice none 0 0, .slice none 0 0, .int .i64 0, .int .i64 0, .slice none 0 0, .int .i64 0, .bool false, .int .i64 0] 71)) w.heap.size (.slice A0 F.length c0) (.slice A1 P.length c1) (.int .i64 q) (.int .i64 n) (.slice A4 nn.length c4) (.int .i64 cr) (.bool dw) (.int .i64 pk) := Aqe (Aqe (heap_alloc_new _ _) _) _
  have hw1 : VarY (((w.alloc (.cells #[.slice A0 F.length c0, .slice A1 P.length c1, .int .i64 q, .int .i64 n, .slice A4 nn.length c4, .int .i64 cr, .bool dw, .int .i64 pk] 71)).alloc (.cells #[.string x.f0, .int .i64 x.f1, .int .i64 x.f2, .slice A3 x.f3.length c3] 25)).alloc (.cells #[.slice none 0 0, .slice none 0 0, .int .i64 0, .int .i64 0, .slice none 0 0, .int .i64 0, .bool false, .int .i64 0] 71)) (w.heap.size + 1) x A3 c3 := by
   have := Aqe (heap_alloc_new (w.alloc (.cells #[.slice A0 F.length c0, .slice A1 P.length c1, .int .i64 q, .int .i64 n, .slice A4 nn.length c4, .int .i64 cr, .bool dw, .int .i64 pk] 71)) (.cells #[.string x.f0, .int .i64 x.f1, .int .i64 x.f2, .slice A3 x.f3.length c3] 25)) (.cells #[.slice none 0 0, .slice none 0 0, .int .i64 0, .int .i64 0, .slice none 0 0, .int .i64 0, .bool false, .int .i64 0] 71)
   rw [World.size_alloc] at this
   exact this
  have hz1 : VarX (((w.alloc (.cells #[.slice A0 F.length c0, .slice A1 P.length c1, .int .i64 q, .int .i64 n, .slice A4 nn.length c4, .int .i64 cr, .bool dw, .int .i64 pk] 71)).alloc (.cells #[.string x.f0, .int .i64 x.f1, .int .i64 x.f2, .slice A3 x.f3.length c3] 25)).alloc (.cells #[.slice none 0 0, .slice none 0 0, .int .i64 0, .int .i64 0, .slice none 0 0, .int .i64 0, .bool false, .int .i64 0] 71)) (w.heap.size + 1 + 1) (.slice none 0 0) (.slice none 0 0) (.int .i64 0) (.int .i64 0) (.slice none 0 0) (.int .i64 0) (.bool false) (.int .i64 0) := by
   have := heap_alloc_new ((w.alloc (.cells #[.slice A0 F.length c0, .slice A1 P.length c1, .int .i64 q, .int .i64 n, .slice A4 nn.length c4, .int .i64 cr, .bool dw, .int .i64 pk] 71)).alloc (.cells #[.string x.f0, .int .i64 x.f1, .int .i64 x.f2, .slice A3 x.f3.length c3] 25)) (.cells #[.slice none 0 0, .slice none 0 0, .int .i64 0, .int .i64 0, .slice none 0 0, .int .i64 0, .bool false, .int .i64 0] 71)
   rw [World.size_alloc, World.size_alloc] at this
   exact this
  have hsz : (((w.alloc (.cells #[.slice A0 F.length c0, .slice A1 P.length c1, .int .i64 q, .int .i64 n, .slice A4 nn.length c4, .int .i64 cr, .bool dw, .int .i64 pk] 71)).alloc (.cells #[.string x.f0, .int .i64 x.f1, .int .i64 x.f2, .slice A3 x.f3.length c3] 25)).alloc (.cells #[.slice none 0 0, .slice none 0 0, .int .i64 0, .int .i64 0, .slice none 0 0, .int .i64 0, .bool false, .int .i64 0] 71)).heap.size = w.heap.size + 3 := by rw [World.size_alloc, World.size_alloc, World.size_alloc]
  have HB0 := Bvh hb0
  have HX := Bvh hx1
  have HW := Bvh hw1
  have HZ := Bvh hz1
  have HSZ := Bvh hsz
  have HF := Bvh (V_in (n := w.heap.size + 3) (e2 := 38) (b2 := 0) (Kd.V_below hF hb0))
  have HQ := Bvh (V_in (n := w.heap.size + 3) (e2 := 25) (b2 := 0) (Kd.V_below hQ hb0))
  have HN := Bvh (V_in (n := w.heap.size + 3) (e2 := 3) (b2 := 0) (Kd.V_below hN hb0))
  have HD := Bvh (V_in (n := w.heap.size + 3) (e2 := 5) (b2 := 0) (Kd.V_below hD hb0))
  have HP := Bvh hP
  have HOK := Bvh hd
  have HG := Bvh hG
  have HGET := Bvh hget
  have HGOK := Bvh (Aks (fun _ => -1) (P.map to31) 0 F hd (by rw [List.length_map]; omega))
  have hgl : G.length ≤ 1000 := by rw [← hG]; exact HGOK.out.2
  have hgo : okL G := by rw [← hG]; exact HGOK.out.1
  have HGO := Bvh hgo
  have hn3 : ¬ Out Pf (w.heap.size + 3) (w.heap.size + 1 + 1) := fun h => h.elim (fun h => by have := hlt _ h; omega) (fun h => by omega)
  have hn1 : ¬ Out Pf (w.heap.size + 3) w.heap.size := fun h => h.elim (fun h => by have := hlt _ h; omega) (fun h => by omega)
  have HN3 := Bvh hn3
  have HN1 := Bvh hn1
  have HLT := Bvh hlt
  have hle2 : w.heap.size ≤ w.heap.size + 1 + 1 := by omega
  have hle3 : w.heap.size ≤ w.heap.size + 3 := by omega
  have HQP := Bvh (V_P (e2 := 25) (b2 := 0) (Kd.V_below hQ0 hb0) (fun k hk => hk))
  have HDP := Bvh (V_P (e2 := 5) (b2 := 0) (Kd.V_below hD0 hb0) (fun k hk => hk))
  clear hQ0 hD0
  clear hb0 hx1 hw1 hz1 hF hQ hN hD hP hd hG hget hgo hn3 hn1 hlt HGOK
  go_enter Try.func84, Try.ntmps84
  go_upto_region 1 with fail
  generalize (((w.alloc (.cells #[.slice A0 F.length c0, .slice A1 P.length c1, .int .i64 q, .int .i64 n, .slice A4 nn.length c4, .int .i64 cr, .bool dw, .int .i64 pk] 71)).alloc (.cells #[.string x.f0, .int .i64 x.f1, .int .i64 x.f2, .slice A3 x.f3.length c3] 25)).alloc (.cells #[.slice none 0 0, .slice none 0 0, .int .i64 0, .int .i64 0, .slice none 0 0, .int .i64 0, .bool false, .int .i64 0] 71)) = W at HB0 HX HW HZ HSZ HF HQ HN HD HQP HDP hsz ⊢
  clear hsz
  obtain ⟨y0, y1, y2, y3, y4, y5, y6, y7⟩ := HX.out.cell
  go_wp2_with (first
   | (go_at_call 51; (with_reducible refine (Ajn q n cr dw pk HF.out HQ.out HN.out HP.out HOK.out (by omega) HG.out).mono ?_); rintro e w2 ⟨A2, c2, rfl, hv2, hb2⟩; have HV2 := Bvh (Aj4 (e2 := 38) (b2 := 0) hv2 (by have := HSZ.out; omega)); have HB2 := Bvh hb2; clear y0 y1 y2 y3 y4 y5 y6 y7; obtain ⟨t0, t1, t2, t3⟩ := (HW.out.below hb2).cell; clear hb2 hv2)
   | (go_at_call 30; (with_reducible refine (xget x.f0 HV2.out (by omega) HGET.out).mono ?_); rintro e w3 ⟨Ab, cb, rfl, _, hb3⟩; have HB3 := Bvh (Aq1 HB2.out hb3); have HV3 := Bvh (Kd.V_below HV2.out hb3); clear t0 t1 t2 t3 hb3; obtain ⟨t0, t1, t2, t3⟩ := (HW.out.below HB3.out).cell; obtain ⟨y0, y1, y2, y3, y4, y5, y6, y7⟩ := (HX.out.below HB3.out).cell; obtain ⟨pf0, pg0, pf1, pg1, pf2, pg2, pf3, pg3, pf4, pg4, pf5, pg5, pf6, pg6, pf7, pg7, hT⟩ := (HZ.out.below HB3.out).put (.slice A0 F.length c0) (.slice A1 P.length c1) (.int .i64 q) (.int .i64 n) (.slice A4 nn.length c4) (.int .i64 cr) (.bool dw) (.int .i64 pk); have HT := Bvh hT; clear hT)
   | (go_at_call 19; (with_reducible refine (xdo x (-1) HV3.out (Kd.V_below HD.out HB3.out) hgl HGO.out hx HDO.out).mono ?_); rintro e w4 ⟨Ah, ch, rfl, hv4, hb4⟩; have HB4 := Bvh (Aq1 HB3.out hb4); have HV4 := Bvh (Aj4 (e2 := 38) (b2 := 0) hv4 (by have := HSZ.out; have := HB3.out.size; omega)); have HG4 := Bvh (Kd.V_below HV3.out hb4); clear t0 t1 t2 t3 y0 y1 y2 y3 y4 y5 y6 y7 pf0 pg0 pf1 pg1 pf2 pg2 pf3 pg3 pf4 pg4 pf5 pg5 pf6 pg6 pf7 pg7 HT hb4 hv4; obtain ⟨y0, y1, y2, y3, y4, y5, y6, y7⟩ := (HX.out.below HB4.out).cell; obtain ⟨pf0, pg0, pf1, pg1, pf2, pg2, pf3, pg3, pf4, pg4, pf5, pg5, pf6, pg6, pf7, pg7, hT⟩ := (HZ.out.below HB4.out).put (.slice A0 F.length c0) (.slice A1 P.length c1) (.int .i64 q) (.int .i64 n) (.slice A4 nn.length c4) (.int .i64 cr) (.bool dw) (.int .i64 pk); have HT := Bvh hT; clear hT)
   | (go_at_call 36; (with_reducible refine (Bj2 HV4.out hhl HSIZE.out).mono ?_); rintro e w5 ⟨rfl, hb5⟩; have HB5 := Bvh (Aq1 HB4.out hb5); have HG5 := Bvh (Kd.V_below HG4.out hb5); clear y0 y1 y2 y3 y4 y5 y6 y7 pf0 pg0 pf1 pg1 pf2 pg2 pf3 pg3 pf4 pg4 pf5 pg5 pf6 pg6 pf7 pg7 HT hb5; obtain ⟨y0, y1, y2, y3, y4, y5, y6, y7⟩ := (HX.out.below HB5.out).cell)
   | ((with_reducible refine Ax1 (N := 58) rfl ?_); refine Kd.N_lit k25 (w0 := W) W.heap.size 25 ?hg (N' := 58) ?hd (xs := ([] : List S25)) (inner := []) (ok := (Out Pf (w.heap.size + 3))) (okp := (Out Pf (w.heap.size + 3))) ?hr ?hp (fun _ hk => hk) ?hf HB5.out HB5.out.size (by decide) ?_; (case hd => rfl); (case hg => rfl); (case hr => first | (go_simp; done) | (go_simp; rfl)); (case hp => exact Reps.none _ _); (case hf => right; have := HB5.out.size; have := HSZ.out; omega); intro v0 wa hna hba hga hata; have HNA := Bvh hna; have HBA := Bvh hba; obtain ⟨Aa, ca, rfl⟩ := Kd.N_slice hna; clear hna hba hga hata y0 y1 y2 y3 y4 y5 y6 y7; obtain ⟨y0, y1, y2, y3, y4, y5, y6, y7⟩ := (HX.out.below HBA.out).cell)
   | ((with_reducible refine Axc (b := .append) (xs := #[.tmp 58, .tmp 60]) rfl ?_); at_builtin; refine Kd.N_append_rows k25 (w0 := W) W.heap.size rfl (.tmp 58) (.tmp 60) 69 25 (.agg #[(.string ⟨#[]⟩), (.int .i64 0), (.int .i64 0), (.slice none 0 0)]) 56 rfl Try.underlying69 Awl rfl (by decide) (by decide) (.slice Aa ([] : List S25).length ca) [] P A1 P.length c1 (Out Pf (w.heap.size + 3)) Pf rfl rfl ?aO ?aR ?aK ?aF ?aB ?aS ?aL ?_; (case aO => exact HNA.out); (case aR => exact Kd.V_F (Kd.V_below HQP.out HBA.out)); (case aK => exact fun k hk => ⟨.inl hk, fun he => by have := HLT.out k hk; have := HSZ.out; have := Kd.N_base HNA.out k he.symm; omega⟩); (case aF => exact fun k hk => by right; have := HBA.out.size; have := HSZ.out; omega); (case aB => exact HBA.out); (case aS => exact HBA.out.size); (case aL => have := HL.out; simp only [List.length_nil]; omega); intro v1 w7 hn7 hb7 _ _; rw [List.nil_append] at hn7; obtain ⟨A7, c7, rfl⟩ := Kd.N_slice hn7; have HN7 := Bvh hn7; have HB7 := Bvh hb7; clear hn7 hb7 y0 y1 y2 y3 y4 y5 y6 y7; obtain ⟨t0, t1, t2, t3⟩ := (HW.out.below HB7.out).cell; obtain ⟨y0, y1, y2, y3, y4, y5, y6, y7⟩ := (HX.out.below HB7.out).cell)
   | ((with_reducible refine Axc (b := .append) (xs := #[.tmp 62, .tmp 64]) rfl ?_); at_builtin; refine Kd.N_append k25 (w0 := W) W.heap.size rfl (.tmp 62) (.tmp 64) 69 25 (.agg #[(.string ⟨#[]⟩), (.int .i64 0), (.int .i64 0), (.slice none 0 0)]) 56 rfl Try.underlying69 Awl rfl (by decide) (by decide) (.slice A7 P.length c7) P x [.string x.f0, .int .i64 x.f1, .int .i64 x.f2, .slice A3 x.f3.length c3] (Out Pf (w.heap.size + 3)) Pf rfl rfl ?bP ?bK ?bF ?bO ?bB ?bS ?bL ?_; (case bP => exact Awk _ _ x (Kd.V_reads' HDP.out).2.1 (Kd.V_F (Kd.V_below HDP.out HB7.out))); (case bK => exact fun k hk => ⟨.inl hk, fun he => by have := HLT.out k hk; have := HSZ.out; have := Kd.N_base HN7.out k he.symm; omega⟩); (case bF => exact fun k hk => by right; have := HB7.out.size; have := HSZ.out; omega); (case bO => exact HN7.out); (case bB => exact HB7.out); (case bS => exact HB7.out.size); (case bL => have := HL.out; omega); intro v2 w8 hn8 hb8 _ _; rw [HQQ.out] at hn8; obtain ⟨A8, c8, rfl⟩ := Kd.N_slice hn8; have HN8 := Bvh hn8; have HB8 := Bvh hb8; clear t0 t1 t2 t3 y0 y1 y2 y3 y4 y5 y6 y7; obtain ⟨y0, y1, y2, y3, y4, y5, y6, y7⟩ := (HX.out.below HB8.out).cell; obtain ⟨s0, -, hx9⟩ := VarX.set1 (HX.out.below hb8) 1 (.slice A8 Q.length c8) rfl; have HX9 := Bvh (show VarX (w8.setCell ⟨w.heap.size, 1, none⟩ (.slice A8 Q.length c8)) w.heap.size (.slice A0 F.length c0) (.slice A8 Q.length c8) (.int .i64 q) (.int .i64 n) (.slice A4 nn.length c4) (.int .i64 cr) (.bool dw) (.int .i64 pk) from hx9); obtain ⟨r0, r1, r2, r3, r4, r5, r6, r7⟩ := HX9.out.cell; obtain ⟨u0, -, hx10⟩ := VarX.set1 HX9.out 7 (.int .i64 m) rfl; have HX10 := Bvh (show VarX ((w8.setCell ⟨w.heap.size, 1, none⟩ (.slice A8 Q.length c8)).setCell ⟨w.heap.size, 7, none⟩ (.int .i64 m)) w.heap.size (.slice A0 F.length c0) (.slice A8 Q.length c8) (.int .i64 q) (.int .i64 n) (.slice A4 nn.length c4) (.int .i64 cr) (.bool dw) (.int .i64 m) from hx10); obtain ⟨q0, q1, q2, q3, q4, q5, q6, q7⟩ := HX10.out.cell; have hz9 : VarX ((w8.setCell ⟨w.heap.size, 1, none⟩ (.slice A8 Q.length c8)).setCell ⟨w.heap.size, 7, none⟩ (.int .i64 m)) (w.heap.size + 1 + 1) (.slice none 0 0) (.slice none 0 0) (.int .i64 0) (.int .i64 0) (.slice none 0 0) (.int .i64 0) (.bool false) (.int .i64 0) := (show _ = _ by rw [Below.heap_setCell _ ⟨w.heap.size, 7, none⟩ _ _ (show w.heap.size + 1 + 1 ≠ w.heap.size by omega), Below.heap_setCell _ ⟨w.heap.size, 1, none⟩ _ _ (show w.heap.size + 1 + 1 ≠ w.heap.size by omega)]; exact HZ.out.below hb8); obtain ⟨pf0, pg0, pf1, pg1, pf2, pg2, pf3, pg3, pf4, pg4, pf5, pg5, pf6, pg6, pf7, pg7, hT⟩ := hz9.put (.slice A0 F.length c0) (.slice A8 Q.length c8) (.int .i64 q) (.int .i64 n) (.slice A4 nn.length c4) (.int .i64 cr) (.bool dw) (.int .i64 m); have HT := Bvh hT; clear hT hz9 hx9 hx10 hn8 hb8))
  refine bodyPost_ret (Azy rfl _ _ (w.heap.size + 1 + 1) 71 #[.slice A0 F.length c0, .slice A8 Q.length c8, .int .i64 q, .int .i64 n, .slice A4 nn.length c4, .int .i64 cr, .bool dw, .int .i64 m] (0, 0) _ rfl HT.out Try.underlying71 rfl (by kernel_rfl)) rfl ?_
  refine ⟨A8, c8, rfl, V_P (b := 0) (Axe (Aqo (Aqo (Kd.N_V HN8.out) HN1.out) HN1.out) HN3.out _ _ _ _ _ _ _ _) (fun k hk => hk.elim .inl fun h => .inr (Nat.le_trans hle3 h)), ?_⟩
  exact Ax5 (Aqg (Aqg (Aq1 HB0.out HB8.out) (Nat.le_refl _) 1 _) (Nat.le_refl _) 7 _) hle2 _ _ _ _ _ _ _ _
theorem Bzz (A0 : Option Addr) (c0 : Nat) (F : List S38) (A1 : Option Addr) (c1 : Nat) (P : List S25) (q n : Int) (A4 : Option Addr) (c4 : Nat) (nn : List Int) (cr : Int) (dw : Bool) (pk : Int) (x : S25) (A3 : Option Addr) (c3 : Nat) (Pf : Nat → Prop) (hlt : ∀ k, Pf k → k < w.heap.size) (hF : Kd.V k38 38 w 0 Pf (.slice A0 F.length c0) F) (hQ : Kd.V k25 25 w 0 Pf (.slice A1 P.length c1) P) (hN : Kd.V (Kd.int .i64) 3 w 0 Pf (.slice A4 nn.length c4) nn) (hD : Kd.V (Kd.int .u8) 5 w 0 Pf (.slice A3 x.f3.length c3) x.f3) (hP : ∀ x ∈ P, x.f3.length ≤ 1000) (hd : okL F) (hl : F.length + P.length ≤ 990) (hx : x.f3.length ≤ 1000) (G : List S38) (gb : List Int) (gi : Bool) (hG : Azd F P = G) (hget : getT G x.f0 = (gb, gi)) (hk : ((x.f1 == 2) = true ∧ gi = true) ∨ ((x.f1 == 2) = false ∧ (x.f1 == 3) = true ∧ gi = true) ∨ ((x.f1 == 2) = false ∧ (x.f1 == 3) = false)) (H : List S38) (hdo : doT G (to31 x) (-1) = (H, 0)) (hhl : H.length ≤ 1000000) (z z2 : Int) (hz : Axs H = z) (hz2 : Axs G = z2) (h1 : decide (q < z) = true) (h8 : decide (z2 < z) = false) (m : Int) (hm : (if pk < z then z else pk) = m) (Q : List S25) (hQQ : P ++ [x] = Q) :
 Calls Try.prog 84 #[.agg #[.slice A0 F.length c0, .slice A1 P.length c1, .int .i64 q, .int .i64 n, .slice A4 nn.length c4, .int .i64 cr, .bool dw, .int .i64 pk], .agg #[.string x.f0, .int .i64 x.f1, .int .i64 x.f2, .slice A3 x.f3.length c3]] w fun e w' => ∃ Ap cp, e = .returned (.tuple #[.agg #[.slice A0 F.length c0, .slice Ap Q.length cp, .int .i64 q, .int .i64 n, .slice A4 nn.length c4, .int .i64 cr, .bool dw, .int .i64 m], .int .i64 0]) ∧ Kd.V k25 25 w' 0 (fun k => Pf k ∨ w.heap.size ≤ k) (.slice Ap Q.length cp) Q ∧ Below w.heap.size w w' := by
 have hQ0 := hQ
 have hD0 := hD
 have HL := Bvh hl
 have HQQ := Bvh hQQ
 clear hQQ
 have HDO := Bvh hdo
 have HSIZE := Bvh hz
 have HSIZE2 := Bvh hz2
 clear hz hz2
 clear hdo
 rcases hk with ⟨h2, rfl⟩ | ⟨h2, h3, rfl⟩ | ⟨h2, h3⟩
 all_goals
  have hb0 : Below w.heap.size w (((w.alloc (.cells #[.slice A0 F.length c0, .slice A1 P.length c1, .int .i64 q, .int .i64 n, .slice A4 nn.length c4, .int .i64 cr, .bool dw, .int .i64 pk] 71)).alloc (.cells #[.string x.f0, .int .i64 x.f1, .int .i64 x.f2, .slice A3 x.f3.length c3] 25)).alloc (.cells #[.slice none 0 0, .slice none 0 0, .int .i64 0, .int .i64 0, .slice none 0 0, .int .i64 0, .bool false, .int .i64 0] 71)) := Aq4 (Aq4 (Aq4 (Below.refl _ _) _) _) _
  have hx1 : VarX (((w.alloc (.cells #[.slice A0 F.length c0, .slice A1 P.length c1, .int .i64 q, .int .i64 n, .slice A4 nn.length c4, .int .i64 cr, .bool dw, .int .i64 pk] 71)).alloc (.cells #[.string x.f0, .int .i64 x.f1, .int .i64 x.f2, .slice A3 x.f3.length c3] 25)).alloc (.cells #[.slice none 0 0, .slice none 0 0, .int .i64 0, .int .i64 0, .slice none 0 0, .int .i64 0, .bool false, .int .i64 0] 71)) w.heap.size (.slice A0 F.length c0) (.slice A1 P.length c1) (.int .i64 q) (.int .i64 n) (.slice A4 nn.length c4) (.int .i64 cr) (.bool dw) (.int .i64 pk) := Aqe (Aqe (heap_alloc_new _ _) _) _
  have hw1 : VarY (((w.alloc (.cells #[.slice A0 F.length c0, .slice A1 P.length c1, .int .i64 q, .int .i64 n, .slice A4 nn.length c4, .int .i64 cr, .bool dw, .int .i64 pk] 71)).alloc (.cells #[.string x.f0, .int .i64 x.f1, .int .i64 x.f2, .slice A3 x.f3.length c3] 25)).alloc (.cells #[.slice none 0 0, .slice none 0 0, .int .i64 0, .int .i64 0, .slice none 0 0, .int .i64 0, .bool false, .int .i64 0] 71)) (w.heap.size + 1) x A3 c3 := by
   have := Aqe (heap_alloc_new (w.alloc (.cells #[.slice A0 F.length c0, .slice A1 P.length c1, .int .i64 q, .int .i64 n, .slice A4 nn.length c4, .int .i64 cr, .bool dw, .int .i64 pk] 71)) (.cells #[.string x.f0, .int .i64 x.f1, .int .i64 x.f2, .slice A3 x.f3.length c3] 25)) (.cells #[.slice none 0 0, .slice none 0 0, .int .i64 0, .int .i64 0, .slice none 0 0, .int .i64 0, .bool false, .int .i64 0] 71)
   rw [World.size_alloc] at this
   exact this
  have hz1 : VarX (((w.alloc (.cells #[.slice A0 F.length c0, .slice A1 P.length c1, .int .i64 q, .int .i64 n, .slice A4 nn.length c4, .int .i64 cr, .bool dw, .int .i64 pk] 71)).alloc (.cells #[.string x.f0, .int .i64 x.f1, .int .i64 x.f2, .slice A3 x.f3.length c3] 25)).alloc (.cells #[.slice none 0 0, .slice none 0 0, .int .i64 0, .int .i64 0, .slice none 0 0, .int .i64 0, .bool false, .int .i64 0] 71)) (w.heap.size + 1 + 1) (.slice none 0 0) (.slice none 0 0) (.int .i64 0) (.int .i64 0) (.slice none 0 0) (.int .i64 0) (.bool false) (.int .i64 0) := by
   have := heap_alloc_new ((w.alloc (.cells #[.slice A0 F.length c0, .slice A1 P.length c1, .int .i64 q, .int .i64 n, .slice A4 nn.length c4, .int .i64 cr, .bool dw, .int .i64 pk] 71)).alloc (.cells #[.string x.f0, .int .i64 x.f1, .int .i64 x.f2, .slice A3 x.f3.length c3] 25)) (.cells #[.slice none 0 0, .slice none 0 0, .int .i64 0, .int .i64 0, .slice none 0 0, .int .i64 0, .bool false, .int .i64 0] 71)
   rw [World.size_alloc, World.size_alloc] at this
   exact this
  have hsz : (((w.alloc (.cells #[.slice A0 F.length c0, .slice A1 P.length c1, .int .i64 q, .int .i64 n, .slice A4 nn.length c4, .int .i64 cr, .bool dw, .int .i64 pk] 71)).alloc (.cells #[.string x.f0, .int .i64 x.f1, .int .i64 x.f2, .slice A3 x.f3.length c3] 25)).alloc (.cells #[.slice none 0 0, .slice none 0 0, .int .i64 0, .int .i64 0, .slice none 0 0, .int .i64 0, .bool false, .int .i64 0] 71)).heap.size = w.heap.size + 3 := by rw [World.size_alloc, World.size_alloc, World.size_alloc]
  have HB0 := Bvh hb0
  have HX := Bvh hx1
  have HW := Bvh hw1
  have HZ := Bvh hz1
  have HSZ := Bvh hsz
  have HF := Bvh (V_in (n := w.heap.size + 3) (e2 := 38) (b2 := 0) (Kd.V_below hF hb0))
  have HQ := Bvh (V_in (n := w.heap.size + 3) (e2 := 25) (b2 := 0) (Kd.V_below hQ hb0))
  have HN := Bvh (V_in (n := w.heap.size + 3) (e2 := 3) (b2 := 0) (Kd.V_below hN hb0))
  have HD := Bvh (V_in (n := w.heap.size + 3) (e2 := 5) (b2 := 0) (Kd.V_below hD hb0))
  have HP := Bvh hP
  have HOK := Bvh hd
  have HG := Bvh hG
  have HGET := Bvh hget
  have HGOK := Bvh (Aks (fun _ => -1) (P.map to31) 0 F hd (by rw [List.length_map]; omega))
  have hgl : G.length ≤ 1000 := by rw [← hG]; exact HGOK.out.2
  have hgo : okL G := by rw [← hG]; exact HGOK.out.1
  have HGO := Bvh hgo
  have hn3 : ¬ Out Pf (w.heap.size + 3) (w.heap.size + 1 + 1) := fun h => h.elim (fun h => by have := hlt _ h; omega) (fun h => by omega)
  have hn1 : ¬ Out Pf (w.heap.size + 3) w.heap.size := fun h => h.elim (fun h => by have := hlt _ h; omega) (fun h => by omega)
  have HN3 := Bvh hn3
  have HN1 := Bvh hn1
  have HLT := Bvh hlt
  have hle2 : w.heap.size ≤ w.heap.size + 1 + 1 := by omega
  have hle3 : w.heap.size ≤ w.heap.size + 3 := by omega
  have HQP := Bvh (V_P (e2 := 25) (b2 := 0) (Kd.V_below hQ0 hb0) (fun k hk => hk))
  have HDP := Bvh (V_P (e2 := 5) (b2 := 0) (Kd.V_below hD0 hb0) (fun k hk => hk))
  clear hQ0 hD0
  clear hb0 hx1 hw1 hz1 hF hQ hN hD hP hd hG hget hgo hn3 hn1 hlt HGOK
  go_enter Try.func84, Try.ntmps84
  go_upto_region 1 with fail
  generalize (((w.alloc (.cells #[.slice A0 F.length c0, .slice A1 P.length c1, .int .i64 q, .int .i64 n, .slice A4 nn.length c4, .int .i64 cr, .bool dw, .int .i64 pk] 71)).alloc (.cells #[.string x.f0, .int .i64 x.f1, .int .i64 x.f2, .slice A3 x.f3.length c3] 25)).alloc (.cells #[.slice none 0 0, .slice none 0 0, .int .i64 0, .int .i64 0, .slice none 0 0, .int .i64 0, .bool false, .int .i64 0] 71)) = W at HB0 HX HW HZ HSZ HF HQ HN HD HQP HDP hsz ⊢
  clear hsz
  obtain ⟨y0, y1, y2, y3, y4, y5, y6, y7⟩ := HX.out.cell
  go_wp2_with (first
   | (go_at_call 51; (with_reducible refine (Ajn q n cr dw pk HF.out HQ.out HN.out HP.out HOK.out (by omega) HG.out).mono ?_); rintro e w2 ⟨A2, c2, rfl, hv2, hb2⟩; have HV2 := Bvh (Aj4 (e2 := 38) (b2 := 0) hv2 (by have := HSZ.out; omega)); have HB2 := Bvh hb2; clear y0 y1 y2 y3 y4 y5 y6 y7; obtain ⟨t0, t1, t2, t3⟩ := (HW.out.below hb2).cell; clear hb2 hv2)
   | (go_at_call 30; (with_reducible refine (xget x.f0 HV2.out (by omega) HGET.out).mono ?_); rintro e w3 ⟨Ab, cb, rfl, _, hb3⟩; have HB3 := Bvh (Aq1 HB2.out hb3); have HV3 := Bvh (Kd.V_below HV2.out hb3); clear t0 t1 t2 t3 hb3; obtain ⟨t0, t1, t2, t3⟩ := (HW.out.below HB3.out).cell; obtain ⟨y0, y1, y2, y3, y4, y5, y6, y7⟩ := (HX.out.below HB3.out).cell; obtain ⟨pf0, pg0, pf1, pg1, pf2, pg2, pf3, pg3, pf4, pg4, pf5, pg5, pf6, pg6, pf7, pg7, hT⟩ := (HZ.out.below HB3.out).put (.slice A0 F.length c0) (.slice A1 P.length c1) (.int .i64 q) (.int .i64 n) (.slice A4 nn.length c4) (.int .i64 cr) (.bool dw) (.int .i64 pk); have HT := Bvh hT; clear hT)
   | (go_at_call 19; (with_reducible refine (xdo x (-1) HV3.out (Kd.V_below HD.out HB3.out) hgl HGO.out hx HDO.out).mono ?_); rintro e w4 ⟨Ah, ch, rfl, hv4, hb4⟩; have HB4 := Bvh (Aq1 HB3.out hb4); have HV4 := Bvh (Aj4 (e2 := 38) (b2 := 0) hv4 (by have := HSZ.out; have := HB3.out.size; omega)); have HG4 := Bvh (Kd.V_below HV3.out hb4); clear t0 t1 t2 t3 y0 y1 y2 y3 y4 y5 y6 y7 pf0 pg0 pf1 pg1 pf2 pg2 pf3 pg3 pf4 pg4 pf5 pg5 pf6 pg6 pf7 pg7 HT hb4 hv4; obtain ⟨y0, y1, y2, y3, y4, y5, y6, y7⟩ := (HX.out.below HB4.out).cell; obtain ⟨pf0, pg0, pf1, pg1, pf2, pg2, pf3, pg3, pf4, pg4, pf5, pg5, pf6, pg6, pf7, pg7, hT⟩ := (HZ.out.below HB4.out).put (.slice A0 F.length c0) (.slice A1 P.length c1) (.int .i64 q) (.int .i64 n) (.slice A4 nn.length c4) (.int .i64 cr) (.bool dw) (.int .i64 pk); have HT := Bvh hT; clear hT)
   | (go_at_call 36; (with_reducible refine (Bj2 HV4.out hhl HSIZE.out).mono ?_); rintro e w5 ⟨rfl, hb5⟩; have HB5 := Bvh (Aq1 HB4.out hb5); have HG5 := Bvh (Kd.V_below HG4.out hb5); clear y0 y1 y2 y3 y4 y5 y6 y7 pf0 pg0 pf1 pg1 pf2 pg2 pf3 pg3 pf4 pg4 pf5 pg5 pf6 pg6 pf7 pg7 HT hb5; obtain ⟨y0, y1, y2, y3, y4, y5, y6, y7⟩ := (HX.out.below HB5.out).cell)
   | (go_at_call 36; (with_reducible refine (Bj2 HG5.out (by omega) HSIZE2.out).mono ?_); rintro e w6 ⟨rfl, hb6⟩; have HB6 := Bvh (Aq1 HB5.out hb6); clear y0 y1 y2 y3 y4 y5 y6 y7 hb6; obtain ⟨y0, y1, y2, y3, y4, y5, y6, y7⟩ := (HX.out.below HB6.out).cell; obtain ⟨pf0, pg0, pf1, pg1, pf2, pg2, pf3, pg3, pf4, pg4, pf5, pg5, pf6, pg6, pf7, pg7, hT⟩ := (HZ.out.below HB6.out).put (.slice A0 F.length c0) (.slice A1 P.length c1) (.int .i64 q) (.int .i64 n) (.slice A4 nn.length c4) (.int .i64 cr) (.bool dw) (.int .i64 pk); have HT := Bvh hT; clear hT)
   | ((with_reducible refine Ax1 (N := 58) rfl ?_); refine Kd.N_lit k25 (w0 := W) W.heap.size 25 ?hg (N' := 58) ?hd (xs := ([] : List S25)) (inner := []) (ok := (Out Pf (w.heap.size + 3))) (okp := (Out Pf (w.heap.size + 3))) ?hr ?hp (fun _ hk => hk) ?hf HB6.out HB6.out.size (by decide) ?_; (case hd => rfl); (case hg => rfl); (case hr => first | (go_simp; done) | (go_simp; rfl)); (case hp => exact Reps.none _ _); (case hf => right; have := HB6.out.size; have := HSZ.out; omega); intro v0 wa hna hba hga hata; have HNA := Bvh hna; have HBA := Bvh hba; obtain ⟨Aa, ca, rfl⟩ := Kd.N_slice hna; clear hna hba hga hata y0 y1 y2 y3 y4 y5 y6 y7; obtain ⟨y0, y1, y2, y3, y4, y5, y6, y7⟩ := (HX.out.below HBA.out).cell)
   | ((with_reducible refine Axc (b := .append) (xs := #[.tmp 58, .tmp 60]) rfl ?_); at_builtin; refine Kd.N_append_rows k25 (w0 := W) W.heap.size rfl (.tmp 58) (.tmp 60) 69 25 (.agg #[(.string ⟨#[]⟩), (.int .i64 0), (.int .i64 0), (.slice none 0 0)]) 56 rfl Try.underlying69 Awl rfl (by decide) (by decide) (.slice Aa ([] : List S25).length ca) [] P A1 P.length c1 (Out Pf (w.heap.size + 3)) Pf rfl rfl ?aO ?aR ?aK ?aF ?aB ?aS ?aL ?_; (case aO => exact HNA.out); (case aR => exact Kd.V_F (Kd.V_below HQP.out HBA.out)); (case aK => exact fun k hk => ⟨.inl hk, fun he => by have := HLT.out k hk; have := HSZ.out; have := Kd.N_base HNA.out k he.symm; omega⟩); (case aF => exact fun k hk => by right; have := HBA.out.size; have := HSZ.out; omega); (case aB => exact HBA.out); (case aS => exact HBA.out.size); (case aL => have := HL.out; simp only [List.length_nil]; omega); intro v1 w7 hn7 hb7 _ _; rw [List.nil_append] at hn7; obtain ⟨A7, c7, rfl⟩ := Kd.N_slice hn7; have HN7 := Bvh hn7; have HB7 := Bvh hb7; clear hn7 hb7 y0 y1 y2 y3 y4 y5 y6 y7; obtain ⟨t0, t1, t2, t3⟩ := (HW.out.below HB7.out).cell; obtain ⟨y0, y1, y2, y3, y4, y5, y6, y7⟩ := (HX.out.below HB7.out).cell)
   | ((with_reducible refine Axc (b := .append) (xs := #[.tmp 62, .tmp 64]) rfl ?_); at_builtin; refine Kd.N_append k25 (w0 := W) W.heap.size rfl (.tmp 62) (.tmp 64) 69 25 (.agg #[(.string ⟨#[]⟩), (.int .i64 0), (.int .i64 0), (.slice none 0 0)]) 56 rfl Try.underlying69 Awl rfl (by decide) (by decide) (.slice A7 P.length c7) P x [.string x.f0, .int .i64 x.f1, .int .i64 x.f2, .slice A3 x.f3.length c3] (Out Pf (w.heap.size + 3)) Pf rfl rfl ?bP ?bK ?bF ?bO ?bB ?bS ?bL ?_; (case bP => exact Awk _ _ x (Kd.V_reads' HDP.out).2.1 (Kd.V_F (Kd.V_below HDP.out HB7.out))); (case bK => exact fun k hk => ⟨.inl hk, fun he => by have := HLT.out k hk; have := HSZ.out; have := Kd.N_base HN7.out k he.symm; omega⟩); (case bF => exact fun k hk => by right; have := HB7.out.size; have := HSZ.out; omega); (case bO => exact HN7.out); (case bB => exact HB7.out); (case bS => exact HB7.out.size); (case bL => have := HL.out; omega); intro v2 w8 hn8 hb8 _ _; rw [HQQ.out] at hn8; obtain ⟨A8, c8, rfl⟩ := Kd.N_slice hn8; have HN8 := Bvh hn8; have HB8 := Bvh hb8; clear t0 t1 t2 t3 y0 y1 y2 y3 y4 y5 y6 y7; obtain ⟨y0, y1, y2, y3, y4, y5, y6, y7⟩ := (HX.out.below HB8.out).cell; obtain ⟨s0, -, hx9⟩ := VarX.set1 (HX.out.below hb8) 1 (.slice A8 Q.length c8) rfl; have HX9 := Bvh (show VarX (w8.setCell ⟨w.heap.size, 1, none⟩ (.slice A8 Q.length c8)) w.heap.size (.slice A0 F.length c0) (.slice A8 Q.length c8) (.int .i64 q) (.int .i64 n) (.slice A4 nn.length c4) (.int .i64 cr) (.bool dw) (.int .i64 pk) from hx9); obtain ⟨r0, r1, r2, r3, r4, r5, r6, r7⟩ := HX9.out.cell; obtain ⟨u0, -, hx10⟩ := VarX.set1 HX9.out 7 (.int .i64 m) rfl; have HX10 := Bvh (show VarX ((w8.setCell ⟨w.heap.size, 1, none⟩ (.slice A8 Q.length c8)).setCell ⟨w.heap.size, 7, none⟩ (.int .i64 m)) w.heap.size (.slice A0 F.length c0) (.slice A8 Q.length c8) (.int .i64 q) (.int .i64 n) (.slice A4 nn.length c4) (.int .i64 cr) (.bool dw) (.int .i64 m) from hx10); obtain ⟨q0, q1, q2, q3, q4, q5, q6, q7⟩ := HX10.out.cell; have hz9 : VarX ((w8.setCell ⟨w.heap.size, 1, none⟩ (.slice A8 Q.length c8)).setCell ⟨w.heap.size, 7, none⟩ (.int .i64 m)) (w.heap.size + 1 + 1) (.slice none 0 0) (.slice none 0 0) (.int .i64 0) (.int .i64 0) (.slice none 0 0) (.int .i64 0) (.bool false) (.int .i64 0) := (show _ = _ by rw [Below.heap_setCell _ ⟨w.heap.size, 7, none⟩ _ _ (show w.heap.size + 1 + 1 ≠ w.heap.size by omega), Below.heap_setCell _ ⟨w.heap.size, 1, none⟩ _ _ (show w.heap.size + 1 + 1 ≠ w.heap.size by omega)]; exact HZ.out.below hb8); obtain ⟨pf0, pg0, pf1, pg1, pf2, pg2, pf3, pg3, pf4, pg4, pf5, pg5, pf6, pg6, pf7, pg7, hT⟩ := hz9.put (.slice A0 F.length c0) (.slice A8 Q.length c8) (.int .i64 q) (.int .i64 n) (.slice A4 nn.length c4) (.int .i64 cr) (.bool dw) (.int .i64 m); have HT := Bvh hT; clear hT hz9 hx9 hx10 hn8 hb8))
  refine bodyPost_ret (Azy rfl _ _ (w.heap.size + 1 + 1) 71 #[.slice A0 F.length c0, .slice A8 Q.length c8, .int .i64 q, .int .i64 n, .slice A4 nn.length c4, .int .i64 cr, .bool dw, .int .i64 m] (0, 0) _ rfl HT.out Try.underlying71 rfl (by kernel_rfl)) rfl ?_
  refine ⟨A8, c8, rfl, V_P (b := 0) (Axe (Aqo (Aqo (Kd.N_V HN8.out) HN1.out) HN1.out) HN3.out _ _ _ _ _ _ _ _) (fun k hk => hk.elim .inl fun h => .inr (Nat.le_trans hle3 h)), ?_⟩
  exact Ax5 (Aqg (Aqg (Aq1 HB0.out HB8.out) (Nat.le_refl _) 1 _) (Nat.le_refl _) 7 _) hle2 _ _ _ _ _ _ _ _
end
end
section
def Bqz (F : List S38) (P : List S25) (q pk : Int) (x : S25) : Int × List S25 × Int :=
 if (x.f1 = 2 ∨ x.f1 = 3) ∧ (getT (Azd F P) x.f0).2 = false then (4, P, pk) else
  if (doT (Azd F P) (to31 x) (-1)).2 ≠ 0 then ((doT (Azd F P) (to31 x) (-1)).2, P, pk) else
   if q < Axs (doT (Azd F P) (to31 x) (-1)).1 ∧ Axs (Azd F P) < Axs (doT (Azd F P) (to31 x) (-1)).1 then (8, P, pk) else (0, P ++ [x], mx pk (Axs (doT (Azd F P) (to31 x) (-1)).1))
section
variable {w : World}
theorem xwrite (A0 : Option Addr) (c0 : Nat) (F : List S38) (A1 : Option Addr) (c1 : Nat) (P : List S25) (q n : Int) (A4 : Option Addr) (c4 : Nat) (nn : List Int) (cr : Int) (dw : Bool) (pk : Int) (x : S25) (A3 : Option Addr) (c3 : Nat) (Pf : Nat → Prop) (hlt : ∀ k, Pf k → k < w.heap.size)
 (hF : Kd.V k38 38 w 0 Pf (.slice A0 F.length c0) F) (hQ : Kd.V k25 25 w 0 Pf (.slice A1 P.length c1) P) (hN : Kd.V (Kd.int .i64) 3 w 0 Pf (.slice A4 nn.length c4) nn) (hD : Kd.V (Kd.int .u8) 5 w 0 Pf (.slice A3 x.f3.length c3) x.f3) (hP : ∀ x ∈ P, x.f3.length ≤ 1000) (hd : okL F) (hl : F.length + P.length ≤ 990) (hx : x.f3.length ≤ 1000)
 (er : Int) (Q : List S25) (pk' : Int) (hr : Bqz F P q pk x = (er, Q, pk')) :
 Calls Try.prog 84 #[.agg #[.slice A0 F.length c0, .slice A1 P.length c1, .int .i64 q, .int .i64 n, .slice A4 nn.length c4, .int .i64 cr, .bool dw, .int .i64 pk], .agg #[.string x.f0, .int .i64 x.f1, .int .i64 x.f2, .slice A3 x.f3.length c3]] w fun e w' =>
  ∃ Ap cp, e = .returned (.tuple #[.agg #[.slice A0 F.length c0, .slice Ap Q.length cp, .int .i64 q, .int .i64 n, .slice A4 nn.length c4, .int .i64 cr, .bool dw, .int .i64 pk'], .int .i64 er]) ∧ Kd.V k25 25 w' 0 (fun k => Pf k ∨ w.heap.size ≤ k) (.slice Ap Q.length cp) Q ∧ Below w.heap.size w w' := by
 have hsame : ∀ er : Int, Calls Try.prog 84 #[.agg #[.slice A0 F.length c0, .slice A1 P.length c1, .int .i64 q, .int .i64 n, .slice A4 nn.length c4, .int .i64 cr, .bool dw, .int .i64 pk], .agg #[.string x.f0, .int .i64 x.f1, .int .i64 x.f2, .slice A3 x.f3.length c3]] w (fun e w' => e = .returned (.tuple #[.agg #[.slice A0 F.length c0, .slice A1 P.length c1, .int .i64 q, .int .i64 n, .slice A4 nn.length c4, .int .i64 cr, .bool dw, .int .i64 pk], .int .i64 er]) ∧ Below w.heap.size w w') →
  Calls Try.prog 84 #[.agg #[.slice A0 F.length c0, .slice A1 P.length c1, .int .i64 q, .int .i64 n, .slice A4 nn.length c4, .int .i64 cr, .bool dw, .int .i64 pk], .agg #[.string x.f0, .int .i64 x.f1, .int .i64 x.f2, .slice A3 x.f3.length c3]] w fun e w' =>
  ∃ Ap cp, e = .returned (.tuple #[.agg #[.slice A0 F.length c0, .slice Ap P.length cp, .int .i64 q, .int .i64 n, .slice A4 nn.length c4, .int .i64 cr, .bool dw, .int .i64 pk], .int .i64 er]) ∧ Kd.V k25 25 w' 0 (fun k => Pf k ∨ w.heap.size ≤ k) (.slice Ap P.length cp) P ∧ Below w.heap.size w w' := fun er h =>
  h.mono fun e w' ⟨he, hb⟩ => ⟨A1, c1, he, V_P (b := 0) (Kd.V_below hQ hb) fun k hk => .inl hk, hb⟩
 obtain ⟨G, hG⟩ : ∃ G, Azd F P = G := ⟨_, rfl⟩
 obtain ⟨⟨gb, gi⟩, hget⟩ : ∃ g, getT G x.f0 = g := ⟨_, rfl⟩
 obtain ⟨⟨H, e0⟩, hdo⟩ : ∃ g, doT G (to31 x) (-1) = g := ⟨_, rfl⟩
 have hgo := Aks (fun _ => -1) (P.map to31) 0 F hd (by rw [List.length_map]; omega)
 have hgo2 : okL G ∧ G.length ≤ 1000 := by rw [← hG]; exact hgo
 unfold Bqz at hr
 rw [hG, hget, hdo] at hr
 by_cases h1 : (x.f1 = 2 ∨ x.f1 = 3) ∧ gi = false
 · rw [if_pos h1] at hr
   simp only [Prod.mk.injEq] at hr
   obtain ⟨rfl, rfl, rfl⟩ := hr
   refine hsame 4 (Bxm A0 c0 F A1 c1 P q n A4 c4 nn cr dw pk x A3 c3 Pf hlt hF hQ hN hD hP hd hl hx G gb gi hG hget ?_)
   by_cases h2 : x.f1 = 2
   · exact .inl ⟨beq_iff_eq.mpr h2, h1.2⟩
   · exact .inr ⟨beq_eq_false_iff_ne.mpr h2, beq_iff_eq.mpr (by have := h1.1; omega), h1.2⟩
 rw [if_neg h1] at hr
 have hk : ((x.f1 == 2) = true ∧ gi = true) ∨ ((x.f1 == 2) = false ∧ (x.f1 == 3) = true ∧ gi = true) ∨ ((x.f1 == 2) = false ∧ (x.f1 == 3) = false) := by
  by_cases h2 : x.f1 = 2
  · left
    refine ⟨beq_iff_eq.mpr h2, ?_⟩
    cases gi
    · exact absurd ⟨.inl h2, rfl⟩ h1
    · rfl
  · right
    by_cases h3 : x.f1 = 3
    · left
      refine ⟨beq_eq_false_iff_ne.mpr h2, beq_iff_eq.mpr h3, ?_⟩
      cases gi
      · exact absurd ⟨.inr h3, rfl⟩ h1
      · rfl
    · exact .inr ⟨beq_eq_false_iff_ne.mpr h2, beq_eq_false_iff_ne.mpr h3⟩
 by_cases h2 : e0 ≠ 0
 · rw [if_pos h2] at hr
   simp only [Prod.mk.injEq] at hr
   obtain ⟨rfl, rfl, rfl⟩ := hr
   exact hsame e0 (Bj1 A0 c0 F A1 c1 P q n A4 c4 nn cr dw pk x A3 c3 Pf hlt hF hQ hN hD hP hd hl hx G gb gi hG hget hk H e0 hdo (by simpa using h2))
 rw [if_neg h2] at hr
 obtain rfl : e0 = 0 := by omega
 have hH : H.length ≤ 1000000 := by
  have := Bv0 G (to31 x) (-1) hgo2.1
  rw [hdo] at this
  have h3 := hgo2.2
  simp only at this
  omega
 simp only at hr
 by_cases h3 : q < Axs H
 · by_cases h4 : Axs G < Axs H
   · rw [if_pos ⟨h3, h4⟩] at hr
     simp only [Prod.mk.injEq] at hr
     obtain ⟨rfl, rfl, rfl⟩ := hr
     exact hsame 8 (Bxn A0 c0 F A1 c1 P q n A4 c4 nn cr dw pk x A3 c3 Pf hlt hF hQ hN hD hP hd hl hx G gb gi hG hget hk H hdo hH _ _ rfl rfl (decide_eq_true h3) (decide_eq_true h4))
   · rw [if_neg (fun h => h4 h.2)] at hr
     simp only [Prod.mk.injEq] at hr
     obtain ⟨rfl, hQ', rfl⟩ := hr
     exact Bzz A0 c0 F A1 c1 P q n A4 c4 nn cr dw pk x A3 c3 Pf hlt hF hQ hN hD hP hd hl hx G gb gi hG hget hk H hdo hH _ _ rfl rfl (decide_eq_true h3) (decide_eq_false h4) _ rfl Q hQ'
 · rw [if_neg (fun h => h3 h.1)] at hr
   simp only [Prod.mk.injEq] at hr
   obtain ⟨rfl, hQ', rfl⟩ := hr
   exact Bj0 A0 c0 F A1 c1 P q n A4 c4 nn cr dw pk x A3 c3 Pf hlt hF hQ hN hD hP hd hl hx G gb gi hG hget hk H hdo hH _ _ rfl rfl (decide_eq_false h3) _ rfl Q hQ'
end
end
section
attribute [local go_sem] Axk Axr Az3 Az7
section
variable {w : World}
theorem Bv9 {A1 : Option Addr} {c1 e b : Nat} {P : List S25} {Pf : Nat → Prop} (h : Kd.V k25 e w b Pf (.slice A1 P.length c1) P) (i : Nat) (hi : i < P.length) : ∃ ad A3 c3, A1 = some ad ∧ Pf ad.block ∧ w.cell? (ad.add (i * 4)) = some (.string (Aqr P i).f0) ∧ w.cell? ⟨(ad.add (i * 4)).block, (ad.add (i * 4)).off + 1, none⟩ = some (.int .i64 (Aqr P i).f1) ∧ w.cell? ⟨(ad.add (i * 4)).block, (ad.add (i * 4)).off + 2, none⟩ = some (.int .i64 (Aqr P i).f2) ∧ w.cell? ⟨(ad.add (i * 4)).block, (ad.add (i * 4)).off + 3, none⟩ = some (.slice A3 (Aqr P i).f3.length c3) ∧ Kd.V (Kd.int .u8) 5 w 0 Pf (.slice A3 (Aqr P i).f3.length c3) (Aqr P i).f3 := by
 obtain ⟨ad, c, e, _, hK, hc0, hb⟩ := Kd.F_get (Kd.V_F h) z25 (i : Int) (by omega) (by omega)
 rw [Int.toNat_natCast] at hc0 hK
 have hc : ∀ j u, c[j]? = some u → w.cell? (ad.add (i * 4 + j)) = some u := hc0
 have hr : P.getD i z25 = Aqr P (i : Int) := by simp [Aqr]
 rw [hr] at hK
 obtain ⟨A3, c3, rfl, l3, g3⟩ := Ak2 hK
 exact ⟨ad, A3, c3, e, hb (by decide), hc 0 _ rfl, by rw [← Ax3 _ _ 1 (by omega)]; exact hc 1 _ rfl, by rw [← Ax3 _ _ 2 (by omega)]; exact hc 2 _ rfl, by rw [← Ax3 _ _ 3 (by omega)]; exact hc 3 _ rfl, A3, c3, rfl, l3, g3⟩
theorem xcrashed (A0 : Option Addr) (c0 : Nat) (F : List S38) (A1 : Option Addr) (c1 : Nat) (P : List S25) (q n : Int) (A4 : Option Addr) (l4 c4 : Nat) (cr : Int) (dw : Bool) (pk : Int) (A2 : Option Addr) (c2 : Nat) (ks : List Int) (Pf : Nat → Prop) (hlt : ∀ k, Pf k → k < w.heap.size)
 (hF : Kd.V k38 38 w 0 Pf (.slice A0 F.length c0) F) (hQ : Kd.V k25 25 w 0 Pf (.slice A1 P.length c1) P) (hK : (Kd.int .i64).C w A2 ks.length ks) (hP : ∀ x ∈ P, x.f3.length ≤ 1000) (hd : okL F) (hl : F.length + P.length ≤ 990) (G : List S38) (hG : Az0 (Ajj ks) 0 F (P.map to31) = G) (m : Int) (hm : mx pk (Axs G) = m) :
 Calls Try.prog 82 #[.agg #[.slice A0 F.length c0, .slice A1 P.length c1, .int .i64 q, .int .i64 n, .slice A4 l4 c4, .int .i64 cr, .bool dw, .int .i64 pk], .slice A2 ks.length c2] w fun e w' => ∃ A c, e = .returned (.agg #[.slice A G.length c, .slice none 0 0, .int .i64 q, .int .i64 0, .slice none 0 0, .int .i64 0, .bool false, .int .i64 m]) ∧ Kd.V k38 38 w' 0 (fun k => Pf k ∨ w.heap.size ≤ k) (.slice A G.length c) G ∧ Below w.heap.size w w' := by
 have hb0 : Below w.heap.size w (((w.alloc (.cells #[.slice A0 F.length c0, .slice A1 P.length c1, .int .i64 q, .int .i64 n, .slice A4 l4 c4, .int .i64 cr, .bool dw, .int .i64 pk] 71)).alloc (.cells #[.slice none 0 0, .slice none 0 0, .int .i64 0, .int .i64 0, .slice none 0 0, .int .i64 0, .bool false, .int .i64 0] 71)).alloc (.cells #[.slice A0 F.length c0, .slice none 0 0, .int .i64 q, .int .i64 0, .slice none 0 0, .int .i64 0, .bool false, .int .i64 pk] 71)) := Aq4 (Aq4 (Aq4 (Below.refl _ _) _) _) _
 have hx1 : VarX (((w.alloc (.cells #[.slice A0 F.length c0, .slice A1 P.length c1, .int .i64 q, .int .i64 n, .slice A4 l4 c4, .int .i64 cr, .bool dw, .int .i64 pk] 71)).alloc (.cells #[.slice none 0 0, .slice none 0 0, .int .i64 0, .int .i64 0, .slice none 0 0, .int .i64 0, .bool false, .int .i64 0] 71)).alloc (.cells #[.slice A0 F.length c0, .slice none 0 0, .int .i64 q, .int .i64 0, .slice none 0 0, .int .i64 0, .bool false, .int .i64 pk] 71)) w.heap.size (.slice A0 F.length c0) (.slice A1 P.length c1) (.int .i64 q) (.int .i64 n) (.slice A4 l4 c4) (.int .i64 cr) (.bool dw) (.int .i64 pk) := Aqe (Aqe (heap_alloc_new _ _) _) _
 have hz1 : VarX (((w.alloc (.cells #[.slice A0 F.length c0, .slice A1 P.length c1, .int .i64 q, .int .i64 n, .slice A4 l4 c4, .int .i64 cr, .bool dw, .int .i64 pk] 71)).alloc (.cells #[.slice none 0 0, .slice none 0 0, .int .i64 0, .int .i64 0, .slice none 0 0, .int .i64 0, .bool false, .int .i64 0] 71)).alloc (.cells #[.slice A0 F.length c0, .slice none 0 0, .int .i64 q, .int .i64 0, .slice none 0 0, .int .i64 0, .bool false, .int .i64 pk] 71)) (w.heap.size + 1) (.slice none 0 0) (.slice none 0 0) (.int .i64 0) (.int .i64 0) (.slice none 0 0) (.int .i64 0) (.bool false) (.int .i64 0) := by
  have := Aqe (heap_alloc_new (w.alloc (.cells #[.slice A0 F.length c0, .slice A1 P.length c1, .int .i64 q, .int .i64 n, .slice A4 l4 c4, .int .i64 cr, .bool dw, .int .i64 pk] 71)) (.cells #[.slice none 0 0, .slice none 0 0, .int .i64 0, .int .i64 0, .slice none 0 0, .int .i64 0, .bool false, .int .i64 0] 71)) (.cells #[.slice A0 F.length c0, .slice none 0 0, .int .i64 q, .int .i64 0, .slice none 0 0, .int .i64 0, .bool false, .int .i64 pk] 71)
  rw [World.size_alloc] at this
  exact this
 have ho1 : VarX (((w.alloc (.cells #[.slice A0 F.length c0, .slice A1 P.length c1, .int .i64 q, .int .i64 n, .slice A4 l4 c4, .int .i64 cr, .bool dw, .int .i64 pk] 71)).alloc (.cells #[.slice none 0 0, .slice none 0 0, .int .i64 0, .int .i64 0, .slice none 0 0, .int .i64 0, .bool false, .int .i64 0] 71)).alloc (.cells #[.slice A0 F.length c0, .slice none 0 0, .int .i64 q, .int .i64 0, .slice none 0 0, .int .i64 0, .bool false, .int .i64 pk] 71)) (w.heap.size + 1 + 1) (.slice A0 F.length c0) (.slice none 0 0) (.int .i64 q) (.int .i64 0) (.slice none 0 0) (.int .i64 0) (.bool false) (.int .i64 pk) := by
  have := heap_alloc_new ((w.alloc (.cells #[.slice A0 F.length c0, .slice A1 P.length c1, .int .i64 q, .int .i64 n, .slice A4 l4 c4, .int .i64 cr, .bool dw, .int .i64 pk] 71)).alloc (.cells #[.slice none 0 0, .slice none 0 0, .int .i64 0, .int .i64 0, .slice none 0 0, .int .i64 0, .bool false, .int .i64 0] 71)) (.cells #[.slice A0 F.length c0, .slice none 0 0, .int .i64 q, .int .i64 0, .slice none 0 0, .int .i64 0, .bool false, .int .i64 pk] 71)
  rw [World.size_alloc, World.size_alloc] at this
  exact this
 obtain ⟨y0, y1, y2, y3, y4, y5, y6, y7⟩ := (show VarX ((w.alloc (.cells #[.slice A0 F.length c0, .slice A1 P.length c1, .int .i64 q, .int .i64 n, .slice A4 l4 c4, .int .i64 cr, .bool dw, .int .i64 pk] 71)).alloc (.cells #[.slice none 0 0, .slice none 0 0, .int .i64 0, .int .i64 0, .slice none 0 0, .int .i64 0, .bool false, .int .i64 0] 71)) w.heap.size (.slice A0 F.length c0) (.slice A1 P.length c1) (.int .i64 q) (.int .i64 n) (.slice A4 l4 c4) (.int .i64 cr) (.bool dw) (.int .i64 pk) from Aqe (heap_alloc_new _ _) _).cell
 have hsz : (((w.alloc (.cells #[.slice A0 F.length c0, .slice A1 P.length c1, .int .i64 q, .int .i64 n, .slice A4 l4 c4, .int .i64 cr, .bool dw, .int .i64 pk] 71)).alloc (.cells #[.slice none 0 0, .slice none 0 0, .int .i64 0, .int .i64 0, .slice none 0 0, .int .i64 0, .bool false, .int .i64 0] 71)).alloc (.cells #[.slice A0 F.length c0, .slice none 0 0, .int .i64 q, .int .i64 0, .slice none 0 0, .int .i64 0, .bool false, .int .i64 pk] 71)).heap.size = w.heap.size + 3 := by rw [World.size_alloc, World.size_alloc, World.size_alloc]
 have HB0 := Bvh hb0
 have HX := Bvh hx1
 have HZ := Bvh hz1
 have HO := Bvh ho1
 have HSZ := Bvh hsz
 have HF := Bvh (V_in (n := w.heap.size + 3) (e2 := 38) (b2 := 0) (Kd.V_below hF hb0))
 have HQ := Bvh hQ
 have HK := Bvh hK
 have HP := Bvh hP
 have HLT := Bvh hlt
 have HG := Bvh hG
 have HM := Bvh hm
 have HOK := Bvh hd
 have HL := Bvh hl
 have hle1 : w.heap.size ≤ w.heap.size + 1 := by omega
 have hle2 : w.heap.size ≤ w.heap.size + 1 + 1 := by omega
 have hle3 : w.heap.size ≤ w.heap.size + 3 := by omega
 have hn1 : ¬ Out Pf (w.heap.size + 3) (w.heap.size + 1) := fun h => h.elim (fun h => by have := hlt _ h; omega) (fun h => by omega)
 have hn2 : ¬ Out Pf (w.heap.size + 3) (w.heap.size + 1 + 1) := fun h => h.elim (fun h => by have := hlt _ h; omega) (fun h => by omega)
 have HN1 := Bvh hn1
 have HN2 := Bvh hn2
 clear hb0 hx1 hz1 ho1 hsz hF hQ hK hP hd hl hG hm hlt hn1 hn2
 go_enter Try.func82, Try.ntmps82
 go_upto_region 2 with fail
 generalize ((w.alloc (.cells #[.slice A0 F.length c0, .slice A1 P.length c1, .int .i64 q, .int .i64 n, .slice A4 l4 c4, .int .i64 cr, .bool dw, .int .i64 pk] 71)).alloc (.cells #[.slice none 0 0, .slice none 0 0, .int .i64 0, .int .i64 0, .slice none 0 0, .int .i64 0, .bool false, .int .i64 0] 71)).alloc (.cells #[.slice A0 F.length c0, .slice none 0 0, .int .i64 q, .int .i64 0, .slice none 0 0, .int .i64 0, .bool false, .int .i64 pk] 71) = W at HB0 HX HZ HO HSZ HF ⊢
 clear y0 y1 y2 y3 y4 y5 y6 y7
 go_wp2
 go_loopg [6] P.length (fun kq v6 w' => ∃ i : Nat, v6 = .int .i64 i ∧ i + kq = P.length ∧ ∃ (Al : Option Addr) (cl : Nat) (l : List S38), Aside0 (VarX w' (w.heap.size + 1 + 1) (.slice Al l.length cl) (.slice none 0 0) (.int .i64 q) (.int .i64 0) (.slice none 0 0) (.int .i64 0) (.bool false) (.int .i64 pk)) ∧ Aside0 (VarX w' w.heap.size (.slice A0 F.length c0) (.slice A1 P.length c1) (.int .i64 q) (.int .i64 n) (.slice A4 l4 c4) (.int .i64 cr) (.bool dw) (.int .i64 pk)) ∧ Aside0 (VarX w' (w.heap.size + 1) (.slice none 0 0) (.slice none 0 0) (.int .i64 0) (.int .i64 0) (.slice none 0 0) (.int .i64 0) (.bool false) (.int .i64 0)) ∧ Aside0 (Kd.V k38 38 w' 0 (Out Pf (w.heap.size + 3)) (.slice Al l.length cl) l) ∧ Aside0 (Below w.heap.size w w') ∧ Aside0 (w.heap.size + 3 ≤ w'.heap.size) ∧ Aside0 (okL l ∧ l.length ≤ F.length + i ∧ Az0 (Ajj ks) i l ((P.drop i).map to31) = G))
 case atStart => exact ⟨0, rfl, by omega, A0, c0, F, HO, HX, HZ, HF, HB0, ⟨Nat.le_of_eq HSZ.out.symm⟩, ⟨HOK.out, by omega, by rw [List.drop_zero]; exact HG.out⟩⟩
 case round =>
  obtain ⟨i, rfl, hi, Al, cl, l, HO1, HX1, HZ1, HV1, HB1, HS1, HI1⟩ := hrel
  obtain ⟨o0, o1, o2, o3, o4, o5, o6, o7⟩ := HO1.out.cell
  by_cases hli : i < P.length
  · obtain ⟨k1, rfl⟩ : ∃ k1, gk = k1 + 1 := ⟨gk - 1, by omega⟩
    obtain ⟨ad, A3, c3, e1, hpb, hx0, hx1, hx2, hx3, hV3⟩ := Bv9 HQ.out i hli
    cases e1
    have hpl : P.length ≤ 990 := by have := HL.out; omega
    replace hx0 := Aqd HB1.out hx0; replace hx1 := Aqd HB1.out hx1; replace hx2 := Aqd HB1.out hx2; replace hx3 := Aqd HB1.out hx3
    obtain ⟨z0, z1, z2, z3, z4, z5, z6, z7⟩ := HX1.out.cell
    obtain ⟨x, hxe⟩ : ∃ x, Aqr P (i : Int) = x := ⟨_, rfl⟩
    have hdr : P.drop i = x :: P.drop (i + 1) := by rw [Bxc P i hli, hxe]
    have hxm : x ∈ P := by rw [← hxe, rd25 P i hli]; exact List.getElem_mem hli
    rw [hxe] at hx0 hx1 hx2 hx3 hV3
    have HV3 := Bvh (Kd.V_below hV3 HB1.out)
    obtain ⟨kp, hkp⟩ : ∃ kp, Ajj ks i = kp := ⟨_, rfl⟩
    obtain ⟨⟨l2, er⟩, hdo⟩ : ∃ r, doT l (to31 x) kp = r := ⟨_, rfl⟩
    have hll : l.length ≤ 1000 := by have := HI1.out.2.1; have := HL.out; omega
    have hxl : x.f3.length ≤ 1000 := HP.out x hxm
    have HDO := Bvh hdo
    have hnext : Az0 (Ajj ks) (i + 1) (if er = 0 then l2 else l) ((P.drop (i + 1)).map to31) = G := by
     have h := HI1.out.2.2
     rw [hdr, List.map_cons, Az0, hkp] at h
     unfold dn at h
     rw [hdo] at h
     exact h
    have hok2 : okL (if er = 0 then l2 else l) ∧ (if er = 0 then l2 else l).length ≤ F.length + (i + 1) := by
     have h := Bjt l (to31 x) kp HI1.out.1
     unfold dn at h
     rw [hdo] at h
     exact ⟨h.1, by have h2 := h.2; have := HI1.out.2.1; simp only at h2; omega⟩
    have HNX := Bvh hnext
    have HOK2 := Bvh hok2
    have hS : ∀ w' : World, Below wr.heap.size wr w' → w'.cell? ⟨w.heap.size + 1 + 1, 0, none⟩ = some (.slice Al l.length cl) ∧ w'.cell? ⟨w.heap.size, 1, none⟩ = some (.slice (some ad) P.length c1) ∧ w'.cell? (ad.add (i * 4)) = some (.string x.f0) ∧ w'.cell? ⟨(ad.add (i * 4)).block, (ad.add (i * 4)).off + 1, none⟩ = some (.int .i64 x.f1) ∧ w'.cell? ⟨(ad.add (i * 4)).block, (ad.add (i * 4)).off + 2, none⟩ = some (.int .i64 x.f2) ∧ w'.cell? ⟨(ad.add (i * 4)).block, (ad.add (i * 4)).off + 3, none⟩ = some (.slice A3 x.f3.length c3) ∧ Below wr.heap.size wr w' :=
     fun w' hb => ⟨Aqd hb o0, Aqd hb z1, Aqd hb hx0, Aqd hb hx1, Aqd hb hx2, Aqd hb hx3, hb⟩
    have HSS := Bvh hS
    clear hV3 hxe hdr hdo hnext hok2 hS hpb
    by_cases hki : i < ks.length
    · obtain ⟨ad2, ck, e2, hcl, hck, hcell⟩ := Kd.C_get HK.out (0 : Int) (i : Int) (by omega) (by omega)
      cases e2
      obtain ⟨v, hv⟩ : ∃ v, ks.getD i 0 = v := ⟨_, rfl⟩
      have hck' : ck = [.int .i64 v] := by
       have h : ck = [.int .i64 (ks.getD (i : Int).toNat 0)] := hck
       rw [Int.toNat_natCast, hv] at h
       exact h
      subst hck'
      have hkc : wr.cell? (ad2.add i) = some (.int .i64 v) := by
       have h := Aqd HB1.out (hcell 0 _ rfl)
       rw [Int.toNat_natCast, show (Kd.int .i64).sz = 1 from rfl, Nat.mul_one, Nat.add_zero] at h
       exact h
      have hkm : (if v < 0 then 0 else v) = kp := by
       rw [← hkp]
       unfold Ajj mx
       rw [if_pos hki, show rd ks (i : Int) = v by rw [← hv]; simp [rd]]
      clear hck hcell hcl hkp hv
      ·
       go_wp2
       go_region_held3 (fun w' => w'.cell? ⟨w.heap.size + 1 + 1, 0, none⟩ = some (.slice Al l.length cl) ∧ w'.cell? ⟨w.heap.size, 1, none⟩ = some (.slice (some ad) P.length c1) ∧ w'.cell? (ad.add (i * 4)) = some (.string x.f0) ∧ w'.cell? ⟨(ad.add (i * 4)).block, (ad.add (i * 4)).off + 1, none⟩ = some (.int .i64 x.f1) ∧ w'.cell? ⟨(ad.add (i * 4)).block, (ad.add (i * 4)).off + 2, none⟩ = some (.int .i64 x.f2) ∧ w'.cell? ⟨(ad.add (i * 4)).block, (ad.add (i * 4)).off + 3, none⟩ = some (.slice A3 x.f3.length c3) ∧ Below wr.heap.size wr w')
       (first
         | exact HSS.out _ (Aq5 (Below.refl _ _))
         | (go_split_ands
            first
             | exact HSS.out _ (Aq1 (by assumption) hb5))
         | go_keep)
       (first
         | (go_at_call 19; (with_reducible refine (xdo x _ (Kd.V_drew HV1.out) (V_in (n := w.heap.size + 3) (e2 := 5) (b2 := 0) (Kd.V_drew HV3.out)) hll HI1.out.1 hxl HDO.out).mono ?_); rintro e w5 ⟨A5, c5, rfl, hv5, hb5⟩))
       have hbw : Below wr.heap.size wr w5 := by go_split_ands; assumption
       have HB5 := Bvh hbw
       have HV5 := Bvh (Aj4 (e2 := 38) (b2 := 0) hv5 (Nat.le_trans HS1.out (Aq5 (Below.refl wr.heap.size wr)).size))
       clear hv5 hb5 hbw
       obtain ⟨s0, -, hx9⟩ := VarX.set1 (HO1.out.below HB5.out) 0 (.slice A5 l2.length c5) rfl
       have HX9 := Bvh hx9
       obtain ⟨v0, -, -, -, -, -, -, -⟩ := (HO1.out.below HB5.out).cell
       clear hx9
       by_cases her : er = 0
       · subst her
         rw [if_pos rfl] at HNX HOK2
         go_wp2
         go_roundg k1
         case measure => omega
         case rel =>
          exact ⟨i + 1, by go_num, by omega, A5, c5, l2, HX9, ⟨show _ = _ by rw [Below.heap_setCell _ ⟨w.heap.size + 1 + 1, 0, none⟩ _ _ (show w.heap.size ≠ w.heap.size + 1 + 1 by omega)]; exact HX1.out.below HB5.out⟩, ⟨show _ = _ by rw [Below.heap_setCell _ ⟨w.heap.size + 1 + 1, 0, none⟩ _ _ (show w.heap.size + 1 ≠ w.heap.size + 1 + 1 by omega)]; exact HZ1.out.below HB5.out⟩, ⟨Aqo HV5.out HN2.out⟩, ⟨Aqg (Aq1 HB1.out HB5.out) hle2 0 _⟩, ⟨by rw [Ajc]; exact Nat.le_trans HS1.out HB5.out.size⟩, ⟨HOK2.out.1, HOK2.out.2, HNX.out⟩⟩
       · rw [if_neg her] at HNX HOK2
         have hb1 : (er == 0) = false := beq_eq_false_iff_ne.mpr her
         go_wp2
         go_roundg k1
         case measure => omega
         case rel => exact ⟨i + 1, by go_num, by omega, Al, cl, l, ⟨HO1.out.below HB5.out⟩, ⟨HX1.out.below HB5.out⟩, ⟨HZ1.out.below HB5.out⟩, ⟨Kd.V_below HV1.out HB5.out⟩, ⟨Aq1 HB1.out HB5.out⟩, ⟨Nat.le_trans HS1.out HB5.out.size⟩, ⟨HOK2.out.1, HOK2.out.2, HNX.out⟩⟩
    · have hkp0 : kp = 0 := by rw [← hkp]; unfold Ajj; rw [if_neg hki]
      subst hkp0
      clear hkp
      ·
       go_wp2
       go_region_held3 (fun w' => w'.cell? ⟨w.heap.size + 1 + 1, 0, none⟩ = some (.slice Al l.length cl) ∧ w'.cell? ⟨w.heap.size, 1, none⟩ = some (.slice (some ad) P.length c1) ∧ w'.cell? (ad.add (i * 4)) = some (.string x.f0) ∧ w'.cell? ⟨(ad.add (i * 4)).block, (ad.add (i * 4)).off + 1, none⟩ = some (.int .i64 x.f1) ∧ w'.cell? ⟨(ad.add (i * 4)).block, (ad.add (i * 4)).off + 2, none⟩ = some (.int .i64 x.f2) ∧ w'.cell? ⟨(ad.add (i * 4)).block, (ad.add (i * 4)).off + 3, none⟩ = some (.slice A3 x.f3.length c3) ∧ Below wr.heap.size wr w')
       (first
         | exact HSS.out _ (Aq5 (Below.refl _ _))
         | (go_split_ands
            first
             | exact HSS.out _ (Aq1 (by assumption) hb5))
         | go_keep)
       (first
         | (go_at_call 19; (with_reducible refine (xdo x _ (Kd.V_drew HV1.out) (V_in (n := w.heap.size + 3) (e2 := 5) (b2 := 0) (Kd.V_drew HV3.out)) hll HI1.out.1 hxl HDO.out).mono ?_); rintro e w5 ⟨A5, c5, rfl, hv5, hb5⟩))
       have hbw : Below wr.heap.size wr w5 := by go_split_ands; assumption
       have HB5 := Bvh hbw
       have HV5 := Bvh (Aj4 (e2 := 38) (b2 := 0) hv5 (Nat.le_trans HS1.out (Aq5 (Below.refl wr.heap.size wr)).size))
       clear hv5 hb5 hbw
       obtain ⟨s0, -, hx9⟩ := VarX.set1 (HO1.out.below HB5.out) 0 (.slice A5 l2.length c5) rfl
       have HX9 := Bvh hx9
       obtain ⟨v0, -, -, -, -, -, -, -⟩ := (HO1.out.below HB5.out).cell
       clear hx9
       by_cases her : er = 0
       · subst her
         rw [if_pos rfl] at HNX HOK2
         go_wp2
         go_roundg k1
         case measure => omega
         case rel =>
          exact ⟨i + 1, by go_num, by omega, A5, c5, l2, HX9, ⟨show _ = _ by rw [Below.heap_setCell _ ⟨w.heap.size + 1 + 1, 0, none⟩ _ _ (show w.heap.size ≠ w.heap.size + 1 + 1 by omega)]; exact HX1.out.below HB5.out⟩, ⟨show _ = _ by rw [Below.heap_setCell _ ⟨w.heap.size + 1 + 1, 0, none⟩ _ _ (show w.heap.size + 1 ≠ w.heap.size + 1 + 1 by omega)]; exact HZ1.out.below HB5.out⟩, ⟨Aqo HV5.out HN2.out⟩, ⟨Aqg (Aq1 HB1.out HB5.out) hle2 0 _⟩, ⟨by rw [Ajc]; exact Nat.le_trans HS1.out HB5.out.size⟩, ⟨HOK2.out.1, HOK2.out.2, HNX.out⟩⟩
       · rw [if_neg her] at HNX HOK2
         have hb1 : (er == 0) = false := beq_eq_false_iff_ne.mpr her
         go_wp2
         go_roundg k1
         case measure => omega
         case rel => exact ⟨i + 1, by go_num, by omega, Al, cl, l, ⟨HO1.out.below HB5.out⟩, ⟨HX1.out.below HB5.out⟩, ⟨HZ1.out.below HB5.out⟩, ⟨Kd.V_below HV1.out HB5.out⟩, ⟨Aq1 HB1.out HB5.out⟩, ⟨Nat.le_trans HS1.out HB5.out.size⟩, ⟨HOK2.out.1, HOK2.out.2, HNX.out⟩⟩
  · have hpl : P.length ≤ 990 := by have := HL.out; omega
    obtain ⟨z0, z1, z2, z3, z4, z5, z6, z7⟩ := HX1.out.cell
    have hlG : l = G := by
     have h := HI1.out.2.2
     rw [List.drop_eq_nil_of_le (by omega)] at h
     exact h
    subst hlG
    have hll : l.length ≤ 1000000 := by have := HI1.out.2.1; have := HL.out; omega
    obtain ⟨z, hz⟩ : ∃ z, Axs l = z := ⟨_, rfl⟩
    have hmz : (if pk < z then z else pk) = m := by rw [← HM.out, ← hz]; rfl
    have HSIZE := Bvh hz
    clear hz hpl
    have hfz := Aq2 HO1.out 7
    go_wp2
    go_region_law (first | (go_simp; go_at_call 36; (with_reducible refine (Bj2 (Kd.V_drew HV1.out) hll HSIZE.out).mono ?_); rintro e w5 ⟨rfl, hb5⟩; have HO5 := Bvh (HO1.out.below (Aq1 (Aq5 (Below.refl _ _)) hb5)); have HBB5 := Bvh (Aq1 (Aq5 (Below.refl wr.heap.size wr)) hb5); obtain ⟨r0, r1, r2, r3, r4, r5, r6, r7⟩ := HO5.out.cell; have hfz5 := Aq2 HO5.out 7; clear hb5))
    all_goals
     obtain ⟨-, -, hx10⟩ := VarX.set1 HO5.out 7 (.int .i64 m) rfl
     have HX10 := Bvh (show VarX (w5.setCell ⟨w.heap.size + 1 + 1, 7, none⟩ (.int .i64 m)) (w.heap.size + 1 + 1) (.slice Al l.length cl) (.slice none 0 0) (.int .i64 q) (.int .i64 0) (.slice none 0 0) (.int .i64 0) (.bool false) (.int .i64 m) from hx10)
     obtain ⟨q0, q1, q2, q3, q4, q5, q6, q7⟩ := HX10.out.cell
     have hz9 : VarX (w5.setCell ⟨w.heap.size + 1 + 1, 7, none⟩ (.int .i64 m)) (w.heap.size + 1) (.slice none 0 0) (.slice none 0 0) (.int .i64 0) (.int .i64 0) (.slice none 0 0) (.int .i64 0) (.bool false) (.int .i64 0) := by
      show _ = _
      rw [Below.heap_setCell _ ⟨w.heap.size + 1 + 1, 7, none⟩ _ _ (show w.heap.size + 1 ≠ w.heap.size + 1 + 1 by omega)]
      exact HZ1.out.below HBB5.out
     obtain ⟨pf0, pg0, pf1, pg1, pf2, pg2, pf3, pg3, pf4, pg4, pf5, pg5, pf6, pg6, pf7, pg7, hT⟩ := hz9.put (.slice Al l.length cl) (.slice none 0 0) (.int .i64 q) (.int .i64 0) (.slice none 0 0) (.int .i64 0) (.bool false) (.int .i64 m)
     have HT := Bvh hT
     clear hT hz9 hx10 r0 r1 r2 r3 r4 r5 r6 r7 o0 o1 o2 o3 o4 o5 o6 o7 z0 z1 z2 z3 z4 z5 z6 z7
     go_wp2
     refine bodyPost_ret (results_cell_row rfl _ _ (w.heap.size + 1) 71 #[.slice Al l.length cl, .slice none 0 0, .int .i64 q, .int .i64 0, .slice none 0 0, .int .i64 0, .bool false, .int .i64 m] (0, 0) _ rfl HT.out Try.underlying71 rfl (by kernel_rfl)) rfl ?_
     exact ⟨Al, cl, rfl, V_P (b := 0) (Axe (Aqo (Kd.V_below HV1.out HBB5.out) HN2.out) HN1.out _ _ _ _ _ _ _ _) (fun k hk => hk.elim .inl fun h => .inr (Nat.le_trans hle3 h)), Ax5 (Aqg (Aq1 HB1.out HBB5.out) hle2 7 _) hle1 _ _ _ _ _ _ _ _⟩
end
end
section
def Aj9 (name : ByteArray) (x : S25) : Bool := x.f0.toList == name.toList
theorem Aw4 (P : List S25) (name : ByteArray) (hl : P.length ≤ 1000) : ∀ m i : Nat, ∀ acc : List S25, i + m = P.length → acc.length ≤ i → ∃ k, Aqp.l0 k P name acc i = some (acc ++ (P.drop i).filter fun x => !Aj9 name x)
 | 0, i, acc, hi, ha => ⟨1, by rw [Aqp.l0, if_neg (by omega), List.drop_eq_nil_of_le (by omega)]; simp⟩
 | m + 1, i, acc, hi, ha => by
   rw [Bxc P i (by omega)]
   by_cases h : (Aqr P (i : Int)).f0.toList = name.toList
   · obtain ⟨k, hk⟩ := Aw4 P name hl m (i + 1) acc (by omega) (by omega)
     refine ⟨k + 1, ?_⟩
     rw [Aqp.l0, if_pos (by omega), if_pos (by omega), if_pos h, Az5 i (by omega), hk, List.filter_cons_of_neg (by simp [Aj9, h])]
   · obtain ⟨k, hk⟩ := Aw4 P name hl m (i + 1) (acc ++ [Aqr P (i : Int)]) (by omega) (by simp; omega)
     refine ⟨k + 1, ?_⟩
     rw [Aqp.l0, if_pos (by omega), if_pos (by omega), if_neg h, if_pos (by omega), Az5 i (by omega)]
     rw [show ([(⟨(Aqr P (i : Int)).f0, (Aqr P (i : Int)).f1, (Aqr P (i : Int)).f2, (Aqr P (i : Int)).f3⟩ : S25)]) = [Aqr P (i : Int)] from rfl, hk, List.filter_cons_of_pos (by simp [Aj9, h]), List.append_assoc]
     rfl
theorem Bk3 (P : List S25) (name : ByteArray) (hl : P.length ≤ 1000) : ∃ k, Aqp.f k P name = some (P.filter fun x => !Aj9 name x) := by
 obtain ⟨k, hk⟩ := Aw4 P name hl P.length 0 [] (by omega) (by simp)
 rw [List.nil_append, List.drop_zero] at hk
 exact ⟨k, hk⟩
theorem Bky (keep : Int) : ∀ (xs : List S31) (i j : Nat) (l : List S38), Az0 (fun _ => keep) i l xs = Az0 (fun _ => keep) j l xs
 | [], _, _, _ => rfl
 | x :: xs, i, j, l => Bky keep xs (i + 1) (j + 1) _
section
variable {w : World}
theorem Bzh {A1 : Option Addr} {c1 : Nat} {P : List S25} {Pf : Nat → Prop} (name : ByteArray) (hQ : Kd.V k25 25 w 0 Pf (.slice A1 P.length c1) P) (hl : P.length ≤ 1000) {Q : List S25} (hr : (P.filter fun x => !Aj9 name x) = Q) :
 Calls Try.prog 87 #[.slice A1 P.length c1, .string name] w fun e w' => ∃ A c, e = .returned (.slice A Q.length c) ∧ Kd.V k25 25 w' 0 (fun k => Pf k ∨ w.heap.size ≤ k) (.slice A Q.length c) Q ∧ Below w.heap.size w w' := by
 obtain ⟨k, hk⟩ := Bk3 P name hl
 rw [hr] at hk
 refine (Aqp.calls k Pf A1 c1 P name Q w (V_P hQ fun _ h => h) hk).mono ?_
 rintro e w' ⟨v, rfl, hn, hb⟩
 obtain ⟨A, c, rfl⟩ := Kd.N_slice hn
 exact ⟨A, c, rfl, V_P (b := 0) (Kd.N_V (base' := 0) hn) fun k h => h, hb⟩
theorem Bjz (A0 : Option Addr) (c0 : Nat) (F : List S38) (A1 : Option Addr) (c1 : Nat) (P : List S25) (q n : Int) (A4 : Option Addr) (l4 c4 : Nat) (cr : Int) (dw : Bool) (pk : Int) (name : ByteArray) (Pf : Nat → Prop) (hlt : ∀ k, Pf k → k < w.heap.size)
 (hF : Kd.V k38 38 w 0 Pf (.slice A0 F.length c0) F) (hQ : Kd.V k25 25 w 0 Pf (.slice A1 P.length c1) P) (hP : ∀ x ∈ P, x.f3.length ≤ 1000) (hd : okL F) (hl : F.length + P.length ≤ 990) (G : List S38) (hG : Az0 (fun _ => -1) 0 F ((P.filter (Aj9 name)).map to31) = G) (Q : List S25) (hQQ : (P.filter fun x => !Aj9 name x) = Q) :
 Calls Try.prog 85 #[.agg #[.slice A0 F.length c0, .slice A1 P.length c1, .int .i64 q, .int .i64 n, .slice A4 l4 c4, .int .i64 cr, .bool dw, .int .i64 pk], .string name] w fun e w' => ∃ A c A8 c8, e = .returned (.agg #[.slice A G.length c, .slice A8 Q.length c8, .int .i64 q, .int .i64 n, .slice A4 l4 c4, .int .i64 cr, .bool dw, .int .i64 pk]) ∧ Kd.V k38 38 w' 0 (fun k => Pf k ∨ w.heap.size ≤ k) (.slice A G.length c) G ∧ Kd.V k25 25 w' 0 (fun k => Pf k ∨ w.heap.size ≤ k) (.slice A8 Q.length c8) Q ∧ Below w.heap.size w w' := by
 have hb0 : Below w.heap.size w ((w.alloc (.cells #[.slice A0 F.length c0, .slice A1 P.length c1, .int .i64 q, .int .i64 n, .slice A4 l4 c4, .int .i64 cr, .bool dw, .int .i64 pk] 71)).alloc (.cells #[.slice none 0 0, .slice none 0 0, .int .i64 0, .int .i64 0, .slice none 0 0, .int .i64 0, .bool false, .int .i64 0] 71)) := Aq4 (Aq4 (Below.refl _ _) _) _
 have hx1 : VarX ((w.alloc (.cells #[.slice A0 F.length c0, .slice A1 P.length c1, .int .i64 q, .int .i64 n, .slice A4 l4 c4, .int .i64 cr, .bool dw, .int .i64 pk] 71)).alloc (.cells #[.slice none 0 0, .slice none 0 0, .int .i64 0, .int .i64 0, .slice none 0 0, .int .i64 0, .bool false, .int .i64 0] 71)) w.heap.size (.slice A0 F.length c0) (.slice A1 P.length c1) (.int .i64 q) (.int .i64 n) (.slice A4 l4 c4) (.int .i64 cr) (.bool dw) (.int .i64 pk) := Aqe (heap_alloc_new _ _) _
 have hz1 : VarX ((w.alloc (.cells #[.slice A0 F.length c0, .slice A1 P.length c1, .int .i64 q, .int .i64 n, .slice A4 l4 c4, .int .i64 cr, .bool dw, .int .i64 pk] 71)).alloc (.cells #[.slice none 0 0, .slice none 0 0, .int .i64 0, .int .i64 0, .slice none 0 0, .int .i64 0, .bool false, .int .i64 0] 71)) (w.heap.size + 1) (.slice none 0 0) (.slice none 0 0) (.int .i64 0) (.int .i64 0) (.slice none 0 0) (.int .i64 0) (.bool false) (.int .i64 0) := by
  have := heap_alloc_new (w.alloc (.cells #[.slice A0 F.length c0, .slice A1 P.length c1, .int .i64 q, .int .i64 n, .slice A4 l4 c4, .int .i64 cr, .bool dw, .int .i64 pk] 71)) (.cells #[.slice none 0 0, .slice none 0 0, .int .i64 0, .int .i64 0, .slice none 0 0, .int .i64 0, .bool false, .int .i64 0] 71)
  rw [World.size_alloc] at this
  exact this
 have hsz : ((w.alloc (.cells #[.slice A0 F.length c0, .slice A1 P.length c1, .int .i64 q, .int .i64 n, .slice A4 l4 c4, .int .i64 cr, .bool dw, .int .i64 pk] 71)).alloc (.cells #[.slice none 0 0, .slice none 0 0, .int .i64 0, .int .i64 0, .slice none 0 0, .int .i64 0, .bool false, .int .i64 0] 71)).heap.size = w.heap.size + 2 := by rw [World.size_alloc, World.size_alloc]
 have HB0 := Bvh hb0
 have HX := Bvh hx1
 have HZ := Bvh hz1
 have HSZ := Bvh hsz
 have HF := Bvh (V_in (n := w.heap.size + 2) (e2 := 38) (b2 := 0) (Kd.V_below hF hb0))
 have HQ := Bvh hQ
 have HP := Bvh hP
 have HLT := Bvh hlt
 have HG := Bvh hG
 have HQQ := Bvh hQQ
 have HOK := Bvh hd
 have HL := Bvh hl
 have hle1 : w.heap.size ≤ w.heap.size + 1 := by omega
 have hle3 : w.heap.size ≤ w.heap.size + 2 := by omega
 have hn0 : ¬ Out Pf (w.heap.size + 2) w.heap.size := fun h => h.elim (fun h => by have := hlt _ h; omega) (fun h => by omega)
 have hn1 : ¬ Out Pf (w.heap.size + 2) (w.heap.size + 1) := fun h => h.elim (fun h => by have := hlt _ h; omega) (fun h => by omega)
 have HN0 := Bvh hn0
 have HN1 := Bvh hn1
 clear hb0 hx1 hz1 hsz hF hQ hP hd hl hG hQQ hlt hn0 hn1
 go_enter Try.func85, Try.ntmps85
 go_upto_region 1 with fail
 generalize ((w.alloc (.cells #[.slice A0 F.length c0, .slice A1 P.length c1, .int .i64 q, .int .i64 n, .slice A4 l4 c4, .int .i64 cr, .bool dw, .int .i64 pk] 71)).alloc (.cells #[.slice none 0 0, .slice none 0 0, .int .i64 0, .int .i64 0, .slice none 0 0, .int .i64 0, .bool false, .int .i64 0] 71)) = W at HB0 HX HZ HSZ HF ⊢
 go_wp2
 go_loopg [5] P.length (fun kq v6 w' => ∃ i : Nat, v6 = .int .i64 i ∧ i + kq = P.length ∧ ∃ (Al : Option Addr) (cl : Nat) (l : List S38), Aside0 (VarX w' w.heap.size (.slice Al l.length cl) (.slice A1 P.length c1) (.int .i64 q) (.int .i64 n) (.slice A4 l4 c4) (.int .i64 cr) (.bool dw) (.int .i64 pk)) ∧ Aside0 (VarX w' (w.heap.size + 1) (.slice none 0 0) (.slice none 0 0) (.int .i64 0) (.int .i64 0) (.slice none 0 0) (.int .i64 0) (.bool false) (.int .i64 0)) ∧ Aside0 (Kd.V k38 38 w' 0 (Out Pf (w.heap.size + 2)) (.slice Al l.length cl) l) ∧ Aside0 (Below w.heap.size w w') ∧ Aside0 (w.heap.size + 2 ≤ w'.heap.size) ∧ Aside0 (okL l ∧ l.length ≤ F.length + i ∧ Az0 (fun _ => -1) 0 l (((P.drop i).filter (Aj9 name)).map to31) = G))
 case atStart => exact ⟨0, rfl, by omega, A0, c0, F, HX, HZ, HF, HB0, ⟨Nat.le_of_eq HSZ.out.symm⟩, ⟨HOK.out, by omega, by rw [List.drop_zero]; exact HG.out⟩⟩
 case round =>
  obtain ⟨i, rfl, hi, Al, cl, l, HX1, HZ1, HV1, HB1, HS1, HI1⟩ := hrel
  obtain ⟨z0, z1, z2, z3, z4, z5, z6, z7⟩ := HX1.out.cell
  have hpl : P.length ≤ 990 := by have := HL.out; omega
  by_cases hli : i < P.length
  · obtain ⟨k1, rfl⟩ : ∃ k1, gk = k1 + 1 := ⟨gk - 1, by omega⟩
    obtain ⟨ad, A3, c3, e1, hpb, hx0, hx1, hx2, hx3, hV3⟩ := Bv9 HQ.out i hli
    cases e1
    replace hx0 := Aqd HB1.out hx0; replace hx1 := Aqd HB1.out hx1; replace hx2 := Aqd HB1.out hx2; replace hx3 := Aqd HB1.out hx3
    obtain ⟨x, hxe⟩ : ∃ x, Aqr P (i : Int) = x := ⟨_, rfl⟩
    have hdr : P.drop i = x :: P.drop (i + 1) := by rw [Bxc P i hli, hxe]
    have hxm : x ∈ P := by rw [← hxe, rd25 P i hli]; exact List.getElem_mem hli
    rw [hxe] at hx0 hx1 hx2 hx3 hV3
    have HV3 := Bvh (Kd.V_below hV3 HB1.out)
    have HDR := Bvh hdr
    cases hown : x.f0.toList == name.toList
    · have hnx : Az0 (fun _ => -1) 0 l (((P.drop (i + 1)).filter (Aj9 name)).map to31) = G := by
       have h := HI1.out.2.2
       rw [hdr, List.filter_cons_of_neg (by unfold Aj9; rw [hown]; simp)] at h
       exact h
      have HNX := Bvh hnx
      clear hV3 hxe hdr hnx hpb
      go_wp2
      go_roundg k1
      case measure => omega
      case rel => exact ⟨i + 1, by go_num, by omega, Al, cl, l, HX1, HZ1, HV1, HB1, HS1, ⟨HI1.out.1, by have := HI1.out.2.1; omega, HNX.out⟩⟩
    · obtain ⟨⟨l2, er⟩, hdo⟩ : ∃ r, doT l (to31 x) (-1) = r := ⟨_, rfl⟩
      have hll : l.length ≤ 1000 := by have := HI1.out.2.1; have := HL.out; omega
      have hxl : x.f3.length ≤ 1000 := HP.out x hxm
      have HDO := Bvh hdo
      have hnext : Az0 (fun _ => -1) 0 (if er = 0 then l2 else l) (((P.drop (i + 1)).filter (Aj9 name)).map to31) = G := by
       have h := HI1.out.2.2
       rw [hdr, List.filter_cons_of_pos (by unfold Aj9; exact hown), List.map_cons, Az0] at h
       unfold dn at h
       rw [hdo] at h
       rw [← h]
       exact Bky _ _ _ _ _
      have hok2 : okL (if er = 0 then l2 else l) ∧ (if er = 0 then l2 else l).length ≤ F.length + (i + 1) := by
       have h := Bjt l (to31 x) (-1) HI1.out.1
       unfold dn at h
       rw [hdo] at h
       exact ⟨h.1, by have h2 := h.2; have := HI1.out.2.1; simp only at h2; omega⟩
      have HNX := Bvh hnext
      have HOK2 := Bvh hok2
      have hS : ∀ w' : World, Below wr.heap.size wr w' → w'.cell? ⟨w.heap.size, 0, none⟩ = some (.slice Al l.length cl) ∧ w'.cell? ⟨w.heap.size, 1, none⟩ = some (.slice (some ad) P.length c1) ∧ w'.cell? (ad.add (i * 4)) = some (.string x.f0) ∧ w'.cell? ⟨(ad.add (i * 4)).block, (ad.add (i * 4)).off + 1, none⟩ = some (.int .i64 x.f1) ∧ w'.cell? ⟨(ad.add (i * 4)).block, (ad.add (i * 4)).off + 2, none⟩ = some (.int .i64 x.f2) ∧ w'.cell? ⟨(ad.add (i * 4)).block, (ad.add (i * 4)).off + 3, none⟩ = some (.slice A3 x.f3.length c3) ∧ Below wr.heap.size wr w' :=
       fun w' hb => ⟨Aqd hb z0, Aqd hb z1, Aqd hb hx0, Aqd hb hx1, Aqd hb hx2, Aqd hb hx3, hb⟩
      have HSS := Bvh hS
      clear hV3 hxe hdr hdo hnext hok2 hS hpb
      go_wp2
      go_region_held3 (fun w' => w'.cell? ⟨w.heap.size, 0, none⟩ = some (.slice Al l.length cl) ∧ w'.cell? ⟨w.heap.size, 1, none⟩ = some (.slice (some ad) P.length c1) ∧ w'.cell? (ad.add (i * 4)) = some (.string x.f0) ∧ w'.cell? ⟨(ad.add (i * 4)).block, (ad.add (i * 4)).off + 1, none⟩ = some (.int .i64 x.f1) ∧ w'.cell? ⟨(ad.add (i * 4)).block, (ad.add (i * 4)).off + 2, none⟩ = some (.int .i64 x.f2) ∧ w'.cell? ⟨(ad.add (i * 4)).block, (ad.add (i * 4)).off + 3, none⟩ = some (.slice A3 x.f3.length c3) ∧ Below wr.heap.size wr w')
       (first
         | exact HSS.out _ (Aq5 (Below.refl _ _))
         | (go_split_ands
            first
             | exact HSS.out _ (Aq1 (by assumption) hb5))
         | go_keep)
       (first
         | (go_at_call 19; (with_reducible refine (xdo x _ (Kd.V_drew HV1.out) (V_in (n := w.heap.size + 2) (e2 := 5) (b2 := 0) (Kd.V_drew HV3.out)) hll HI1.out.1 hxl HDO.out).mono ?_); rintro e w5 ⟨A5, c5, rfl, hv5, hb5⟩))
      have hbw : Below wr.heap.size wr w5 := by go_split_ands; assumption
      have HB5 := Bvh hbw
      have HV5 := Bvh (Aj4 (e2 := 38) (b2 := 0) hv5 (Nat.le_trans HS1.out (Aq5 (Below.refl wr.heap.size wr)).size))
      clear hv5 hb5 hbw
      obtain ⟨s0, -, hx9⟩ := VarX.set1 (HX1.out.below HB5.out) 0 (.slice A5 l2.length c5) rfl
      have HX9 := Bvh hx9
      obtain ⟨v0, -, -, -, -, -, -, -⟩ := (HX1.out.below HB5.out).cell
      clear hx9
      by_cases her : er = 0
      · subst her
        rw [if_pos rfl] at HNX HOK2
        go_wp2
        go_roundg k1
        case measure => omega
        case rel =>
         exact ⟨i + 1, by go_num, by omega, A5, c5, l2, HX9, ⟨show _ = _ by rw [Below.heap_setCell _ ⟨w.heap.size, 0, none⟩ _ _ (show w.heap.size + 1 ≠ w.heap.size by omega)]; exact HZ1.out.below HB5.out⟩, ⟨Aqo HV5.out HN0.out⟩, ⟨Aqg (Aq1 HB1.out HB5.out) (Nat.le_refl _) 0 _⟩, ⟨by rw [Ajc]; exact Nat.le_trans HS1.out HB5.out.size⟩, ⟨HOK2.out.1, HOK2.out.2, HNX.out⟩⟩
      · rw [if_neg her] at HNX HOK2
        have hb1 : (er == 0) = false := beq_eq_false_iff_ne.mpr her
        go_wp2
        go_roundg k1
        case measure => omega
        case rel => exact ⟨i + 1, by go_num, by omega, Al, cl, l, ⟨HX1.out.below HB5.out⟩, ⟨HZ1.out.below HB5.out⟩, ⟨Kd.V_below HV1.out HB5.out⟩, ⟨Aq1 HB1.out HB5.out⟩, ⟨Nat.le_trans HS1.out HB5.out.size⟩, ⟨HOK2.out.1, HOK2.out.2, HNX.out⟩⟩
  · have hlG : l = G := by
     have h := HI1.out.2.2
     rw [List.drop_eq_nil_of_le (by omega)] at h
     exact h
    subst hlG
    have HQ1 := Bvh (Kd.V_below HQ.out HB1.out)
    go_wp2_with (go_at_call 87; (with_reducible refine (Bzh name HQ1.out (by omega) HQQ.out).mono ?_); rintro e w5 ⟨A8, c8, rfl, hv8, hb5⟩; have HV8 := Bvh (V_P (b := 0) (ok2 := Out Pf (w.heap.size + 2)) (e2 := 25) (b2 := 0) hv8 (fun k hk => hk.elim .inl fun h => .inr (Nat.le_trans HS1.out h))); have HB5 := Bvh hb5; obtain ⟨r0, r1, r2, r3, r4, r5, r6, r7⟩ := (HX1.out.below hb5).cell; obtain ⟨s0, -, hx9⟩ := VarX.set1 (HX1.out.below hb5) 1 (.slice A8 Q.length c8) rfl; have HX9 := Bvh (show VarX (w5.setCell ⟨w.heap.size, 1, none⟩ (.slice A8 Q.length c8)) w.heap.size (.slice Al l.length cl) (.slice A8 Q.length c8) (.int .i64 q) (.int .i64 n) (.slice A4 l4 c4) (.int .i64 cr) (.bool dw) (.int .i64 pk) from hx9); obtain ⟨q0, q1, q2, q3, q4, q5, q6, q7⟩ := HX9.out.cell; have hz9 : VarX (w5.setCell ⟨w.heap.size, 1, none⟩ (.slice A8 Q.length c8)) (w.heap.size + 1) (.slice none 0 0) (.slice none 0 0) (.int .i64 0) (.int .i64 0) (.slice none 0 0) (.int .i64 0) (.bool false) (.int .i64 0) := (show _ = _ by rw [Below.heap_setCell _ ⟨w.heap.size, 1, none⟩ _ _ (show w.heap.size + 1 ≠ w.heap.size by omega)]; exact HZ1.out.below hb5); obtain ⟨pf0, pg0, pf1, pg1, pf2, pg2, pf3, pg3, pf4, pg4, pf5, pg5, pf6, pg6, pf7, pg7, hT⟩ := hz9.put (.slice Al l.length cl) (.slice A8 Q.length c8) (.int .i64 q) (.int .i64 n) (.slice A4 l4 c4) (.int .i64 cr) (.bool dw) (.int .i64 pk); have HT := Bvh hT; clear hT hz9 hx9 hv8 hb5)
    refine bodyPost_ret (results_cell_row rfl _ _ (w.heap.size + 1) 71 #[.slice Al l.length cl, .slice A8 Q.length c8, .int .i64 q, .int .i64 n, .slice A4 l4 c4, .int .i64 cr, .bool dw, .int .i64 pk] (0, 0) _ rfl HT.out Try.underlying71 rfl (by kernel_rfl)) rfl ?_
    exact ⟨Al, cl, A8, c8, rfl, V_P (b := 0) (Axe (Aqo (Kd.V_below HV1.out HB5.out) HN0.out) HN1.out _ _ _ _ _ _ _ _) (fun k hk => hk.elim .inl fun h => .inr (Nat.le_trans hle3 h)), V_P (b := 0) (Axe (Aqo HV8.out HN0.out) HN1.out _ _ _ _ _ _ _ _) (fun k hk => hk.elim .inl fun h => .inr (Nat.le_trans hle3 h)), Ax5 (Aqg (Aq1 HB1.out HB5.out) (Nat.le_refl _) 1 _) hle1 _ _ _ _ _ _ _ _⟩
end
#print axioms Bjz
end
section
def Bxz (a b : ByteArray) (x : S25) : S25 := if Aj9 a x then ⟨b, x.f1, x.f2, x.f3⟩ else x
def Ak9 (a b : ByteArray) (P : List S25) : List S25 := (P.filter fun x => !Aj9 b x).map (Bxz a b)
section
variable {w : World}
theorem xdrop {A0 : Option Addr} {c0 : Nat} {F : List S38} {Pf : Nat → Prop} (name : ByteArray) (hF : Kd.V k38 38 w 0 Pf (.slice A0 F.length c0) F) (hl : F.length ≤ 1000) {G : List S38} (hG : (F.filter fun x => !Ax8 name x) = G) :
 Calls Try.prog 26 #[.slice A0 F.length c0, .string name] w fun e w' => ∃ A c, e = .returned (.slice A G.length c) ∧ Kd.V k38 38 w' 0 (fun k => Pf k ∨ w.heap.size ≤ k) (.slice A G.length c) G ∧ Below w.heap.size w w' := by
 obtain ⟨k, hk⟩ := Bqk F name (by omega)
 rw [hG] at hk
 refine (Aqa.calls k Pf A0 c0 F name G w (V_P hF fun _ h => h) hk).mono ?_
 rintro e w' ⟨v, rfl, hn, hb⟩
 obtain ⟨A, c, rfl⟩ := Kd.N_slice hn
 exact ⟨A, c, rfl, V_P (b := 0) (Kd.N_V (base' := 0) hn) fun k h => h, hb⟩
theorem xmove17 {A0 : Option Addr} {c0 : Nat} {F : List S38} {Pf : Nat → Prop} (a b : ByteArray) (hF : Kd.V k38 38 w 0 Pf (.slice A0 F.length c0) F) (hl : F.length ≤ 1000) {G : List S38} (hG : Avx F a b = G) :
 Calls Try.prog 22 #[.slice A0 F.length c0, .string a, .string b] w fun e w' => ∃ A c i, e = .returned (.tuple #[.slice A G.length c, .bool i]) ∧ Kd.V k38 38 w' 0 (fun k => Pf k ∨ w.heap.size ≤ k) (.slice A G.length c) G ∧ Below w.heap.size w w' := by
 obtain ⟨k, hk⟩ := refMove F a b (by omega)
 obtain ⟨i, hi⟩ : ∃ i, (match F.find? (Ax8 a) with | some x => (putL (F.filter fun y => !Ax8 a y) b x.f1, true) | none => (F, false)) = (G, i) := by
  rw [← hG]
  unfold Avx
  cases F.find? (Ax8 a) with
  | none => exact ⟨false, rfl⟩
  | some x => exact ⟨true, rfl⟩
 have hk2 := hk.trans (congrArg some hi)
 refine (Azi.calls k Pf A0 c0 F a b G i w (V_P hF fun _ h => h) hk2).mono ?_
 rintro e w' ⟨v, rfl, hv, hb⟩
 obtain ⟨A, c, rfl⟩ := Kd.V_slice hv
 exact ⟨A, c, i, rfl, V_P hv fun k h => h, hb⟩
theorem xmoved (A0 : Option Addr) (c0 : Nat) (F : List S38) (A1 : Option Addr) (c1 : Nat) (P : List S25) (q n : Int) (A4 : Option Addr) (l4 c4 : Nat) (cr : Int) (dw : Bool) (pk : Int) (a b : ByteArray) (hne : (a.toList == b.toList) = false) (Pf : Nat → Prop) (hlt : ∀ k, Pf k → k < w.heap.size)
 (hF : Kd.V k38 38 w 0 Pf (.slice A0 F.length c0) F) (hQ : Kd.V k25 25 w 0 Pf (.slice A1 P.length c1) P) (hl : F.length + P.length ≤ 990) (G : List S38) (hG : Avx (F.filter fun x => !Ax8 b x) a b = G) (Q : List S25) (hQQ : Ak9 a b P = Q) :
 Calls Try.prog 86 #[.agg #[.slice A0 F.length c0, .slice A1 P.length c1, .int .i64 q, .int .i64 n, .slice A4 l4 c4, .int .i64 cr, .bool dw, .int .i64 pk], .string a, .string b] w fun e w' => ∃ A c A8 c8, e = .returned (.agg #[.slice A G.length c, .slice A8 Q.length c8, .int .i64 q, .int .i64 n, .slice A4 l4 c4, .int .i64 cr, .bool dw, .int .i64 pk]) ∧ Kd.V k38 38 w' 0 (fun k => Pf k ∨ w.heap.size ≤ k) (.slice A G.length c) G ∧ Kd.V k25 25 w' 0 (fun k => Pf k ∨ w.heap.size ≤ k) (.slice A8 Q.length c8) Q ∧ Below w.heap.size w w' := by
 have hb0 : Below w.heap.size w ((w.alloc (.cells #[.slice A0 F.length c0, .slice A1 P.length c1, .int .i64 q, .int .i64 n, .slice A4 l4 c4, .int .i64 cr, .bool dw, .int .i64 pk] 71)).alloc (.cells #[.slice none 0 0, .slice none 0 0, .int .i64 0, .int .i64 0, .slice none 0 0, .int .i64 0, .bool false, .int .i64 0] 71)) := Aq4 (Aq4 (Below.refl _ _) _) _
 have hx1 : VarX ((w.alloc (.cells #[.slice A0 F.length c0, .slice A1 P.length c1, .int .i64 q, .int .i64 n, .slice A4 l4 c4, .int .i64 cr, .bool dw, .int .i64 pk] 71)).alloc (.cells #[.slice none 0 0, .slice none 0 0, .int .i64 0, .int .i64 0, .slice none 0 0, .int .i64 0, .bool false, .int .i64 0] 71)) w.heap.size (.slice A0 F.length c0) (.slice A1 P.length c1) (.int .i64 q) (.int .i64 n) (.slice A4 l4 c4) (.int .i64 cr) (.bool dw) (.int .i64 pk) := Aqe (heap_alloc_new _ _) _
 have hz1 : VarX ((w.alloc (.cells #[.slice A0 F.length c0, .slice A1 P.length c1, .int .i64 q, .int .i64 n, .slice A4 l4 c4, .int .i64 cr, .bool dw, .int .i64 pk] 71)).alloc (.cells #[.slice none 0 0, .slice none 0 0, .int .i64 0, .int .i64 0, .slice none 0 0, .int .i64 0, .bool false, .int .i64 0] 71)) (w.heap.size + 1) (.slice none 0 0) (.slice none 0 0) (.int .i64 0) (.int .i64 0) (.slice none 0 0) (.int .i64 0) (.bool false) (.int .i64 0) := by
  have := heap_alloc_new (w.alloc (.cells #[.slice A0 F.length c0, .slice A1 P.length c1, .int .i64 q, .int .i64 n, .slice A4 l4 c4, .int .i64 cr, .bool dw, .int .i64 pk] 71)) (.cells #[.slice none 0 0, .slice none 0 0, .int .i64 0, .int .i64 0, .slice none 0 0, .int .i64 0, .bool false, .int .i64 0] 71)
  rw [World.size_alloc] at this
  exact this
 have hsz : ((w.alloc (.cells #[.slice A0 F.length c0, .slice A1 P.length c1, .int .i64 q, .int .i64 n, .slice A4 l4 c4, .int .i64 cr, .bool dw, .int .i64 pk] 71)).alloc (.cells #[.slice none 0 0, .slice none 0 0, .int .i64 0, .int .i64 0, .slice none 0 0, .int .i64 0, .bool false, .int .i64 0] 71)).heap.size = w.heap.size + 2 := by rw [World.size_alloc, World.size_alloc]
 obtain ⟨D, hD⟩ : ∃ D, (F.filter fun x => !Ax8 b x) = D := ⟨_, rfl⟩
 have hdl : D.length ≤ 1000 := by rw [← hD]; have := List.length_filter_le (fun x => !Ax8 b x) F; omega
 rw [hD] at hG
 have HB0 := Bvh hb0
 have HX := Bvh hx1
 have HZ := Bvh hz1
 have HSZ := Bvh hsz
 have HF := Bvh (V_in (n := w.heap.size + 2) (e2 := 38) (b2 := 0) (Kd.V_below hF hb0))
 have HQ := Bvh hQ
 have HLT := Bvh hlt
 have HG := Bvh hG
 have HD := Bvh hD
 have HQQ := Bvh hQQ
 have HL := Bvh hl
 have hle1 : w.heap.size ≤ w.heap.size + 1 := by omega
 have hle3 : w.heap.size ≤ w.heap.size + 2 := by omega
 have hn0 : ¬ Out Pf (w.heap.size + 2) w.heap.size := fun h => h.elim (fun h => by have := hlt _ h; omega) (fun h => by omega)
 have hn1 : ¬ Out Pf (w.heap.size + 2) (w.heap.size + 1) := fun h => h.elim (fun h => by have := hlt _ h; omega) (fun h => by omega)
 have HOUT0 := Bvh hn0
 have HOUT1 := Bvh hn1
 clear hb0 hx1 hz1 hsz hF hQ hl hG hD hQQ hlt hn0 hn1
 go_enter Try.func86, Try.ntmps86
 go_upto_region 1 with fail
 generalize ((w.alloc (.cells #[.slice A0 F.length c0, .slice A1 P.length c1, .int .i64 q, .int .i64 n, .slice A4 l4 c4, .int .i64 cr, .bool dw, .int .i64 pk] 71)).alloc (.cells #[.slice none 0 0, .slice none 0 0, .int .i64 0, .int .i64 0, .slice none 0 0, .int .i64 0, .bool false, .int .i64 0] 71)) = W at HB0 HX HZ HSZ HF ⊢
 obtain ⟨y0, y1, y2, y3, y4, y5, y6, y7⟩ := HX.out.cell
 go_wp2_with (first
  | (go_at_call 26; (with_reducible refine (xdrop b HF.out (by have := HL.out; omega) HD.out).mono ?_); rintro e w2 ⟨A2, c2, rfl, hv2, hb2⟩; have HV2 := Bvh (Aj4 (e2 := 38) (b2 := 0) hv2 (Nat.le_of_eq HSZ.out.symm)); have HB2 := Bvh hb2; clear hv2 hb2 y0 y1 y2 y3 y4 y5 y6 y7)
  | (go_at_call 22; (with_reducible refine (xmove17 a b HV2.out hdl HG.out).mono ?_); rintro e w3 ⟨Ag, cg, gi, rfl, hv3, hb3⟩; have HVG := Bvh (Aj4 (e2 := 38) (b2 := 0) hv3 (Nat.le_trans (Nat.le_of_eq HSZ.out.symm) HB2.out.size)); have HB3 := Bvh (Aq1 HB2.out hb3); obtain ⟨y0, y1, y2, y3, y4, y5, y6, y7⟩ := (HX.out.below HB3.out).cell; obtain ⟨s0, -, hx9⟩ := VarX.set1 (HX.out.below HB3.out) 0 (.slice Ag G.length cg) rfl; have HX9 := Bvh (show VarX (w3.setCell ⟨w.heap.size, 0, none⟩ (.slice Ag G.length cg)) w.heap.size (.slice Ag G.length cg) (.slice A1 P.length c1) (.int .i64 q) (.int .i64 n) (.slice A4 l4 c4) (.int .i64 cr) (.bool dw) (.int .i64 pk) from hx9); have HZ9 := Bvh (show VarX (w3.setCell ⟨w.heap.size, 0, none⟩ (.slice Ag G.length cg)) (w.heap.size + 1) (.slice none 0 0) (.slice none 0 0) (.int .i64 0) (.int .i64 0) (.slice none 0 0) (.int .i64 0) (.bool false) (.int .i64 0) from (show _ = _ by rw [Below.heap_setCell _ ⟨w.heap.size, 0, none⟩ _ _ (show w.heap.size + 1 ≠ w.heap.size by omega)]; exact HZ.out.below HB3.out)); clear hv3 hb3 hx9))
 have HVG9 := Bvh (Aqo (j := 0) (u := .slice Ag G.length cg) HVG.out HOUT0.out)
 have HB9 := Bvh (Aqg (Aq1 HB0.out HB3.out) (Nat.le_refl w.heap.size) 0 (.slice Ag G.length cg))
 have HS9 := Bvh (show w.heap.size + 2 ≤ (w3.setCell ⟨w.heap.size, 0, none⟩ (.slice Ag G.length cg)).heap.size by rw [Ajc]; exact Nat.le_trans (Nat.le_of_eq HSZ.out.symm) HB3.out.size)
 clear s0 y0 y1 y2 y3 y4 y5 y6 y7
 generalize w3.setCell ⟨w.heap.size, 0, none⟩ (.slice Ag G.length cg) = W9 at HX9 HZ9 HVG9 HB9 HS9 ⊢
 go_loopg [9, 10] P.length (fun kq v9 v10 w' => ∃ i : Nat, v10 = .int .i64 i ∧ i + kq = P.length ∧ ∃ (Ap : Option Addr) (cp : Nat) (acc : List S25), v9 = .slice Ap acc.length cp ∧ Aside0 (Kd.N k25 25 w' W9.heap.size (Out Pf (w.heap.size + 2)) (.slice Ap acc.length cp) acc) ∧ Aside0 (Below W9.heap.size W9 w') ∧ Aside0 (acc.length ≤ i ∧ acc ++ Ak9 a b (P.drop i) = Q))
 case atStart => exact ⟨0, rfl, by omega, none, 0, [], rfl, ⟨Kd.N_nil _ _ _ _ _⟩, ⟨Below.refl _ _⟩, ⟨by simp, by rw [List.drop_zero]; exact HQQ.out⟩⟩
 case round =>
  obtain ⟨i, rfl, hi, Ap, cp, acc, rfl, HN1, HBW1, HI1⟩ := hrel
  have HX1 := Bvh (HX9.out.below HBW1.out)
  have HZ1 := Bvh (HZ9.out.below HBW1.out)
  have HV1 := Bvh (Kd.V_below HVG9.out HBW1.out)
  have HB1 := Bvh (Aq1 HB9.out HBW1.out)
  have HS1 := Bvh (Nat.le_trans HS9.out HBW1.out.size)
  obtain ⟨z0, z1, z2, z3, z4, z5, z6, z7⟩ := HX1.out.cell
  have hpl : P.length ≤ 990 := by have := HL.out; omega
  by_cases hli : i < P.length
  · obtain ⟨k1, rfl⟩ : ∃ k1, gk = k1 + 1 := ⟨gk - 1, by omega⟩
    obtain ⟨ad, A3, c3, e1, hpb, hx0, hx1, hx2, hx3, hV3⟩ := Bv9 HQ.out i hli
    cases e1
    replace hx0 := Aqd HB1.out hx0; replace hx1 := Aqd HB1.out hx1; replace hx2 := Aqd HB1.out hx2; replace hx3 := Aqd HB1.out hx3
    obtain ⟨x, hxe⟩ : ∃ x, Aqr P (i : Int) = x := ⟨_, rfl⟩
    have hdr : P.drop i = x :: P.drop (i + 1) := by rw [Bxc P i hli, hxe]
    rw [hxe] at hx0 hx1 hx2 hx3 hV3
    have HV3 := Bvh (Kd.V_below hV3 HB1.out)
    have hal : acc.length ≤ 990 := by have := HI1.out.1; omega
    have hbx : Below wr.heap.size wr (wr.alloc (.cells #[.string x.f0, .int .i64 x.f1, .int .i64 x.f2, .slice A3 x.f3.length c3] 25)) := Aq4 (Below.refl _ _) _
    have hyx : VarY (wr.alloc (.cells #[.string x.f0, .int .i64 x.f1, .int .i64 x.f2, .slice A3 x.f3.length c3] 25)) wr.heap.size x A3 c3 := heap_alloc_new _ _
    have HBX := Bvh hbx
    have HYX := Bvh hyx
    cases hown : x.f0.toList == a.toList
    · cases hown2 : x.f0.toList == b.toList
      · have hnx : (acc ++ [x]) ++ Ak9 a b (P.drop (i + 1)) = Q := by
         have h := HI1.out.2
         rw [hdr] at h
         unfold Ak9 at h ⊢
         rw [List.filter_cons_of_pos (by unfold Aj9; rw [hown2]; rfl), List.map_cons, show Bxz a b x = x by unfold Bxz Aj9; rw [hown]; rfl] at h
         rw [List.append_assoc]
         exact h
        obtain ⟨acc2, hacc2⟩ : ∃ acc2, acc ++ [x] = acc2 := ⟨_, rfl⟩
        have hal2 : acc2.length ≤ i + 1 := by rw [← hacc2, List.length_append]; have := HI1.out.1; simp; omega
        rw [hacc2] at hnx
        have HACC := Bvh hacc2
        have HNX := Bvh hnx
        clear hacc2
        have hq1 : (x.f0.toList != b.toList) = true := by rw [bne, hown2]; rfl
        clear hV3 hxe hdr hnx hpb hbx hyx
        go_upto_region 8 with fail
        generalize wr.alloc (.cells #[.string x.f0, .int .i64 x.f1, .int .i64 x.f2, .slice A3 x.f3.length c3] 25) = w5 at HBX HYX ⊢
        obtain ⟨t0, t1, t2, t3⟩ := HYX.out.cell
        go_wp2_with ((with_reducible refine Axc (b := .append) (xs := #[.tmp 50, .tmp 52]) rfl ?_); at_builtin; refine Kd.N_append k25 (w0 := W9) W9.heap.size rfl (.tmp 50) (.tmp 52) 69 25 (.agg #[(.string ⟨#[]⟩), (.int .i64 0), (.int .i64 0), (.slice none 0 0)]) 56 rfl Try.underlying69 Awl rfl (by decide) (by decide) (.slice Ap acc.length cp) acc x [.string x.f0, .int .i64 x.f1, .int .i64 x.f2, .slice A3 x.f3.length c3] (Out Pf (w.heap.size + 2)) Pf rfl rfl ?bP ?bK ?bF ?bO ?bB ?bS ?bL ?_; (case bP => exact Awk _ _ x (Kd.V_reads' HV3.out).2.1 (Kd.V_F (Kd.V_below HV3.out HBX.out))); (case bK => exact fun k hk => ⟨.inl hk, fun he => by have := HLT.out k hk; have := Kd.N_base HN1.out k he.symm; have := HS9.out; omega⟩); (case bF => exact fun k hk => .inr (Nat.le_trans HS1.out (Nat.le_trans HBX.out.size hk))); (case bO => exact Kd.N_below HN1.out HBX.out); (case bB => exact Aq1 HBW1.out HBX.out); (case bS => exact Nat.le_trans HBW1.out.size HBX.out.size); (case bL => omega); intro v2 w8 hn8 hb8 _ _; rw [HACC.out] at hn8; obtain ⟨A8, c8, rfl⟩ := Kd.N_slice hn8; have HN8 := Bvh hn8; have HB8W := Bvh hb8; clear hn8 hb8)
        go_wp2
        go_roundg k1
        case measure => omega
        case rel => exact ⟨i + 1, by go_num, by omega, A8, c8, acc2, rfl, HN8, HB8W, ⟨hal2, HNX.out⟩⟩
      · have hnx : acc ++ Ak9 a b (P.drop (i + 1)) = Q := by
         have h := HI1.out.2
         rw [hdr] at h
         unfold Ak9 at h ⊢
         rw [List.filter_cons_of_neg (by unfold Aj9; rw [hown2]; simp)] at h
         exact h
        have HNX := Bvh hnx
        have hq1 : (x.f0.toList != b.toList) = false := by rw [bne, hown2]; rfl
        clear hV3 hxe hdr hnx hpb hbx hyx
        go_upto_region 8 with fail
        generalize wr.alloc (.cells #[.string x.f0, .int .i64 x.f1, .int .i64 x.f2, .slice A3 x.f3.length c3] 25) = w5 at HBX HYX ⊢
        obtain ⟨t0, t1, t2, t3⟩ := HYX.out.cell
        go_wp2
        go_roundg k1
        case measure => omega
        case rel => exact ⟨i + 1, by go_num, by omega, Ap, cp, acc, rfl, ⟨Kd.N_below HN1.out HBX.out⟩, ⟨Aq1 HBW1.out HBX.out⟩, ⟨by have := HI1.out.1; omega, HNX.out⟩⟩
    · have hown2 : (x.f0.toList == b.toList) = false := by
       rw [beq_iff_eq] at hown
       rw [hown]
       exact hne
      have hxd : ∃ x' : S25, x' = ⟨b, x.f1, x.f2, x.f3⟩ := ⟨_, rfl⟩
      have hnx : (acc ++ [(⟨b, x.f1, x.f2, x.f3⟩ : S25)]) ++ Ak9 a b (P.drop (i + 1)) = Q := by
       have h := HI1.out.2
       rw [hdr] at h
       unfold Ak9 at h ⊢
       rw [List.filter_cons_of_pos (by unfold Aj9; rw [hown2]; rfl), List.map_cons, show Bxz a b x = ⟨b, x.f1, x.f2, x.f3⟩ by unfold Bxz Aj9; rw [hown]; rfl] at h
       rw [List.append_assoc]
       exact h
      obtain ⟨acc2, hacc2⟩ : ∃ acc2, acc ++ [(⟨b, x.f1, x.f2, x.f3⟩ : S25)] = acc2 := ⟨_, rfl⟩
      have hal2 : acc2.length ≤ i + 1 := by rw [← hacc2, List.length_append]; have := HI1.out.1; simp; omega
      rw [hacc2] at hnx
      have HACC := Bvh hacc2
      have HNX := Bvh hnx
      clear hacc2
      clear hV3 hxe hdr hnx hpb hbx hyx hxd
      go_upto_region 8 with fail
      generalize wr.alloc (.cells #[.string x.f0, .int .i64 x.f1, .int .i64 x.f2, .slice A3 x.f3.length c3] 25) = w5 at HBX HYX ⊢
      obtain ⟨t0, t1, t2, t3⟩ := HYX.out.cell
      obtain ⟨s0, -, hx9⟩ := VarX.set1 HYX.out 0 (.string b) rfl
      have HY9 := Bvh (show VarY (w5.setCell ⟨wr.heap.size, 0, none⟩ (.string b)) wr.heap.size ⟨b, x.f1, x.f2, x.f3⟩ A3 c3 from hx9)
      have HB59 := Bvh (Aqg HBX.out (Nat.le_refl _) 0 (.string b))
      obtain ⟨r0, r1, r2, r3⟩ := HY9.out.cell
      clear hx9
      go_upto_region 10 with fail
      clear s0 t0 t1 t2 t3
      generalize w5.setCell ⟨wr.heap.size, 0, none⟩ (.string b) = w6 at HY9 HB59 r0 r1 r2 r3 ⊢
      go_wp2_with ((with_reducible refine Axc (b := .append) (xs := #[.tmp 42, .tmp 44]) rfl ?_); at_builtin; refine Kd.N_append k25 (w0 := W9) W9.heap.size rfl (.tmp 42) (.tmp 44) 69 25 (.agg #[(.string ⟨#[]⟩), (.int .i64 0), (.int .i64 0), (.slice none 0 0)]) 56 rfl Try.underlying69 Awl rfl (by decide) (by decide) (.slice Ap acc.length cp) acc (⟨b, x.f1, x.f2, x.f3⟩ : S25) [.string b, .int .i64 x.f1, .int .i64 x.f2, .slice A3 x.f3.length c3] (Out Pf (w.heap.size + 2)) Pf rfl rfl ?bP ?bK ?bF ?bO ?bB ?bS ?bL ?_; (case bP => exact Awk _ _ (⟨b, x.f1, x.f2, x.f3⟩ : S25) (Kd.V_reads' HV3.out).2.1 (Kd.V_F (Kd.V_below HV3.out HB59.out))); (case bK => exact fun k hk => ⟨.inl hk, fun he => by have := HLT.out k hk; have := Kd.N_base HN1.out k he.symm; have := HS9.out; omega⟩); (case bF => exact fun k hk => .inr (Nat.le_trans HS1.out (Nat.le_trans HB59.out.size hk))); (case bO => exact Kd.N_below HN1.out HB59.out); (case bB => exact Aq1 HBW1.out HB59.out); (case bS => exact Nat.le_trans HBW1.out.size HB59.out.size); (case bL => omega); intro v2 w8 hn8 hb8 _ _; rw [HACC.out] at hn8; obtain ⟨A8, c8, rfl⟩ := Kd.N_slice hn8; have HN8 := Bvh hn8; have HB8W := Bvh hb8; clear hn8 hb8)
      go_wp2
      go_roundg k1
      case measure => omega
      case rel => exact ⟨i + 1, by go_num, by omega, A8, c8, acc2, rfl, HN8, HB8W, ⟨hal2, HNX.out⟩⟩
  · have hQe : acc = Q := by
     have h := HI1.out.2
     rw [List.drop_eq_nil_of_le (by omega)] at h
     simpa [Ak9] using h
    subst hQe
    obtain ⟨s0, -, hx9⟩ := VarX.set1 HX1.out 1 (.slice Ap acc.length cp) rfl
    have HX9 := Bvh (show VarX (wr.setCell ⟨w.heap.size, 1, none⟩ (.slice Ap acc.length cp)) w.heap.size (.slice Ag G.length cg) (.slice Ap acc.length cp) (.int .i64 q) (.int .i64 n) (.slice A4 l4 c4) (.int .i64 cr) (.bool dw) (.int .i64 pk) from hx9)
    obtain ⟨q0, q1, q2, q3, q4, q5, q6, q7⟩ := HX9.out.cell
    have hz9 : VarX (wr.setCell ⟨w.heap.size, 1, none⟩ (.slice Ap acc.length cp)) (w.heap.size + 1) (.slice none 0 0) (.slice none 0 0) (.int .i64 0) (.int .i64 0) (.slice none 0 0) (.int .i64 0) (.bool false) (.int .i64 0) := by
     show _ = _
     rw [Below.heap_setCell _ ⟨w.heap.size, 1, none⟩ _ _ (show w.heap.size + 1 ≠ w.heap.size by omega)]
     exact HZ1.out
    obtain ⟨pf0, pg0, pf1, pg1, pf2, pg2, pf3, pg3, pf4, pg4, pf5, pg5, pf6, pg6, pf7, pg7, hT⟩ := hz9.put (.slice Ag G.length cg) (.slice Ap acc.length cp) (.int .i64 q) (.int .i64 n) (.slice A4 l4 c4) (.int .i64 cr) (.bool dw) (.int .i64 pk)
    have HT := Bvh hT
    clear hT hz9 hx9
    go_wp2
    refine bodyPost_ret (results_cell_row rfl _ _ (w.heap.size + 1) 71 #[.slice Ag G.length cg, .slice Ap acc.length cp, .int .i64 q, .int .i64 n, .slice A4 l4 c4, .int .i64 cr, .bool dw, .int .i64 pk] (0, 0) _ rfl HT.out Try.underlying71 rfl (by kernel_rfl)) rfl ?_
    exact ⟨Ag, cg, Ap, cp, rfl, V_P (b := 0) (Axe (Aqo HV1.out HOUT0.out) HOUT1.out _ _ _ _ _ _ _ _) (fun k hk => hk.elim .inl fun h => .inr (Nat.le_trans hle3 h)), V_P (b := 0) (Axe (Aqo (Kd.N_V (base' := 0) HN1.out) HOUT0.out) HOUT1.out _ _ _ _ _ _ _ _) (fun k hk => hk.elim .inl fun h => .inr (Nat.le_trans hle3 h)), Ax5 (Aqg HB1.out (Nat.le_refl _) 1 _) hle1 _ _ _ _ _ _ _ _⟩
end
#print axioms xmoved
end
end Go.Proofs.Ytcgeioingikeeaa.P
