/- files.Put: the row with the file set at its place, for every row of at most a million files. -/
import Derived.Test.YtcgeioingikeeaaH1
import Derived.Test.YtcgeioingikeeaaPf55
import Derived.Test.YtcgeioingikeeaaPf56
namespace Go.Proofs.Ytcgeioingikeeaa.P
open Go.RowKit Go.Proofs.YtcgeioingikeeaaW.PrintWords Go.Proofs.YtcgeioingikeeaaW.PrintLast Go.Proofs.YtcgeioingikeeaaW.PrintMore
set_option linter.unusedVariables false
set_option linter.unusedSimpArgs false

/-- Where a name stands: ahead of the first that is behind it. -/
def insertAt (x : S38) : List S38 → List S38
  | [] => [x]
  | y :: l => if Op.bytesLess x.f0.toList y.f0.toList then x :: y :: l else y :: insertAt x l
def putL (l : List S38) (name : ByteArray) (b : List Int) : List S38 := insertAt ⟨name, b⟩ (l.filter fun x => !named name x)
def files_Put.f (l0 : List S38) (a1 : ByteArray) (l2 : List Int) : Option (List S38) := if l0.length ≤ 1000000 ∧ l2.length ≤ 1000000 then some (putL l0 a1 l2) else none
def overlay (old : List Int) (off : Nat) (d : List Int) : List Int := (old ++ List.replicate (off - old.length) 0).take off ++ d ++ old.drop (off + d.length)

theorem insertAt_idx (x : S38) : ∀ l : List S38, (match l.findIdx? (aheadOf x.f0) with | some i => insertAt x l = l.take i ++ x :: l.drop i | none => insertAt x l = l ++ [x])
  | [] => by simp [insertAt]
  | y :: l => by
    have ih := insertAt_idx x l
    rw [List.findIdx?_cons]
    unfold insertAt
    cases h : aheadOf x.f0 y
    · have h' : Op.bytesLess x.f0.toList y.f0.toList = false := h
      simp only [h', Bool.false_eq_true, if_false]
      cases hf : l.findIdx? (aheadOf x.f0) with
      | none => rw [hf] at ih; simp [ih]
      | some i => rw [hf] at ih; simp [ih]
    · have h' : Op.bytesLess x.f0.toList y.f0.toList = true := h
      simp [h']

theorem insertF (ok : Nat → Prop) (B : Nat) (v : Value) (xs : List S38) (i : Nat) (hb : Nat) (x : S38) (seg : List Value) (w : World) (ho : O k38 38 w B ok v xs) (hlen : xs.length ≤ 1000001) (hi : i ≤ xs.length) (hB : B ≤ w.heap.size)
    (hv : w.heap[hb]? = some (.cells seg.toArray 38 (0, 0))) (hne : v.ownBlock ≠ some hb) (hx : Kd.FK k38 w (fun k => ok k ∧ some k ≠ v.ownBlock) x seg) :
    Calls Try.prog 60 #[v, .int .i64 i, .slice (some ⟨hb, 0, none⟩) 1 1] w fun e w' => ∃ v', e = .returned v' ∧ O k38 38 w' B ok v' (xs.take i ++ x :: xs.drop i) ∧ w.grownBy w' v.ownBlock := by
  rcases Nat.lt_or_ge i xs.length with h | h
  · obtain ⟨g, cap, cur, rfl, _, _, _, h3, _⟩ := O_open ho (by omega)
    have hx' : Kd.FK k38 w (fun k => ok k ∧ k ≠ g) x seg := Kd.FK_mono hx fun k hk => ⟨hk.1, fun e => hk.2 (by rw [e]; rfl)⟩
    rcases Nat.lt_or_ge xs.length cap with h' | h'
    · exact insertF_room ok B g cap i xs hb x seg w ho hlen h h' hv (fun e => hne (by rw [e]; rfl)) hx'
    · exact insertF_grow ok B g cap i xs hb x seg w ho hlen h h' hB hv hx'
  · obtain rfl : i = xs.length := by omega
    rw [List.take_length, List.drop_length]
    exact insertF_end ok B v xs hb x seg w ho hlen hB hv hx

theorem O_F_own {w : World} {base n c : Nat} {ok : Nat → Prop} {A : Option Addr} {xs : List Int} (h : O (Kd.int .u8) 5 w base ok (.slice A n c) xs) : Kd.F (Kd.int .u8) w (fun k => some k = (Value.slice A n c).ownBlock) A n xs := by
  obtain ⟨inner, h1, h2⟩ := h
  have he : inner = encs (Value.int .u8) xs := Kd.reps_encs (h2.imp_ fun x c hx => Kd.FK_now hx)
  subst he
  exact Kd.R_F (Kd.R_of_own (enc := Value.int .u8) (h1 := fun _ => rfl) (ok := fun k => some k = (Value.slice A n c).ownBlock) h1 fun k hk => hk.symm)

theorem put_ins {ok : Nat → Prop} {w w2 w3 : World} {A1 A3 : Option Addr} {c1 c3 : Nat} {okd : Nat → Prop} (name : ByteArray) (b : List Int) (l : List S38) (i : Nat) (ho2 : O k38 38 w2 w.heap.size (fun k => ok k ∧ k < w.heap.size) (.slice A1 l.length c1) l) (hb2 : Below w.heap.size w w2)
    (hd : O (Kd.int .u8) 5 w3 w2.heap.size okd (.slice A3 b.length c3) b) (hb : Below w2.heap.size w2 w3) (hlen : l.length ≤ 1000001) (hi : i ≤ l.length) :
    Calls Try.prog 60 #[.slice A1 l.length c1, .int .i64 i, .slice (some ⟨w3.heap.size, 0, none⟩) 1 1] (w3.alloc (.cells #[.string name, .slice A3 b.length c3] 38)) fun e w' => ∃ v', e = .returned v' ∧ O k38 38 w' w.heap.size (fun k => ok k ∧ k < w.heap.size ∨ w.heap.size ≤ k) v' (l.take i ++ ⟨name, b⟩ :: l.drop i) ∧ (w3.alloc (.cells #[.string name, .slice A3 b.length c3] 38)).grownBy w' (Value.slice A1 l.length c1).ownBlock := by
  have hlt : ∀ k, (Value.slice A1 l.length c1).ownBlock = some k → k < w2.heap.size := by
    obtain ⟨inner, h1, _⟩ := ho2
    exact own_lt h1
  have hs3 : w2.heap.size ≤ w3.heap.size := hb.size
  have hsw : w.heap.size ≤ w2.heap.size := hb2.size
  refine insertF _ w.heap.size _ l i w3.heap.size ⟨name, b⟩ [.string name, .slice A3 b.length c3] _ (O_mono (O_below (O_below ho2 hb) (below_alloc (Below.refl _ _) _)) fun k hk => .inl hk) hlen hi (by rw [World.size_alloc]; omega) (heap_alloc_new _ _) (fun e => by have := hlt _ e; omega) ?_
  refine k38_mkF _ _ (⟨name, b⟩ : S38) (Kd.V_reads' (O_V hd)).2.1 (Kd.F_mono (Kd.F_alloc (O_F_own hd) _) fun k hk => ?_)
  have hk1 := O_base hd k hk.symm
  exact ⟨.inr (by omega), fun e => by have := hlt k e.symm; omega⟩

set_option maxHeartbeats 4000000 in
set_option maxRecDepth 100000 in
theorem putO (ok : Nat → Prop) (A0 : Option Addr) (c0 : Nat) (l0 : List S38) (name : ByteArray) (A2 : Option Addr) (c2 : Nat) (b : List Int) (w : World) (hf : Kd.F k38 w ok A0 l0.length l0) (hlen : l0.length ≤ 1000000) (hr2 : Kd.C (Kd.int .u8) w A2 b.length b) (hblen : b.length ≤ 1000000) :
    Calls Try.prog 23 #[.slice A0 l0.length c0, .string name, .slice A2 b.length c2] w fun e w' => ∃ v, e = .returned v ∧ O k38 38 w' w.heap.size (fun k => ok k ∧ k < w.heap.size ∨ w.heap.size ≤ k) v (putL l0 name b) ∧ Below w.heap.size w w' := by
  have hd := dropO ok A0 c0 l0 name w hf hlen
  have hll : (l0.filter fun x => !named name x).length ≤ 1000000 := Nat.le_trans (List.length_filter_le _ _) hlen
  have hF2 := Aside0.mk (Kd.C_F (Kd.heap_int .u8) hr2)
  have hix := insertAt_idx ⟨name, b⟩ (l0.filter fun x => !named name x)
  have HPL : Aside0 (putL l0 name b = insertAt ⟨name, b⟩ (l0.filter fun x => !named name x)) := ⟨rfl⟩
  obtain ⟨l, hle⟩ : ∃ l, (l0.filter fun x => !named name x) = l := ⟨_, rfl⟩
  rw [hle] at hd hll hix HPL
  clear hf hr2 hle
  rcases hfi : l.findIdx? (aheadOf name) with _ | i0
  · have HID : Aside0 (idxOf (aheadOf name) l = -1) := ⟨by unfold idxOf; rw [hfi]⟩
    rw [hfi] at hix
    have HIX : Aside0 (insertAt ⟨name, b⟩ l = l ++ [⟨name, b⟩]) := ⟨hix⟩
    clear hix hfi
    go_enter Try.func23, Try.ntmps23
    go_wp2_with (first | (go_at_call 25; refine hd.mono ?_; rintro e w1 ⟨v1, rfl, ho, hb⟩; have HO := Aside0.mk ho; have HB := Aside0.mk hb; obtain ⟨A1, c1, ev⟩ := O_slice ho; subst ev; clear ho hb) | (go_at_call 58; refine (indexFunc_ahead name A1 c1 l _ (Kd.V_reads' (O_V HO.out)).2.2).mono ?_; rintro e w2 ⟨rfl, hb⟩; rw [HID.out]; have HB2 := Aside0.mk (below_step HB.out hb); have HO2 := Aside0.mk (O_below HO.out hb); clear hb) | (go_at_call 61; refine (cloneB _ A2 c2 b _ (Kd.F_below hF2.out HB2.out) hblen).mono ?_; rintro e w3 ⟨v3, rfl, ho3, hb⟩; have HB3 := Aside0.mk (below_step HB2.out hb); have HBS := Aside0.mk hb; have HD := Aside0.mk ho3; obtain ⟨A3, c3, ev⟩ := O_slice ho3; subst ev; clear ho3 hb) | (go_at_call 60; refine (put_ins name b l l.length HO2.out HB2.out HD.out HBS.out (by omega) (Nat.le_refl _)).mono ?_; rintro e w5 ⟨v5, rfl, ho5, hg5⟩; have HO5 := Aside0.mk ho5; have HG5 := Aside0.mk hg5; clear ho5 hg5))
    go_ret
    refine ⟨_, rfl, ?_, (below_alloc HB3.out _).grown HG5.out (below_alloc HB3.out _).size fun k hk => O_base HO2.out k hk⟩
    rw [HPL.out, HIX.out]
    have := HO5.out
    rw [List.take_length, List.drop_length] at this
    exact this
  · have HID : Aside0 (idxOf (aheadOf name) l = (i0 : Int)) := ⟨by unfold idxOf; rw [hfi]⟩
    have hi0 : i0 < l.length := (List.findIdx?_eq_some_iff_getElem.1 hfi).1
    rw [hfi] at hix
    have HIX : Aside0 (insertAt ⟨name, b⟩ l = l.take i0 ++ ⟨name, b⟩ :: l.drop i0) := ⟨hix⟩
    clear hix hfi
    go_enter Try.func23, Try.ntmps23
    go_wp2_with (first | (go_at_call 25; refine hd.mono ?_; rintro e w1 ⟨v1, rfl, ho, hb⟩; have HO := Aside0.mk ho; have HB := Aside0.mk hb; obtain ⟨A1, c1, ev⟩ := O_slice ho; subst ev; clear ho hb) | (go_at_call 58; refine (indexFunc_ahead name A1 c1 l _ (Kd.V_reads' (O_V HO.out)).2.2).mono ?_; rintro e w2 ⟨rfl, hb⟩; rw [HID.out]; have HB2 := Aside0.mk (below_step HB.out hb); have HO2 := Aside0.mk (O_below HO.out hb); clear hb) | (go_at_call 61; refine (cloneB _ A2 c2 b _ (Kd.F_below hF2.out HB2.out) hblen).mono ?_; rintro e w3 ⟨v3, rfl, ho3, hb⟩; have HB3 := Aside0.mk (below_step HB2.out hb); have HBS := Aside0.mk hb; have HD := Aside0.mk ho3; obtain ⟨A3, c3, ev⟩ := O_slice ho3; subst ev; clear ho3 hb) | (go_at_call 60; refine (put_ins name b l i0 HO2.out HB2.out HD.out HBS.out (by omega) (by omega)).mono ?_; rintro e w5 ⟨v5, rfl, ho5, hg5⟩; have HO5 := Aside0.mk ho5; have HG5 := Aside0.mk hg5; clear ho5 hg5))
    go_ret
    refine ⟨_, rfl, ?_, (below_alloc HB3.out _).grown HG5.out (below_alloc HB3.out _).size fun k hk => O_base HO2.out k hk⟩
    rw [HPL.out, HIX.out]
    have := HO5.out
    exact this

theorem files_Put.calls (P0_ : Nat → Prop) (A0 : Option Addr) (c0 : Nat) (l0 : List S38) (a1 : ByteArray) (A2 : Option Addr) (c2 : Nat) (l2 : List Int) (r : List S38) (w : World) (hs0 : Kd.V k38 38 w w.heap.size (fun k_ => P0_ k_) (.slice A0 l0.length c0) l0) (hr2 : Kd.C (Kd.int .u8) w A2 l2.length l2) (hc2 : l2.length ≤ c2) (h : files_Put.f l0 a1 l2 = some r) :
    Calls Try.prog 23 #[.slice A0 l0.length c0, .string a1, .slice A2 l2.length c2] w fun e w' => ∃ v0_ : Value, e = .returned (v0_) ∧ Kd.V k38 38 w' w.heap.size (fun k_ => (P0_ k_ ∨ w.heap.size ≤ k_)) v0_ r ∧ Below w.heap.size w w' := by
  unfold files_Put.f at h
  split at h
  · rename_i hl
    obtain rfl := Option.some.inj h
    refine (putO P0_ A0 c0 l0 a1 A2 c2 l2 w (Kd.V_F hs0) hl.1 hr2 hl.2).mono ?_
    rintro e w' ⟨v, rfl, ho, hb⟩
    exact ⟨v, rfl, Kd.V_mono (O_V ho) fun k hk => Or.elim hk (fun h => Or.elim h (fun h => .inl h.1) .inr) .inr, hb⟩
  · cases h
end Go.Proofs.Ytcgeioingikeeaa.P
