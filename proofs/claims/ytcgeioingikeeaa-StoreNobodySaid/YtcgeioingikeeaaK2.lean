/- What writes do to files, one after the other, plainly; store.done with each of its two closures. By a program of this seat (wip/tools/mkK2.py). -/
import Derived.Test.YtcgeioingikeeaaK1
import Derived.Deep.RegionHeld3
import Derived.Test.YtcgeioingikeeaaH3
namespace Go.Proofs.Ytcgeioingikeeaa.P
open Go.RowKit Go.Proofs.YtcgeioingikeeaaW.PrintWords Go.Proofs.YtcgeioingikeeaaW.PrintLast Go.Proofs.YtcgeioingikeeaaW.PrintMore
set_option linter.unusedVariables false
set_option linter.unusedSimpArgs false


/-- Files behind a write, and what is told. -/
def doT (l : List S38) (x : S31) (keep : Int) : List S38 × Int :=
  if x.f1 < 1 ∨ x.f1 > 3 ∨ x.f0.size < 1 ∨ x.f0.size > 40 ∨ (x.f1 = 3 ∧ x.f2 < 0) then ([], 1) else
    doRes x.f1.toNat l x.f0 (frmOf x.f1 x.f2 (oldOf l x.f0)) (oldOf l x.f0) x.f3 (keptOf x.f3 keep)
def dn (l : List S38) (x : S31) (keep : Int) : List S38 := if (doT l x keep).2 = 0 then (doT l x keep).1 else l
def doneL (keep : Nat → Int) : Nat → List S38 → List S31 → List S38
  | _, l, [] => l
  | i, l, x :: xs => doneL keep (i + 1) (dn l x (keep i)) xs
/-- No file is larger than one may be. -/
def okL (l : List S38) : Prop := ∀ x ∈ l, x.f1.length ≤ 65536
def okW (xs : List S31) : Prop := ∀ x ∈ xs, x.f3.length ≤ 1000000
theorem doT_f (l : List S38) (x : S31) (keep : Int) (hl : l.length ≤ 1000000) (hd : okL l) (hx : x.f3.length ≤ 1000000) : files_Do.f l x.f0 x.f1 x.f2 x.f3 keep = some ((doT l x keep).1, (doT l x keep).2) := by
  unfold files_Do.f doT
  rw [if_pos ⟨hl, hx, fun y hy => by have := hd y hy; omega⟩]
  split <;> rfl
theorem insertAt_memK (x : S38) : ∀ (l : List S38) (y : S38), y ∈ insertAt x l → y = x ∨ y ∈ l
  | [], y, h => by simpa [insertAt] using h
  | z :: l, y, h => by
    unfold insertAt at h
    split at h
    · simp only [List.mem_cons] at h ⊢
      rcases h with h | h | h <;> simp [h]
    · rcases List.mem_cons.1 h with h | h
      · simp [h]
      · rcases insertAt_memK x l y h with h | h <;> simp [h]
theorem insertAt_lenK (x : S38) : ∀ (l : List S38), (insertAt x l).length = l.length + 1
  | [] => rfl
  | z :: l => by
    unfold insertAt
    split
    · rfl
    · simp [insertAt_lenK x l]
theorem putL_len (l : List S38) (n : ByteArray) (d : List Int) : (putL l n d).length ≤ l.length + 1 := by
  unfold putL
  rw [insertAt_lenK]
  have := List.length_filter_le (fun x => !named n x) l
  omega
theorem putL_mem {l : List S38} {n : ByteArray} {d : List Int} {y : S38} (h : y ∈ putL l n d) : y = ⟨n, d⟩ ∨ y ∈ l := by
  rcases insertAt_memK _ _ _ h with h | h
  · exact .inl h
  · exact .inr (List.mem_filter.1 h).1
theorem kept_le (d : List Int) (keep : Int) : (keptOf d keep).length ≤ d.length := by
  unfold keptOf
  split
  · simp; omega
  · exact Nat.le_refl _
theorem oldOf_okL {l : List S38} (h : okL l) (n : ByteArray) : (oldOf l n).length ≤ 65536 := by
  unfold oldOf
  cases hf : l.find? (named n) with
  | none => simp
  | some x => exact h x (List.mem_of_find?_eq_some hf)
theorem overlay_le (old : List Int) (F : Nat) (d : List Int) (m : Nat) (ho : old.length ≤ m) (hf : F + d.length ≤ m) : (overlay old F d).length ≤ m := by
  unfold overlay
  simp only [List.length_append, List.length_take, List.length_drop, List.length_replicate]
  omega
theorem doT_ok (l : List S38) (x : S31) (keep : Int) (hd : okL l) (h : (doT l x keep).2 = 0) : okL (doT l x keep).1 ∧ (doT l x keep).1.length ≤ l.length + 1 := by
  unfold doT at h ⊢
  split at h
  · simp at h
  · rename_i hb
    rw [if_neg hb]
    unfold doRes at h ⊢
    split at h
    · simp at h
    · rename_i hc
      rw [if_neg hc]
      by_cases h0 : (keptOf x.f3 keep).length = 0 ∧ x.f3.length > 0
      · rw [if_pos h0]
        exact ⟨hd, by simp⟩
      · rw [if_neg h0]
        refine ⟨fun y hy => ?_, putL_len _ _ _⟩
        rcases putL_mem hy with rfl | hy
        · have ho := oldOf_okL hd x.f0
          have hf0 : 0 ≤ frmOf x.f1 x.f2 (oldOf l x.f0) := by
            unfold frmOf
            split
            · omega
            · split
              · omega
              · omega
          refine overlay_le _ _ _ _ ?_ (by omega)
          split
          · simp
          · exact ho
        · exact hd y hy
theorem dn_ok (l : List S38) (x : S31) (keep : Int) (hd : okL l) : okL (dn l x keep) ∧ (dn l x keep).length ≤ l.length + 1 := by
  unfold dn
  split
  · rename_i h
    exact doT_ok l x keep hd h
  · exact ⟨hd, by omega⟩
theorem doneL_ok (keep : Nat → Int) : ∀ (xs : List S31) (i : Nat) (l : List S38), okL l → okL (doneL keep i l xs) ∧ (doneL keep i l xs).length ≤ l.length + xs.length
  | [], i, l, h => ⟨h, by simp [doneL]⟩
  | x :: xs, i, l, h => by
    obtain ⟨h1, h2⟩ := dn_ok l x (keep i) h
    obtain ⟨h3, h4⟩ := doneL_ok keep xs (i + 1) _ h1
    refine ⟨h3, ?_⟩
    rw [doneL, List.length_cons]
    omega

/-- What a round of done holds, while its calls run: the copy of the write, the files, the write's bytes. -/
structure DnS (w : World) (b : Nat) (P : Nat → Prop) (x : S31) (A3 : Option Addr) (c3 : Nat) (v : Value) (l : List S38) (w' : World) : Prop where
  blk : w'.heap[b]? = some (.cells #[.string x.f0, .int .i64 x.f1, .int .i64 x.f2, .slice A3 x.f3.length c3] 31 (0, 0))
  v : Kd.V k38 38 w' w'.heap.size P v l
  c : (Kd.int .u8).C w' A3 x.f3.length x.f3
  below : Below w.heap.size w w'
theorem DnS.step {w u v' : World} {b : Nat} {P : Nat → Prop} {x : S31} {A3 : Option Addr} {c3 : Nat} {v : Value} {l : List S38} (h : DnS w b P x A3 c3 v l u) (hb : Below u.heap.size u v') : DnS w b P x A3 c3 v l v' :=
  ⟨blk_stays hb h.blk, V_base (Kd.V_below h.v hb), Kd.C_below h.c hb, below_step h.below hb⟩
theorem DnS.drew {w u : World} {b : Nat} {P : Nat → Prop} {x : S31} {A3 : Option Addr} {c3 : Nat} {v : Value} {l : List S38} (h : DnS w b P x A3 c3 v l u) : DnS w b P x A3 c3 v l u.drew := h.step (below_drew1 (Below.refl _ _))
/-- The cells, written out. -/
def DnC (w : World) (b : Nat) (P : Nat → Prop) (x : S31) (A3 : Option Addr) (c3 : Nat) (v : Value) (l : List S38) (w' : World) : Prop :=
  w'.cell? ⟨b, 0, none⟩ = some (.string x.f0) ∧ w'.cell? ⟨b, 1, none⟩ = some (.int .i64 x.f1) ∧ w'.cell? ⟨b, 2, none⟩ = some (.int .i64 x.f2) ∧ w'.cell? ⟨b, 3, none⟩ = some (.slice A3 x.f3.length c3) ∧ DnS w b P x A3 c3 v l w'
theorem DnS.all {w w' : World} {b : Nat} {P : Nat → Prop} {x : S31} {A3 : Option Addr} {c3 : Nat} {v : Value} {l : List S38} (h : DnS w b P x A3 c3 v l w') :
    w'.cell? ⟨b, 0, none⟩ = some (.string x.f0) ∧ w'.cell? ⟨b, 1, none⟩ = some (.int .i64 x.f1) ∧ w'.cell? ⟨b, 2, none⟩ = some (.int .i64 x.f2) ∧ w'.cell? ⟨b, 3, none⟩ = some (.slice A3 x.f3.length c3) ∧ DnS w b P x A3 c3 v l w' := by
  refine ⟨?_, ?_, ?_, ?_, h⟩ <;> (rw [cell_of_row w' b _ _ 31 (0, 0) h.blk]; rfl)
theorem setCells4 {w : World} {g : Nat} {t : TypeId} {a b c d a' b' c' d' : Value} (h : w.heap[g]? = some (.cells #[a, b, c, d] t (0, 0))) :
    ((((w.setCell ⟨g, 0, none⟩ a').setCell ⟨g, 1, none⟩ b').setCell ⟨g, 2, none⟩ c').setCell ⟨g, 3, none⟩ d').heap[g]? = some (.cells #[a', b', c', d'] t (0, 0)) :=
  blk_set (blk_set (blk_set (blk_set h 0 a') 1 b') 2 c') 3 d'
set_option maxHeartbeats 1000000 in
theorem all_calls (i : Int) (w : World) : Calls Try.prog 75 #[.int .i64 i] w fun e w' => e = .returned (.int .i64 (-1)) ∧ Below w.heap.size w w' := by
  go_enter Try.func75, Try.ntmps75
  go_wp2
  go_ret
  exact ⟨rfl, Below.refl _ _⟩
/-- How much is kept of a write at a crash. -/
def keepN (ks : List Int) (i : Nat) : Int := if i < ks.length then mx (rd ks i) 0 else 0


set_option maxHeartbeats 4000000 in
set_option maxRecDepth 100000 in
theorem done_all (P0 : Nat → Prop) (A0 : Option Addr) (c0 : Nat) (l0 : List S38) (A1 : Option Addr) (c1 : Nat) (xs : List S31) (w : World) (hs0 : Kd.V k38 38 w w.heap.size P0 (.slice A0 l0.length c0) l0) (hr1 : Kd.C k31 w A1 xs.length xs) (hc1 : xs.length ≤ c1)
    (hlen : l0.length + xs.length ≤ 1000) (hd : okL l0) (hx : okW xs) :
    Calls Try.prog 74 #[.slice A0 l0.length c0, .slice A1 xs.length c1, .func (.func 75) #[] #[]] w fun e w' => ∃ v, e = .returned v ∧ Kd.V k38 38 w' w'.heap.size (fun k => P0 k ∨ w.heap.size ≤ k) v (doneL (fun _ => -1) 0 l0 xs) ∧ Below w.heap.size w w' := by
  have HR := Aside0.mk hr1
  have HS := Aside0.mk (V_base (base' := w.heap.size) (Kd.V_mono hs0 (ok' := fun k => P0 k ∨ w.heap.size ≤ k) (fun k hk => .inl hk)))
  have HD := Aside0.mk hd
  have HX := Aside0.mk hx
  clear hr1 hs0 hd hx
  go_enter Try.func74, Try.ntmps74
  go_wp2
  go_loopg [0, 13] xs.length (fun kq v0 v13 w' => ∃ (i : Nat) (l : List S38), v13 = .int .i64 i ∧ i + kq = xs.length ∧ l.length ≤ l0.length + i ∧ Aside0 (doneL (fun _ => -1) i l (xs.drop i) = doneL (fun _ => -1) 0 l0 xs) ∧ Aside0 (okL l) ∧ Aside0 (Kd.V k38 38 w' w'.heap.size (fun k => P0 k ∨ w.heap.size ≤ k) v0 l) ∧ Aside0 (Below w.heap.size w w'))
  case atStart => exact ⟨0, l0, rfl, by omega, by omega, ⟨by rw [List.drop_zero]⟩, HD, HS, ⟨Below.refl _ _⟩⟩
  case round =>
    obtain ⟨i, l, rfl, hi, hll, HE, HO, HV, HB⟩ := hrel
    by_cases hlt : i < xs.length
    · obtain ⟨k1, rfl⟩ : ∃ k1, gk = k1 + 1 := ⟨gk - 1, by omega⟩
      obtain ⟨ad, A3, c3, e1, hx0, hx1, hx2, hx3, hc3, hC3⟩ := at_T31 (Kd.C_below HR.out HB.out) (i : Int) (by omega) (by omega)
      cases e1
      rw [Int.toNat_natCast] at hx0 hx1 hx2 hx3
      obtain ⟨x, hxe⟩ : ∃ x, rd_T31 xs (i : Int) = x := ⟨_, rfl⟩
      rw [hxe] at hx0 hx1 hx2 hx3 hc3 hC3
      have hxm : x ∈ xs ∧ xs.drop i = x :: xs.drop (i + 1) := by
        have h1 : rd_T31 xs (i : Int) = xs[i] := by simp [rd_T31, hlt, List.getD]
        rw [h1] at hxe
        exact ⟨hxe ▸ List.getElem_mem hlt, by rw [← hxe, List.drop_eq_getElem_cons hlt]⟩
      have HXM := Aside0.mk hxm
      clear hxe hxm
      obtain ⟨A, c, rfl⟩ := Kd.V_slice HV.out
      obtain ⟨kp, hkp⟩ : ∃ kp, kp = (fun _ => -1) i := ⟨_, rfl⟩
      have hdo := doT_f l x kp (by omega) HO.out (HX.out x HXM.out.1)
      have hnext : doneL (fun _ => -1) (i + 1) (dn l x kp) (xs.drop (i + 1)) = doneL (fun _ => -1) 0 l0 xs := by
        rw [← HE.out, HXM.out.2, hkp]
        rfl
      obtain ⟨hok, hle⟩ := dn_ok l x kp HO.out
      unfold dn at hnext hok hle
      obtain ⟨⟨r1, r2⟩, hr⟩ : ∃ r, doT l x kp = r := ⟨_, rfl⟩
      rw [hr] at hdo hnext hok hle
      simp only at hdo hnext hok hle
      have HKP := Aside0.mk hkp
      have HDO := Aside0.mk hdo
      have HNX := Aside0.mk hnext
      have HOK := Aside0.mk hok
      have HLE := Aside0.mk hle
      have HC3 := Aside0.mk hC3
      have HC3l := Aside0.mk hc3
      clear hdo hnext hok hle hr hkp hC3 hc3
      obtain rfl : kp = -1 := HKP.out
      have hk0 : DnS w wr.heap.size (fun k => P0 k ∨ w.heap.size ≤ k) x A3 c3 (.slice A l.length c) l (wr.alloc (Obj.cells #[.string x.f0, .int .i64 x.f1, .int .i64 x.f2, .slice A3 x.f3.length c3] 31)) :=
        ⟨heap_alloc_new _ _, V_base (Kd.V_alloc HV.out _), Kd.C_alloc HC3.out _, below_alloc HB.out _⟩
      have HK0 := Aside0.mk hk0
      clear hk0
      go_wp2_with fail
      have hk0 := HK0.out
      clear hx0 hx1 hx2 hx3
      generalize wr.alloc (Obj.cells #[.string x.f0, .int .i64 x.f1, .int .i64 x.f2, .slice A3 x.f3.length c3] 31) = w3 at hk0 ⊢
      generalize wr.heap.size = bx at hk0 ⊢
      go_region_held3 (fun w' => w'.cell? ⟨bx, 0, none⟩ = some (.string x.f0) ∧ w'.cell? ⟨bx, 1, none⟩ = some (.int .i64 x.f1) ∧ w'.cell? ⟨bx, 2, none⟩ = some (.int .i64 x.f2) ∧ w'.cell? ⟨bx, 3, none⟩ = some (.slice A3 x.f3.length c3) ∧ DnS w bx (fun k => P0 k ∨ w.heap.size ≤ k) x A3 c3 (.slice A l.length c) l w')
        (first
          | exact hk0.drew.all
          | (go_split_ands
             first
              | exact DnS.all (DnS.step (by assumption) hb6)
              | exact DnS.all (DnS.step (by assumption) hb5))
          | go_keep)
        (first
          | (go_at_call 75; refine (all_calls _ _).mono ?_; rintro e w5 ⟨rfl, hb5⟩)
          | (go_split_ands
             go_at_call 17
             ((with_reducible refine (files_Do.calls (fun k => P0 k ∨ w.heap.size ≤ k) A c l x.f0 x.f1 x.f2 A3 c3 x.f3 _ r1 r2 _ ?hs ?hr ?hc HDO.out).mono ?_); (case hs => exact V_base (DnS.v (by assumption))); (case hr => exact DnS.c (by assumption)); (case hc => exact HC3l.out))
             rintro e w6 ⟨v6, rfl, hV6, hb6⟩))
      have hfin : DnS w bx (fun k => P0 k ∨ w.heap.size ≤ k) x A3 c3 (.slice A l.length c) l w6 := by go_split_ands; assumption
      have hszs : w.heap.size ≤ w5.heap.size := by
        have : DnS w bx (fun k => P0 k ∨ w.heap.size ≤ k) x A3 c3 (.slice A l.length c) l w5 := by go_split_ands; assumption
        exact this.below.size
      have HFIN := Aside0.mk hfin
      have HV6 := Aside0.mk (V_base (base' := w6.heap.size) (Kd.V_mono hV6 (ok' := fun k => P0 k ∨ w.heap.size ≤ k) (fun k hk => hk.elim id (fun h => .inr (Nat.le_trans hszs h)))))
      clear hk0 hfin hszs hV6
      by_cases hz : r2 = 0
      · have hz2 : (r2 == 0) = true := by simp [hz]
        have HNX2 := HNX.out
        have HOK2 := HOK.out
        have HLE2 := HLE.out
        rw [if_pos hz] at HNX2 HOK2 HLE2
        have HNX3 := Aside0.mk HNX2
        have HOK3 := Aside0.mk HOK2
        clear HNX2 HOK2 hz
        go_wp2
        go_roundg k1
        case measure => omega
        case rel => exact ⟨i + 1, r1, by go_num, by omega, by omega, HNX3, HOK3, HV6, ⟨HFIN.out.below⟩⟩
      · have hz2 : (r2 == 0) = false := by simp [hz]
        have HNX2 := HNX.out
        rw [if_neg hz] at HNX2
        have HNX3 := Aside0.mk HNX2
        clear HNX2 hz
        go_wp2
        go_roundg k1
        case measure => omega
        case rel => exact ⟨i + 1, l, by go_num, by omega, by omega, HNX3, HO, ⟨V_base HFIN.out.v⟩, ⟨HFIN.out.below⟩⟩
    · have hge : xs.length ≤ i := by omega
      have hend : l = doneL (fun _ => -1) 0 l0 xs := by
        rw [← HE.out, List.drop_eq_nil_of_le hge]
        rfl
      have HEND := Aside0.mk hend
      clear hlt hend
      go_wp2
      go_ret
      exact ⟨_, rfl, by rw [← HEND.out]; exact HV.out, HB.out⟩


/-- A captured variable that holds a row of whole numbers. -/
def VarK (w : World) (b : Nat) (A : Option Addr) (c : Nat) (ks : List Int) : Prop := w.heap[b]? = some (.cells #[.slice A ks.length c] 56 (0, 0)) ∧ (Kd.int .i64).C w A ks.length ks
theorem VarK.below {w w1 : World} {b c : Nat} {A : Option Addr} {ks : List Int} (h : VarK w b A c ks) (hb : Below w.heap.size w w1) : VarK w1 b A c ks := ⟨blk_stays hb h.1, Kd.C_below h.2 hb⟩
theorem VarK.cell {w : World} {b c : Nat} {A : Option Addr} {ks : List Int} (h : VarK w b A c ks) : w.cell? ⟨b, 0, none⟩ = some (.slice A ks.length c) := by
  rw [cell_of_row w b 0 _ 56 (0, 0) h.1]; rfl
set_option maxHeartbeats 2000000 in
theorem keep_calls (ks : List Int) (i : Nat) (b c : Nat) (A : Option Addr) (w : World) (h : VarK w b A c ks) (hi : i ≤ 1000000) :
    Calls Try.prog 78 #[.int .i64 (i : Int), .pointer (some ⟨b, 0, none⟩)] w fun e w' => e = .returned (.int .i64 (keepN ks i)) ∧ Below w.heap.size w w' := by
  have hc := h.cell
  have hm := Kd.C_max h.2
  have H := Aside0.mk h
  clear h
  by_cases hlt : i < ks.length
  · obtain ⟨ad, e1, hk⟩ := Kd.at_int H.out.2 (i : Int) (by omega) (by omega)
    subst e1
    rw [Int.toNat_natCast] at hk
    have HK : Aside0 (keepN ks i = mx (rd ks (i : Int)) 0) := ⟨by unfold keepN; rw [if_pos hlt]⟩
    obtain ⟨y, hy⟩ : ∃ y, rd ks (i : Int) = y := ⟨_, rfl⟩
    rw [hy] at hk HK
    clear hy
    go_enter Try.func78, Try.ntmps78
    go_wp2_with (simp only [max_two, max2_int])
    all_goals
      go_ret
      exact ⟨by rw [HK.out]; first | rfl | (unfold mx; simp [*]; done) | (unfold mx; simp [*]; omega), Below.refl _ _⟩
  · have HK : Aside0 (keepN ks i = 0) := ⟨by unfold keepN; rw [if_neg hlt]⟩
    have hge : ks.length ≤ i := by omega
    clear hlt
    go_enter Try.func78, Try.ntmps78
    go_wp2
    go_ret
    exact ⟨by rw [HK.out]; rfl, Below.refl _ _⟩


set_option maxHeartbeats 4000000 in
set_option maxRecDepth 100000 in
theorem done_crash (P0 : Nat → Prop) (A0 : Option Addr) (c0 : Nat) (l0 : List S38) (A1 : Option Addr) (c1 : Nat) (xs : List S31) (ks : List Int) (bk ck : Nat) (Ak : Option Addr) (w : World) (hs0 : Kd.V k38 38 w w.heap.size P0 (.slice A0 l0.length c0) l0) (hr1 : Kd.C k31 w A1 xs.length xs) (hc1 : xs.length ≤ c1) (hk : VarK w bk Ak ck ks)
    (hlen : l0.length + xs.length ≤ 1000) (hd : okL l0) (hx : okW xs) :
    Calls Try.prog 74 #[.slice A0 l0.length c0, .slice A1 xs.length c1, .func (.func 78) #[] #[.pointer (some ⟨bk, 0, none⟩)]] w fun e w' => ∃ v, e = .returned v ∧ Kd.V k38 38 w' w'.heap.size (fun k => P0 k ∨ w.heap.size ≤ k) v (doneL (keepN ks) 0 l0 xs) ∧ Below w.heap.size w w' := by
  have HR := Aside0.mk hr1
  have HS := Aside0.mk (V_base (base' := w.heap.size) (Kd.V_mono hs0 (ok' := fun k => P0 k ∨ w.heap.size ≤ k) (fun k hk => .inl hk)))
  have HD := Aside0.mk hd
  have HX := Aside0.mk hx
  have HKV := Aside0.mk hk
  clear hr1 hs0 hd hx hk
  go_enter Try.func74, Try.ntmps74
  go_wp2
  go_loopg [0, 13] xs.length (fun kq v0 v13 w' => ∃ (i : Nat) (l : List S38), v13 = .int .i64 i ∧ i + kq = xs.length ∧ l.length ≤ l0.length + i ∧ Aside0 (doneL (keepN ks) i l (xs.drop i) = doneL (keepN ks) 0 l0 xs) ∧ Aside0 (okL l) ∧ Aside0 (Kd.V k38 38 w' w'.heap.size (fun k => P0 k ∨ w.heap.size ≤ k) v0 l) ∧ Aside0 (Below w.heap.size w w'))
  case atStart => exact ⟨0, l0, rfl, by omega, by omega, ⟨by rw [List.drop_zero]⟩, HD, HS, ⟨Below.refl _ _⟩⟩
  case round =>
    obtain ⟨i, l, rfl, hi, hll, HE, HO, HV, HB⟩ := hrel
    by_cases hlt : i < xs.length
    · obtain ⟨k1, rfl⟩ : ∃ k1, gk = k1 + 1 := ⟨gk - 1, by omega⟩
      obtain ⟨ad, A3, c3, e1, hx0, hx1, hx2, hx3, hc3, hC3⟩ := at_T31 (Kd.C_below HR.out HB.out) (i : Int) (by omega) (by omega)
      cases e1
      rw [Int.toNat_natCast] at hx0 hx1 hx2 hx3
      obtain ⟨x, hxe⟩ : ∃ x, rd_T31 xs (i : Int) = x := ⟨_, rfl⟩
      rw [hxe] at hx0 hx1 hx2 hx3 hc3 hC3
      have hxm : x ∈ xs ∧ xs.drop i = x :: xs.drop (i + 1) := by
        have h1 : rd_T31 xs (i : Int) = xs[i] := by simp [rd_T31, hlt, List.getD]
        rw [h1] at hxe
        exact ⟨hxe ▸ List.getElem_mem hlt, by rw [← hxe, List.drop_eq_getElem_cons hlt]⟩
      have HXM := Aside0.mk hxm
      clear hxe hxm
      obtain ⟨A, c, rfl⟩ := Kd.V_slice HV.out
      obtain ⟨kp, hkp⟩ : ∃ kp, kp = (keepN ks) i := ⟨_, rfl⟩
      have hdo := doT_f l x kp (by omega) HO.out (HX.out x HXM.out.1)
      have hnext : doneL (keepN ks) (i + 1) (dn l x kp) (xs.drop (i + 1)) = doneL (keepN ks) 0 l0 xs := by
        rw [← HE.out, HXM.out.2, hkp]
        rfl
      obtain ⟨hok, hle⟩ := dn_ok l x kp HO.out
      unfold dn at hnext hok hle
      obtain ⟨⟨r1, r2⟩, hr⟩ : ∃ r, doT l x kp = r := ⟨_, rfl⟩
      rw [hr] at hdo hnext hok hle
      simp only at hdo hnext hok hle
      have HKP := Aside0.mk hkp
      have HDO := Aside0.mk hdo
      have HNX := Aside0.mk hnext
      have HOK := Aside0.mk hok
      have HLE := Aside0.mk hle
      have HC3 := Aside0.mk hC3
      have HC3l := Aside0.mk hc3
      clear hdo hnext hok hle hr hkp hC3 hc3
      have hk0 : DnS w wr.heap.size (fun k => P0 k ∨ w.heap.size ≤ k) x A3 c3 (.slice A l.length c) l (wr.alloc (Obj.cells #[.string x.f0, .int .i64 x.f1, .int .i64 x.f2, .slice A3 x.f3.length c3] 31)) :=
        ⟨heap_alloc_new _ _, V_base (Kd.V_alloc HV.out _), Kd.C_alloc HC3.out _, below_alloc HB.out _⟩
      have HK0 := Aside0.mk hk0
      clear hk0
      go_wp2_with fail
      have hk0 := HK0.out
      clear hx0 hx1 hx2 hx3
      generalize wr.alloc (Obj.cells #[.string x.f0, .int .i64 x.f1, .int .i64 x.f2, .slice A3 x.f3.length c3] 31) = w3 at hk0 ⊢
      generalize wr.heap.size = bx at hk0 ⊢
      go_region_held3 (fun w' => w'.cell? ⟨bx, 0, none⟩ = some (.string x.f0) ∧ w'.cell? ⟨bx, 1, none⟩ = some (.int .i64 x.f1) ∧ w'.cell? ⟨bx, 2, none⟩ = some (.int .i64 x.f2) ∧ w'.cell? ⟨bx, 3, none⟩ = some (.slice A3 x.f3.length c3) ∧ DnS w bx (fun k => P0 k ∨ w.heap.size ≤ k) x A3 c3 (.slice A l.length c) l w')
        (first
          | exact hk0.drew.all
          | (go_split_ands
             first
              | exact DnS.all (DnS.step (by assumption) hb6)
              | exact DnS.all (DnS.step (by assumption) hb5))
          | go_keep)
        (first
          | (go_split_ands; go_at_call 78; refine (keep_calls ks i bk ck Ak _ (HKV.out.below (DnS.below (by assumption))) (by omega)).mono ?_; rintro e w5 ⟨he, hb5⟩; rw [← HKP.out] at he; subst he)
          | (go_split_ands
             go_at_call 17
             ((with_reducible refine (files_Do.calls (fun k => P0 k ∨ w.heap.size ≤ k) A c l x.f0 x.f1 x.f2 A3 c3 x.f3 _ r1 r2 _ ?hs ?hr ?hc HDO.out).mono ?_); (case hs => exact V_base (DnS.v (by assumption))); (case hr => exact DnS.c (by assumption)); (case hc => exact HC3l.out))
             rintro e w6 ⟨v6, rfl, hV6, hb6⟩))
      have hfin : DnS w bx (fun k => P0 k ∨ w.heap.size ≤ k) x A3 c3 (.slice A l.length c) l w6 := by go_split_ands; assumption
      have hszs : w.heap.size ≤ w5.heap.size := by
        have : DnS w bx (fun k => P0 k ∨ w.heap.size ≤ k) x A3 c3 (.slice A l.length c) l w5 := by go_split_ands; assumption
        exact this.below.size
      have HFIN := Aside0.mk hfin
      have HV6 := Aside0.mk (V_base (base' := w6.heap.size) (Kd.V_mono hV6 (ok' := fun k => P0 k ∨ w.heap.size ≤ k) (fun k hk => hk.elim id (fun h => .inr (Nat.le_trans hszs h)))))
      clear hk0 hfin hszs hV6
      by_cases hz : r2 = 0
      · have hz2 : (r2 == 0) = true := by simp [hz]
        have HNX2 := HNX.out
        have HOK2 := HOK.out
        have HLE2 := HLE.out
        rw [if_pos hz] at HNX2 HOK2 HLE2
        have HNX3 := Aside0.mk HNX2
        have HOK3 := Aside0.mk HOK2
        clear HNX2 HOK2 hz
        go_wp2
        go_roundg k1
        case measure => omega
        case rel => exact ⟨i + 1, r1, by go_num, by omega, by omega, HNX3, HOK3, HV6, ⟨HFIN.out.below⟩⟩
      · have hz2 : (r2 == 0) = false := by simp [hz]
        have HNX2 := HNX.out
        rw [if_neg hz] at HNX2
        have HNX3 := Aside0.mk HNX2
        clear HNX2 hz
        go_wp2
        go_roundg k1
        case measure => omega
        case rel => exact ⟨i + 1, l, by go_num, by omega, by omega, HNX3, HO, ⟨V_base HFIN.out.v⟩, ⟨HFIN.out.below⟩⟩
    · have hge : xs.length ≤ i := by omega
      have hend : l = doneL (keepN ks) 0 l0 xs := by
        rw [← HE.out, List.drop_eq_nil_of_le hge]
        rfl
      have HEND := Aside0.mk hend
      clear hlt hend
      go_wp2
      go_ret
      exact ⟨_, rfl, by rw [← HEND.out]; exact HV.out, HB.out⟩

end Go.Proofs.Ytcgeioingikeeaa.P
