/- Cut out of this seat's own texts and of the words that the kit's print laid for it, by a program of this seat (wip/tools/shake.py): what the claim needs of them. -/
import Derived.Test.YtcgeioingikeeaaVr2
import Derived.Laws.StructEq
import Derived.Deep.RegionHeld3
import Derived.Maps.OwnSet
import Derived.Maps.Views
open Go.RowKit Go.Proofs.YtcgeioingikeeaaW.PrintWords Go.Proofs.YtcgeioingikeeaaW.PrintLast Go.Proofs.YtcgeioingikeeaaW.PrintMore
set_option linter.unusedSimpArgs false
set_option linter.unusedVariables false
set_option maxHeartbeats 16000000
set_option maxRecDepth 100000
namespace Go.Proofs.Ytcgeioingikeeaa.P
section
def doT (l : List S38) (x : S31) (keep : Int) : List S38 × Int :=
 if x.f1 < 1 ∨ x.f1 > 3 ∨ x.f0.size < 1 ∨ x.f0.size > 40 ∨ (x.f1 = 3 ∧ x.f2 < 0) then ([], 1) else
  Aze x.f1.toNat l x.f0 (Akc x.f1 x.f2 (Aj7 l x.f0)) (Aj7 l x.f0) x.f3 (Axp x.f3 keep)
def dn (l : List S38) (x : S31) (keep : Int) : List S38 := if (doT l x keep).2 = 0 then (doT l x keep).1 else l
def Az0 (keep : Nat → Int) : Nat → List S38 → List S31 → List S38
 | _, l, [] => l
 | i, l, x :: xs => Az0 keep (i + 1) (dn l x (keep i)) xs
def okL (l : List S38) : Prop := ∀ x ∈ l, x.f1.length ≤ 65536
def okW (xs : List S31) : Prop := ∀ x ∈ xs, x.f3.length ≤ 1000000
theorem Bxd (l : List S38) (x : S31) (keep : Int) (hl : l.length ≤ 1000000) (hd : okL l) (hx : x.f3.length ≤ 1000000) : Aj0.f l x.f0 x.f1 x.f2 x.f3 keep = some ((doT l x keep).1, (doT l x keep).2) := by
 unfold Aj0.f doT
 rw [if_pos ⟨hl, hx, fun y hy => by have := hd y hy; omega⟩]
 split <;> rfl
theorem Ave (x : S38) : ∀ (l : List S38) (y : S38), y ∈ Az2 x l → y = x ∨ y ∈ l
 | [], y, h => by simpa [Az2] using h
 | z :: l, y, h => by
   unfold Az2 at h
   split at h
   · simp only [List.mem_cons] at h ⊢
     rcases h with h | h | h <;> simp [h]
   · rcases List.mem_cons.1 h with h | h
     · simp [h]
     · rcases Ave x l y h with h | h <;> simp [h]
theorem Avf (x : S38) : ∀ (l : List S38), (Az2 x l).length = l.length + 1
 | [] => rfl
 | z :: l => by
   unfold Az2
   split
   · rfl
   · simp [Avf x l]
theorem Bqm (l : List S38) (n : ByteArray) (d : List Int) : (putL l n d).length ≤ l.length + 1 := by
 unfold putL
 rw [Avf]
 have := List.length_filter_le (fun x => !Ax8 n x) l
 omega
theorem Bzq {l : List S38} {n : ByteArray} {d : List Int} {y : S38} (h : y ∈ putL l n d) : y = ⟨n, d⟩ ∨ y ∈ l := by
 rcases Ave _ _ _ h with h | h
 · exact .inl h
 · exact .inr (List.mem_filter.1 h).1
theorem Bkj {l : List S38} (h : okL l) (n : ByteArray) : (Aj7 l n).length ≤ 65536 := by
 unfold Aj7
 cases hf : l.find? (Ax8 n) with
 | none => simp
 | some x => exact h x (List.mem_of_find?_eq_some hf)
theorem Bja (old : List Int) (F : Nat) (d : List Int) (m : Nat) (ho : old.length ≤ m) (hf : F + d.length ≤ m) : (Aj1 old F d).length ≤ m := by
 unfold Aj1
 simp only [List.length_append, List.length_take, List.length_drop, List.length_replicate]
 omega
theorem Bqe (l : List S38) (x : S31) (keep : Int) (hd : okL l) (h : (doT l x keep).2 = 0) : okL (doT l x keep).1 ∧ (doT l x keep).1.length ≤ l.length + 1 := by
 unfold doT at h ⊢
 split at h
 · simp at h
 · rename_i hb
   rw [if_neg hb]
   unfold Aze at h ⊢
   split at h
   · simp at h
   · rename_i hc
     rw [if_neg hc]
     by_cases h0 : (Axp x.f3 keep).length = 0 ∧ x.f3.length > 0
     · rw [if_pos h0]
       exact ⟨hd, by simp⟩
     · rw [if_neg h0]
       refine ⟨fun y hy => ?_, Bqm _ _ _⟩
       rcases Bzq hy with rfl | hy
       · have ho := Bkj hd x.f0
         have hf0 : 0 ≤ Akc x.f1 x.f2 (Aj7 l x.f0) := by
          unfold Akc
          split
          · omega
          · split
            · omega
            · omega
         refine Bja _ _ _ _ ?_ (by omega)
         split
         · simp
         · exact ho
       · exact hd y hy
theorem Bjt (l : List S38) (x : S31) (keep : Int) (hd : okL l) : okL (dn l x keep) ∧ (dn l x keep).length ≤ l.length + 1 := by
 unfold dn
 split
 · rename_i h
   exact Bqe l x keep hd h
 · exact ⟨hd, by omega⟩
theorem Akt (keep : Nat → Int) : ∀ (xs : List S31) (i : Nat) (l : List S38), okL l → okL (Az0 keep i l xs) ∧ (Az0 keep i l xs).length ≤ l.length + xs.length
 | [], i, l, h => ⟨h, by simp [Az0]⟩
 | x :: xs, i, l, h => by
   obtain ⟨h1, h2⟩ := Bjt l x (keep i) h
   obtain ⟨h3, h4⟩ := Akt keep xs (i + 1) _ h1
   refine ⟨h3, ?_⟩
   rw [Az0, List.length_cons]
   omega
structure DnS (w : World) (b : Nat) (P : Nat → Prop) (x : S31) (A3 : Option Addr) (c3 : Nat) (v : Value) (l : List S38) (w' : World) : Prop where
 blk : w'.heap[b]? = some (.cells #[.string x.f0, .int .i64 x.f1, .int .i64 x.f2, .slice A3 x.f3.length c3] 31 (0, 0))
 v : Kd.V k38 38 w' w'.heap.size P v l
 c : (Kd.int .u8).C w' A3 x.f3.length x.f3
 below : Below w.heap.size w w'
theorem DnS.step {w u v' : World} {b : Nat} {P : Nat → Prop} {x : S31} {A3 : Option Addr} {c3 : Nat} {v : Value} {l : List S38} (h : DnS w b P x A3 c3 v l u) (hb : Below u.heap.size u v') : DnS w b P x A3 c3 v l v' :=
 ⟨Aqn hb h.blk, Azn (Kd.V_below h.v hb), Kd.C_below h.c hb, Aq1 h.below hb⟩
theorem DnS.drew {w u : World} {b : Nat} {P : Nat → Prop} {x : S31} {A3 : Option Addr} {c3 : Nat} {v : Value} {l : List S38} (h : DnS w b P x A3 c3 v l u) : DnS w b P x A3 c3 v l u.drew := h.step (Aq5 (Below.refl _ _))
theorem DnS.all {w w' : World} {b : Nat} {P : Nat → Prop} {x : S31} {A3 : Option Addr} {c3 : Nat} {v : Value} {l : List S38} (h : DnS w b P x A3 c3 v l w') :
 w'.cell? ⟨b, 0, none⟩ = some (.string x.f0) ∧ w'.cell? ⟨b, 1, none⟩ = some (.int .i64 x.f1) ∧ w'.cell? ⟨b, 2, none⟩ = some (.int .i64 x.f2) ∧ w'.cell? ⟨b, 3, none⟩ = some (.slice A3 x.f3.length c3) ∧ DnS w b P x A3 c3 v l w' := by
 refine ⟨?_, ?_, ?_, ?_, h⟩ <;> (rw [cell_of_row w' b _ _ 31 (0, 0) h.blk]; rfl)
theorem Bvb (i : Int) (w : World) : Calls Try.prog 75 #[.int .i64 i] w fun e w' => e = .returned (.int .i64 (-1)) ∧ Below w.heap.size w w' := by
 go_enter Try.func75, Try.ntmps75
 go_wp2
 go_ret
 exact ⟨rfl, Below.refl _ _⟩
def Ajj (ks : List Int) (i : Nat) : Int := if i < ks.length then mx (rd ks i) 0 else 0
theorem Bzt (P0 : Nat → Prop) (A0 : Option Addr) (c0 : Nat) (l0 : List S38) (A1 : Option Addr) (c1 : Nat) (xs : List S31) (w : World) (hs0 : Kd.V k38 38 w w.heap.size P0 (.slice A0 l0.length c0) l0) (hr1 : Kd.C k31 w A1 xs.length xs) (hc1 : xs.length ≤ c1)
 (hlen : l0.length + xs.length ≤ 1000) (hd : okL l0) (hx : okW xs) :
 Calls Try.prog 74 #[.slice A0 l0.length c0, .slice A1 xs.length c1, .func (.func 75) #[] #[]] w fun e w' => ∃ v, e = .returned v ∧ Kd.V k38 38 w' w'.heap.size (fun k => P0 k ∨ w.heap.size ≤ k) v (Az0 (fun _ => -1) 0 l0 xs) ∧ Below w.heap.size w w' := by
 have HR := Bvh hr1
 have HS := Bvh (Azn (base' := w.heap.size) (Kd.V_mono hs0 (ok' := fun k => P0 k ∨ w.heap.size ≤ k) (fun k hk => .inl hk)))
 have HD := Bvh hd
 have HX := Bvh hx
 clear hr1 hs0 hd hx
 go_enter Try.func74, Try.ntmps74
 go_wp2
 go_loopg [0, 13] xs.length (fun kq v0 v13 w' => ∃ (i : Nat) (l : List S38), v13 = .int .i64 i ∧ i + kq = xs.length ∧ l.length ≤ l0.length + i ∧ Aside0 (Az0 (fun _ => -1) i l (xs.drop i) = Az0 (fun _ => -1) 0 l0 xs) ∧ Aside0 (okL l) ∧ Aside0 (Kd.V k38 38 w' w'.heap.size (fun k => P0 k ∨ w.heap.size ≤ k) v0 l) ∧ Aside0 (Below w.heap.size w w'))
 case atStart => exact ⟨0, l0, rfl, by omega, by omega, ⟨by rw [List.drop_zero]⟩, HD, HS, ⟨Below.refl _ _⟩⟩
 case round =>
  obtain ⟨i, l, rfl, hi, hll, HE, HO, HV, HB⟩ := hrel
  by_cases hlt : i < xs.length
  · obtain ⟨k1, rfl⟩ : ∃ k1, gk = k1 + 1 := ⟨gk - 1, by omega⟩
    obtain ⟨ad, A3, c3, e1, hx0, hx1, hx2, hx3, hc3, hC3⟩ := Bzw (Kd.C_below HR.out HB.out) (i : Int) (by omega) (by omega)
    cases e1
    rw [Int.toNat_natCast] at hx0 hx1 hx2 hx3
    obtain ⟨x, hxe⟩ : ∃ x, Ajh xs (i : Int) = x := ⟨_, rfl⟩
    rw [hxe] at hx0 hx1 hx2 hx3 hc3 hC3
    have hxm : x ∈ xs ∧ xs.drop i = x :: xs.drop (i + 1) := by
     have h1 : Ajh xs (i : Int) = xs[i] := by simp [Ajh, hlt, List.getD]
     rw [h1] at hxe
     exact ⟨hxe ▸ List.getElem_mem hlt, by rw [← hxe, List.drop_eq_getElem_cons hlt]⟩
    have HXM := Bvh hxm
    clear hxe hxm
    obtain ⟨A, c, rfl⟩ := Kd.V_slice HV.out
    obtain ⟨kp, hkp⟩ : ∃ kp, kp = (fun _ => -1) i := ⟨_, rfl⟩
    have hdo := Bxd l x kp (by omega) HO.out (HX.out x HXM.out.1)
    have hnext : Az0 (fun _ => -1) (i + 1) (dn l x kp) (xs.drop (i + 1)) = Az0 (fun _ => -1) 0 l0 xs := by
     rw [← HE.out, HXM.out.2, hkp]
     rfl
    obtain ⟨hok, hle⟩ := Bjt l x kp HO.out
    unfold dn at hnext hok hle
    obtain ⟨⟨r1, r2⟩, hr⟩ : ∃ r, doT l x kp = r := ⟨_, rfl⟩
    rw [hr] at hdo hnext hok hle
    simp only at hdo hnext hok hle
    have HKP := Bvh hkp
    have HDO := Bvh hdo
    have HNX := Bvh hnext
    have HOK := Bvh hok
    have HLE := Bvh hle
    have HC3 := Bvh hC3
    have HC3l := Bvh hc3
    clear hdo hnext hok hle hr hkp hC3 hc3
    obtain rfl : kp = -1 := HKP.out
    have hk0 : DnS w wr.heap.size (fun k => P0 k ∨ w.heap.size ≤ k) x A3 c3 (.slice A l.length c) l (wr.alloc (.cells #[.string x.f0, .int .i64 x.f1, .int .i64 x.f2, .slice A3 x.f3.length c3] 31)) :=
     ⟨heap_alloc_new _ _, Azn (Kd.V_alloc HV.out _), Kd.C_alloc HC3.out _, Aq4 HB.out _⟩
    have HK0 := Bvh hk0
    clear hk0
    go_wp2_with fail
    have hk0 := HK0.out
    clear hx0 hx1 hx2 hx3
    generalize wr.alloc (.cells #[.string x.f0, .int .i64 x.f1, .int .i64 x.f2, .slice A3 x.f3.length c3] 31) = w3 at hk0 ⊢
    generalize wr.heap.size = bx at hk0 ⊢
    go_region_held3 (fun w' => w'.cell? ⟨bx, 0, none⟩ = some (.string x.f0) ∧ w'.cell? ⟨bx, 1, none⟩ = some (.int .i64 x.f1) ∧ w'.cell? ⟨bx, 2, none⟩ = some (.int .i64 x.f2) ∧ w'.cell? ⟨bx, 3, none⟩ = some (.slice A3 x.f3.length c3) ∧ DnS w bx (fun k => P0 k ∨ w.heap.size ≤ k) x A3 c3 (.slice A l.length c) l w')
     (first
       | exact hk0.drew.all
       | (go_split_ands
          first
           | exact DnS.all (DnS.step (by assumption) hb6)
           | exact DnS.all (DnS.step (by assumption) hb5))
       | go_keep)
     (first
       | (go_at_call 75; refine (Bvb _ _).mono ?_; rintro e w5 ⟨rfl, hb5⟩)
       | (go_split_ands
          go_at_call 17
          ((with_reducible refine (Aj0.calls (fun k => P0 k ∨ w.heap.size ≤ k) A c l x.f0 x.f1 x.f2 A3 c3 x.f3 _ r1 r2 _ ?hs ?hr ?hc HDO.out).mono ?_); (case hs => exact Azn (DnS.v (by assumption))); (case hr => exact DnS.c (by assumption)); (case hc => exact HC3l.out))
          rintro e w6 ⟨v6, rfl, hV6, hb6⟩))
    have hfin : DnS w bx (fun k => P0 k ∨ w.heap.size ≤ k) x A3 c3 (.slice A l.length c) l w6 := by go_split_ands; assumption
    have hszs : w.heap.size ≤ w5.heap.size := by
     have : DnS w bx (fun k => P0 k ∨ w.heap.size ≤ k) x A3 c3 (.slice A l.length c) l w5 := by go_split_ands; assumption
     exact this.below.size
    have HFIN := Bvh hfin
    have HV6 := Bvh (Azn (base' := w6.heap.size) (Kd.V_mono hV6 (ok' := fun k => P0 k ∨ w.heap.size ≤ k) (fun k hk => hk.elim id (fun h => .inr (Nat.le_trans hszs h)))))
    clear hk0 hfin hszs hV6
    by_cases hz : r2 = 0
    · have hz2 : (r2 == 0) = true := by simp [hz]
      have HNX2 := HNX.out
      have HOK2 := HOK.out
      have HLE2 := HLE.out
      rw [if_pos hz] at HNX2 HOK2 HLE2
      have HNX3 := Bvh HNX2
      have HOK3 := Bvh HOK2
      clear HNX2 HOK2 hz
      go_wp2
      go_roundg k1
      case measure => omega
      case rel => exact ⟨i + 1, r1, by go_num, by omega, by omega, HNX3, HOK3, HV6, ⟨HFIN.out.below⟩⟩
    · have hz2 : (r2 == 0) = false := by simp [hz]
      have HNX2 := HNX.out
      rw [if_neg hz] at HNX2
      have HNX3 := Bvh HNX2
      clear HNX2 hz
      go_wp2
      go_roundg k1
      case measure => omega
      case rel => exact ⟨i + 1, l, by go_num, by omega, by omega, HNX3, HO, ⟨Azn HFIN.out.v⟩, ⟨HFIN.out.below⟩⟩
  · have hge : xs.length ≤ i := by omega
    have hend : l = Az0 (fun _ => -1) 0 l0 xs := by
     rw [← HE.out, List.drop_eq_nil_of_le hge]
     rfl
    have HEND := Bvh hend
    clear hlt hend
    go_wp2
    go_ret
    exact ⟨_, rfl, by rw [← HEND.out]; exact HV.out, HB.out⟩
def VarK (w : World) (b : Nat) (A : Option Addr) (c : Nat) (ks : List Int) : Prop := w.heap[b]? = some (.cells #[.slice A ks.length c] 56 (0, 0)) ∧ (Kd.int .i64).C w A ks.length ks
theorem VarK.below {w w1 : World} {b c : Nat} {A : Option Addr} {ks : List Int} (h : VarK w b A c ks) (hb : Below w.heap.size w w1) : VarK w1 b A c ks := ⟨Aqn hb h.1, Kd.C_below h.2 hb⟩
theorem VarK.cell {w : World} {b c : Nat} {A : Option Addr} {ks : List Int} (h : VarK w b A c ks) : w.cell? ⟨b, 0, none⟩ = some (.slice A ks.length c) := by
 rw [cell_of_row w b 0 _ 56 (0, 0) h.1]; rfl
theorem Bji (ks : List Int) (i : Nat) (b c : Nat) (A : Option Addr) (w : World) (h : VarK w b A c ks) (hi : i ≤ 1000000) :
 Calls Try.prog 78 #[.int .i64 (i : Int), .pointer (some ⟨b, 0, none⟩)] w fun e w' => e = .returned (.int .i64 (Ajj ks i)) ∧ Below w.heap.size w w' := by
 have hc := h.cell
 have hm := Kd.C_max h.2
 have H := Bvh h
 clear h
 by_cases hlt : i < ks.length
 · obtain ⟨ad, e1, hk⟩ := Kd.at_int H.out.2 (i : Int) (by omega) (by omega)
   subst e1
   rw [Int.toNat_natCast] at hk
   have HK : Aside0 (Ajj ks i = mx (rd ks (i : Int)) 0) := ⟨by unfold Ajj; rw [if_pos hlt]⟩
   obtain ⟨y, hy⟩ : ∃ y, rd ks (i : Int) = y := ⟨_, rfl⟩
   rw [hy] at hk HK
   clear hy
   go_enter Try.func78, Try.ntmps78
   go_wp2_with (simp only [Az3, Axk])
   all_goals
    go_ret
    exact ⟨by rw [HK.out]; first | rfl | (unfold mx; simp [*]; done) | (unfold mx; simp [*]; omega), Below.refl _ _⟩
 · have HK : Aside0 (Ajj ks i = 0) := ⟨by unfold Ajj; rw [if_neg hlt]⟩
   have hge : ks.length ≤ i := by omega
   clear hlt
   go_enter Try.func78, Try.ntmps78
   go_wp2
   go_ret
   exact ⟨by rw [HK.out]; rfl, Below.refl _ _⟩
theorem Bjr (P0 : Nat → Prop) (A0 : Option Addr) (c0 : Nat) (l0 : List S38) (A1 : Option Addr) (c1 : Nat) (xs : List S31) (ks : List Int) (bk ck : Nat) (Ak : Option Addr) (w : World) (hs0 : Kd.V k38 38 w w.heap.size P0 (.slice A0 l0.length c0) l0) (hr1 : Kd.C k31 w A1 xs.length xs) (hc1 : xs.length ≤ c1) (hk : VarK w bk Ak ck ks)
 (hlen : l0.length + xs.length ≤ 1000) (hd : okL l0) (hx : okW xs) :
 Calls Try.prog 74 #[.slice A0 l0.length c0, .slice A1 xs.length c1, .func (.func 78) #[] #[.pointer (some ⟨bk, 0, none⟩)]] w fun e w' => ∃ v, e = .returned v ∧ Kd.V k38 38 w' w'.heap.size (fun k => P0 k ∨ w.heap.size ≤ k) v (Az0 (Ajj ks) 0 l0 xs) ∧ Below w.heap.size w w' := by
 have HR := Bvh hr1
 have HS := Bvh (Azn (base' := w.heap.size) (Kd.V_mono hs0 (ok' := fun k => P0 k ∨ w.heap.size ≤ k) (fun k hk => .inl hk)))
 have HD := Bvh hd
 have HX := Bvh hx
 have HKV := Bvh hk
 clear hr1 hs0 hd hx hk
 go_enter Try.func74, Try.ntmps74
 go_wp2
 go_loopg [0, 13] xs.length (fun kq v0 v13 w' => ∃ (i : Nat) (l : List S38), v13 = .int .i64 i ∧ i + kq = xs.length ∧ l.length ≤ l0.length + i ∧ Aside0 (Az0 (Ajj ks) i l (xs.drop i) = Az0 (Ajj ks) 0 l0 xs) ∧ Aside0 (okL l) ∧ Aside0 (Kd.V k38 38 w' w'.heap.size (fun k => P0 k ∨ w.heap.size ≤ k) v0 l) ∧ Aside0 (Below w.heap.size w w'))
 case atStart => exact ⟨0, l0, rfl, by omega, by omega, ⟨by rw [List.drop_zero]⟩, HD, HS, ⟨Below.refl _ _⟩⟩
 case round =>
  obtain ⟨i, l, rfl, hi, hll, HE, HO, HV, HB⟩ := hrel
  by_cases hlt : i < xs.length
  · obtain ⟨k1, rfl⟩ : ∃ k1, gk = k1 + 1 := ⟨gk - 1, by omega⟩
    obtain ⟨ad, A3, c3, e1, hx0, hx1, hx2, hx3, hc3, hC3⟩ := Bzw (Kd.C_below HR.out HB.out) (i : Int) (by omega) (by omega)
    cases e1
    rw [Int.toNat_natCast] at hx0 hx1 hx2 hx3
    obtain ⟨x, hxe⟩ : ∃ x, Ajh xs (i : Int) = x := ⟨_, rfl⟩
    rw [hxe] at hx0 hx1 hx2 hx3 hc3 hC3
    have hxm : x ∈ xs ∧ xs.drop i = x :: xs.drop (i + 1) := by
     have h1 : Ajh xs (i : Int) = xs[i] := by simp [Ajh, hlt, List.getD]
     rw [h1] at hxe
     exact ⟨hxe ▸ List.getElem_mem hlt, by rw [← hxe, List.drop_eq_getElem_cons hlt]⟩
    have HXM := Bvh hxm
    clear hxe hxm
    obtain ⟨A, c, rfl⟩ := Kd.V_slice HV.out
    obtain ⟨kp, hkp⟩ : ∃ kp, kp = (Ajj ks) i := ⟨_, rfl⟩
    have hdo := Bxd l x kp (by omega) HO.out (HX.out x HXM.out.1)
    have hnext : Az0 (Ajj ks) (i + 1) (dn l x kp) (xs.drop (i + 1)) = Az0 (Ajj ks) 0 l0 xs := by
     rw [← HE.out, HXM.out.2, hkp]
     rfl
    obtain ⟨hok, hle⟩ := Bjt l x kp HO.out
    unfold dn at hnext hok hle
    obtain ⟨⟨r1, r2⟩, hr⟩ : ∃ r, doT l x kp = r := ⟨_, rfl⟩
    rw [hr] at hdo hnext hok hle
    simp only at hdo hnext hok hle
    have HKP := Bvh hkp
    have HDO := Bvh hdo
    have HNX := Bvh hnext
    have HOK := Bvh hok
    have HLE := Bvh hle
    have HC3 := Bvh hC3
    have HC3l := Bvh hc3
    clear hdo hnext hok hle hr hkp hC3 hc3
    have hk0 : DnS w wr.heap.size (fun k => P0 k ∨ w.heap.size ≤ k) x A3 c3 (.slice A l.length c) l (wr.alloc (.cells #[.string x.f0, .int .i64 x.f1, .int .i64 x.f2, .slice A3 x.f3.length c3] 31)) :=
     ⟨heap_alloc_new _ _, Azn (Kd.V_alloc HV.out _), Kd.C_alloc HC3.out _, Aq4 HB.out _⟩
    have HK0 := Bvh hk0
    clear hk0
    go_wp2_with fail
    have hk0 := HK0.out
    clear hx0 hx1 hx2 hx3
    generalize wr.alloc (.cells #[.string x.f0, .int .i64 x.f1, .int .i64 x.f2, .slice A3 x.f3.length c3] 31) = w3 at hk0 ⊢
    generalize wr.heap.size = bx at hk0 ⊢
    go_region_held3 (fun w' => w'.cell? ⟨bx, 0, none⟩ = some (.string x.f0) ∧ w'.cell? ⟨bx, 1, none⟩ = some (.int .i64 x.f1) ∧ w'.cell? ⟨bx, 2, none⟩ = some (.int .i64 x.f2) ∧ w'.cell? ⟨bx, 3, none⟩ = some (.slice A3 x.f3.length c3) ∧ DnS w bx (fun k => P0 k ∨ w.heap.size ≤ k) x A3 c3 (.slice A l.length c) l w')
     (first
       | exact hk0.drew.all
       | (go_split_ands
          first
           | exact DnS.all (DnS.step (by assumption) hb6)
           | exact DnS.all (DnS.step (by assumption) hb5))
       | go_keep)
     (first
       | (go_split_ands; go_at_call 78; refine (Bji ks i bk ck Ak _ (HKV.out.below (DnS.below (by assumption))) (by omega)).mono ?_; rintro e w5 ⟨he, hb5⟩; rw [← HKP.out] at he; subst he)
       | (go_split_ands
          go_at_call 17
          ((with_reducible refine (Aj0.calls (fun k => P0 k ∨ w.heap.size ≤ k) A c l x.f0 x.f1 x.f2 A3 c3 x.f3 _ r1 r2 _ ?hs ?hr ?hc HDO.out).mono ?_); (case hs => exact Azn (DnS.v (by assumption))); (case hr => exact DnS.c (by assumption)); (case hc => exact HC3l.out))
          rintro e w6 ⟨v6, rfl, hV6, hb6⟩))
    have hfin : DnS w bx (fun k => P0 k ∨ w.heap.size ≤ k) x A3 c3 (.slice A l.length c) l w6 := by go_split_ands; assumption
    have hszs : w.heap.size ≤ w5.heap.size := by
     have : DnS w bx (fun k => P0 k ∨ w.heap.size ≤ k) x A3 c3 (.slice A l.length c) l w5 := by go_split_ands; assumption
     exact this.below.size
    have HFIN := Bvh hfin
    have HV6 := Bvh (Azn (base' := w6.heap.size) (Kd.V_mono hV6 (ok' := fun k => P0 k ∨ w.heap.size ≤ k) (fun k hk => hk.elim id (fun h => .inr (Nat.le_trans hszs h)))))
    clear hk0 hfin hszs hV6
    by_cases hz : r2 = 0
    · have hz2 : (r2 == 0) = true := by simp [hz]
      have HNX2 := HNX.out
      have HOK2 := HOK.out
      have HLE2 := HLE.out
      rw [if_pos hz] at HNX2 HOK2 HLE2
      have HNX3 := Bvh HNX2
      have HOK3 := Bvh HOK2
      clear HNX2 HOK2 hz
      go_wp2
      go_roundg k1
      case measure => omega
      case rel => exact ⟨i + 1, r1, by go_num, by omega, by omega, HNX3, HOK3, HV6, ⟨HFIN.out.below⟩⟩
    · have hz2 : (r2 == 0) = false := by simp [hz]
      have HNX2 := HNX.out
      rw [if_neg hz] at HNX2
      have HNX3 := Bvh HNX2
      clear HNX2 hz
      go_wp2
      go_roundg k1
      case measure => omega
      case rel => exact ⟨i + 1, l, by go_num, by omega, by omega, HNX3, HO, ⟨Azn HFIN.out.v⟩, ⟨HFIN.out.below⟩⟩
  · have hge : xs.length ≤ i := by omega
    have hend : l = Az0 (Ajj ks) 0 l0 xs := by
     rw [← HE.out, List.drop_eq_nil_of_le hge]
     rfl
    have HEND := Bvh hend
    clear hlt hend
    go_wp2
    go_ret
    exact ⟨_, rfl, by rw [← HEND.out]; exact HV.out, HB.out⟩
end
section
structure SSt where
 safe : List S38
 pend : List S31
 quota : Int
 calls : Int
 fails : List Int
 crash : Int
 down : Bool
 peak : Int
def Up (B : Nat → Prop) (n : Nat) : Prop := ∀ k, n ≤ k → B k
theorem Up.le {B : Nat → Prop} {n m : Nat} (h : Up B n) (hx : n ≤ m) : Up B m := fun k hk => h k (Nat.le_trans hx hk)
structure BelS (B : Nat → Prop) (w w1 : World) : Prop where
 os : w1.os = w.os
 tape : w1.tape = w.tape
 output : w1.output = w.output
 size : w.heap.size ≤ w1.heap.size
 block : ∀ k, k < w.heap.size → ¬ B k → w1.heap[k]? = w.heap[k]?
theorem BelS.refl (B : Nat → Prop) (w : World) : BelS B w w := ⟨rfl, rfl, rfl, Nat.le_refl _, fun _ _ _ => rfl⟩
def Ajy (w : World) (B : Nat → Prop) (mv : Value) (fails : List Int) : Prop :=
 (mv = .map none ∧ fails = []) ∨ ∃ b n D, mv = .map (some b) ∧ True ∧ n ≤ 1000 ∧ w.ownsMap (H := Unit) Try.prog 3 (plainElem Try.prog 4) b n D ∧ ∀ i : Int, (Lit.int .i64 i).wf = true → D.atKey (.int .i64 i) (.lit (.bool false)) = .lit (.bool (decide (i ∈ fails)))
structure RepAt (B : Nat → Prop) (g : Nat) (s : SSt) (w : World) (mv sv pv : Value) : Prop where
 hg : B g
 blk : w.heap[g]? = some (.cells #[mv, .int .i64 s.crash, .int .i64 s.calls, sv, pv, .int .i64 s.quota, .int .i64 s.peak, .bool s.down] 106 (0, 0))
 map : Ajy w B mv s.fails
 safe : Kd.V k38 38 w 0 (fun k => k ≠ g ∧ some k ≠ pv.ownBlock) sv s.safe
 pend : O k31 31 w 0 (fun k => k ≠ g) pv s.pend
 own : ∀ k, pv.ownBlock = some k → B k
def Rep (B : Nat → Prop) (g : Nat) (s : SSt) (w : World) : Prop := ∃ mv sv pv, RepAt B g s w mv sv pv
theorem Ajy.below {w w1 : World} {B : Nat → Prop} {mv : Value} {fails : List Int} (h : Ajy w B mv fails) (hb : Below w.heap.size w w1) : Ajy w1 B mv fails := by
 rcases h with h | ⟨b, n, D, h1, h2, h3, h4, h5⟩
 · exact .inl h
 · exact .inr ⟨b, n, D, h1, h2, h3, h4.kept (Az9 hb none) (by simp), h5⟩
theorem RepAt.below {B : Nat → Prop} {g : Nat} {s : SSt} {w w1 : World} {mv sv pv : Value} (h : RepAt B g s w mv sv pv) (hb : Below w.heap.size w w1) : RepAt B g s w1 mv sv pv :=
 ⟨h.hg, Aqn hb h.blk, h.map.below hb, Kd.V_below h.safe hb, Azp h.pend hb, h.own⟩
theorem Rep.below {B : Nat → Prop} {g : Nat} {s : SSt} {w w1 : World} (h : Rep B g s w) (hb : Below w.heap.size w w1) : Rep B g s w1 := by
 obtain ⟨mv, sv, pv, h⟩ := h
 exact ⟨mv, sv, pv, h.below hb⟩
theorem RepAt.cells {B : Nat → Prop} {g : Nat} {s : SSt} {w : World} {mv sv pv : Value} (h : RepAt B g s w mv sv pv) :
 w.cell? ⟨g, 0, none⟩ = some mv ∧ w.cell? ⟨g, 1, none⟩ = some (.int .i64 s.crash) ∧ w.cell? ⟨g, 2, none⟩ = some (.int .i64 s.calls) ∧ w.cell? ⟨g, 3, none⟩ = some sv ∧ w.cell? ⟨g, 4, none⟩ = some pv ∧
  w.cell? ⟨g, 5, none⟩ = some (.int .i64 s.quota) ∧ w.cell? ⟨g, 6, none⟩ = some (.int .i64 s.peak) ∧ w.cell? ⟨g, 7, none⟩ = some (.bool s.down) := by
 refine ⟨?_, ?_, ?_, ?_, ?_, ?_, ?_, ?_⟩ <;> (rw [cell_of_row w g _ _ 106 (0, 0) h.blk]; rfl)
section
variable {B : Nat → Prop} {g : Nat} {s : SSt} {w : World}
theorem Bqn (h : Rep B g s w) : Calls Try.prog 46 #[.pointer (some ⟨g, 0, none⟩)] w fun e w' => e = .returned (.int .i64 (s.pend.length : Int)) ∧ Below w.heap.size w w' := by
 obtain ⟨mv, sv, pv, h⟩ := h
 obtain ⟨A, c, rfl⟩ := Az1 h.pend
 obtain ⟨_, _, _, _, hc, _, _, _⟩ := h.cells
 clear h
 go_enter Try.func46, Try.ntmps46
 go_wp2
 go_ret
 exact ⟨rfl, Below.refl _ _⟩
theorem Awr (h : Rep B g s w) : Calls Try.prog 52 #[.pointer (some ⟨g, 0, none⟩)] w fun e w' => e = .returned (.int .i64 s.calls) ∧ Below w.heap.size w w' := by
 obtain ⟨mv, sv, pv, h⟩ := h
 obtain ⟨_, _, hc, _, _, _, _, _⟩ := h.cells
 clear h
 go_enter Try.func52, Try.ntmps52
 go_wp2
 go_ret
 exact ⟨rfl, Below.refl _ _⟩
theorem Bqa (h : Rep B g s w) : Calls Try.prog 54 #[.pointer (some ⟨g, 0, none⟩)] w fun e w' => e = .returned (.int .i64 s.peak) ∧ Below w.heap.size w w' := by
 obtain ⟨mv, sv, pv, h⟩ := h
 obtain ⟨_, _, _, _, _, _, hc, _⟩ := h.cells
 clear h
 go_enter Try.func54, Try.ntmps54
 go_wp2
 go_ret
 exact ⟨rfl, Below.refl _ _⟩
theorem Bjq (h : Rep B g s w) : Calls Try.prog 53 #[.pointer (some ⟨g, 0, none⟩)] w fun e w' => e = .returned (.bool s.down) ∧ Below w.heap.size w w' := by
 obtain ⟨mv, sv, pv, h⟩ := h
 obtain ⟨_, _, _, _, _, _, _, hc⟩ := h.cells
 clear h
 go_enter Try.func53, Try.ntmps53
 go_wp2
 go_ret
 exact ⟨rfl, Below.refl _ _⟩
end
structure SfS (w : World) (b : Nat) (nm : ByteArray) (v1 : Value) (w' : World) : Prop where
 blk : w'.heap[b]? = some (.cells #[.string nm, v1] 38 (0, 0))
 below : Below w.heap.size w w'
theorem SfS.step {w u v' : World} {b : Nat} {nm : ByteArray} {v1 : Value} (h : SfS w b nm v1 u) (hb : Below u.heap.size u v') : SfS w b nm v1 v' := ⟨Aqn hb h.blk, Aq1 h.below hb⟩
theorem SfS.all {w w' : World} {b : Nat} {nm : ByteArray} {v1 : Value} (h : SfS w b nm v1 w') : w'.cell? ⟨b, 0, none⟩ = some (.string nm) ∧ w'.cell? ⟨b, 1, none⟩ = some v1 ∧ SfS w b nm v1 w' := by
 refine ⟨?_, ?_, h⟩ <;> (rw [cell_of_row w' b _ _ 38 (0, 0) h.blk]; rfl)
theorem SfS.grown {w u u' : World} {b : Nat} {nm : ByteArray} {v1 : Value} {row : Option Nat} (h : SfS w b nm v1 u) (hg : u.grownBy u' row) (hne : some b ≠ row) (hr : ∀ k, row = some k → w.heap.size ≤ k) : SfS w b nm v1 u' :=
 ⟨(hg.block b (Ax7 h.blk) hne).trans h.blk, Akw h.below row h.below.size hg hr⟩
theorem O_snoc38 {w W w1 : World} {ok : Nat → Prop} {v v1 : Value} {xs : List S38} {x : S38} {seg : List Value} {inner : List Value}
 (hr : Reps (fun x c => Kd.FK k38 W (fun k => ok k ∧ some k ≠ v.ownBlock) x c) 2 xs inner) (hx : Kd.FK k38 W (fun k => ok k ∧ some k ≠ v.ownBlock) x seg)
 (hown : w1.ownsRow w.heap.size 38 2 v1 (xs.length + 1) (inner ++ seg)) (hg : W.grownBy w1 v.ownBlock) (hat : v1.ownBlock = v.ownBlock ∨ v1.ownBlock = some W.heap.size) : O k38 38 w1 w.heap.size ok v1 (xs ++ [x]) := by
 refine ⟨inner ++ seg, by rw [List.length_append]; exact hown, ?_⟩
 exact O_put (hr.imp_ fun y c' hy => Ajx hy hg hat) (Ajx hx hg hat) (Ajs hx).1
theorem Bq7 {B : Nat → Prop} {g : Nat} {s : SSt} {w : World} (h : Rep B g s w) (hl : s.safe.length ≤ 1000) (hd : okL s.safe) :
 Calls Try.prog 45 #[.pointer (some ⟨g, 0, none⟩)] w fun e w' => ∃ v, e = .returned v ∧ O k38 38 w' w.heap.size (fun k => w.heap.size ≤ k) v s.safe ∧ Below w.heap.size w w' := by
 obtain ⟨mv, sv, pv, h⟩ := h
 obtain ⟨_, _, _, hcs, _, _, _, _⟩ := h.cells
 have hV := h.safe
 obtain ⟨l, hle⟩ : ∃ l, l = s.safe := ⟨_, rfl⟩
 rw [← hle] at hV hl hd ⊢
 obtain ⟨A, c, rfl⟩ := Kd.V_slice hV
 have HV := Bvh hV
 have HD := Bvh hd
 clear h hle hV hd
 obtain ⟨i0, hi, hz0, hz1, hz2⟩ := info_parts Aki
 have HI := Bvh hi
 have HZ0 := Bvh hz0
 have HZ1 := Bvh hz1
 have HZ2 := Bvh hz2
 clear hi hz0 hz1 hz2
 go_enter Try.func45, Try.ntmps45
 go_wp2
 go_loopg [3, 13] l.length (fun kq v3 v13 w' => ∃ i : Nat, v13 = .int .i64 i ∧ i + kq = l.length ∧ Aside0 (O k38 38 w' w.heap.size (fun k => w.heap.size ≤ k) v3 (l.take i)) ∧ Aside0 (Below w.heap.size w w'))
 case atStart => exact ⟨0, rfl, by omega, ⟨Bjx _ _ _ _ _⟩, ⟨Below.refl _ _⟩⟩
 case round =>
  obtain ⟨i, rfl, hi, HO, HB⟩ := hrel
  by_cases hlt : i < l.length
  · obtain ⟨k1, rfl⟩ : ∃ k1, gk = k1 + 1 := ⟨gk - 1, by omega⟩
    have hVr := Kd.V_below HV.out HB.out
    obtain ⟨ad, A1, c1, e1, hx0, hx1, hc1, hC1⟩ := Azf (Kd.V_reads' hVr).2.2 (i : Int) (by omega) (by omega)
    cases e1
    rw [Int.toNat_natCast] at hx0 hx1
    obtain ⟨x, hxe⟩ : ∃ x, Aqf l (i : Int) = x := ⟨_, rfl⟩
    rw [hxe] at hx0 hx1 hc1 hC1
    have hxm : x ∈ l ∧ l.take (i + 1) = l.take i ++ [x] := by
     have h1 : Aqf l (i : Int) = l[i] := by simp [Aqf, hlt, List.getD]
     rw [h1] at hxe
     exact ⟨hxe ▸ List.getElem_mem hlt, by rw [← hxe, List.take_succ_eq_append_getElem hlt]⟩
    have HXM := Bvh hxm
    have hxl := HD.out x hxm.1
    have HF : Aside0 (Kd.F (Kd.int .u8) wr (fun k => k < wr.heap.size) A1 x.f1.length x.f1) := ⟨Kd.C_F (Kd.heap_int .u8) hC1⟩
    clear hxe hxm hVr hC1
    obtain ⟨pl, hpl⟩ : ∃ pl, pl = l.take i := ⟨_, rfl⟩
    have hpll : pl.length = i := by rw [hpl, List.length_take]; omega
    rw [← hpl] at HO HXM
    clear hpl
    obtain ⟨inner, hown, hreps⟩ := HO.out
    obtain ⟨An, cn, rfl⟩ := Awe hown
    have hw3 : Below wr.heap.size wr (wr.alloc (.cells #[.string x.f0, .slice A1 x.f1.length c1] 38)) := Aq4 (Below.refl _ _) _
    have HOW : Aside0 ((wr.alloc (.cells #[.string x.f0, .slice A1 x.f1.length c1] 38)).ownsRow w.heap.size 38 2 (.slice An pl.length cn) pl.length inner) := ⟨Aji hown hw3⟩
    have HRE : Aside0 (Reps (fun y c' => Kd.FK k38 (wr.alloc (.cells #[.string x.f0, .slice A1 x.f1.length c1] 38)) (fun k => w.heap.size ≤ k ∧ some k ≠ (Value.slice An pl.length cn).ownBlock) y c') 2 pl inner) := ⟨hreps.imp_ fun y c' hy => Kd.FK_below hy hw3⟩
    have hk0 : SfS w wr.heap.size x.f0 (.slice A1 x.f1.length c1) (wr.alloc (.cells #[.string x.f0, .slice A1 x.f1.length c1] 38)) := ⟨heap_alloc_new _ _, Aq4 HB.out _⟩
    have HNE : Aside0 (∀ k, (Value.slice An pl.length cn).ownBlock = some k → w.heap.size ≤ k ∧ k < wr.heap.size) := ⟨fun k hk => ⟨Aje hown k hk, Ava hown k hk⟩⟩
    have HF3 : Aside0 (Kd.F (Kd.int .u8) (wr.alloc (.cells #[.string x.f0, .slice A1 x.f1.length c1] 38)) (fun k => k < wr.heap.size) A1 x.f1.length x.f1) := ⟨Kd.F_alloc HF.out _⟩
    have HSZ : Aside0 (wr.heap.size < (wr.alloc (.cells #[.string x.f0, .slice A1 x.f1.length c1] 38)).heap.size) := ⟨by rw [World.size_alloc]; omega⟩
    have HPL := Bvh hpll
    have hpl2 : pl.length ≤ 1000 := by omega
    have HK0 := Bvh hk0
    have HBW := Bvh (Nat.le_trans HB.out.size (Nat.le_refl _))
    clear hk0 hown hreps hw3 hpll
    go_wp2_with fail
    have hk0 := HK0.out
    clear hx0 hx1
    generalize wr.alloc (.cells #[.string x.f0, .slice A1 x.f1.length c1] 38) = w3 at hk0 HOW HRE HF3 HSZ HK0 ⊢
    generalize wr.heap.size = bx at hk0 HNE HF3 HSZ HBW HK0 ⊢
    go_region_held3 (fun w' => w'.cell? ⟨bx, 0, none⟩ = some (.string x.f0) ∧ w'.cell? ⟨bx, 1, none⟩ = some (.slice A1 x.f1.length c1) ∧ SfS w bx x.f0 (.slice A1 x.f1.length c1) w')
     (first
       | exact (hk0.step (Aq5 (Below.refl _ _))).all
       | (go_split_ands
          first
           | exact SfS.all (SfS.grown (by assumption) hgrow (fun he => Nat.lt_irrefl _ (HNE.out _ he.symm).2) (fun k hk => (HNE.out k hk).1))
           | exact SfS.all (SfS.step (by assumption) (Aq4 (Below.refl _ _) _))
           | exact SfS.all (SfS.step (by assumption) hb5))
       | go_keep)
     (first
       | (go_at_call 61; refine (Bxh (fun k => k < bx) A1 c1 x.f1 _ (Kd.F_drew HF3.out) (by omega)).mono ?_; rintro e w5 ⟨v5, rfl, hO5, hb5⟩; obtain ⟨A5, c5, rfl⟩ := Az1 hO5)
       | (refine step_append_lies _ (by rfl) _ _ _ (by rfl) w.heap.size 38 i0 _ 2 40 Try.underlying22 HI.out HZ0.out HZ1.out HZ2.out rfl (by omega) (.slice An pl.length cn) pl.length inner (by rfl) ((Aji HOW.out (Aq1 (Aq5 (Below.refl _ _)) hb5)).alloc _)
           ⟨w5.heap.size, 0, none⟩ 1 1 [.string x.f0, .slice A5 x.f1.length c5] (by rfl) (by rfl) (World.news_of_block (cs := #[.string x.f0, .slice A5 x.f1.length c5]) (t := 38) (fr := (0, 0)) (heap_alloc_new w5 _)) (by simp [Value.oneCell'])
           (by omega) (by unfold maxLen; omega) (by omega) (by rw [World.size_alloc]; have := hb5.size; have := HBW.out; have := HSZ.out; have hdz : w3.drew.heap.size = w3.heap.size := rfl; omega) (w5.heap.size + 1) (by simp) ?_
          intro gg cap w6 hown6 hgrow hat hlt6))
    have hfin : SfS w bx x.f0 (.slice A1 x.f1.length c1) w6 := by go_split_ands; assumption
    have HFIN := Bvh hfin
    have hres : O k38 38 w6 w.heap.size (fun k => w.heap.size ≤ k) (.slice (some ⟨gg, 0, none⟩) (pl.length + 1) cap) (pl ++ [x]) := by
     have hb35 : Below w3.heap.size w3 (w5.alloc (.cells #[.string x.f0, .slice A5 x.f1.length c5] 38)) := Aq4 (Aq1 (Aq5 (Below.refl _ _)) hb5) _
     refine O_snoc38 (W := w5.alloc (.cells #[.string x.f0, .slice A5 x.f1.length c5] 38)) (v := .slice An pl.length cn) (HRE.out.imp_ fun y c' hy => Kd.FK_below hy hb35) ?_ hown6 hgrow ?_
     · have hc5 := (Kd.V_reads' (O_V hO5)).2.1
       refine Akh _ _ x hc5 (Kd.F_mono (Kd.F_alloc (Bzg hO5) _) fun k hk => ?_)
       have hk1 := Awv hO5 k hk.symm
       have hdz : w3.drew.heap.size = w3.heap.size := rfl
       have := HSZ.out
       have := HBW.out
       refine ⟨by omega, fun he => ?_⟩
       have := (HNE.out k he.symm).2
       omega
     · rcases hat with hat | hat
       · exact .inl hat.symm
       · exact .inr (by rw [hat]; rw [World.size_alloc]; rfl)
    have HRES := Bvh hres
    clear hk0 hfin hres hown6 hgrow hat hlt6 hO5 hb5
    go_wp2
    go_roundg k1
    case measure => omega
    case rel => exact ⟨i + 1, by go_num, by omega, ⟨by rw [HXM.out.2]; exact HRES.out⟩, ⟨HFIN.out.below⟩⟩
  · have hge : l.length ≤ i := by omega
    have hend : l.take i = l := List.take_of_length_le hge
    have HEND := Bvh hend
    clear hlt hend
    go_wp2
    go_ret
    exact ⟨_, rfl, by rw [← HEND.out]; exact HO.out, HB.out⟩
end
section
open Go.Maps (Keyed string_keyed int_keyed keyOf_int_mk IsMap atKey_put_same atKey_put_other)
structure Fit (s : SSt) : Prop where
 len : s.safe.length + s.pend.length ≤ 1000
 safe : okL s.safe
 pend : okW s.pend
 calls0 : 0 ≤ s.calls
 calls1 : s.calls ≤ 1000
def Aq8 (s : SSt) : List S38 := Az0 (fun _ => -1) 0 s.safe s.pend
theorem Bve {α : Type} {d : Kd α} {e : Nat} {w w1 : World} {base : Nat} {ok : Nat → Prop} {v : Value} {xs : List α} (h : O d e w base ok v xs) (hm : ∀ k, k < w.heap.size → (ok k ∨ v.ownBlock = some k) → w1.heap[k]? = w.heap[k]?) : O d e w1 base ok v xs := by
 obtain ⟨inner, h1, h2⟩ := h
 exact ⟨inner, Bqp h1 (fun k hk => hm k (Ava h1 k hk) (.inr hk)), h2.imp_ fun x c hx => Kd.FK_step hx fun k hk hlt => hm k hlt (.inl hk.1)⟩
theorem Ajy.move {w w1 : World} {B : Nat → Prop} {g : Nat} {mv : Value} {fails : List Int} (h : Ajy w B mv fails) (hg : ∃ cs t fr, w.heap[g]? = some (Obj.cells cs t fr)) (hk : ∀ k, k < w.heap.size → k ≠ g → w1.heap[k]? = w.heap[k]?) : Ajy w1 B mv fails := by
 rcases h with h | ⟨b, n, D, h1, h2, h3, h4, h5⟩
 · exact .inl h
 · refine .inr ⟨b, n, D, h1, h2, h3, ?_, h5⟩
   obtain ⟨es, clock, h6, h7⟩ := h4
   refine ⟨es, clock, (hk b (Ax7 h6) (fun he => ?_)).trans h6, h7⟩
   subst he
   obtain ⟨cs, t, fr, hc⟩ := hg
   rw [h6] at hc
   cases hc
theorem RepAt.upd {B : Nat → Prop} {g : Nat} {s s' : SSt} {w w1 : World} {mv sv pv : Value} (h : RepAt B g s w mv sv pv) (hk : ∀ k, k < w.heap.size → k ≠ g → w1.heap[k]? = w.heap[k]?)
 (hb : w1.heap[g]? = some (.cells #[mv, .int .i64 s'.crash, .int .i64 s'.calls, sv, pv, .int .i64 s'.quota, .int .i64 s'.peak, .bool s'.down] 106 (0, 0))) (h1 : s'.safe = s.safe) (h2 : s'.pend = s.pend) (h3 : s'.fails = s.fails) : RepAt B g s' w1 mv sv pv := by
 have hpg : pv.ownBlock ≠ some g := fun he => by
  obtain ⟨_, hp, _⟩ := h.pend
  obtain ⟨cells, hc⟩ := Azu hp g he
  rw [h.blk] at hc
  injection hc with hc
  injection hc with _ hc
  exact absurd hc (by decide)
 refine ⟨h.hg, hb, ?_, ?_, ?_, h.own⟩
 · rw [h3]; exact h.map.move ⟨_, _, _, h.blk⟩ hk
 · rw [h1]; exact Kd.V_step h.safe (fun k hk2 hlt => hk k hlt hk2.1)
 · rw [h2]; exact Bve h.pend (fun k hlt hk2 => hk k hlt (hk2.elim id (fun he hg => hpg (by rw [he, hg]))))
def Axl (g : Nat) (w w1 : World) : Prop := w.heap.size ≤ w1.heap.size ∧ ∀ k, k < w.heap.size → k ≠ g → w1.heap[k]? = w.heap[k]?
theorem Axl.refl (g : Nat) (w : World) : Axl g w w := ⟨Nat.le_refl _, fun _ _ _ => rfl⟩
theorem Axl.of_below {g : Nat} {w w1 : World} (h : Below w.heap.size w w1) : Axl g w w1 := ⟨h.size, fun k hk _ => h.block k hk⟩
theorem Axl.trans {g : Nat} {w w1 w2 : World} (h : Axl g w w1) (k : Axl g w1 w2) : Axl g w w2 := ⟨Nat.le_trans h.1 k.1, fun i hi hg => (k.2 i (Nat.lt_of_lt_of_le hi h.1) hg).trans (h.2 i hi hg)⟩
theorem Axl.setCell {g : Nat} {w w1 : World} (h : Axl g w w1) (j : Nat) (u : Value) : Axl g w (w1.setCell ⟨g, j, none⟩ u) :=
 h.trans ⟨by simp [World.setCell], fun k _ hg => Below.heap_setCell _ _ _ _ hg⟩
theorem Aqz {B : Nat → Prop} {g : Nat} {w w1 : World} (h : BelS B w w1) (hg : B g) (j : Nat) (u : Value) : BelS B w (w1.setCell ⟨g, j, none⟩ u) :=
 ⟨h.os, h.tape, h.output, by simpa [World.setCell] using h.size, fun k hk hn => (Below.heap_setCell _ _ _ _ (show k ≠ g from fun he => hn (he ▸ hg))).trans (h.block k hk hn)⟩
theorem Aqk {B : Nat → Prop} {w w1 : World} (hB : Up B w.heap.size) (h : Below w.heap.size w w1) : BelS B w w1 := ⟨h.os, h.tape, h.output, h.size, fun k hk _ => h.block k hk⟩
theorem Aqc {B : Nat → Prop} {w w1 w2 : World} (h : BelS B w w1) (k : BelS B w1 w2) : BelS B w w2 := ⟨k.os.trans h.os, k.tape.trans h.tape, k.output.trans h.output, Nat.le_trans h.size k.size, fun i hi hn => (k.block i (Nat.lt_of_lt_of_le hi h.size) hn).trans (h.block i hi hn)⟩
theorem Azh {B : Nat → Prop} {w w1 : World} (h : BelS B w w1) : BelS B w w1.drew := Aqc h ⟨(Aq5 (Below.refl w1.heap.size w1)).os, (Aq5 (Below.refl w1.heap.size w1)).tape, (Aq5 (Below.refl w1.heap.size w1)).output, (Aq5 (Below.refl w1.heap.size w1)).size, fun k hk _ => (Aq5 (Below.refl w1.heap.size w1)).block k hk⟩
def asked (s : SSt) : SSt × Int :=
 if s.down then (s, 9) else
  if s.calls + 1 = s.crash then ({ s with calls := s.calls + 1, down := true }, 9) else
   if s.calls + 1 ∈ s.fails then ({ s with calls := s.calls + 1 }, 7) else ({ s with calls := s.calls + 1 }, 0)
theorem key3 : Keyed Try.prog 3 := int_keyed Try.underlying3
theorem zero4 (w : World) : (zeroValue 4).run Try.prog w = .ok (.bool false) w := by kernel_rfl
theorem Av9 {v : Value} {x : Bool} {ps : List MemPlace} (h : plainElem (H := Unit) Try.prog 4 v = some (.lit (.bool x), ps)) : v = .bool x := by
 have hu := Try.underlying4
 cases v <;> simp [plainElem, hu] at h
 rw [h.1]
theorem Ajy.look {w : World} {B : Nat → Prop} {mv : Value} {fails : List Int} (h : Ajy w B mv fails) (i : Int) (hi : (Lit.int .i64 i).wf = true) : (Instr.lookup 101 mv (.int .i64 i) false).run Try.prog w = .ok (.bool (decide (i ∈ fails))) w := by
 rcases h with ⟨rfl, rfl⟩ | ⟨b, n, D, rfl, _, _, hown, hat⟩
 · have := Maps.look_nil (P := Try.prog) (w := w) (t := 101) (k := 3) (e := 4) false key3 Try.underlying101 (zero4 w) (key := .int .i64 i) (keyOf_int_mk Try.underlying3 hi)
   rw [show decide (i ∈ ([] : List Int)) = false from by simp]
   exact this
 · obtain ⟨v, ps, hrun, hv⟩ := hown.lookup (t := 101) (e := 4) key3 Try.underlying101 (zero4 w) (zd := .lit (.bool false)) (zp := []) (plainElem_bool Try.underlying4 false) (key := .int .i64 i) (keyOf_int_mk Try.underlying3 hi)
   rw [hat i hi] at hv
   rw [hrun, Av9 hv]
section
variable {B : Nat → Prop} {g : Nat} {s : SSt} {w : World}
structure FlS (B : Nat → Prop) (g : Nat) (s : SSt) (mv sv pv : Value) (w w' : World) : Prop where
 rep : RepAt B g s w' mv sv pv
 below : Below w.heap.size w w'
theorem FlS.step {mv sv pv : Value} {u v : World} (h : FlS B g s mv sv pv w u) (hb : Below u.heap.size u v) : FlS B g s mv sv pv w v := ⟨h.rep.below hb, Aq1 h.below hb⟩
theorem FlS.all {mv sv pv : Value} {u : World} (h : FlS B g s mv sv pv w u) : u.cell? ⟨g, 4, none⟩ = some pv ∧ FlS B g s mv sv pv w u := ⟨h.rep.cells.2.2.2.2.1, h⟩
theorem Az4 (h : Rep B g s w) (hf : Fit s) :
 Calls Try.prog 42 #[.pointer (some ⟨g, 0, none⟩)] w fun e w' => ∃ v, e = .returned v ∧ Kd.V k38 38 w' w'.heap.size (fun k => w.heap.size ≤ k) v (Aq8 s) ∧ Below w.heap.size w w' := by
 obtain ⟨mv, sv, pv, h⟩ := h
 obtain ⟨Ap, cp, rfl⟩ := Az1 h.pend
 have hk0 : FlS B g s mv sv (.slice Ap s.pend.length cp) w w := ⟨h, Below.refl _ _⟩
 have HF := Bvh hf
 have hlen := hf.len
 clear h hf
 go_enter Try.func42, Try.ntmps42
 go_wp2_with fail
 go_region_held3 (fun w' => w'.cell? ⟨g, 4, none⟩ = some (.slice Ap s.pend.length cp) ∧ FlS B g s mv sv (.slice Ap s.pend.length cp) w w')
  (first
    | exact (hk0.step (Aq5 (Below.refl _ _))).all
    | (go_split_ands
       first
        | exact FlS.all (FlS.step (by assumption) hb6)
        | exact FlS.all (FlS.step (by assumption) hb5))
    | go_keep)
  (first
    | (go_split_ands; go_at_call 45; refine (Bq7 ⟨mv, sv, _, FlS.rep (by assumption)⟩ (by omega) HF.out.safe).mono ?_; rintro e w5 ⟨v5, rfl, hO5, hb5⟩; obtain ⟨A5, c5, rfl⟩ := Az1 hO5)
    | (go_split_ands
       go_at_call 74
       ((with_reducible refine (Bzt (fun k => w.heap.size ≤ k) A5 c5 s.safe Ap cp s.pend _ ?hs ?hr ?hc hlen HF.out.safe HF.out.pend).mono ?_); (case hs => exact Azn (Kd.V_mono (O_V hO5) (fun k hk => hk.elim (fun h => h) (fun h => h)))); (case hr => exact (Kd.V_reads' (O_V (RepAt.pend (FlS.rep (by assumption))))).2.2); (case hc => exact (Kd.V_reads' (O_V (RepAt.pend (hk0.rep)))).2.1))
       rintro e w6 ⟨v6, rfl, hV6, hb6⟩))
 have hfin : FlS B g s mv sv (.slice Ap s.pend.length cp) w w6 := by go_split_ands; assumption
 have h5 : FlS B g s mv sv (.slice Ap s.pend.length cp) w w5 := by go_split_ands; assumption
 have HFIN := Bvh hfin
 have HV6 := Bvh hV6
 have HSZ := Bvh h5.below.size
 clear hfin h5 hV6 hk0
 go_wp2
 go_ret
 exact ⟨_, rfl, Kd.V_mono HV6.out (fun k hk => hk.elim id (fun h => Nat.le_trans HSZ.out h)), HFIN.out.below⟩
theorem RepAt.free {mv sv pv : Value} (h : RepAt B g s w mv sv pv) (j : Nat) : w.frozen? ⟨g, j, none⟩ = false := Aq2 h.blk j
theorem RepAt.called {mv sv pv : Value} (h : RepAt B g s w mv sv pv) : RepAt B g { s with calls := s.calls + 1 } (w.setCell ⟨g, 2, none⟩ (.int .i64 (s.calls + 1))) mv sv pv :=
 h.upd (fun k _ hk => Below.heap_setCell _ _ _ _ hk) (Axb h.blk 2 _) rfl rfl rfl
theorem RepAt.downed {mv sv pv : Value} (h : RepAt B g s w mv sv pv) : RepAt B g { s with down := true } (w.setCell ⟨g, 7, none⟩ (.bool true)) mv sv pv :=
 h.upd (fun k _ hk => Below.heap_setCell _ _ _ _ hk) (Axb h.blk 7 _) rfl rfl rfl
theorem Aku (clo : Value) (h : Rep B g s w) (hf : Fit s) (ha : (asked s).2 ≠ 0) :
 Calls Try.prog 90 #[.pointer (some ⟨g, 0, none⟩), clo] w fun e w' => e = .returned (.int .i64 (asked s).2) ∧ Rep B g (asked s).1 w' ∧ BelS B w w' ∧ Axl g w w' := by
 obtain ⟨mv, sv, pv, h⟩ := h
 obtain ⟨hc0, hc1, hc2, _, _, _, _, hc7⟩ := h.cells
 have hfr2 := h.free 2
 have hcl0 := hf.calls0
 have hcl1 := hf.calls1
 have H0 := Bvh h
 have h1 := h.called
 obtain ⟨hd0, hd1, hd2, _, _, _, _, hd7⟩ := h1.cells
 have hgr7 := h1.free 7
 have H1 := Bvh h1
 have hgB := Bvh h.hg
 clear h h1 hf
 by_cases hdn : s.down = true
 · have hA : asked s = (s, 9) := by unfold asked; rw [if_pos hdn]
   rw [hA]
   rw [hdn] at hc7
   have HDN := Bvh hdn
   clear hd0 hd1 hd2 hd7 ha hA hdn
   go_enter Try.func90, Try.ntmps90
   go_wp2
   go_ret
   exact ⟨rfl, ⟨mv, sv, pv, H0.out⟩, BelS.refl _ _, Axl.refl _ _⟩
 · have hdf : s.down = false := by simpa using hdn
   by_cases hcr : s.calls + 1 = s.crash
   · have hA : asked s = ({ s with calls := s.calls + 1, down := true }, 9) := by unfold asked; rw [if_neg hdn, if_pos hcr]
     rw [hA]
     rw [hdf] at hc7
     have HA := Bvh hA
     have hce : (s.calls + 1 == s.crash) = true := by simpa using hcr
     have hk0 : RepAt B g { s with calls := s.calls + 1 } (w.setCell ⟨g, 2, none⟩ (.int .i64 (s.calls + 1))) mv sv pv := H1.out
     have HKP : Aside0 (Axl g w (w.setCell ⟨g, 2, none⟩ (.int .i64 (s.calls + 1)))) := ⟨(Axl.refl g w).setCell 2 _⟩
     have HBB : Aside0 (BelS B w (w.setCell ⟨g, 2, none⟩ (.int .i64 (s.calls + 1)))) := ⟨Aqz (BelS.refl _ _) hgB.out 2 _⟩
     clear ha hdn hdf hA hcr hk0
     go_enter Try.func90, Try.ntmps90
     go_wp2_with fail
     generalize w.setCell ⟨g, 2, none⟩ (.int .i64 (s.calls + 1)) = w1 at hd0 hd1 hd2 hd7 hgr7 H1 HKP HBB ⊢
     go_region_held3 (fun w' => w'.cell? ⟨g, 1, none⟩ = some (.int .i64 s.crash) ∧ w'.cell? ⟨g, 2, none⟩ = some (.int .i64 (s.calls + 1))) (go_keep) (first | fail)
     go_wp2
     go_ret
     refine ⟨rfl, ⟨mv, sv, pv, H1.out.downed.below (Aq5 (Below.refl _ _))⟩, ?_, ?_⟩
     · exact Azh (Aqz HBB.out hgB.out 7 _)
     · exact (HKP.out.setCell 7 _).trans (Axl.of_below (Aq5 (Below.refl _ _)))
   · have hfa : s.calls + 1 ∈ s.fails := by
      apply Classical.byContradiction
      intro hn
      apply ha
      unfold asked
      rw [if_neg hdn, if_neg hcr, if_neg hn]
     have hA : asked s = ({ s with calls := s.calls + 1 }, 7) := by unfold asked; rw [if_neg hdn, if_neg hcr, if_pos hfa]
     rw [hA]
     rw [hdf] at hc7
     have hce : (s.calls + 1 == s.crash) = false := by simpa using hcr
     have hfd : decide (s.calls + 1 ∈ s.fails) = true := decide_eq_true hfa
     have hwf : (Lit.int .i64 (s.calls + 1)).wf = true := by simp [Lit.wf, IntKind.min, IntKind.max, IntKind.signed, IntKind.bits]; omega
     have HLK : Aside0 (∀ n, (Instr.lookup 101 mv (.int .i64 (s.calls + 1)) false).run Try.prog ((w.setCell ⟨g, 2, none⟩ (.int .i64 (s.calls + 1))).drewN n) = .ok (.bool true) ((w.setCell ⟨g, 2, none⟩ (.int .i64 (s.calls + 1))).drewN n)) := ⟨fun n => by
      have := (H1.out.below (Aq7 (Below.refl _ _) n)).map.look (s.calls + 1) hwf
      rw [hfd] at this
      exact this⟩
     have HKP : Aside0 (Axl g w (w.setCell ⟨g, 2, none⟩ (.int .i64 (s.calls + 1)))) := ⟨(Axl.refl g w).setCell 2 _⟩
     have HBB : Aside0 (BelS B w (w.setCell ⟨g, 2, none⟩ (.int .i64 (s.calls + 1)))) := ⟨Aqz (BelS.refl _ _) hgB.out 2 _⟩
     clear ha hdn hdf hA hcr hfa hfd hwf
     go_enter Try.func90, Try.ntmps90
     go_wp2_with fail
     generalize w.setCell ⟨g, 2, none⟩ (.int .i64 (s.calls + 1)) = w1 at hd0 hd1 hd2 hd7 hgr7 H1 HKP HBB HLK ⊢
     go_region_held3 (fun w' => w'.cell? ⟨g, 1, none⟩ = some (.int .i64 s.crash) ∧ w'.cell? ⟨g, 2, none⟩ = some (.int .i64 (s.calls + 1))) (go_keep) (first | fail)
     go_wp2_with fail
     have hlk : (Instr.lookup 101 mv (.int .i64 (s.calls + 1)) false).run Try.prog w1.drew.drew = .ok (.bool true) w1.drew.drew := HLK.out 2
     go_region_held3 (fun w' => w'.cell? ⟨g, 0, none⟩ = some mv ∧ w'.cell? ⟨g, 2, none⟩ = some (.int .i64 (s.calls + 1))) (go_keep) (first | fail)
     go_wp2
     go_ret
     refine ⟨rfl, ⟨mv, sv, pv, H1.out.below (Aq7 (Below.refl _ _) 2)⟩, ?_, ?_⟩
     · exact Azh (Azh HBB.out)
     · exact HKP.out.trans (Axl.of_below (Aq7 (Below.refl _ _) 2))
theorem Bv8 (b0 b1 : Nat) (R : Int → World → Prop) {mv sv pv : Value} (h : RepAt B g s w mv sv pv) (hf : Fit s) (ha : (asked s).2 = 0)
 (hclo : ∀ w1, RepAt B g (asked s).1 w1 mv sv pv → BelS B w w1 → Axl g w w1 → Calls Try.prog 91 #[.pointer (some ⟨b0, 0, none⟩), .pointer (some ⟨b1, 0, none⟩)] w1 fun e w' => ∃ r, e = .returned (.int .i64 r) ∧ R r w') :
 Calls Try.prog 90 #[.pointer (some ⟨g, 0, none⟩), .func (.func 91) #[] #[.pointer (some ⟨b0, 0, none⟩), .pointer (some ⟨b1, 0, none⟩)]] w fun e w' => ∃ r, e = .returned (.int .i64 r) ∧ R r w' := by
 obtain ⟨hc0, hc1, hc2, _, _, _, _, hc7⟩ := h.cells
 have hfr2 := h.free 2
 have hcl0 := hf.calls0
 have hcl1 := hf.calls1
 have H0 := Bvh h
 have h1 := h.called
 obtain ⟨hd0, hd1, hd2, _, _, _, _, hd7⟩ := h1.cells
 have hgr7 := h1.free 7
 have H1 := Bvh h1
 have hgB := Bvh h.hg
 clear h h1 hf
 have hdn : ¬ s.down = true := by
  intro hd
  unfold asked at ha
  rw [if_pos hd] at ha
  simp at ha
 have hdf : s.down = false := by simpa using hdn
 have hcr : ¬ s.calls + 1 = s.crash := by
  intro hc
  unfold asked at ha
  rw [if_neg hdn, if_pos hc] at ha
  simp at ha
 have hfa : ¬ s.calls + 1 ∈ s.fails := by
  intro hc
  unfold asked at ha
  rw [if_neg hdn, if_neg hcr, if_pos hc] at ha
  simp at ha
 have hA : asked s = ({ s with calls := s.calls + 1 }, 0) := by unfold asked; rw [if_neg hdn, if_neg hcr, if_neg hfa]
 rw [hA] at hclo
 rw [hdf] at hc7
 have HCLO := Bvh hclo
 have hce : (s.calls + 1 == s.crash) = false := by simpa using hcr
 have hfd : decide (s.calls + 1 ∈ s.fails) = false := decide_eq_false hfa
 have hwf : (Lit.int .i64 (s.calls + 1)).wf = true := by simp [Lit.wf, IntKind.min, IntKind.max, IntKind.signed, IntKind.bits]; omega
 have HLK : Aside0 (∀ n, (Instr.lookup 101 mv (.int .i64 (s.calls + 1)) false).run Try.prog ((w.setCell ⟨g, 2, none⟩ (.int .i64 (s.calls + 1))).drewN n) = .ok (.bool false) ((w.setCell ⟨g, 2, none⟩ (.int .i64 (s.calls + 1))).drewN n)) := ⟨fun n => by
  have := (H1.out.below (Aq7 (Below.refl _ _) n)).map.look (s.calls + 1) hwf
  rw [hfd] at this
  exact this⟩
 have HKP : Aside0 (Axl g w (w.setCell ⟨g, 2, none⟩ (.int .i64 (s.calls + 1)))) := ⟨(Axl.refl g w).setCell 2 _⟩
 have HBB : Aside0 (BelS B w (w.setCell ⟨g, 2, none⟩ (.int .i64 (s.calls + 1)))) := ⟨Aqz (BelS.refl _ _) hgB.out 2 _⟩
 clear ha hdn hdf hA hcr hfa hfd hwf hclo
 go_enter Try.func90, Try.ntmps90
 go_wp2_with fail
 generalize w.setCell ⟨g, 2, none⟩ (.int .i64 (s.calls + 1)) = w1 at hd0 hd1 hd2 hd7 hgr7 H1 HKP HBB HLK ⊢
 go_region_held3 (fun w' => w'.cell? ⟨g, 1, none⟩ = some (.int .i64 s.crash) ∧ w'.cell? ⟨g, 2, none⟩ = some (.int .i64 (s.calls + 1))) (go_keep) (first | fail)
 go_wp2_with fail
 have hlk : (Instr.lookup 101 mv (.int .i64 (s.calls + 1)) false).run Try.prog w1.drew.drew = .ok (.bool false) w1.drew.drew := HLK.out 2
 go_region_held3 (fun w' => w'.cell? ⟨g, 0, none⟩ = some mv ∧ w'.cell? ⟨g, 2, none⟩ = some (.int .i64 (s.calls + 1))) (go_keep) (first | fail)
 go_wp2_with (go_at_call 91; refine (HCLO.out _ (H1.out.below (Aq7 (Below.refl _ _) 2)) (Azh (Azh HBB.out)) (HKP.out.trans (Axl.of_below (Aq7 (Below.refl _ _) 2)))).mono ?_; rintro e w2 ⟨r, rfl, hR⟩; have HR := Bvh hR; clear hR)
 go_ret
 exact ⟨r, rfl, HR.out⟩
theorem Ajk (b0 b1 b2 : Nat) (R : Int → World → Prop) {mv sv pv : Value} (h : RepAt B g s w mv sv pv) (hf : Fit s) (ha : (asked s).2 = 0)
 (hclo : ∀ w1, RepAt B g (asked s).1 w1 mv sv pv → BelS B w w1 → Axl g w w1 → Calls Try.prog 93 #[.pointer (some ⟨b0, 0, none⟩), .pointer (some ⟨b1, 0, none⟩), .pointer (some ⟨b2, 0, none⟩)] w1 fun e w' => ∃ r, e = .returned (.int .i64 r) ∧ R r w') :
 Calls Try.prog 90 #[.pointer (some ⟨g, 0, none⟩), .func (.func 93) #[] #[.pointer (some ⟨b0, 0, none⟩), .pointer (some ⟨b1, 0, none⟩), .pointer (some ⟨b2, 0, none⟩)]] w fun e w' => ∃ r, e = .returned (.int .i64 r) ∧ R r w' := by
 obtain ⟨hc0, hc1, hc2, _, _, _, _, hc7⟩ := h.cells
 have hfr2 := h.free 2
 have hcl0 := hf.calls0
 have hcl1 := hf.calls1
 have H0 := Bvh h
 have h1 := h.called
 obtain ⟨hd0, hd1, hd2, _, _, _, _, hd7⟩ := h1.cells
 have hgr7 := h1.free 7
 have H1 := Bvh h1
 have hgB := Bvh h.hg
 clear h h1 hf
 have hdn : ¬ s.down = true := by
  intro hd
  unfold asked at ha
  rw [if_pos hd] at ha
  simp at ha
 have hdf : s.down = false := by simpa using hdn
 have hcr : ¬ s.calls + 1 = s.crash := by
  intro hc
  unfold asked at ha
  rw [if_neg hdn, if_pos hc] at ha
  simp at ha
 have hfa : ¬ s.calls + 1 ∈ s.fails := by
  intro hc
  unfold asked at ha
  rw [if_neg hdn, if_neg hcr, if_pos hc] at ha
  simp at ha
 have hA : asked s = ({ s with calls := s.calls + 1 }, 0) := by unfold asked; rw [if_neg hdn, if_neg hcr, if_neg hfa]
 rw [hA] at hclo
 rw [hdf] at hc7
 have HCLO := Bvh hclo
 have hce : (s.calls + 1 == s.crash) = false := by simpa using hcr
 have hfd : decide (s.calls + 1 ∈ s.fails) = false := decide_eq_false hfa
 have hwf : (Lit.int .i64 (s.calls + 1)).wf = true := by simp [Lit.wf, IntKind.min, IntKind.max, IntKind.signed, IntKind.bits]; omega
 have HLK : Aside0 (∀ n, (Instr.lookup 101 mv (.int .i64 (s.calls + 1)) false).run Try.prog ((w.setCell ⟨g, 2, none⟩ (.int .i64 (s.calls + 1))).drewN n) = .ok (.bool false) ((w.setCell ⟨g, 2, none⟩ (.int .i64 (s.calls + 1))).drewN n)) := ⟨fun n => by
  have := (H1.out.below (Aq7 (Below.refl _ _) n)).map.look (s.calls + 1) hwf
  rw [hfd] at this
  exact this⟩
 have HKP : Aside0 (Axl g w (w.setCell ⟨g, 2, none⟩ (.int .i64 (s.calls + 1)))) := ⟨(Axl.refl g w).setCell 2 _⟩
 have HBB : Aside0 (BelS B w (w.setCell ⟨g, 2, none⟩ (.int .i64 (s.calls + 1)))) := ⟨Aqz (BelS.refl _ _) hgB.out 2 _⟩
 clear ha hdn hdf hA hcr hfa hfd hwf hclo
 go_enter Try.func90, Try.ntmps90
 go_wp2_with fail
 generalize w.setCell ⟨g, 2, none⟩ (.int .i64 (s.calls + 1)) = w1 at hd0 hd1 hd2 hd7 hgr7 H1 HKP HBB HLK ⊢
 go_region_held3 (fun w' => w'.cell? ⟨g, 1, none⟩ = some (.int .i64 s.crash) ∧ w'.cell? ⟨g, 2, none⟩ = some (.int .i64 (s.calls + 1))) (go_keep) (first | fail)
 go_wp2_with fail
 have hlk : (Instr.lookup 101 mv (.int .i64 (s.calls + 1)) false).run Try.prog w1.drew.drew = .ok (.bool false) w1.drew.drew := HLK.out 2
 go_region_held3 (fun w' => w'.cell? ⟨g, 0, none⟩ = some mv ∧ w'.cell? ⟨g, 2, none⟩ = some (.int .i64 (s.calls + 1))) (go_keep) (first | fail)
 go_wp2_with (go_at_call 93; refine (HCLO.out _ (H1.out.below (Aq7 (Below.refl _ _) 2)) (Azh (Azh HBB.out)) (HKP.out.trans (Axl.of_below (Aq7 (Below.refl _ _) 2)))).mono ?_; rintro e w2 ⟨r, rfl, hR⟩; have HR := Bvh hR; clear hR)
 go_ret
 exact ⟨r, rfl, HR.out⟩
theorem Bv7 (b0 b1 : Nat) (R : Int → World → Prop) {mv sv pv : Value} (h : RepAt B g s w mv sv pv) (hf : Fit s) (ha : (asked s).2 = 0)
 (hclo : ∀ w1, RepAt B g (asked s).1 w1 mv sv pv → BelS B w w1 → Axl g w w1 → Calls Try.prog 97 #[.pointer (some ⟨b0, 0, none⟩), .pointer (some ⟨b1, 0, none⟩)] w1 fun e w' => ∃ r, e = .returned (.int .i64 r) ∧ R r w') :
 Calls Try.prog 90 #[.pointer (some ⟨g, 0, none⟩), .func (.func 97) #[] #[.pointer (some ⟨b0, 0, none⟩), .pointer (some ⟨b1, 0, none⟩)]] w fun e w' => ∃ r, e = .returned (.int .i64 r) ∧ R r w' := by
 obtain ⟨hc0, hc1, hc2, _, _, _, _, hc7⟩ := h.cells
 have hfr2 := h.free 2
 have hcl0 := hf.calls0
 have hcl1 := hf.calls1
 have H0 := Bvh h
 have h1 := h.called
 obtain ⟨hd0, hd1, hd2, _, _, _, _, hd7⟩ := h1.cells
 have hgr7 := h1.free 7
 have H1 := Bvh h1
 have hgB := Bvh h.hg
 clear h h1 hf
 have hdn : ¬ s.down = true := by
  intro hd
  unfold asked at ha
  rw [if_pos hd] at ha
  simp at ha
 have hdf : s.down = false := by simpa using hdn
 have hcr : ¬ s.calls + 1 = s.crash := by
  intro hc
  unfold asked at ha
  rw [if_neg hdn, if_pos hc] at ha
  simp at ha
 have hfa : ¬ s.calls + 1 ∈ s.fails := by
  intro hc
  unfold asked at ha
  rw [if_neg hdn, if_neg hcr, if_pos hc] at ha
  simp at ha
 have hA : asked s = ({ s with calls := s.calls + 1 }, 0) := by unfold asked; rw [if_neg hdn, if_neg hcr, if_neg hfa]
 rw [hA] at hclo
 rw [hdf] at hc7
 have HCLO := Bvh hclo
 have hce : (s.calls + 1 == s.crash) = false := by simpa using hcr
 have hfd : decide (s.calls + 1 ∈ s.fails) = false := decide_eq_false hfa
 have hwf : (Lit.int .i64 (s.calls + 1)).wf = true := by simp [Lit.wf, IntKind.min, IntKind.max, IntKind.signed, IntKind.bits]; omega
 have HLK : Aside0 (∀ n, (Instr.lookup 101 mv (.int .i64 (s.calls + 1)) false).run Try.prog ((w.setCell ⟨g, 2, none⟩ (.int .i64 (s.calls + 1))).drewN n) = .ok (.bool false) ((w.setCell ⟨g, 2, none⟩ (.int .i64 (s.calls + 1))).drewN n)) := ⟨fun n => by
  have := (H1.out.below (Aq7 (Below.refl _ _) n)).map.look (s.calls + 1) hwf
  rw [hfd] at this
  exact this⟩
 have HKP : Aside0 (Axl g w (w.setCell ⟨g, 2, none⟩ (.int .i64 (s.calls + 1)))) := ⟨(Axl.refl g w).setCell 2 _⟩
 have HBB : Aside0 (BelS B w (w.setCell ⟨g, 2, none⟩ (.int .i64 (s.calls + 1)))) := ⟨Aqz (BelS.refl _ _) hgB.out 2 _⟩
 clear ha hdn hdf hA hcr hfa hfd hwf hclo
 go_enter Try.func90, Try.ntmps90
 go_wp2_with fail
 generalize w.setCell ⟨g, 2, none⟩ (.int .i64 (s.calls + 1)) = w1 at hd0 hd1 hd2 hd7 hgr7 H1 HKP HBB HLK ⊢
 go_region_held3 (fun w' => w'.cell? ⟨g, 1, none⟩ = some (.int .i64 s.crash) ∧ w'.cell? ⟨g, 2, none⟩ = some (.int .i64 (s.calls + 1))) (go_keep) (first | fail)
 go_wp2_with fail
 have hlk : (Instr.lookup 101 mv (.int .i64 (s.calls + 1)) false).run Try.prog w1.drew.drew = .ok (.bool false) w1.drew.drew := HLK.out 2
 go_region_held3 (fun w' => w'.cell? ⟨g, 0, none⟩ = some mv ∧ w'.cell? ⟨g, 2, none⟩ = some (.int .i64 (s.calls + 1))) (go_keep) (first | fail)
 go_wp2_with (go_at_call 97; refine (HCLO.out _ (H1.out.below (Aq7 (Below.refl _ _) 2)) (Azh (Azh HBB.out)) (HKP.out.trans (Axl.of_below (Aq7 (Below.refl _ _) 2)))).mono ?_; rintro e w2 ⟨r, rfl, hR⟩; have HR := Bvh hR; clear hR)
 go_ret
 exact ⟨r, rfl, HR.out⟩
end
end
section
def VarP (w : World) (b g : Nat) : Prop := w.heap[b]? = some (.cells #[.pointer (some ⟨g, 0, none⟩)] 58 (0, 0))
theorem VarP.below {w w1 : World} {b g : Nat} (h : VarP w b g) (hb : Below w.heap.size w w1) : VarP w1 b g := Aqn hb h
theorem VarP.cell {w : World} {b g : Nat} (h : VarP w b g) : w.cell? ⟨b, 0, none⟩ = some (.pointer (some ⟨g, 0, none⟩)) := by
 rw [cell_of_row w b 0 _ 58 (0, 0) h]; rfl
theorem Akx {w : World} {a b t u : Nat} {cs ds : Array Value} {f f' : Nat × Nat} (ha : w.heap[a]? = some (Obj.cells cs t f)) (hb : w.heap[b]? = some (Obj.cells ds u f')) (h : t ≠ u) : a ≠ b := fun he => by
 subst he
 rw [ha] at hb
 injection hb with hb
 injection hb with _ hb
 exact h hb
theorem Aqt {w w1 : World} {g b t : Nat} {cs : Array Value} {f : Nat × Nat} (h : w.heap[b]? = some (Obj.cells cs t f)) (hk : Axl g w w1) (hne : b ≠ g) : w1.heap[b]? = some (Obj.cells cs t f) := (hk.2 b (Ax7 h) hne).trans h
section
variable {B : Nat → Prop} {g : Nat} {s : SSt} {w w1 : World} {mv sv pv : Value}
theorem RepAt.pend_ne (h : RepAt B g s w mv sv pv) : pv.ownBlock ≠ some g := fun he => by
 obtain ⟨_, hp, _⟩ := h.pend
 obtain ⟨cells, hc⟩ := Azu hp g he
 rw [h.blk] at hc
 injection hc with hc
 injection hc with _ hc
 exact absurd hc (by decide)
theorem O_ne {v : Value} {xs : List S31} {ok : Nat → Prop} {b t : Nat} {cs : Array Value} {f : Nat × Nat} (h : O k31 31 w 0 ok v xs) (hb : w.heap[b]? = some (Obj.cells cs t f)) (ht : t ≠ 31) : v.ownBlock ≠ some b := fun he => by
 obtain ⟨_, hp, _⟩ := h
 obtain ⟨cells, hc⟩ := Azu hp b he
 rw [hb] at hc
 injection hc with hc
 injection hc with _ hc
 exact ht hc
theorem RepAt.poke {s' : SSt} {sv' pv' mv' : Value} {cs : Array Value} (hg : B g) (hb : w.heap[g]? = some (Obj.cells cs 106 (0, 0))) (hm : Ajy w B mv' s'.fails) (hv : Kd.V k38 38 w 0 (fun k => k ≠ g ∧ some k ≠ pv'.ownBlock) sv' s'.safe) (ho : O k31 31 w 0 (fun k => k ≠ g) pv' s'.pend)
 (hown : ∀ k, pv'.ownBlock = some k → B k) (j : Nat) (u : Value) (hcs : cs.setIfInBounds j u = #[mv', .int .i64 s'.crash, .int .i64 s'.calls, sv', pv', .int .i64 s'.quota, .int .i64 s'.peak, .bool s'.down]) : RepAt B g s' (w.setCell ⟨g, j, none⟩ u) mv' sv' pv' := by
 have hk : ∀ k, k < w.heap.size → k ≠ g → (w.setCell ⟨g, j, none⟩ u).heap[k]? = w.heap[k]? := fun k _ hk => Below.heap_setCell _ _ _ _ hk
 have hpg : pv'.ownBlock ≠ some g := fun he => by
  obtain ⟨_, hp, _⟩ := ho
  obtain ⟨cells, hc⟩ := Azu hp g he
  rw [hb] at hc
  injection hc with hc
  injection hc with _ hc
  exact absurd hc (by decide)
 refine ⟨hg, ?_, hm.move ⟨_, _, _, hb⟩ hk, Kd.V_step hv (fun k h1 hlt => hk k hlt h1.1), Bve ho (fun k hlt h1 => hk k hlt (h1.elim id (fun he hg => hpg (by rw [he, hg])))), hown⟩
 rw [← hcs]
 exact Axb hb j u
theorem RepAt.setSafe {v : Value} {l : List S38} (h : RepAt B g s w mv sv pv) (hv : Kd.V k38 38 w 0 (fun k => k ≠ g ∧ some k ≠ pv.ownBlock) v l) : RepAt B g { s with safe := l } (w.setCell ⟨g, 3, none⟩ v) mv v pv :=
 RepAt.poke (s' := { s with safe := l }) h.hg h.blk h.map hv h.pend h.own 3 v rfl
theorem RepAt.setPend {v : Value} {l : List S31} (h : RepAt B g s w mv sv pv) (ho : O k31 31 w1 0 (fun k => k ≠ g) v l) (hgr : w.grownBy w1 pv.ownBlock) (hat : v.ownBlock = pv.ownBlock ∨ ∃ b, v.ownBlock = some b ∧ w.heap.size ≤ b ∧ B b) : RepAt B g { s with pend := l } (w1.setCell ⟨g, 4, none⟩ v) mv sv v := by
 have hb : w1.heap[g]? = some (.cells #[mv, .int .i64 s.crash, .int .i64 s.calls, sv, pv, .int .i64 s.quota, .int .i64 s.peak, .bool s.down] 106 (0, 0)) := (hgr.block g (Ax7 h.blk) (fun he => h.pend_ne he.symm)).trans h.blk
 refine RepAt.poke (s' := { s with pend := l }) h.hg hb ?_ (Kd.V_after h.safe hgr (hat.imp id (fun ⟨b, h1, h2, _⟩ => ⟨b, h1, h2⟩))) ho (fun k hk => hat.elim (fun e => h.own k (e ▸ hk)) (fun ⟨b, e, _, hb⟩ => by rw [e] at hk; injection hk with hk; exact hk ▸ hb)) 4 v rfl
 rcases h.map with hm | ⟨b, n, D, h1, h2, h3, h4, h5⟩
 · exact .inl hm
 · refine .inr ⟨b, n, D, h1, h2, h3, ?_, h5⟩
   obtain ⟨es, clock, h6, h7⟩ := h4
   refine ⟨es, clock, (hgr.block b (Ax7 h6) (fun he => ?_)).trans h6, h7⟩
   obtain ⟨_, hp, _⟩ := h.pend
   obtain ⟨cells, hc⟩ := Azu hp b he.symm
   rw [h6] at hc
   cases hc
theorem RepAt.fresh (h : RepAt B g s w mv sv pv) {k : Nat} (hk : w.heap.size ≤ k) : k ≠ g ∧ some k ≠ pv.ownBlock := by
 have hg := Ax7 h.blk
 refine ⟨by omega, fun he => ?_⟩
 obtain ⟨_, hp, _⟩ := h.pend
 have := Ava hp k he.symm
 omega
theorem VarP.set {b j : Nat} {u : Value} {cs : Array Value} (h : VarP w b g) (hg : w.heap[g]? = some (Obj.cells cs 106 (0, 0))) : VarP (w.setCell ⟨g, j, none⟩ u) b g :=
 (Below.heap_setCell _ _ _ _ (Akx h hg (by decide))).trans h
theorem VarS.set {b j : Nat} {u : Value} {cs : Array Value} {name : ByteArray} (h : VarS w b name) (hg : w.heap[g]? = some (Obj.cells cs 106 (0, 0))) : VarS (w.setCell ⟨g, j, none⟩ u) b name :=
 (Below.heap_setCell _ _ _ _ (Akx h hg (by decide))).trans h
theorem Av0 (name : ByteArray) (w : World) : Calls Try.prog 76 #[.string name] w fun e w' => e = .returned (.func (.func 95) #[] #[.pointer (some ⟨w.heap.size, 0, none⟩)]) ∧ VarS w' w.heap.size name ∧ Below w.heap.size w w' := by
 have hv : VarS (w.alloc (.cells #[.string name] 9)) w.heap.size name := heap_alloc_new _ _
 have HV := Bvh hv
 clear hv
 go_enter Try.func76, Try.ntmps76
 go_wp2
 go_ret
 exact ⟨rfl, HV.out, Aq4 (Below.refl _ _) _⟩
def Bxr (s : SSt) (name : ByteArray) : SSt := { s with safe := Az0 (fun _ => -1) 0 s.safe (s.pend.filter fun x => !othW name x), pend := s.pend.filter fun x => !ownW name x }
def Bjp (s : SSt) (name : ByteArray) : SSt := { s with safe := s.safe.filter fun x => !Ax8 name x, pend := s.pend.filter fun x => !ownW name x }
theorem Bzb (name : ByteArray) (v0 : Value) (b0 b1 : Nat) (h : Rep B g s w) (hf : Fit s) (hBw : Up B w.heap.size) (hp : VarP w b0 g) (hn : VarS w b1 name) :
 Calls Try.prog 96 #[v0, .pointer (some ⟨b0, 0, none⟩), .pointer (some ⟨b1, 0, none⟩)] w fun e w' => ∃ r, e = .returned (.int .i64 r) ∧ r = 0 ∧ Rep B g (Bjp s name) w' ∧ BelS B w w' := by
 obtain ⟨mv, sv, pv, h⟩ := h
 obtain ⟨As, cs, rfl⟩ := Kd.V_slice h.safe
 obtain ⟨Ap, cp, rfl⟩ := Az1 h.pend
 have hlen := hf.len
 go_enter Try.func96, Try.ntmps96
 go_wp2_with fail
 refine Ak8 (n := 10) (S := (fun w' => w'.cell? ⟨b0, 0, none⟩ = some (.pointer (some ⟨g, 0, none⟩)) ∧ w'.cell? ⟨b1, 0, none⟩ = some (.string name) ∧ w'.cell? ⟨g, 3, none⟩ = some (.slice As s.safe.length cs))) (ds := [9]) #[false, false, false, false, false, false, false, false, false, false] (by kernel_rfl) rfl rfl ⟨(hp.below (Aq5 (Below.refl _ _))).cell, (hn.below (Aq5 (Below.refl _ _))).cell, (h.below (Aq5 (Below.refl _ _))).cells.2.2.2.1⟩ (fun hHeld => ?_)
 refine take_ (i := 0) (N := some 5) (v := ?_) (a' := ?_) #[true, false, false, false, false, false, false, false, false, false] rfl rfl (by kernel_rfl) (fun _ _ _ h => h) (Or.inl ⟨by rfl, ?_⟩) hHeld ?_ ?_
 rotate_left
 · rintro w' ⟨s0, s1, s2⟩
   go_simp
   with_reducible rfl
 rotate_left
 · simp only [Act.put, Bvi, Bvj, Bvk, Aqv, Aqw]
   rfl
 refine take_ (i := 1) (N := some 6) (v := ?_) (a' := ?_) #[true, true, false, false, false, false, false, false, false, false] rfl rfl (by kernel_rfl) (fun _ _ _ h => h) (Or.inl ⟨by rfl, ?_⟩) hHeld ?_ ?_
 rotate_left
 · rintro w' ⟨s0, s1, s2⟩
   go_simp
   with_reducible rfl
 rotate_left
 · simp only [Act.put, Bvi, Bvj, Bvk, Aqv, Aqw]
   rfl
 refine Axh (i := 2) (N := some 7) (v := ?_) (a' := ?_) #[true, true, true, false, false, false, false, false, false, false] rfl rfl (by kernel_rfl) (fun _ _ _ h => h) (Or.inl ⟨by rfl, ?_⟩) ?_ ?_
 rotate_left
 · intro w'
   go_simp
   with_reducible rfl
 rotate_left
 · simp only [Act.put, Bvi, Bvj, Bvk, Aqv, Aqw]
   rfl
 refine Axh (i := 3) (N := some 8) (v := ?_) (a' := ?_) #[true, true, true, true, false, false, false, false, false, false] rfl rfl (by kernel_rfl) (fun _ _ _ h => h) (Or.inl ⟨by rfl, ?_⟩) ?_ ?_
 rotate_left
 · intro w'
   go_simp
   with_reducible rfl
 rotate_left
 · simp only [Act.put, Bvi, Bvj, Bvk, Aqv, Aqw]
   rfl
 refine take_ (i := 4) (N := some 9) (v := ?_) (a' := ?_) #[true, true, true, true, true, false, false, false, false, false] rfl rfl (by kernel_rfl) (fun _ _ _ h => h) (Or.inl ⟨by rfl, ?_⟩) hHeld ?_ ?_
 rotate_left
 · rintro w' ⟨s0, s1, s2⟩
   go_simp
   with_reducible rfl
 rotate_left
 · simp only [Act.put, Bvi, Bvj, Bvk, Aqv, Aqw]
   rfl
 refine take_ (i := 5) (N := some 10) (v := ?_) (a' := ?_) #[true, true, true, true, true, true, false, false, false, false] rfl rfl (by kernel_rfl) (fun _ _ _ h => h) (Or.inl ⟨by rfl, ?_⟩) hHeld ?_ ?_
 rotate_left
 · rintro w' ⟨s0, s1, s2⟩
   go_simp
   with_reducible rfl
 rotate_left
 · simp only [Act.put, Bvi, Bvj, Bvk, Aqv, Aqw]
   rfl
 refine one_ (i := 6) (N := some 11) #[true, true, true, true, true, true, true, false, false, false] rfl rfl (by kernel_rfl) (by decide) (fun K hK => ?_)
 refine Avn Try.func25 (by kernel_rfl) rfl #[.slice As s.safe.length cs, .string name] (by rfl) rfl rfl (by (try simp only [List.map_toArray, List.map_cons, List.map_nil]); first | done | rfl) ?_
 refine (Azb.calls (fun k => k ≠ g ∧ some k ≠ (Value.slice Ap s.pend.length cp).ownBlock) As cs s.safe name (s.safe.filter fun x => !Ax8 name x) _ (Azn (Kd.V_drew h.safe)) (by unfold Azb.f; rw [if_pos (by omega)])).mono ?_
 rintro e w5 ⟨v5, rfl, hV5, hb5⟩
 refine ⟨_, rfl, ?_⟩
 have hb05 : Below w.heap.size w w5 := Aq1 (Aq5 (Below.refl _ _)) hb5
 refine hK.out _ _ ⟨(hp.below hb05).cell, (hn.below hb05).cell, (h.below hb05).cells.2.2.2.1⟩ (fun hHeld => ?_)
 have hR5 := h.below hb05
 clear hK K
 refine Avb (a' := ?_) ?_ ?_
 rotate_left
 · show Act.put _ (some 11) _ = _
   simp only [Act.put, Bvi, Bvj, Bvk, Aqv, Aqw]
   rfl
 refine Axh (i := 7) (N := some 12) (v := ?_) (a' := ?_) #[true, true, true, true, true, true, true, true, false, false] rfl rfl (by kernel_rfl) (fun _ _ _ h => h) (Or.inl ⟨by rfl, ?_⟩) ?_ ?_
 rotate_left
 · intro w'
   go_simp
   with_reducible rfl
 rotate_left
 · simp only [Act.put, Bvi, Bvj, Bvk, Aqv, Aqw]
   rfl
 refine Axh (i := 8) (N := some 13) (v := ?_) (a' := ?_) #[true, true, true, true, true, true, true, true, true, false] rfl rfl (by kernel_rfl) (fun _ _ _ h => h) (Or.inl ⟨by rfl, ?_⟩) ?_ ?_
 rotate_left
 · intro w'
   go_simp
   with_reducible rfl
 rotate_left
 · simp only [Act.put, Bvi, Bvj, Bvk, Aqv, Aqw]
   rfl
 refine Awj (i := 9) (N := none) #[true, true, true, true, true, true, true, true, true, true] rfl rfl (by kernel_rfl) (by decide) (fun K hK => ?_)
 have hfr := Aq2 hR5.blk 3
 have hcl := hR5.cells.2.2.2.1
 obtain ⟨A5, c5, rfl⟩ := Kd.V_slice hV5
 refine Avl (w1 := ?_) (by rfl) rfl ?_ ?_
 rotate_left
 · go_simp
   rfl
 refine hK.out _ _ ?_
 clear hK K
 refine Awn (by kernel_rfl) ?_
 have hv5 : Kd.V k38 38 w5 0 (fun k => k ≠ g ∧ some k ≠ (Value.slice Ap s.pend.length cp).ownBlock) (.slice A5 (s.safe.filter fun x => !Ax8 name x).length c5) (s.safe.filter fun x => !Ax8 name x) := Azn (Kd.V_mono hV5 (fun k hk => hk.elim id (fun hk => h.fresh hk)))
 have hR := hR5.setSafe hv5
 have hVP := (hp.below hb05).set (j := 3) (u := (.slice A5 (s.safe.filter fun x => !Ax8 name x).length c5)) hR5.blk
 have hVS := (hn.below hb05).set (j := 3) (u := (.slice A5 (s.safe.filter fun x => !Ax8 name x).length c5)) hR5.blk
 have hBB : BelS B w (w5.setCell ⟨g, 3, none⟩ (.slice A5 (s.safe.filter fun x => !Ax8 name x).length c5)) := Aqz (Aqk hBw hb05) h.hg 3 _
 have hBW : Up B (w5.setCell ⟨g, 3, none⟩ (.slice A5 (s.safe.filter fun x => !Ax8 name x).length c5)).heap.size := Up.le hBw hBB.size
 have hPL : s.pend.length ≤ 1000001 := by omega
 go_wp2_with fail
 clear hfr hcl hHeld
 generalize w5.setCell ⟨g, 3, none⟩ (.slice A5 (s.safe.filter fun x => !Ax8 name x).length c5) = w6 at hR hVP hVS hBB hBW ⊢
 obtain ⟨s1, hs1⟩ : ∃ s1 : SSt, s1 = { s with safe := s.safe.filter fun x => !Ax8 name x } := ⟨_, rfl⟩
 rw [← hs1] at hR
 have hpl1 : s1.pend = s.pend := by rw [hs1]
 rw [← hpl1] at hPL
 refine Ak8 (n := 11) (S := (fun w' => w'.cell? ⟨b0, 0, none⟩ = some (.pointer (some ⟨g, 0, none⟩)) ∧ w'.cell? ⟨b1, 0, none⟩ = some (.string name) ∧ w'.cell? ⟨g, 4, none⟩ = some (.slice Ap s.pend.length cp))) (ds := [10]) #[false, false, false, false, false, false, false, false, false, false, false] (by kernel_rfl) rfl rfl ⟨(hVP.below (Aq5 (Below.refl _ _))).cell, (hVS.below (Aq5 (Below.refl _ _))).cell, (hR.below (Aq5 (Below.refl _ _))).cells.2.2.2.2.1⟩ (fun hHeld => ?_)
 refine take_ (i := 0) (N := some 14) (v := ?_) (a' := ?_) #[true, false, false, false, false, false, false, false, false, false, false] rfl rfl (by kernel_rfl) (fun _ _ _ h => h) (Or.inl ⟨by rfl, ?_⟩) hHeld ?_ ?_
 rotate_left
 · rintro w' ⟨s0, s1, s2⟩
   go_simp
   with_reducible rfl
 rotate_left
 · simp only [Act.put, Bvi, Bvj, Bvk, Aqv, Aqw]
   rfl
 refine take_ (i := 1) (N := some 15) (v := ?_) (a' := ?_) #[true, true, false, false, false, false, false, false, false, false, false] rfl rfl (by kernel_rfl) (fun _ _ _ h => h) (Or.inl ⟨by rfl, ?_⟩) hHeld ?_ ?_
 rotate_left
 · rintro w' ⟨s0, s1, s2⟩
   go_simp
   with_reducible rfl
 rotate_left
 · simp only [Act.put, Bvi, Bvj, Bvk, Aqv, Aqw]
   rfl
 refine Axh (i := 2) (N := some 16) (v := ?_) (a' := ?_) #[true, true, true, false, false, false, false, false, false, false, false] rfl rfl (by kernel_rfl) (fun _ _ _ h => h) (Or.inl ⟨by rfl, ?_⟩) ?_ ?_
 rotate_left
 · intro w'
   go_simp
   with_reducible rfl
 rotate_left
 · simp only [Act.put, Bvi, Bvj, Bvk, Aqv, Aqw]
   rfl
 refine Axh (i := 3) (N := some 17) (v := ?_) (a' := ?_) #[true, true, true, true, false, false, false, false, false, false, false] rfl rfl (by kernel_rfl) (fun _ _ _ h => h) (Or.inl ⟨by rfl, ?_⟩) ?_ ?_
 rotate_left
 · intro w'
   go_simp
   with_reducible rfl
 rotate_left
 · simp only [Act.put, Bvi, Bvj, Bvk, Aqv, Aqw]
   rfl
 refine take_ (i := 4) (N := some 18) (v := ?_) (a' := ?_) #[true, true, true, true, true, false, false, false, false, false, false] rfl rfl (by kernel_rfl) (fun _ _ _ h => h) (Or.inl ⟨by rfl, ?_⟩) hHeld ?_ ?_
 rotate_left
 · rintro w' ⟨s0, s1, s2⟩
   go_simp
   with_reducible rfl
 rotate_left
 · simp only [Act.put, Bvi, Bvj, Bvk, Aqv, Aqw]
   rfl
 refine take_ (i := 5) (N := some 19) (v := ?_) (a' := ?_) #[true, true, true, true, true, true, false, false, false, false, false] rfl rfl (by kernel_rfl) (fun _ _ _ h => h) (Or.inl ⟨by rfl, ?_⟩) hHeld ?_ ?_
 rotate_left
 · rintro w' ⟨s0, s1, s2⟩
   go_simp
   with_reducible rfl
 rotate_left
 · simp only [Act.put, Bvi, Bvj, Bvk, Aqv, Aqw]
   rfl
 refine one_ (i := 6) (N := some 20) #[true, true, true, true, true, true, true, false, false, false, false] rfl rfl (by kernel_rfl) (by decide) (fun K hK => ?_)
 refine Avn Try.func76 (by kernel_rfl) rfl #[.string name] (by rfl) rfl rfl (by (try simp only [List.map_toArray, List.map_cons, List.map_nil]); first | done | rfl) ?_
 refine (Av0 name _).mono ?_
 rintro e w8 ⟨rfl, hv8, hb8⟩
 refine ⟨_, rfl, ?_⟩
 refine hK.out _ _ ⟨(hVP.below (Aq1 (Aq5 (Below.refl _ _)) hb8)).cell, (hVS.below (Aq1 (Aq5 (Below.refl _ _)) hb8)).cell, (hR.below (Aq1 (Aq5 (Below.refl _ _)) hb8)).cells.2.2.2.2.1⟩ (fun hHeld => ?_)
 have hR8 := hR.below (Aq1 (Aq5 (Below.refl _ _)) hb8)
 have hB8 : BelS B w w8 := Aqc hBB (Aqk hBW (Aq1 (Aq5 (Below.refl _ _)) hb8))
 have hVP8 := hVP.below (Aq1 (Aq5 (Below.refl _ _)) hb8)
 have hVS8 := hVS.below (Aq1 (Aq5 (Below.refl _ _)) hb8)
 clear hK K
 refine Avb (a' := ?_) ?_ ?_
 rotate_left
 · show Act.put _ (some 20) _ = _
   simp only [Act.put, Bvi, Bvj, Bvk, Aqv, Aqw]
   rfl
 refine one_ (i := 7) (N := some 21) #[true, true, true, true, true, true, true, true, false, false, false] rfl rfl (by kernel_rfl) (by decide) (fun K hK => ?_)
 refine Avn Try.func72 (by kernel_rfl) rfl #[.slice Ap s.pend.length cp, .func (.func 95) #[] #[.pointer (some ⟨w6.drew.heap.size, 0, none⟩)]] (by rfl) rfl rfl (by (try simp only [List.map_toArray, List.map_cons, List.map_nil]); first | done | rfl) ?_
 refine (Av3 (fun k => k ≠ g) 0 name _ (.slice Ap s.pend.length cp) s1.pend _ hR8.pend (Nat.zero_le _) hPL hv8).mono ?_
 rintro e w9 ⟨v9, rfl, hO9, hg9, ha9⟩
 refine ⟨_, rfl, ?_⟩
 have hP9 : ∀ b t (cs : Array Value) (f : Nat × Nat), w8.heap[b]? = some (Obj.cells cs t f) → t ≠ 31 → w9.heap[b]? = some (Obj.cells cs t f) := fun b t cs f hb ht => (hg9.block b (Ax7 hb) (fun he => O_ne hR8.pend hb ht he.symm)).trans hb
 refine hK.out _ _ ⟨VarP.cell (hP9 _ _ _ _ hVP8 (by decide)), VarS.cell (hP9 _ _ _ _ hVS8 (by decide)), by rw [cell_of_row w9 g _ _ 106 (0, 0) (hP9 _ _ _ _ hR8.blk (by decide))]; rfl⟩ (fun hHeld => ?_)
 have hR9 := hR8.setPend hO9 hg9 (.inl ha9)
 have hblk9 := hP9 _ _ _ _ hR8.blk (by decide)
 have hB9 : BelS B w w9 := Aqc hB8 ⟨hg9.os, hg9.tape, hg9.output, hg9.size, fun k hk hn => hg9.block k hk (fun he => hn (hR8.own k he.symm))⟩
 clear hK K
 refine Avb (a' := ?_) ?_ ?_
 rotate_left
 · show Act.put _ (some 21) _ = _
   simp only [Act.put, Bvi, Bvj, Bvk, Aqv, Aqw]
   rfl
 refine Axh (i := 8) (N := some 22) (v := ?_) (a' := ?_) #[true, true, true, true, true, true, true, true, true, false, false] rfl rfl (by kernel_rfl) (fun _ _ _ h => h) (Or.inl ⟨by rfl, ?_⟩) ?_ ?_
 rotate_left
 · intro w'
   go_simp
   with_reducible rfl
 rotate_left
 · simp only [Act.put, Bvi, Bvj, Bvk, Aqv, Aqw]
   rfl
 refine Axh (i := 9) (N := some 23) (v := ?_) (a' := ?_) #[true, true, true, true, true, true, true, true, true, true, false] rfl rfl (by kernel_rfl) (fun _ _ _ h => h) (Or.inl ⟨by rfl, ?_⟩) ?_ ?_
 rotate_left
 · intro w'
   go_simp
   with_reducible rfl
 rotate_left
 · simp only [Act.put, Bvi, Bvj, Bvk, Aqv, Aqw]
   rfl
 refine Awj (i := 10) (N := none) #[true, true, true, true, true, true, true, true, true, true, true] rfl rfl (by kernel_rfl) (by decide) (fun K hK => ?_)
 have hfr := Aq2 hblk9 4
 have hcl : w9.cell? ⟨g, 4, none⟩ = some (.slice Ap s.pend.length cp) := by rw [cell_of_row w9 g _ _ 106 (0, 0) hblk9]; rfl
 obtain ⟨A9, c9, rfl⟩ := Az1 hO9
 refine Avl (w1 := ?_) (by rfl) rfl ?_ ?_
 rotate_left
 · go_simp
   rfl
 refine hK.out _ _ ?_
 clear hK K
 refine Awn (by kernel_rfl) ?_
 have hgl := h.hg
 clear hfr hcl hHeld
 go_wp2_with fail
 all_goals go_ret
 exact ⟨0, rfl, rfl, ⟨mv, _, _, by rw [hs1] at hR9; exact hR9⟩, Aqz hB9 hgl 4 _⟩
theorem not_oth (name : ByteArray) (x : S31) : (!othW name x) = ownW name x := by
 unfold othW ownW
 cases h : (x.f0.toList == name.toList) <;> simp [bne, h]
theorem Bxs (name : ByteArray) (v0 : Value) (b0 b1 : Nat) (h : Rep B g s w) (hf : Fit s) (hBw : Up B w.heap.size) (hp : VarP w b0 g) (hn : VarS w b1 name) :
 Calls Try.prog 70 #[v0, .pointer (some ⟨b0, 0, none⟩), .pointer (some ⟨b1, 0, none⟩)] w fun e w' => ∃ r, e = .returned (.int .i64 r) ∧ r = 0 ∧ Rep B g (Bxr s name) w' ∧ BelS B w w' := by
 obtain ⟨mv, sv, pv, h⟩ := h
 obtain ⟨As, cs, rfl⟩ := Kd.V_slice h.safe
 obtain ⟨Ap, cp, rfl⟩ := Az1 h.pend
 have hlen := hf.len
 have hp0 := hp.cell
 have hcp := h.cells.2.2.2.2.1
 have HF := Bvh hf
 clear hf
 go_enter Try.func70, Try.ntmps70
 go_wp2_with (first
  | (go_at_call 71; refine (cloneW (fun _ => True) Ap cp s.pend _ (Kd.F_mono (Kd.V_F (O_V h.pend)) (fun _ _ => trivial)) (by omega)).mono ?_; rintro e w1 ⟨v1, rfl, hO1, hb1⟩; have HO1 := Bvh hO1; have HB1 := Bvh hb1; clear hO1 hb1)
  | (go_at_call 72; refine (Bzc (fun k => True ∧ k < w.heap.size) w.heap.size name b1 v1 s.pend _ HO1.out HB1.out.size (by omega) (hn.below HB1.out)).mono ?_; rintro e w2 ⟨v2, rfl, hO2, hg2, ha2⟩; obtain ⟨A2, c2, rfl⟩ := Az1 hO2; have HO2 := Bvh hO2; have HB2 : Aside0 (Below w.heap.size w w2) := ⟨Akw HB1.out v1.ownBlock HB1.out.size hg2 (Awv HO1.out)⟩; clear hO2 hg2 ha2))
 have hb2 := HB2.out
 have hO2 := HO2.out
 have hR2 := h.below hb2
 have hp2 := hp.below hb2
 have hn2 := hn.below hb2
 have hfil : (s.pend.filter fun x => !othW name x).length ≤ s.pend.length := List.length_filter_le _ _
 have hBw2 : Up B w2.heap.size := Up.le hBw hb2.size
 clear hp0 hcp
 refine Ak8 (n := 10) (S := (fun w' => w'.cell? ⟨b0, 0, none⟩ = some (.pointer (some ⟨g, 0, none⟩)) ∧ w'.cell? ⟨b1, 0, none⟩ = some (.string name) ∧ w'.cell? ⟨g, 3, none⟩ = some (.slice As s.safe.length cs))) (ds := [9]) #[false, false, false, false, false, false, false, false, false, false] (by kernel_rfl) rfl rfl ⟨(hp2.below (Aq5 (Below.refl _ _))).cell, (hn2.below (Aq5 (Below.refl _ _))).cell, (hR2.below (Aq5 (Below.refl _ _))).cells.2.2.2.1⟩ (fun hHeld => ?_)
 refine Axh (i := 5) (N := some 19) (v := ?_) (a' := ?_) #[false, false, false, false, false, true, false, false, false, false] rfl rfl (by kernel_rfl) (fun _ _ _ h => h) (Or.inl ⟨by rfl, ?_⟩) ?_ ?_
 rotate_left
 · intro w'
   go_simp
   with_reducible rfl
 rotate_left
 · simp only [Act.put, Bvi, Bvj, Bvk, Aqv, Aqw]
   rfl
 refine take_ (i := 0) (N := some 14) (v := ?_) (a' := ?_) #[true, false, false, false, false, true, false, false, false, false] rfl rfl (by kernel_rfl) (fun _ _ _ h => h) (Or.inl ⟨by rfl, ?_⟩) hHeld ?_ ?_
 rotate_left
 · rintro w' ⟨s0, s1, s2⟩
   go_simp
   with_reducible rfl
 rotate_left
 · simp only [Act.put, Bvi, Bvj, Bvk, Aqv, Aqw]
   rfl
 refine take_ (i := 1) (N := some 15) (v := ?_) (a' := ?_) #[true, true, false, false, false, true, false, false, false, false] rfl rfl (by kernel_rfl) (fun _ _ _ h => h) (Or.inl ⟨by rfl, ?_⟩) hHeld ?_ ?_
 rotate_left
 · rintro w' ⟨s0, s1, s2⟩
   go_simp
   with_reducible rfl
 rotate_left
 · simp only [Act.put, Bvi, Bvj, Bvk, Aqv, Aqw]
   rfl
 refine Axh (i := 2) (N := some 16) (v := ?_) (a' := ?_) #[true, true, true, false, false, true, false, false, false, false] rfl rfl (by kernel_rfl) (fun _ _ _ h => h) (Or.inl ⟨by rfl, ?_⟩) ?_ ?_
 rotate_left
 · intro w'
   go_simp
   with_reducible rfl
 rotate_left
 · simp only [Act.put, Bvi, Bvj, Bvk, Aqv, Aqw]
   rfl
 refine Axh (i := 3) (N := some 17) (v := ?_) (a' := ?_) #[true, true, true, true, false, true, false, false, false, false] rfl rfl (by kernel_rfl) (fun _ _ _ h => h) (Or.inl ⟨by rfl, ?_⟩) ?_ ?_
 rotate_left
 · intro w'
   go_simp
   with_reducible rfl
 rotate_left
 · simp only [Act.put, Bvi, Bvj, Bvk, Aqv, Aqw]
   rfl
 refine take_ (i := 4) (N := some 18) (v := ?_) (a' := ?_) #[true, true, true, true, true, true, false, false, false, false] rfl rfl (by kernel_rfl) (fun _ _ _ h => h) (Or.inl ⟨by rfl, ?_⟩) hHeld ?_ ?_
 rotate_left
 · rintro w' ⟨s0, s1, s2⟩
   go_simp
   with_reducible rfl
 rotate_left
 · simp only [Act.put, Bvi, Bvj, Bvk, Aqv, Aqw]
   rfl
 refine one_ (i := 6) (N := some 20) #[true, true, true, true, true, true, true, false, false, false] rfl rfl (by kernel_rfl) (by decide) (fun K hK => ?_)
 refine Avn Try.func74 (by kernel_rfl) rfl #[.slice As s.safe.length cs, .slice A2 (s.pend.filter fun x => !othW name x).length c2, .func (.func 75) #[] #[]] (by rfl) rfl rfl (by (try simp only [List.map_toArray, List.map_cons, List.map_nil]); first | done | rfl) ?_
 refine (Bzt (fun k => k ≠ g ∧ some k ≠ (Value.slice Ap s.pend.length cp).ownBlock) As cs s.safe A2 c2 (s.pend.filter fun x => !othW name x) _ (Azn (Kd.V_drew hR2.safe)) (Kd.V_reads' (O_V (Azp hO2 (Aq5 (Below.refl _ _))))).2.2 (Kd.V_reads' (O_V hO2)).2.1 (by omega) HF.out.safe (fun x hx => HF.out.pend x (List.mem_filter.1 hx).1)).mono ?_
 rintro e w5 ⟨v5, rfl, hV5, hb5⟩
 refine ⟨_, rfl, ?_⟩
 have hb25 : Below w2.heap.size w2 w5 := Aq1 (Aq5 (Below.refl _ _)) hb5
 refine hK.out _ _ ⟨(hp2.below hb25).cell, (hn2.below hb25).cell, (hR2.below hb25).cells.2.2.2.1⟩ (fun hHeld => ?_)
 have hR5 := hR2.below hb25
 clear hK K
 refine Avb (a' := ?_) ?_ ?_
 rotate_left
 · show Act.put _ (some 20) _ = _
   simp only [Act.put, Bvi, Bvj, Bvk, Aqv, Aqw]
   rfl
 refine Axh (i := 7) (N := some 21) (v := ?_) (a' := ?_) #[true, true, true, true, true, true, true, true, false, false] rfl rfl (by kernel_rfl) (fun _ _ _ h => h) (Or.inl ⟨by rfl, ?_⟩) ?_ ?_
 rotate_left
 · intro w'
   go_simp
   with_reducible rfl
 rotate_left
 · simp only [Act.put, Bvi, Bvj, Bvk, Aqv, Aqw]
   rfl
 refine Axh (i := 8) (N := some 22) (v := ?_) (a' := ?_) #[true, true, true, true, true, true, true, true, true, false] rfl rfl (by kernel_rfl) (fun _ _ _ h => h) (Or.inl ⟨by rfl, ?_⟩) ?_ ?_
 rotate_left
 · intro w'
   go_simp
   with_reducible rfl
 rotate_left
 · simp only [Act.put, Bvi, Bvj, Bvk, Aqv, Aqw]
   rfl
 refine Awj (i := 9) (N := none) #[true, true, true, true, true, true, true, true, true, true] rfl rfl (by kernel_rfl) (by decide) (fun K hK => ?_)
 have hfr := Aq2 hR5.blk 3
 have hcl := hR5.cells.2.2.2.1
 obtain ⟨A5, c5, rfl⟩ := Kd.V_slice hV5
 refine Avl (w1 := ?_) (by rfl) rfl ?_ ?_
 rotate_left
 · go_simp
   rfl
 refine hK.out _ _ ?_
 clear hK K
 refine Awn (by kernel_rfl) ?_
 have hv5 : Kd.V k38 38 w5 0 (fun k => k ≠ g ∧ some k ≠ (Value.slice Ap s.pend.length cp).ownBlock) (.slice A5 (Az0 (fun _ => -1) 0 s.safe (s.pend.filter fun x => !othW name x)).length c5) (Az0 (fun _ => -1) 0 s.safe (s.pend.filter fun x => !othW name x)) := Azn (Kd.V_mono hV5 (fun k hk => hk.elim id (fun hk => hR2.fresh hk)))
 have hR := hR5.setSafe hv5
 have hVP := (hp2.below hb25).set (j := 3) (u := (.slice A5 (Az0 (fun _ => -1) 0 s.safe (s.pend.filter fun x => !othW name x)).length c5)) hR5.blk
 have hVS := (hn2.below hb25).set (j := 3) (u := (.slice A5 (Az0 (fun _ => -1) 0 s.safe (s.pend.filter fun x => !othW name x)).length c5)) hR5.blk
 have hBB : BelS B w (w5.setCell ⟨g, 3, none⟩ (.slice A5 (Az0 (fun _ => -1) 0 s.safe (s.pend.filter fun x => !othW name x)).length c5)) := Aqz (Aqc (Aqk hBw hb2) (Aqk hBw2 hb25)) h.hg 3 _
 have hBW : Up B (w5.setCell ⟨g, 3, none⟩ (.slice A5 (Az0 (fun _ => -1) 0 s.safe (s.pend.filter fun x => !othW name x)).length c5)).heap.size := Up.le hBw hBB.size
 have hPL : s.pend.length ≤ 1000001 := by omega
 go_wp2_with fail
 clear hfr hcl hHeld
 generalize w5.setCell ⟨g, 3, none⟩ (.slice A5 (Az0 (fun _ => -1) 0 s.safe (s.pend.filter fun x => !othW name x)).length c5) = w6 at hR hVP hVS hBB hBW ⊢
 obtain ⟨s1, hs1⟩ : ∃ s1 : SSt, s1 = { s with safe := (Az0 (fun _ => -1) 0 s.safe (s.pend.filter fun x => !othW name x)) } := ⟨_, rfl⟩
 rw [← hs1] at hR
 have hpl1 : s1.pend = s.pend := by rw [hs1]
 rw [← hpl1] at hPL
 refine Ak8 (n := 11) (S := (fun w' => w'.cell? ⟨b0, 0, none⟩ = some (.pointer (some ⟨g, 0, none⟩)) ∧ w'.cell? ⟨b1, 0, none⟩ = some (.string name) ∧ w'.cell? ⟨g, 4, none⟩ = some (.slice Ap s.pend.length cp))) (ds := [10]) #[false, false, false, false, false, false, false, false, false, false, false] (by kernel_rfl) rfl rfl ⟨(hVP.below (Aq5 (Below.refl _ _))).cell, (hVS.below (Aq5 (Below.refl _ _))).cell, (hR.below (Aq5 (Below.refl _ _))).cells.2.2.2.2.1⟩ (fun hHeld => ?_)
 refine take_ (i := 0) (N := some 23) (v := ?_) (a' := ?_) #[true, false, false, false, false, false, false, false, false, false, false] rfl rfl (by kernel_rfl) (fun _ _ _ h => h) (Or.inl ⟨by rfl, ?_⟩) hHeld ?_ ?_
 rotate_left
 · rintro w' ⟨s0, s1, s2⟩
   go_simp
   with_reducible rfl
 rotate_left
 · simp only [Act.put, Bvi, Bvj, Bvk, Aqv, Aqw]
   rfl
 refine take_ (i := 1) (N := some 24) (v := ?_) (a' := ?_) #[true, true, false, false, false, false, false, false, false, false, false] rfl rfl (by kernel_rfl) (fun _ _ _ h => h) (Or.inl ⟨by rfl, ?_⟩) hHeld ?_ ?_
 rotate_left
 · rintro w' ⟨s0, s1, s2⟩
   go_simp
   with_reducible rfl
 rotate_left
 · simp only [Act.put, Bvi, Bvj, Bvk, Aqv, Aqw]
   rfl
 refine Axh (i := 2) (N := some 25) (v := ?_) (a' := ?_) #[true, true, true, false, false, false, false, false, false, false, false] rfl rfl (by kernel_rfl) (fun _ _ _ h => h) (Or.inl ⟨by rfl, ?_⟩) ?_ ?_
 rotate_left
 · intro w'
   go_simp
   with_reducible rfl
 rotate_left
 · simp only [Act.put, Bvi, Bvj, Bvk, Aqv, Aqw]
   rfl
 refine Axh (i := 3) (N := some 26) (v := ?_) (a' := ?_) #[true, true, true, true, false, false, false, false, false, false, false] rfl rfl (by kernel_rfl) (fun _ _ _ h => h) (Or.inl ⟨by rfl, ?_⟩) ?_ ?_
 rotate_left
 · intro w'
   go_simp
   with_reducible rfl
 rotate_left
 · simp only [Act.put, Bvi, Bvj, Bvk, Aqv, Aqw]
   rfl
 refine take_ (i := 4) (N := some 27) (v := ?_) (a' := ?_) #[true, true, true, true, true, false, false, false, false, false, false] rfl rfl (by kernel_rfl) (fun _ _ _ h => h) (Or.inl ⟨by rfl, ?_⟩) hHeld ?_ ?_
 rotate_left
 · rintro w' ⟨s0, s1, s2⟩
   go_simp
   with_reducible rfl
 rotate_left
 · simp only [Act.put, Bvi, Bvj, Bvk, Aqv, Aqw]
   rfl
 refine take_ (i := 5) (N := some 28) (v := ?_) (a' := ?_) #[true, true, true, true, true, true, false, false, false, false, false] rfl rfl (by kernel_rfl) (fun _ _ _ h => h) (Or.inl ⟨by rfl, ?_⟩) hHeld ?_ ?_
 rotate_left
 · rintro w' ⟨s0, s1, s2⟩
   go_simp
   with_reducible rfl
 rotate_left
 · simp only [Act.put, Bvi, Bvj, Bvk, Aqv, Aqw]
   rfl
 refine one_ (i := 6) (N := some 29) #[true, true, true, true, true, true, true, false, false, false, false] rfl rfl (by kernel_rfl) (by decide) (fun K hK => ?_)
 refine Avn Try.func76 (by kernel_rfl) rfl #[.string name] (by rfl) rfl rfl (by (try simp only [List.map_toArray, List.map_cons, List.map_nil]); first | done | rfl) ?_
 refine (Av0 name _).mono ?_
 rintro e w8 ⟨rfl, hv8, hb8⟩
 refine ⟨_, rfl, ?_⟩
 refine hK.out _ _ ⟨(hVP.below (Aq1 (Aq5 (Below.refl _ _)) hb8)).cell, (hVS.below (Aq1 (Aq5 (Below.refl _ _)) hb8)).cell, (hR.below (Aq1 (Aq5 (Below.refl _ _)) hb8)).cells.2.2.2.2.1⟩ (fun hHeld => ?_)
 have hR8 := hR.below (Aq1 (Aq5 (Below.refl _ _)) hb8)
 have hB8 : BelS B w w8 := Aqc hBB (Aqk hBW (Aq1 (Aq5 (Below.refl _ _)) hb8))
 have hVP8 := hVP.below (Aq1 (Aq5 (Below.refl _ _)) hb8)
 have hVS8 := hVS.below (Aq1 (Aq5 (Below.refl _ _)) hb8)
 clear hK K
 refine Avb (a' := ?_) ?_ ?_
 rotate_left
 · show Act.put _ (some 29) _ = _
   simp only [Act.put, Bvi, Bvj, Bvk, Aqv, Aqw]
   rfl
 refine one_ (i := 7) (N := some 30) #[true, true, true, true, true, true, true, true, false, false, false] rfl rfl (by kernel_rfl) (by decide) (fun K hK => ?_)
 refine Avn Try.func72 (by kernel_rfl) rfl #[.slice Ap s.pend.length cp, .func (.func 95) #[] #[.pointer (some ⟨w6.drew.heap.size, 0, none⟩)]] (by rfl) rfl rfl (by (try simp only [List.map_toArray, List.map_cons, List.map_nil]); first | done | rfl) ?_
 refine (Av3 (fun k => k ≠ g) 0 name _ (.slice Ap s.pend.length cp) s1.pend _ hR8.pend (Nat.zero_le _) hPL hv8).mono ?_
 rintro e w9 ⟨v9, rfl, hO9, hg9, ha9⟩
 refine ⟨_, rfl, ?_⟩
 have hP9 : ∀ b t (cs : Array Value) (f : Nat × Nat), w8.heap[b]? = some (Obj.cells cs t f) → t ≠ 31 → w9.heap[b]? = some (Obj.cells cs t f) := fun b t cs f hb ht => (hg9.block b (Ax7 hb) (fun he => O_ne hR8.pend hb ht he.symm)).trans hb
 refine hK.out _ _ ⟨VarP.cell (hP9 _ _ _ _ hVP8 (by decide)), VarS.cell (hP9 _ _ _ _ hVS8 (by decide)), by rw [cell_of_row w9 g _ _ 106 (0, 0) (hP9 _ _ _ _ hR8.blk (by decide))]; rfl⟩ (fun hHeld => ?_)
 have hR9 := hR8.setPend hO9 hg9 (.inl ha9)
 have hblk9 := hP9 _ _ _ _ hR8.blk (by decide)
 have hB9 : BelS B w w9 := Aqc hB8 ⟨hg9.os, hg9.tape, hg9.output, hg9.size, fun k hk hn => hg9.block k hk (fun he => hn (hR8.own k he.symm))⟩
 clear hK K
 refine Avb (a' := ?_) ?_ ?_
 rotate_left
 · show Act.put _ (some 30) _ = _
   simp only [Act.put, Bvi, Bvj, Bvk, Aqv, Aqw]
   rfl
 refine Axh (i := 8) (N := some 31) (v := ?_) (a' := ?_) #[true, true, true, true, true, true, true, true, true, false, false] rfl rfl (by kernel_rfl) (fun _ _ _ h => h) (Or.inl ⟨by rfl, ?_⟩) ?_ ?_
 rotate_left
 · intro w'
   go_simp
   with_reducible rfl
 rotate_left
 · simp only [Act.put, Bvi, Bvj, Bvk, Aqv, Aqw]
   rfl
 refine Axh (i := 9) (N := some 32) (v := ?_) (a' := ?_) #[true, true, true, true, true, true, true, true, true, true, false] rfl rfl (by kernel_rfl) (fun _ _ _ h => h) (Or.inl ⟨by rfl, ?_⟩) ?_ ?_
 rotate_left
 · intro w'
   go_simp
   with_reducible rfl
 rotate_left
 · simp only [Act.put, Bvi, Bvj, Bvk, Aqv, Aqw]
   rfl
 refine Awj (i := 10) (N := none) #[true, true, true, true, true, true, true, true, true, true, true] rfl rfl (by kernel_rfl) (by decide) (fun K hK => ?_)
 have hfr := Aq2 hblk9 4
 have hcl : w9.cell? ⟨g, 4, none⟩ = some (.slice Ap s.pend.length cp) := by rw [cell_of_row w9 g _ _ 106 (0, 0) hblk9]; rfl
 obtain ⟨A9, c9, rfl⟩ := Az1 hO9
 refine Avl (w1 := ?_) (by rfl) rfl ?_ ?_
 rotate_left
 · go_simp
   rfl
 refine hK.out _ _ ?_
 clear hK K
 refine Awn (by kernel_rfl) ?_
 have hgl := h.hg
 clear hfr hcl hHeld
 go_wp2_with fail
 all_goals go_ret
 exact ⟨0, rfl, rfl, ⟨mv, _, _, by rw [hs1] at hR9; exact hR9⟩, Aqz hB9 hgl 4 _⟩
end
end
section
attribute [local go_sem] Axk Axr Az3 Az7 Axj Axi Axz Axy
def Ak3.f (l0 : List (S38)) (a1 : ByteArray) (a2 : ByteArray) : Option ((List (S38)) × Bool) := (Aqs.f l0 a1).bind fun bt181 => (if bt181.2 = true then ((Azb.f l0 a1).bind fun t185 => ((Aj3.f t185 a2 bt181.1).bind fun t188 => (some (t188, true)))) else ((Az6.f l0).bind fun t191 => (some (t191, false))))
theorem Ak3.calls (P0_ : Nat → Prop) (A0 : Option Addr) (c0 : Nat) (l0 : List (S38)) (a1 : ByteArray) (a2 : ByteArray) (r1 : List (S38)) (r2 : Bool) (w : World) (hs0 : Kd.V k38 38 w w.heap.size (fun k_ => P0_ k_) (.slice A0 l0.length c0) l0) (h : Ak3.f l0 a1 a2 = some (r1, r2)) :
 Calls Try.prog 21 #[.slice A0 l0.length c0, .string a1, .string a2] w fun e w' => ∃ v0_ : Value, e = .returned (.tuple #[v0_, .bool r2]) ∧ Kd.V k38 38 w' w.heap.size (fun k_ => (P0_ k_ ∨ w.heap.size ≤ k_)) v0_ r1 ∧ Below w.heap.size w w' := by
 have HO0 := Bvh (show Kd.V k38 38 w w.heap.size (fun k_ => (P0_ k_ ∨ w.heap.size ≤ k_)) (.slice A0 l0.length c0) l0 from Kd.V_mono hs0 (fun k_ hk => .inl hk))
 have HB := Bvh (Below.refl w.heap.size w)
 have H : ((Aqs.f l0 a1).bind fun bt181 => (if bt181.2 = true then ((Azb.f l0 a1).bind fun t185 => ((Aj3.f t185 a2 bt181.1).bind fun t188 => (some (t188, true)))) else ((Az6.f l0).bind fun t191 => (some (t191, false))))) = some (r1, r2) := h
 clear h
 replace H := Option.bind_eq_some_iff.mp H
 obtain ⟨⟨t181, t182⟩, A40, H⟩ := H
 replace H : (if t182 = true then ((Azb.f l0 a1).bind fun t185 => ((Aj3.f t185 a2 t181).bind fun t188 => (some (t188, true)))) else ((Az6.f l0).bind fun t191 => (some (t191, false)))) = some (r1, r2) := H
 have A4 := Bvh A40
 clear A40
 by_cases c5 : t182 = true
 · subst c5
   have H1 : ((Azb.f l0 a1).bind fun t185 => ((Aj3.f t185 a2 t181).bind fun t188 => (some (t188, true)))) = some (r1, r2) := by rw [if_pos rfl] at H; exact H
   clear H
   have H := H1
   clear H1
   replace H := Option.bind_eq_some_iff.mp H
   obtain ⟨t185, A60, H⟩ := H
   replace H : ((Aj3.f t185 a2 t181).bind fun t188 => (some (t188, true))) = some (r1, r2) := H
   have A6 := Bvh A60
   clear A60
   replace H := Option.bind_eq_some_iff.mp H
   obtain ⟨t188, A70, H⟩ := H
   replace H : (some (t188, true)) = some (r1, r2) := H
   have A7 := Bvh A70
   clear A70
   simp only [Option.some.injEq, Prod.mk.injEq] at H
   obtain ⟨rfl, rfl⟩ := H
   go_enter Try.func21, Try.ntmps21
   go_wp2_with (first | ((with_reducible refine Axm (f := 28) rfl ?_); refine Ajq (some 13) rfl rfl Try.func28 (by kernel_rfl) rfl #[.slice A0 l0.length c0, .string a1] rfl (by (try simp only [List.map_toArray, List.map_cons, List.map_nil]); first | done | rfl | (simp only [List.length_drop, List.length_take]; rfl)) ?_; (with_reducible refine (Aqs.calls _ _ l0 a1 t181 true _ ?side1 ?side2 A4.out).mono ?_); (case side1 => repeat (first | exact (Kd.V_reads' HO0.out).2.2 | (with_reducible refine Kd.C_alloc ?_ _) | (with_reducible refine Kd.C_drewN ?_ _) | (with_reducible refine Kd.C_drew ?_))); (case side2 => exact (Kd.V_reads' HO0.out).2.1); rintro e w8 ⟨v183, rfl, ho0, hb⟩; refine ⟨_, rfl, ?_⟩; have n0_ := Bvh (Kd.V_elder' HO0.out (Kd.R_base ho0) hb); have n1_ := Bvh (Kd.R_lower (Kd.R_newM (M := fun k_ => (w.heap.size ≤ k_)) ho0 (Aqb HB.out) (fun k_ h_ => h_)) (Aqb HB.out)); have n2_ := Bvh (Aq1 HB.out hb); clear HO0; clear HB; have HO0 := n0_; have HO184 := n1_; have HB := n2_; clear n0_ n1_ n2_; (try clear hb); (try clear hb2); (try clear hk); (try clear hi); (try clear ho0)) | ((with_reducible refine Axm (f := 25) rfl ?_); refine Ajq (some 22) rfl rfl Try.func25 (by kernel_rfl) rfl #[.slice A0 l0.length c0, .string a1] rfl (by (try simp only [List.map_toArray, List.map_cons, List.map_nil]); first | done | rfl | (simp only [List.length_drop, List.length_take]; rfl)) ?_; (with_reducible refine (Azb.calls (fun k_ => ((P0_ k_ ∨ w.heap.size ≤ k_) ∧ some k_ ≠ (v183 : Value).ownBlock)) _ _ l0 a1 t185 _ ?side1 A6.out).mono ?_); (case side1 => exact HO0.out); rintro e w9 ⟨v186, rfl, ho0, hb⟩; refine ⟨_, rfl, ?_⟩; have n0_ := Bvh (Kd.V_below HO0.out hb); have n1_ := Bvh (Kd.R_below HO184.out hb); have n2_ := Bvh (Kd.V_lower (Kd.V_mono (ok' := fun k_ => (P0_ k_ ∨ w.heap.size ≤ k_) ∧ some k_ ≠ (v183 : Value).ownBlock) ho0 (fun k_ hk_ => ⟨Or.elim hk_ (fun hs_ => hs_.1) (fun hn_ => (.inr (Nat.le_trans (Aqb HB.out) hn_))), Or.elim hk_ (fun hs_ => hs_.2) (fun hn_ => (Kd.fresh' (Kd.R_lt HO184.out) k_ hn_))⟩)) (Aqb HB.out)); have n3_ := Bvh (Aq1 HB.out hb); clear HO0; clear HO184; clear HB; have HO0 := n0_; have HO184 := n1_; have HO187 := n2_; have HB := n3_; clear n0_ n1_ n2_ n3_; (try clear hb); (try clear hb2); (try clear hk); (try clear hi); (try clear ho0); obtain ⟨Ao10, co10, eo10⟩ := Kd.V_slice HO187.out; subst eo10; obtain ⟨Ao11, co11, eo11⟩ := Kd.R_slice HO184.out; subst eo11) | ((with_reducible refine Axm (f := 23) rfl ?_); refine Ajq (some 25) rfl rfl Try.func23 (by kernel_rfl) rfl #[.slice Ao10 t185.length co10, .string a2, .slice Ao11 t181.length co11] rfl (by (try simp only [List.map_toArray, List.map_cons, List.map_nil]); first | done | rfl | (simp only [List.length_drop, List.length_take]; rfl)) ?_; (with_reducible refine (Aj3.calls (fun k_ => ((P0_ k_ ∨ w.heap.size ≤ k_) ∧ some k_ ≠ (.slice Ao11 t181.length co11 : Value).ownBlock)) _ _ t185 a2 _ _ t181 t188 _ ?side1 ?side2 ?side3 A7.out).mono ?_); (case side1 => exact HO187.out); (case side2 => repeat (first | exact (Kd.R_reads' HO184.out).2.2 | (with_reducible refine Kd.C_alloc ?_ _) | (with_reducible refine Kd.C_drewN ?_ _) | (with_reducible refine Kd.C_drew ?_))); (case side3 => exact (Kd.R_reads' HO184.out).2.1); rintro e w12 ⟨v189, rfl, ho0, hb⟩; refine ⟨_, rfl, ?_⟩; have n0_ := Bvh (Kd.V_below HO0.out hb); have n1_ := Bvh (Kd.R_below HO184.out hb); have n2_ := Bvh (Kd.V_below HO187.out hb); have n3_ := Bvh (Kd.V_lower (Kd.V_mono (ok' := fun k_ => (P0_ k_ ∨ w.heap.size ≤ k_) ∧ some k_ ≠ (.slice Ao11 t181.length co11 : Value).ownBlock) ho0 (fun k_ hk_ => ⟨Or.elim hk_ (fun hs_ => hs_.1) (fun hn_ => (.inr (Nat.le_trans (Aqb HB.out) hn_))), Or.elim hk_ (fun hs_ => hs_.2) (fun hn_ => (Kd.fresh' (Kd.R_lt HO184.out) k_ hn_))⟩)) (Aqb HB.out)); have n4_ := Bvh (Aq1 HB.out hb); clear HO0; clear HO184; clear HO187; clear HB; have HO0 := n0_; have HO184 := n1_; have HO187 := n2_; have HO190 := n3_; have HB := n4_; clear n0_ n1_ n2_ n3_ n4_; (try clear hb); (try clear hb2); (try clear hk); (try clear hi); (try clear ho0)))
   go_ret2
   exact ⟨_, by first | rfl | (simp [Aqj, Aqi] <;> rfl) | (simp [*, Aqj, Aqi] <;> rfl), by exact Kd.V_mono HO190.out (fun _ hk => hk.1), by exact HB.out⟩
 · replace c5 := Bool.eq_false_iff.mpr c5
   subst c5
   have H1 : ((Az6.f l0).bind fun t191 => (some (t191, false))) = some (r1, r2) := by rw [if_neg (show ¬ (false = true) by decide)] at H; exact H
   clear H
   have H := H1
   clear H1
   replace H := Option.bind_eq_some_iff.mp H
   obtain ⟨t191, A130, H⟩ := H
   replace H : (some (t191, false)) = some (r1, r2) := H
   have A13 := Bvh A130
   clear A130
   simp only [Option.some.injEq, Prod.mk.injEq] at H
   obtain ⟨rfl, rfl⟩ := H
   go_enter Try.func21, Try.ntmps21
   go_wp2_with (first | ((with_reducible refine Axm (f := 28) rfl ?_); refine Ajq (some 13) rfl rfl Try.func28 (by kernel_rfl) rfl #[.slice A0 l0.length c0, .string a1] rfl (by (try simp only [List.map_toArray, List.map_cons, List.map_nil]); first | done | rfl | (simp only [List.length_drop, List.length_take]; rfl)) ?_; (with_reducible refine (Aqs.calls _ _ l0 a1 t181 false _ ?side1 ?side2 A4.out).mono ?_); (case side1 => repeat (first | exact (Kd.V_reads' HO0.out).2.2 | (with_reducible refine Kd.C_alloc ?_ _) | (with_reducible refine Kd.C_drewN ?_ _) | (with_reducible refine Kd.C_drew ?_))); (case side2 => exact (Kd.V_reads' HO0.out).2.1); rintro e w14 ⟨v183, rfl, ho0, hb⟩; refine ⟨_, rfl, ?_⟩; have n0_ := Bvh (Kd.V_elder' HO0.out (Kd.R_base ho0) hb); have n1_ := Bvh (Kd.R_lower (Kd.R_newM (M := fun k_ => (w.heap.size ≤ k_)) ho0 (Aqb HB.out) (fun k_ h_ => h_)) (Aqb HB.out)); have n2_ := Bvh (Aq1 HB.out hb); clear HO0; clear HB; have HO0 := n0_; have HO184 := n1_; have HB := n2_; clear n0_ n1_ n2_; (try clear hb); (try clear hb2); (try clear hk); (try clear hi); (try clear ho0)) | ((with_reducible refine Axm (f := 57) rfl ?_); refine Ajq (some 19) rfl rfl Try.func57 (by kernel_rfl) rfl #[.slice A0 l0.length c0] rfl (by (try simp only [List.map_toArray, List.map_cons, List.map_nil]); first | done | rfl | (simp only [List.length_drop, List.length_take]; rfl)) ?_; (with_reducible refine (Az6.calls (fun k_ => ((P0_ k_ ∨ w.heap.size ≤ k_) ∧ some k_ ≠ (v183 : Value).ownBlock)) _ _ l0 t191 _ ?side1 A13.out).mono ?_); (case side1 => exact HO0.out); rintro e w15 ⟨v192, rfl, ho0, hb⟩; refine ⟨_, rfl, ?_⟩; have n0_ := Bvh (Kd.V_below HO0.out hb); have n1_ := Bvh (Kd.R_below HO184.out hb); have n2_ := Bvh (Kd.V_lower (Kd.V_mono (ok' := fun k_ => (P0_ k_ ∨ w.heap.size ≤ k_) ∧ some k_ ≠ (v183 : Value).ownBlock) ho0 (fun k_ hk_ => ⟨Or.elim hk_ (fun hs_ => hs_.1) (fun hn_ => (.inr (Nat.le_trans (Aqb HB.out) hn_))), Or.elim hk_ (fun hs_ => hs_.2) (fun hn_ => (Kd.fresh' (Kd.R_lt HO184.out) k_ hn_))⟩)) (Aqb HB.out)); have n3_ := Bvh (Aq1 HB.out hb); clear HO0; clear HO184; clear HB; have HO0 := n0_; have HO184 := n1_; have HO193 := n2_; have HB := n3_; clear n0_ n1_ n2_ n3_; (try clear hb); (try clear hb2); (try clear hk); (try clear hi); (try clear ho0)))
   go_ret2
   exact ⟨_, by first | rfl | (simp [Aqj, Aqi] <;> rfl) | (simp [*, Aqj, Aqi] <;> rfl), by exact Kd.V_mono HO193.out (fun _ hk => hk.1), by exact HB.out⟩
end
section
def Avx (l : List S38) (a b : ByteArray) : List S38 := match l.find? (Ax8 a) with
 | some x => putL (l.filter fun y => !Ax8 a y) b x.f1
 | none => l
theorem move_f (l : List S38) (a b : ByteArray) (hl : l.length ≤ 1000000) (hd : okL l) : ∃ r, Ak3.f l a b = some (Avx l a b, r) := by
 unfold Ak3.f Aqs.f Avx
 rw [if_pos ⟨hl, fun x hx => by have := hd x hx; omega⟩]
 cases hf : l.find? (Ax8 a) with
 | none =>
   refine ⟨false, ?_⟩
   simp only [Option.bind_some]
   unfold Az6.f
   rw [if_neg (by simp), if_pos hl]
   rfl
 | some x =>
   refine ⟨true, ?_⟩
   have hx := hd x (List.mem_of_find?_eq_some hf)
   simp only [Option.bind_some]
   unfold Azb.f Aj3.f
   have h2 := List.length_filter_le (fun y => !Ax8 a y) l
   rw [if_pos trivial, if_pos hl, Option.bind_some, if_pos ⟨by omega, by omega⟩, Option.bind_some]
def renW (a b : ByteArray) (x : S31) : S31 := if ownW a x then { x with f0 := b } else x
def Bz5 (s : SSt) (a b : ByteArray) : SSt := { s with safe := Avx (s.safe.filter fun x => !Ax8 b x) a b, pend := (s.pend.filter fun x => !ownW b x).map (renW a b) }
theorem set1of4 (cur : Array Value) (a : Nat) (v x y z : Value) (h : a + 4 ≤ cur.size) (h1 : cur[a + 1]? = some x) (h2 : cur[a + 2]? = some y) (h3 : cur[a + 3]? = some z) :
 cur.setIfInBounds a v = (cur.toList.take a ++ [v, x, y, z] ++ cur.toList.drop (a + [v, x, y, z].length)).toArray := by
 apply Array.ext'
 simp only [Array.toList_setIfInBounds]
 apply List.ext_getElem?
 intro k
 simp only [List.getElem?_set, List.length_set, Array.length_toList, List.append_assoc, List.getElem?_append, List.length_take, List.length_cons, List.length_nil, List.getElem?_take, List.getElem?_drop]
 rw [Nat.min_eq_left (by omega : a ≤ cur.size)]
 by_cases g1 : k < a
 · simp [g1, show ¬ a = k by omega]
 · by_cases g2 : k = a
   · subst g2; simp [show k < cur.size by omega]
   · by_cases g3 : k = a + 1
     · subst g3; simp [h1, show ¬ a + 1 < a by omega]
     · by_cases g4 : k = a + 2
       · subst g4; simp [h2, show ¬ a + 2 < a by omega]
       · by_cases g5 : k = a + 3
         · subst g5; simp [h3, show ¬ a + 3 < a by omega]
         · simp [g1, show ¬ a = k by omega, show ¬ k - a < 4 by omega, show a + 4 + (k - a - 4) = k by omega]
section
variable {B : Nat → Prop} {g : Nat} {s : SSt} {w w1 : World} {mv sv pv : Value}
theorem RepAt.rowed {l : List S31} (h : RepAt B g s w mv sv pv) (ho : O k31 31 w1 0 (fun k => k ≠ g) pv l) (hgr : w.grownBy w1 pv.ownBlock) : RepAt B g { s with pend := l } w1 mv sv pv := by
 refine ⟨h.hg, (hgr.block g (Ax7 h.blk) (fun he => h.pend_ne he.symm)).trans h.blk, ?_, Kd.V_grown h.safe hgr (fun k hk => hk.2), ho, h.own⟩
 rcases h.map with hm | ⟨b, n, D, h1, h2, h3, h4, h5⟩
 · exact .inl hm
 · refine .inr ⟨b, n, D, h1, h2, h3, ?_, h5⟩
   obtain ⟨es, clock, h6, h7⟩ := h4
   refine ⟨es, clock, (hgr.block b (Ax7 h6) (fun he => ?_)).trans h6, h7⟩
   obtain ⟨_, hp, _⟩ := h.pend
   obtain ⟨cells, hc⟩ := Azu hp b he.symm
   rw [h6] at hc
   cases hc
theorem RepAt.renamed {gp c : Nat} (h : RepAt B g s w mv sv (.slice (some ⟨gp, 0, none⟩) s.pend.length c)) (i : Nat) (hi : i < s.pend.length) (to_ : ByteArray) :
 RepAt B g { s with pend := s.pend.set i { (s.pend.getD i z31) with f0 := to_ } } (w.setCell ⟨gp, i * 4, none⟩ (.string to_)) mv sv (.slice (some ⟨gp, 0, none⟩) s.pend.length c) := by
 obtain ⟨A1, c1, hx0, hx1, hx2, hx3, hfk⟩ := Aww h.pend i hi
 obtain ⟨cur, hcur⟩ := Ak6 h.pend
 have hpos : 0 < s.pend.length := by omega
 obtain ⟨g', cap', cur', he, hg, hlt, hh, h3, h4, h5, hr⟩ := Aj6 h.pend hpos
 injection he with he1 he2 he3
 injection he1 with he1
 injection he1 with he1
 subst he1
 rw [hcur] at hh
 injection hh with hh
 injection hh with hh
 subst hh
 have hsz : cur.size = cap' * 4 := h5
 have hcell : ∀ j u, w.cell? ⟨gp, j, none⟩ = some u → cur[j]? = some u := fun j u hu => by rw [cell_of_row w gp j cur 31 (0, 0) hcur] at hu; exact hu
 have hset := set1of4 cur (i * 4) (.string to_) _ _ _ (by omega) (hcell _ _ hx1) (hcell _ _ hx2) (hcell _ _ hx3)
 have hblk := Axb hcur (i * 4) (.string to_)
 rw [hset] at hblk
 have hx' : Kd.FK k31 w (fun k => k ≠ g ∧ k ≠ gp) { (s.pend.getD i z31) with f0 := to_ } [.string to_, .int .i64 (s.pend.getD i z31).f1, .int .i64 (s.pend.getD i z31).f2, .slice A1 (s.pend.getD i z31).f3.length c1] := by
  obtain ⟨A3, c3, he, hl3, hF⟩ := Bkr hfk
  have e3 := Option.some.inj (show some (Value.slice A1 (s.pend.getD i z31).f3.length c1) = some (Value.slice A3 (s.pend.getD i z31).f3.length c3) from congrArg (fun l => l[3]?) he)
  injection e3 with e4 _ e5
  subst e4
  subst e5
  exact Bks _ _ _ hl3 hF
 have hO := O_set (w1 := w.setCell ⟨gp, i * 4, none⟩ (.string to_)) h.pend i hi { (s.pend.getD i z31) with f0 := to_ } _ cur hcur hx' hblk (fun k _ hk => Below.heap_setCell _ _ _ _ hk)
 exact h.rowed hO ⟨rfl, rfl, rfl, by simp [World.setCell], fun k _ hk => Below.heap_setCell _ _ _ _ (fun he => hk (by rw [show k = gp from he]; rfl))⟩
theorem Avy (a b : ByteArray) (l : List S31) (i : Nat) (hi : i < l.length) : ((l.take i).map (renW a b) ++ l.drop i).getD i z31 = l[i] ∧ ((l.take i).map (renW a b) ++ l.drop i).set i (renW a b l[i]) = (l.take (i + 1)).map (renW a b) ++ l.drop (i + 1) := by
 have hl : ((l.take i).map (renW a b)).length = i := by simp; omega
 constructor
 · rw [List.getD_eq_getElem?_getD, List.getElem?_append_right (by omega), hl, Nat.sub_self, List.getElem?_drop, Nat.add_zero, List.getElem?_eq_getElem hi]
   rfl
 · rw [List.set_append_right _ _ (by omega), hl, Nat.sub_self, List.drop_eq_getElem_cons hi, List.set_cons_zero, List.take_succ_eq_append_getElem hi, List.map_append, List.append_assoc]
   rfl
theorem O_shape {w : World} {base : Nat} {ok : Nat → Prop} {A : Option Addr} {n c : Nat} {xs : List S31} (h : O k31 31 w base ok (.slice A n c) xs) (hp : 0 < xs.length) : ∃ gp, A = some ⟨gp, 0, none⟩ := by
 obtain ⟨gp, cap, _, he, _⟩ := Aj6 h hp
 injection he with he1 _ _
 exact ⟨gp, he1⟩
theorem RepAt.renamedN {gp c n : Nat} (h : RepAt B g s w mv sv (.slice (some ⟨gp, 0, none⟩) n c)) (hn : s.pend.length = n) (i : Nat) (hi : i < n) (to_ : ByteArray) :
 RepAt B g { s with pend := s.pend.set i { (s.pend.getD i z31) with f0 := to_ } } (w.setCell ⟨gp, i * 4, none⟩ (.string to_)) mv sv (.slice (some ⟨gp, 0, none⟩) n c) := by
 subst hn
 exact h.renamed i hi to_
theorem ren_skip (a b : ByteArray) (l : List S31) (i : Nat) (hi : i < l.length) (h : ownW a l[i] = false) : (l.take i).map (renW a b) ++ l.drop i = (l.take (i + 1)).map (renW a b) ++ l.drop (i + 1) := by
 rw [← (Avy a b l i hi).2]
 have hr : renW a b l[i] = ((l.take i).map (renW a b) ++ l.drop i).getD i z31 := by
  rw [(Avy a b l i hi).1]
  unfold renW
  rw [h]
  rfl
 rw [hr, List.getD_eq_getElem?_getD]
 have hlt : i < ((l.take i).map (renW a b) ++ l.drop i).length := by simp; omega
 rw [List.getElem?_eq_getElem hlt]
 simp
theorem Bkp (from_ to_ : ByteArray) (v0 : Value) (b0 b1 b2 : Nat) (h0 : VarS w b0 to_) (hbad : to_.size < 1 ∨ 40 < to_.size) :
 Calls Try.prog 77 #[v0, .pointer (some ⟨b0, 0, none⟩), .pointer (some ⟨b1, 0, none⟩), .pointer (some ⟨b2, 0, none⟩)] w fun e w' => e = .returned (.int .i64 1) ∧ Below w.heap.size w w' := by
 have hc := h0.cell
 clear h0
 rcases hbad with hb | hb
 · have hb0 : to_.size = 0 := by omega
   clear hb
   go_enter Try.func77, Try.ntmps77
   go_wp2
   go_ret
   exact ⟨rfl, Below.refl _ _⟩
 · go_enter Try.func77, Try.ntmps77
   go_wp2
   go_ret
   exact ⟨rfl, Below.refl _ _⟩
theorem Bjf (from_ to_ : ByteArray) (v0 : Value) (b0 b1 b2 : Nat) (h0 : VarS w b0 to_) (h1 : VarS w b1 from_) (hok : 1 ≤ to_.size ∧ to_.size ≤ 40) (he : (from_.toList == to_.toList) = true) :
 Calls Try.prog 77 #[v0, .pointer (some ⟨b0, 0, none⟩), .pointer (some ⟨b1, 0, none⟩), .pointer (some ⟨b2, 0, none⟩)] w fun e w' => e = .returned (.int .i64 0) ∧ Below w.heap.size w w' := by
 have hc := h0.cell
 have hc1 := h1.cell
 obtain ⟨ho1, ho2⟩ := hok
 clear h0 h1
 go_enter Try.func77, Try.ntmps77
 go_wp2
 go_ret
 exact ⟨rfl, Below.refl _ _⟩
theorem Bz6 (from_ to_ : ByteArray) (v0 : Value) (b0 b1 b2 : Nat) (h : Rep B g s w) (hf : Fit s) (hBw : Up B w.heap.size) (h0 : VarS w b0 to_) (h1 : VarS w b1 from_) (hp : VarP w b2 g) (hok : 1 ≤ to_.size ∧ to_.size ≤ 40) (hne : (from_.toList == to_.toList) = false) :
 Calls Try.prog 77 #[v0, .pointer (some ⟨b0, 0, none⟩), .pointer (some ⟨b1, 0, none⟩), .pointer (some ⟨b2, 0, none⟩)] w fun e w' => ∃ r, e = .returned (.int .i64 r) ∧ r = 0 ∧ Rep B g (Bz5 s from_ to_) w' ∧ BelS B w w' := by
 obtain ⟨mv, sv, pv, h⟩ := h
 obtain ⟨As, cs, rfl⟩ := Kd.V_slice h.safe
 obtain ⟨Ap, cp, rfl⟩ := Az1 h.pend
 have hlen := hf.len
 have hc0 := h0.cell
 have hc1 := h1.cell
 obtain ⟨ho1, ho2⟩ := hok
 have hfl := List.length_filter_le (fun x => !Ax8 to_ x) s.safe
 obtain ⟨rm, hmv⟩ := move_f (s.safe.filter fun x => !Ax8 to_ x) from_ to_ (by omega) (fun x hx => hf.safe x (List.mem_filter.1 hx).1)
 obtain ⟨ml, hml⟩ : ∃ ml, ml = Avx (s.safe.filter fun x => !Ax8 to_ x) from_ to_ := ⟨_, rfl⟩
 rw [← hml] at hmv
 have HML := Bvh hml
 have HMV := Bvh hmv
 clear hml hmv
 go_enter Try.func77, Try.ntmps77
 go_wp2_with fail
 clear hc0 hc1 hne
 refine Ak8 (n := 16) (S := (fun w' => w'.cell? ⟨b2, 0, none⟩ = some (.pointer (some ⟨g, 0, none⟩)) ∧ w'.cell? ⟨b0, 0, none⟩ = some (.string to_) ∧ w'.cell? ⟨b1, 0, none⟩ = some (.string from_) ∧ w'.cell? ⟨g, 3, none⟩ = some (.slice As s.safe.length cs))) (ds := [15]) #[false, false, false, false, false, false, false, false, false, false, false, false, false, false, false, false] (by kernel_rfl) rfl rfl ⟨(hp.below (Aq5 (Below.refl _ _))).cell, (h0.below (Aq5 (Below.refl _ _))).cell, (h1.below (Aq5 (Below.refl _ _))).cell, (h.below (Aq5 (Below.refl _ _))).cells.2.2.2.1⟩ (fun hHeld => ?_)
 refine take_ (i := 0) (N := some 22) (v := ?_) (a' := ?_) #[true, false, false, false, false, false, false, false, false, false, false, false, false, false, false, false] rfl rfl (by kernel_rfl) (fun _ _ _ h => h) (Or.inl ⟨by rfl, ?_⟩) hHeld ?_ ?_
 rotate_left
 · rintro w' ⟨s0, s1, s2, s3⟩
   go_simp
   with_reducible rfl
 rotate_left
 · simp only [Act.put, Bvi, Bvj, Bvk, Aqv, Aqw]
   rfl
 refine take_ (i := 1) (N := some 23) (v := ?_) (a' := ?_) #[true, true, false, false, false, false, false, false, false, false, false, false, false, false, false, false] rfl rfl (by kernel_rfl) (fun _ _ _ h => h) (Or.inl ⟨by rfl, ?_⟩) hHeld ?_ ?_
 rotate_left
 · rintro w' ⟨s0, s1, s2, s3⟩
   go_simp
   with_reducible rfl
 rotate_left
 · simp only [Act.put, Bvi, Bvj, Bvk, Aqv, Aqw]
   rfl
 refine Axh (i := 2) (N := some 24) (v := ?_) (a' := ?_) #[true, true, true, false, false, false, false, false, false, false, false, false, false, false, false, false] rfl rfl (by kernel_rfl) (fun _ _ _ h => h) (Or.inl ⟨by rfl, ?_⟩) ?_ ?_
 rotate_left
 · intro w'
   go_simp
   with_reducible rfl
 rotate_left
 · simp only [Act.put, Bvi, Bvj, Bvk, Aqv, Aqw]
   rfl
 refine Axh (i := 3) (N := some 25) (v := ?_) (a' := ?_) #[true, true, true, true, false, false, false, false, false, false, false, false, false, false, false, false] rfl rfl (by kernel_rfl) (fun _ _ _ h => h) (Or.inl ⟨by rfl, ?_⟩) ?_ ?_
 rotate_left
 · intro w'
   go_simp
   with_reducible rfl
 rotate_left
 · simp only [Act.put, Bvi, Bvj, Bvk, Aqv, Aqw]
   rfl
 refine take_ (i := 4) (N := some 26) (v := ?_) (a' := ?_) #[true, true, true, true, true, false, false, false, false, false, false, false, false, false, false, false] rfl rfl (by kernel_rfl) (fun _ _ _ h => h) (Or.inl ⟨by rfl, ?_⟩) hHeld ?_ ?_
 rotate_left
 · rintro w' ⟨s0, s1, s2, s3⟩
   go_simp
   with_reducible rfl
 rotate_left
 · simp only [Act.put, Bvi, Bvj, Bvk, Aqv, Aqw]
   rfl
 refine take_ (i := 5) (N := some 27) (v := ?_) (a' := ?_) #[true, true, true, true, true, true, false, false, false, false, false, false, false, false, false, false] rfl rfl (by kernel_rfl) (fun _ _ _ h => h) (Or.inl ⟨by rfl, ?_⟩) hHeld ?_ ?_
 rotate_left
 · rintro w' ⟨s0, s1, s2, s3⟩
   go_simp
   with_reducible rfl
 rotate_left
 · simp only [Act.put, Bvi, Bvj, Bvk, Aqv, Aqw]
   rfl
 refine take_ (i := 7) (N := some 29) (v := ?_) (a' := ?_) #[true, true, true, true, true, true, false, true, false, false, false, false, false, false, false, false] rfl rfl (by kernel_rfl) (fun _ _ _ h => h) (Or.inl ⟨by rfl, ?_⟩) hHeld ?_ ?_
 rotate_left
 · rintro w' ⟨s0, s1, s2, s3⟩
   go_simp
   with_reducible rfl
 rotate_left
 · simp only [Act.put, Bvi, Bvj, Bvk, Aqv, Aqw]
   rfl
 refine take_ (i := 8) (N := some 30) (v := ?_) (a' := ?_) #[true, true, true, true, true, true, false, true, true, false, false, false, false, false, false, false] rfl rfl (by kernel_rfl) (fun _ _ _ h => h) (Or.inl ⟨by rfl, ?_⟩) hHeld ?_ ?_
 rotate_left
 · rintro w' ⟨s0, s1, s2, s3⟩
   go_simp
   with_reducible rfl
 rotate_left
 · simp only [Act.put, Bvi, Bvj, Bvk, Aqv, Aqw]
   rfl
 refine one_ (i := 6) (N := some 28) #[true, true, true, true, true, true, true, true, true, false, false, false, false, false, false, false] rfl rfl (by kernel_rfl) (by decide) (fun K hK => ?_)
 refine Avn Try.func25 (by kernel_rfl) rfl #[.slice As s.safe.length cs, .string to_] (by rfl) rfl rfl (by (try simp only [List.map_toArray, List.map_cons, List.map_nil]); first | done | rfl) ?_
 refine (Azb.calls (fun k => k ≠ g ∧ some k ≠ (Value.slice Ap s.pend.length cp).ownBlock) As cs s.safe to_ (s.safe.filter fun x => !Ax8 to_ x) _ (Azn (Kd.V_drew h.safe)) (by unfold Azb.f; rw [if_pos (by omega)])).mono ?_
 rintro e w3 ⟨v3, rfl, hV3, hb3⟩
 obtain ⟨A3, c3, rfl⟩ := Kd.V_slice hV3
 refine ⟨_, rfl, ?_⟩
 have hb03 : Below w.heap.size w w3 := Aq1 (Aq5 (Below.refl _ _)) hb3
 refine hK.out _ _ ⟨(hp.below hb03).cell, (h0.below hb03).cell, (h1.below hb03).cell, (h.below hb03).cells.2.2.2.1⟩ (fun hHeld => ?_)
 clear hK K
 refine Avb (a' := ?_) ?_ ?_
 rotate_left
 · show Act.put _ (some 28) _ = _
   simp only [Act.put, Bvi, Bvj, Bvk, Aqv, Aqw]
   rfl
 refine one_ (i := 9) (N := some 31) #[true, true, true, true, true, true, true, true, true, true, false, false, false, false, false, false] rfl rfl (by kernel_rfl) (by decide) (fun K hK => ?_)
 refine Avn Try.func21 (by kernel_rfl) rfl #[.slice A3 (s.safe.filter fun x => !Ax8 to_ x).length c3, .string from_, .string to_] (by rfl) rfl rfl (by (try simp only [List.map_toArray, List.map_cons, List.map_nil]); first | done | rfl) ?_
 refine (Ak3.calls (fun k => k ≠ g ∧ some k ≠ (Value.slice Ap s.pend.length cp).ownBlock) A3 c3 (s.safe.filter fun x => !Ax8 to_ x) from_ to_ ml rm _ (Azn (Kd.V_mono hV3 (fun k hk => hk.elim id (fun hk => h.fresh hk)))) HMV.out).mono ?_
 rintro e w5 ⟨v5, rfl, hV5, hb5⟩
 refine ⟨_, rfl, ?_⟩
 have hb05 : Below w.heap.size w w5 := Aq1 hb03 hb5
 refine hK.out _ _ ⟨(hp.below hb05).cell, (h0.below hb05).cell, (h1.below hb05).cell, (h.below hb05).cells.2.2.2.1⟩ (fun hHeld => ?_)
 have hR5 := h.below hb05
 clear hK K
 refine Avb (a' := ?_) ?_ ?_
 rotate_left
 · show Act.put _ (some 31) _ = _
   simp only [Act.put, Bvi, Bvj, Bvk, Aqv, Aqw]
   rfl
 refine Axh (i := 10) (N := some 21) (v := ?_) (a' := ?_) #[true, true, true, true, true, true, true, true, true, true, true, false, false, false, false, false] rfl rfl (by kernel_rfl) (fun _ _ _ h => h) (Or.inl ⟨by rfl, ?_⟩) ?_ ?_
 rotate_left
 · intro w'
   go_simp
   with_reducible rfl
 rotate_left
 · simp only [Act.put, Bvi, Bvj, Bvk, Aqv, Aqw]
   rfl
 refine Axh (i := 11) (N := some 32) (v := ?_) (a' := ?_) #[true, true, true, true, true, true, true, true, true, true, true, true, false, false, false, false] rfl rfl (by kernel_rfl) (fun _ _ _ h => h) (Or.inl ⟨by rfl, ?_⟩) ?_ ?_
 rotate_left
 · intro w'
   go_simp
   with_reducible rfl
 rotate_left
 · simp only [Act.put, Bvi, Bvj, Bvk, Aqv, Aqw]
   rfl
 refine Axh (i := 12) (N := some 33) (v := ?_) (a' := ?_) #[true, true, true, true, true, true, true, true, true, true, true, true, true, false, false, false] rfl rfl (by kernel_rfl) (fun _ _ _ h => h) (Or.inl ⟨by rfl, ?_⟩) ?_ ?_
 rotate_left
 · intro w'
   go_simp
   with_reducible rfl
 rotate_left
 · simp only [Act.put, Bvi, Bvj, Bvk, Aqv, Aqw]
   rfl
 refine Axh (i := 13) (N := some 34) (v := ?_) (a' := ?_) #[true, true, true, true, true, true, true, true, true, true, true, true, true, true, false, false] rfl rfl (by kernel_rfl) (fun _ _ _ h => h) (Or.inl ⟨by rfl, ?_⟩) ?_ ?_
 rotate_left
 · intro w'
   go_simp
   with_reducible rfl
 rotate_left
 · simp only [Act.put, Bvi, Bvj, Bvk, Aqv, Aqw]
   rfl
 refine Axh (i := 14) (N := some 35) (v := ?_) (a' := ?_) #[true, true, true, true, true, true, true, true, true, true, true, true, true, true, true, false] rfl rfl (by kernel_rfl) (fun _ _ _ h => h) (Or.inl ⟨by rfl, ?_⟩) ?_ ?_
 rotate_left
 · intro w'
   go_simp
   with_reducible rfl
 rotate_left
 · simp only [Act.put, Bvi, Bvj, Bvk, Aqv, Aqw]
   rfl
 refine Awj (i := 15) (N := none) #[true, true, true, true, true, true, true, true, true, true, true, true, true, true, true, true] rfl rfl (by kernel_rfl) (by decide) (fun K hK => ?_)
 have hfr := Aq2 hR5.blk 3
 have hcl := hR5.cells.2.2.2.1
 obtain ⟨A5, c5, rfl⟩ := Kd.V_slice hV5
 refine Avl (w1 := ?_) (by rfl) rfl ?_ ?_
 rotate_left
 · go_simp
   rfl
 refine hK.out _ _ ?_
 clear hK K
 refine Awn (by kernel_rfl) ?_
 have hv5 : Kd.V k38 38 w5 0 (fun k => k ≠ g ∧ some k ≠ (Value.slice Ap s.pend.length cp).ownBlock) (.slice A5 ml.length c5) ml := Azn (Kd.V_mono hV5 (fun k hk => hk.elim id (fun hk => h.fresh (Nat.le_trans hb03.size hk))))
 have hR := hR5.setSafe hv5
 have hVP := (hp.below hb05).set (j := 3) (u := (.slice A5 ml.length c5)) hR5.blk
 have hVS := (h0.below hb05).set (j := 3) (u := (.slice A5 ml.length c5)) hR5.blk
 have hVT := (h1.below hb05).set (j := 3) (u := (.slice A5 ml.length c5)) hR5.blk
 have hBB : BelS B w (w5.setCell ⟨g, 3, none⟩ (.slice A5 ml.length c5)) := Aqz (Aqk hBw hb05) h.hg 3 _
 have hBW : Up B (w5.setCell ⟨g, 3, none⟩ (.slice A5 ml.length c5)).heap.size := Up.le hBw hBB.size
 have hPL : s.pend.length ≤ 1000001 := by omega
 go_wp2_with fail
 clear hfr hcl hHeld
 generalize w5.setCell ⟨g, 3, none⟩ (.slice A5 ml.length c5) = w6 at hR hVP hVS hVT hBB hBW ⊢
 obtain ⟨s1, hs1⟩ : ∃ s1 : SSt, s1 = { s with safe := ml } := ⟨_, rfl⟩
 rw [← hs1] at hR
 have hpl1 : s1.pend = s.pend := by rw [hs1]
 rw [← hpl1] at hPL
 have HPL1 := Bvh hpl1
 clear hpl1
 refine Ak8 (n := 11) (S := (fun w' => w'.cell? ⟨b2, 0, none⟩ = some (.pointer (some ⟨g, 0, none⟩)) ∧ w'.cell? ⟨b0, 0, none⟩ = some (.string to_) ∧ w'.cell? ⟨g, 4, none⟩ = some (.slice Ap s.pend.length cp))) (ds := [10]) #[false, false, false, false, false, false, false, false, false, false, false] (by kernel_rfl) rfl rfl ⟨(hVP.below (Aq5 (Below.refl _ _))).cell, (hVS.below (Aq5 (Below.refl _ _))).cell, (hR.below (Aq5 (Below.refl _ _))).cells.2.2.2.2.1⟩ (fun hHeld => ?_)
 refine take_ (i := 0) (N := some 36) (v := ?_) (a' := ?_) #[true, false, false, false, false, false, false, false, false, false, false] rfl rfl (by kernel_rfl) (fun _ _ _ h => h) (Or.inl ⟨by rfl, ?_⟩) hHeld ?_ ?_
 rotate_left
 · rintro w' ⟨s0, s1, s2⟩
   go_simp
   with_reducible rfl
 rotate_left
 · simp only [Act.put, Bvi, Bvj, Bvk, Aqv, Aqw]
   rfl
 refine take_ (i := 1) (N := some 37) (v := ?_) (a' := ?_) #[true, true, false, false, false, false, false, false, false, false, false] rfl rfl (by kernel_rfl) (fun _ _ _ h => h) (Or.inl ⟨by rfl, ?_⟩) hHeld ?_ ?_
 rotate_left
 · rintro w' ⟨s0, s1, s2⟩
   go_simp
   with_reducible rfl
 rotate_left
 · simp only [Act.put, Bvi, Bvj, Bvk, Aqv, Aqw]
   rfl
 refine Axh (i := 2) (N := some 38) (v := ?_) (a' := ?_) #[true, true, true, false, false, false, false, false, false, false, false] rfl rfl (by kernel_rfl) (fun _ _ _ h => h) (Or.inl ⟨by rfl, ?_⟩) ?_ ?_
 rotate_left
 · intro w'
   go_simp
   with_reducible rfl
 rotate_left
 · simp only [Act.put, Bvi, Bvj, Bvk, Aqv, Aqw]
   rfl
 refine Axh (i := 3) (N := some 39) (v := ?_) (a' := ?_) #[true, true, true, true, false, false, false, false, false, false, false] rfl rfl (by kernel_rfl) (fun _ _ _ h => h) (Or.inl ⟨by rfl, ?_⟩) ?_ ?_
 rotate_left
 · intro w'
   go_simp
   with_reducible rfl
 rotate_left
 · simp only [Act.put, Bvi, Bvj, Bvk, Aqv, Aqw]
   rfl
 refine take_ (i := 4) (N := some 40) (v := ?_) (a' := ?_) #[true, true, true, true, true, false, false, false, false, false, false] rfl rfl (by kernel_rfl) (fun _ _ _ h => h) (Or.inl ⟨by rfl, ?_⟩) hHeld ?_ ?_
 rotate_left
 · rintro w' ⟨s0, s1, s2⟩
   go_simp
   with_reducible rfl
 rotate_left
 · simp only [Act.put, Bvi, Bvj, Bvk, Aqv, Aqw]
   rfl
 refine take_ (i := 5) (N := some 41) (v := ?_) (a' := ?_) #[true, true, true, true, true, true, false, false, false, false, false] rfl rfl (by kernel_rfl) (fun _ _ _ h => h) (Or.inl ⟨by rfl, ?_⟩) hHeld ?_ ?_
 rotate_left
 · rintro w' ⟨s0, s1, s2⟩
   go_simp
   with_reducible rfl
 rotate_left
 · simp only [Act.put, Bvi, Bvj, Bvk, Aqv, Aqw]
   rfl
 refine one_ (i := 6) (N := some 42) #[true, true, true, true, true, true, true, false, false, false, false] rfl rfl (by kernel_rfl) (by decide) (fun K hK => ?_)
 refine Avn Try.func76 (by kernel_rfl) rfl #[.string to_] (by rfl) rfl rfl (by (try simp only [List.map_toArray, List.map_cons, List.map_nil]); first | done | rfl) ?_
 refine (Av0 to_ _).mono ?_
 rintro e w8 ⟨rfl, hv8, hb8⟩
 refine ⟨_, rfl, ?_⟩
 refine hK.out _ _ ⟨(hVP.below (Aq1 (Aq5 (Below.refl _ _)) hb8)).cell, (hVS.below (Aq1 (Aq5 (Below.refl _ _)) hb8)).cell, (hR.below (Aq1 (Aq5 (Below.refl _ _)) hb8)).cells.2.2.2.2.1⟩ (fun hHeld => ?_)
 have hR8 := hR.below (Aq1 (Aq5 (Below.refl _ _)) hb8)
 have hB8 : BelS B w w8 := Aqc hBB (Aqk hBW (Aq1 (Aq5 (Below.refl _ _)) hb8))
 have hVP8 := hVP.below (Aq1 (Aq5 (Below.refl _ _)) hb8)
 have hVS8 := hVS.below (Aq1 (Aq5 (Below.refl _ _)) hb8)
 clear hK K
 refine Avb (a' := ?_) ?_ ?_
 rotate_left
 · show Act.put _ (some 42) _ = _
   simp only [Act.put, Bvi, Bvj, Bvk, Aqv, Aqw]
   rfl
 refine one_ (i := 7) (N := some 43) #[true, true, true, true, true, true, true, true, false, false, false] rfl rfl (by kernel_rfl) (by decide) (fun K hK => ?_)
 refine Avn Try.func72 (by kernel_rfl) rfl #[.slice Ap s.pend.length cp, .func (.func 95) #[] #[.pointer (some ⟨w6.drew.heap.size, 0, none⟩)]] (by rfl) rfl rfl (by (try simp only [List.map_toArray, List.map_cons, List.map_nil]); first | done | rfl) ?_
 refine (Av3 (fun k => k ≠ g) 0 to_ _ (.slice Ap s.pend.length cp) s1.pend _ hR8.pend (Nat.zero_le _) hPL hv8).mono ?_
 rintro e w9 ⟨v9, rfl, hO9, hg9, ha9⟩
 refine ⟨_, rfl, ?_⟩
 have hP9 : ∀ b t (cs : Array Value) (f : Nat × Nat), w8.heap[b]? = some (Obj.cells cs t f) → t ≠ 31 → w9.heap[b]? = some (Obj.cells cs t f) := fun b t cs f hb ht => (hg9.block b (Ax7 hb) (fun he => O_ne hR8.pend hb ht he.symm)).trans hb
 refine hK.out _ _ ⟨VarP.cell (hP9 _ _ _ _ hVP8 (by decide)), VarS.cell (hP9 _ _ _ _ hVS8 (by decide)), by rw [cell_of_row w9 g _ _ 106 (0, 0) (hP9 _ _ _ _ hR8.blk (by decide))]; rfl⟩ (fun hHeld => ?_)
 have hR9 := hR8.setPend hO9 hg9 (.inl ha9)
 have hblk9 := hP9 _ _ _ _ hR8.blk (by decide)
 have hB9 : BelS B w w9 := Aqc hB8 ⟨hg9.os, hg9.tape, hg9.output, hg9.size, fun k hk hn => hg9.block k hk (fun he => hn (hR8.own k he.symm))⟩
 clear hK K
 refine Avb (a' := ?_) ?_ ?_
 rotate_left
 · show Act.put _ (some 43) _ = _
   simp only [Act.put, Bvi, Bvj, Bvk, Aqv, Aqw]
   rfl
 refine Axh (i := 8) (N := some 44) (v := ?_) (a' := ?_) #[true, true, true, true, true, true, true, true, true, false, false] rfl rfl (by kernel_rfl) (fun _ _ _ h => h) (Or.inl ⟨by rfl, ?_⟩) ?_ ?_
 rotate_left
 · intro w'
   go_simp
   with_reducible rfl
 rotate_left
 · simp only [Act.put, Bvi, Bvj, Bvk, Aqv, Aqw]
   rfl
 refine Axh (i := 9) (N := some 45) (v := ?_) (a' := ?_) #[true, true, true, true, true, true, true, true, true, true, false] rfl rfl (by kernel_rfl) (fun _ _ _ h => h) (Or.inl ⟨by rfl, ?_⟩) ?_ ?_
 rotate_left
 · intro w'
   go_simp
   with_reducible rfl
 rotate_left
 · simp only [Act.put, Bvi, Bvj, Bvk, Aqv, Aqw]
   rfl
 refine Awj (i := 10) (N := none) #[true, true, true, true, true, true, true, true, true, true, true] rfl rfl (by kernel_rfl) (by decide) (fun K hK => ?_)
 have hfr := Aq2 hblk9 4
 have hcl : w9.cell? ⟨g, 4, none⟩ = some (.slice Ap s.pend.length cp) := by rw [cell_of_row w9 g _ _ 106 (0, 0) hblk9]; rfl
 obtain ⟨A9, c9, rfl⟩ := Az1 hO9
 refine Avl (w1 := ?_) (by rfl) rfl ?_ ?_
 rotate_left
 · go_simp
   rfl
 refine hK.out _ _ ?_
 clear hK K
 refine Awn (by kernel_rfl) ?_
 have hVT8 := hVT.below (Aq1 (Aq5 (Below.refl _ _)) hb8)
 have hVP10 := VarP.set (j := 4) (u := (.slice A9 (s1.pend.filter fun x => !ownW to_ x).length c9)) (hP9 _ _ _ _ hVP8 (by decide)) hblk9
 have hVS10 := VarS.set (j := 4) (u := (.slice A9 (s1.pend.filter fun x => !ownW to_ x).length c9)) (hP9 _ _ _ _ hVS8 (by decide)) hblk9
 have hVT10 := VarS.set (j := 4) (u := (.slice A9 (s1.pend.filter fun x => !ownW to_ x).length c9)) (hP9 _ _ _ _ hVT8 (by decide)) hblk9
 have hB10 : BelS B w (w9.setCell ⟨g, 4, none⟩ (.slice A9 (s1.pend.filter fun x => !ownW to_ x).length c9)) := Aqz hB9 h.hg 4 _
 obtain ⟨pl, hpl⟩ : ∃ pl, pl = s1.pend.filter fun x => !ownW to_ x := ⟨_, rfl⟩
 have hpll : pl.length ≤ 1000 := by
  have := List.length_filter_le (fun x => !ownW to_ x) s1.pend
  rw [hpl, HPL1.out] at *
  omega
 rw [← hpl] at hR9 hVP10 hVS10 hVT10 hB10 ⊢
 obtain ⟨s2, hs2⟩ : ∃ s2 : SSt, s2 = { s1 with pend := pl } := ⟨_, rfl⟩
 rw [← hs2] at hR9
 have hs2p : s2.pend = pl := by rw [hs2]
 have hcp10 := hR9.cells.2.2.2.2.1
 have hc210 := hVP10.cell
 have hc010 := hVS10.cell
 have hc110 := hVT10.cell
 have HPL := Bvh hpl
 have HS2 := Bvh hs2
 have HS2P := Bvh hs2p
 have hzz : s.pend = s1.pend := HPL1.out.symm
 clear hfr hcl hHeld hs2p hpl hs2
 try rw [hzz]
 try rw [← HPL.out]
 clear hzz
 generalize w9.setCell ⟨g, 4, none⟩ (.slice A9 pl.length c9) = w10 at hR9 hVP10 hVS10 hVT10 hB10 hcp10 hc210 hc010 hc110 ⊢
 go_wp2_with fail
 have HPL2 := Bvh hpll
 have HS1 := Bvh hs1
 have HB0 := Bvh h.hg
 clear hpll hHeld h0 h1 hp h hf hfl hb3 hV3 hb03 hb5 hb05 hR5 hV5 hv5 hVP hVS hVT hBB hBW hPL hR hs1 hv8 hb8 hR8 hB8 hVP8 hVS8 hg9 hP9 hblk9 hB9 hO9 ha9 hVT8 hlen
 go_loopg [51] pl.length (fun kq v51 w' => ∃ (i : Nat) (cur : List S31), v51 = .int .i64 i ∧ i + kq = pl.length ∧ Aside0 (cur.length = pl.length) ∧ Aside0 (cur = (pl.take i).map (renW from_ to_) ++ pl.drop i) ∧ Aside0 (RepAt B g { s2 with pend := cur } w' mv (.slice A5 ml.length c5) (.slice A9 pl.length c9)) ∧ Aside0 (VarP w' b2 g) ∧ Aside0 (VarS w' b0 to_) ∧ Aside0 (VarS w' b1 from_) ∧ Aside0 (BelS B w w'))
 case atStart => exact ⟨0, pl, rfl, by omega, ⟨rfl⟩, ⟨by simp⟩, ⟨by have h2 := hR9; rw [show ({ s2 with pend := pl } : SSt) = s2 from by rw [HS2.out]]; exact h2⟩, ⟨hVP10⟩, ⟨hVS10⟩, ⟨hVT10⟩, ⟨hB10⟩⟩
 case round =>
  clear hR9 hVP10 hVS10 hVT10 hB10 hcp10 hc210 hc010 hc110
  obtain ⟨i, cur, rfl, hi, HCL, HC, HR, HVP, HVS, HVT, HB⟩ := hrel
  have hpll := HPL2.out
  by_cases hlt : i < pl.length
  · obtain ⟨k1, rfl⟩ : ∃ k1, gk = k1 + 1 := ⟨gk - 1, by omega⟩
    have hcl2 := HCL.out
    obtain ⟨gp, rfl⟩ := O_shape HR.out.pend (by show 0 < cur.length; omega)
    obtain ⟨A1, c1, hx0, hx1, hx2, hx3, hfk⟩ := Aww HR.out.pend i (by show i < cur.length; omega)
    have hxp : cur.getD i z31 = pl[i] := by rw [HC.out]; exact (Avy from_ to_ pl i hlt).1
    obtain ⟨x, hxe⟩ : ∃ x, pl[i] = x := ⟨_, rfl⟩
    rw [hxe] at hxp
    have hxp2 : ({ s2 with pend := cur } : SSt).pend.getD i z31 = x := hxp
    rw [hxp2] at hx0 hx1 hx2 hx3
    have HXE := Bvh hxe
    have HXP := Bvh hxp
    have hR12 := HR.out.below (Aq4 (Below.refl _ _) (.cells #[.string x.f0, .int .i64 x.f1, .int .i64 x.f2, .slice A1 x.f3.length c1] 31))
    have hVP12 := HVP.out.below (Aq4 (Below.refl _ _) (.cells #[.string x.f0, .int .i64 x.f1, .int .i64 x.f2, .slice A1 x.f3.length c1] 31))
    have hVS12 := HVS.out.below (Aq4 (Below.refl _ _) (.cells #[.string x.f0, .int .i64 x.f1, .int .i64 x.f2, .slice A1 x.f3.length c1] 31))
    have hVT12 := HVT.out.below (Aq4 (Below.refl _ _) (.cells #[.string x.f0, .int .i64 x.f1, .int .i64 x.f2, .slice A1 x.f3.length c1] 31))
    have hB12 : BelS B w (wr.alloc (.cells #[.string x.f0, .int .i64 x.f1, .int .i64 x.f2, .slice A1 x.f3.length c1] 31)) := Aqc HB.out (Aqk (Up.le hBw HB.out.size) (Aq4 (Below.refl _ _) _))
    have hc112 := hVT12.cell
    have HR12 := Bvh hR12
    have HVP12 := Bvh hVP12
    have HVS12 := Bvh hVS12
    have HVT12 := Bvh hVT12
    have HB12 := Bvh hB12
    clear hfk hxp hxp2 hxe hcl2 hR12 hVP12 hVS12 hVT12 hB12
    cases hown : ownW from_ x
    · have hp' : (x.f0.toList == from_.toList) = false := hown
      have HOW := Bvh hown
      clear hown
      go_wp2_with fail
      go_roundg k1
      case measure => omega
      case rel => exact ⟨i + 1, cur, by go_num, by omega, HCL, ⟨by rw [HC.out]; exact ren_skip from_ to_ pl i hlt (by rw [HXE.out]; exact HOW.out)⟩, HR12, HVP12, HVS12, HVT12, HB12⟩
    · have hp' : (x.f0.toList == from_.toList) = true := hown
      have HOW := Bvh hown
      clear hown
      go_wp2_with fail
      have hR12 := HR12.out
      have hVP12 := HVP12.out
      have hVS12 := HVS12.out
      have hVT12 := HVT12.out
      have hB12 := HB12.out
      clear hx0 hx1 hx2 hx3 hc112 hp'
      generalize wr.alloc (.cells #[.string x.f0, .int .i64 x.f1, .int .i64 x.f2, .slice A1 x.f3.length c1] 31) = w12 at hR12 hVP12 hVS12 hVT12 hB12 HR12 HVP12 HVS12 HVT12 HB12 ⊢
      have hi0 : (0 : Int) ≤ (i : Int) := by omega
      have hi1 : (i : Int) < (pl.length : Int) := by omega
      refine Ak8 (n := 9) (S := (fun w' => w'.cell? ⟨b2, 0, none⟩ = some (.pointer (some ⟨g, 0, none⟩)) ∧ w'.cell? ⟨b0, 0, none⟩ = some (.string to_) ∧ w'.cell? ⟨g, 4, none⟩ = some (.slice (some ⟨gp, 0, none⟩) pl.length c9))) (ds := [8]) #[false, false, false, false, false, false, false, false, false] (by kernel_rfl) rfl rfl ⟨(hVP12.below (Aq5 (Below.refl _ _))).cell, (hVS12.below (Aq5 (Below.refl _ _))).cell, (hR12.below (Aq5 (Below.refl _ _))).cells.2.2.2.2.1⟩ (fun hHeld => ?_)
      refine Axh (i := 4) (N := some 64) (v := ?_) (a' := ?_) #[false, false, false, false, true, false, false, false, false] rfl rfl (by kernel_rfl) (fun _ _ _ h => h) (Or.inl ⟨by rfl, ?_⟩) ?_ ?_
      rotate_left
      · intro w'
        go_simp
        with_reducible rfl
      rotate_left
      · simp only [Act.put, Bvi, Bvj, Bvk, Aqv, Aqw]
        rfl
      refine take_ (i := 0) (N := some 60) (v := ?_) (a' := ?_) #[true, false, false, false, true, false, false, false, false] rfl rfl (by kernel_rfl) (fun _ _ _ h => h) (Or.inl ⟨by rfl, ?_⟩) hHeld ?_ ?_
      rotate_left
      · rintro w' ⟨s0, s1, s2⟩
        go_simp
        with_reducible rfl
      rotate_left
      · simp only [Act.put, Bvi, Bvj, Bvk, Aqv, Aqw]
        rfl
      refine Axh (i := 1) (N := some 61) (v := ?_) (a' := ?_) #[true, true, false, false, true, false, false, false, false] rfl rfl (by kernel_rfl) (fun _ _ _ h => h) (Or.inl ⟨by rfl, ?_⟩) ?_ ?_
      rotate_left
      · intro w'
        go_simp
        with_reducible rfl
      rotate_left
      · simp only [Act.put, Bvi, Bvj, Bvk, Aqv, Aqw]
        rfl
      refine Axh (i := 2) (N := some 62) (v := ?_) (a' := ?_) #[true, true, true, false, true, false, false, false, false] rfl rfl (by kernel_rfl) (fun _ _ _ h => h) (Or.inl ⟨by rfl, ?_⟩) ?_ ?_
      rotate_left
      · intro w'
        go_simp
        with_reducible rfl
      rotate_left
      · simp only [Act.put, Bvi, Bvj, Bvk, Aqv, Aqw]
        rfl
      refine take_ (i := 3) (N := some 63) (v := ?_) (a' := ?_) #[true, true, true, true, true, false, false, false, false] rfl rfl (by kernel_rfl) (fun _ _ _ h => h) (Or.inl ⟨by rfl, ?_⟩) hHeld ?_ ?_
      rotate_left
      · rintro w' ⟨s0, s1, s2⟩
        go_simp
        with_reducible rfl
      rotate_left
      · simp only [Act.put, Bvi, Bvj, Bvk, Aqv, Aqw]
        rfl
      refine take_ (i := 5) (N := some 65) (v := ?_) (a' := ?_) #[true, true, true, true, true, true, false, false, false] rfl rfl (by kernel_rfl) (fun _ _ _ h => h) (Or.inl ⟨by rfl, ?_⟩) hHeld ?_ ?_
      rotate_left
      · rintro w' ⟨s0, s1, s2⟩
        go_simp
        with_reducible rfl
      rotate_left
      · simp only [Act.put, Bvi, Bvj, Bvk, Aqv, Aqw]
        rfl
      refine Axh (i := 6) (N := some 66) (v := ?_) (a' := ?_) #[true, true, true, true, true, true, true, false, false] rfl rfl (by kernel_rfl) (fun _ _ _ h => h) (Or.inl ⟨by rfl, ?_⟩) ?_ ?_
      rotate_left
      · intro w'
        go_simp
        with_reducible rfl
      rotate_left
      · simp only [Act.put, Bvi, Bvj, Bvk, Aqv, Aqw]
        rfl
      refine Axh (i := 7) (N := some 67) (v := ?_) (a' := ?_) #[true, true, true, true, true, true, true, true, false] rfl rfl (by kernel_rfl) (fun _ _ _ h => h) (Or.inl ⟨by rfl, ?_⟩) ?_ ?_
      rotate_left
      · intro w'
        go_simp
        with_reducible rfl
      rotate_left
      · simp only [Act.put, Bvi, Bvj, Bvk, Aqv, Aqw]
        rfl
      refine Awj (i := 8) (N := none) #[true, true, true, true, true, true, true, true, true] rfl rfl (by kernel_rfl) (by decide) (fun K hK => ?_)
      have hR13 := hR12.below (Aq5 (Below.refl _ _))
      have hcell := (Aww hR13.pend i (by show i < cur.length; have := HCL.out; omega)).choose_spec.choose_spec.1
      have hfr := Aq2 (Ak6 hR13.pend).choose_spec (i * 4)
      refine Avl (w1 := ?_) (by rfl) rfl ?_ ?_
      rotate_left
      · go_simp
        rfl
      refine hK.out _ _ ?_
      clear hK K
      refine Awn (by kernel_rfl) ?_
      have hgpb := (Ak6 hR12.pend).choose_spec
      have hR14 := (hR12.renamedN HCL.out i hlt to_).below (Aq5 (Below.refl _ _))
      have hVP14 : VarP ((w12.setCell ⟨gp, i * 4, none⟩ (.string to_)).drew) b2 g := (Below.heap_setCell _ _ _ _ (Akx hVP12 hgpb (by decide))).trans hVP12
      have hVS14 : VarS ((w12.setCell ⟨gp, i * 4, none⟩ (.string to_)).drew) b0 to_ := (Below.heap_setCell _ _ _ _ (Akx hVS12 hgpb (by decide))).trans hVS12
      have hVT14 : VarS ((w12.setCell ⟨gp, i * 4, none⟩ (.string to_)).drew) b1 from_ := (Below.heap_setCell _ _ _ _ (Akx hVT12 hgpb (by decide))).trans hVT12
      have hB14 : BelS B w ((w12.setCell ⟨gp, i * 4, none⟩ (.string to_)).drew) := Azh (Aqz hB12 (hR12.own gp rfl) _ _)
      have hst := (Avy from_ to_ pl i hlt).2
      have hcn : cur.set i { (cur.getD i z31) with f0 := to_ } = (pl.take (i + 1)).map (renW from_ to_) ++ pl.drop (i + 1) := by
       rw [← hst, ← HC.out, HXP.out, HXE.out]
       unfold renW
       rw [HOW.out]
       rfl
      have hlen2 : (cur.set i { (cur.getD i z31) with f0 := to_ }).length = pl.length := by rw [List.length_set]; exact HCL.out
      obtain ⟨cur2, hcur2⟩ : ∃ cur2, cur2 = cur.set i { (cur.getD i z31) with f0 := to_ } := ⟨_, rfl⟩
      have hR15 : RepAt B g { s2 with pend := cur2 } ((w12.setCell ⟨gp, i * 4, none⟩ (.string to_)).drew) mv (.slice A5 ml.length c5) (.slice (some ⟨gp, 0, none⟩) pl.length c9) := by rw [hcur2]; exact hR14
      rw [← hcur2] at hcn hlen2
      have HR15 := Bvh hR15
      have HVP14 := Bvh hVP14
      have HVS14 := Bvh hVS14
      have HVT14 := Bvh hVT14
      have HB14 := Bvh hB14
      have HCN := Bvh hcn
      have HLN := Bvh hlen2
      clear hgpb hR14 hR15 hVP14 hVS14 hVT14 hB14 hst hcn hlen2 hcur2 hR12 hVP12 hVS12 hVT12 hB12 hHeld hR13 hcell hfr
      go_wp2_with fail
      go_roundg k1
      case measure => omega
      case rel => exact ⟨i + 1, cur2, by go_num, by omega, HLN, HCN, HR15, HVP14, HVS14, HVT14, HB14⟩
  · have hge : pl.length ≤ i := by omega
    have hend : { s2 with pend := cur } = Bz5 s from_ to_ := by
     rw [HC.out, List.take_of_length_le hge, List.drop_eq_nil_of_le hge, List.append_nil]
     unfold Bz5
     rw [HS2.out, HPL.out, HS1.out, HML.out]
    have HEND := Bvh hend
    clear hlt hend
    go_wp2_with fail
    all_goals go_ret
    exact ⟨0, rfl, rfl, ⟨mv, _, _, by rw [← HEND.out]; exact HR.out⟩, HB.out⟩
end
end
section
def getT (l : List S38) (n : ByteArray) : List Int × Bool := match l.find? (Ax8 n) with | some x => (x.f1, true) | none => ([], false)
theorem Bq1 (l : List S38) (n : ByteArray) (hl : l.length ≤ 1000000) (hd : okL l) : Aqs.f l n = some ((getT l n).1, (getT l n).2) := by
 unfold Aqs.f getT
 rw [if_pos ⟨hl, fun x hx => by have := hd x hx; omega⟩]
 cases l.find? (Ax8 n) <;> rfl
theorem Axx (s : SSt) : Aq8 (asked s).1 = Aq8 s := by
 unfold asked
 split
 · rfl
 · split
   · rfl
   · split <;> rfl
theorem Bqw {s : SSt} (h : (asked s).2 = 0) : (asked s).1 = { s with calls := s.calls + 1 } := by
 unfold asked at h ⊢
 split at h
 · simp at h
 · rename_i h1
   rw [if_neg h1]
   split at h
   · simp at h
   · rename_i h2
     rw [if_neg h2]
     split at h
     · simp at h
     · rename_i h3
       rw [if_neg h3]
theorem Axt {s : SSt} (h : Fit s) : okL (Aq8 s) ∧ (Aq8 s).length ≤ 1000 := by
 obtain ⟨h1, h2⟩ := Akt (fun _ => -1) s.pend 0 s.safe h.safe
 exact ⟨h1, Nat.le_trans h2 h.len⟩
structure Fit0 (s : SSt) : Prop where
 len : s.safe.length + s.pend.length ≤ 1000
 safe : okL s.safe
 pend : okW s.pend
def VarC (w : World) (b : Nat) (c : Value) : Prop := w.heap[b]? = some (.cells #[c] 113 (0, 0))
theorem VarC.below {w w1 : World} {b : Nat} {c : Value} (h : VarC w b c) (hb : Below w.heap.size w w1) : VarC w1 b c := Aqn hb h
theorem VarC.cell {w : World} {b : Nat} {c : Value} (h : VarC w b c) : w.cell? ⟨b, 0, none⟩ = some c := by
 rw [cell_of_row w b 0 _ 113 (0, 0) h]; rfl
section
variable {B : Nat → Prop} {g : Nat} {s : SSt} {w : World} {name : ByteArray} {mv sv pv : Value}
structure OfS (B : Nat → Prop) (g : Nat) (s : SSt) (mv sv pv : Value) (name : ByteArray) (b0 b1 b2 : Nat) (c : Value) (w w' : World) : Prop where
 rep : RepAt B g s w' mv sv pv
 p : VarP w' b0 g
 n : VarS w' b1 name
 c : VarC w' b2 c
 below : Below w.heap.size w w'
theorem OfS.step {b0 b1 b2 : Nat} {c : Value} {u v : World} (h : OfS B g s mv sv pv name b0 b1 b2 c w u) (hb : Below u.heap.size u v) : OfS B g s mv sv pv name b0 b1 b2 c w v := ⟨h.rep.below hb, h.p.below hb, h.n.below hb, h.c.below hb, Aq1 h.below hb⟩
theorem OfS.all {b0 b1 b2 : Nat} {c : Value} {u : World} (h : OfS B g s mv sv pv name b0 b1 b2 c w u) : u.cell? ⟨b0, 0, none⟩ = some (.pointer (some ⟨g, 0, none⟩)) ∧ u.cell? ⟨b1, 0, none⟩ = some (.string name) ∧ OfS B g s mv sv pv name b0 b1 b2 c w u := ⟨h.p.cell, h.n.cell, h⟩
theorem Avz (b0 b1 b2 : Nat) (c : Value) (h : RepAt B g s w mv sv pv) (hf : Fit s) (hp : VarP w b0 g) (hn : VarS w b1 name) (hc : VarC w b2 c) (hno : (getT (Aq8 s) name).2 = false) :
 Calls Try.prog 93 #[.pointer (some ⟨b0, 0, none⟩), .pointer (some ⟨b1, 0, none⟩), .pointer (some ⟨b2, 0, none⟩)] w fun e w' => e = .returned (.int .i64 4) ∧ RepAt B g s w' mv sv pv ∧ Below w.heap.size w w' := by
 have hk0 : OfS B g s mv sv pv name b0 b1 b2 c w w := ⟨h, hp, hn, hc, Below.refl _ _⟩
 have HF := Bvh hf
 obtain ⟨hfo, hfl⟩ := Axt hf
 have HFO := Bvh hfo
 have hge := Bq1 (Aq8 s) name (by omega) hfo
 rw [hno] at hge
 have HGE := Bvh hge
 clear h hp hn hc hf hfo hge
 go_enter Try.func93, Try.ntmps93
 go_wp2_with fail
 go_region_held3 (fun w' => w'.cell? ⟨b0, 0, none⟩ = some (.pointer (some ⟨g, 0, none⟩)) ∧ w'.cell? ⟨b1, 0, none⟩ = some (.string name) ∧ OfS B g s mv sv pv name b0 b1 b2 c w w')
  (first
    | exact (hk0.step (Aq5 (Below.refl _ _))).all
    | (go_split_ands
       first
        | exact OfS.all (OfS.step (by assumption) hb6)
        | exact OfS.all (OfS.step (by assumption) hb5))
    | go_keep)
  (first
    | (go_split_ands; go_at_call 42; refine (Az4 ⟨mv, sv, pv, OfS.rep (by assumption)⟩ HF.out).mono ?_; rintro e w5 ⟨v5, rfl, hV5, hb5⟩; obtain ⟨A5, c5, rfl⟩ := Kd.V_slice hV5)
    | (go_split_ands
       go_at_call 28
       ((with_reducible refine (Aqs.calls A5 c5 (Aq8 s) name (getT (Aq8 s) name).1 false _ ?hs ?hc HGE.out).mono ?_); (case hs => exact (Kd.V_reads' hV5).2.2); (case hc => exact (Kd.V_reads' hV5).2.1))
       rintro e w6 ⟨v6, rfl, hV6, hb6⟩))
 have hfin : OfS B g s mv sv pv name b0 b1 b2 c w w6 := by go_split_ands; assumption
 have HFIN := Bvh hfin
 clear hk0 hfin hV6 hV5 hb5 hb6
 go_wp2
 go_ret
 exact ⟨rfl, HFIN.out.rep, HFIN.out.below⟩
theorem of1_ok70 (b0 b1 b2 c0 c1 : Nat) (R : Int → World → Prop) (h : RepAt B g s w mv sv pv) (hf : Fit s) (hp : VarP w b0 g) (hn : VarS w b1 name) (hc : VarC w b2 (.func (.func 70) #[] #[.pointer (some ⟨c0, 0, none⟩), .pointer (some ⟨c1, 0, none⟩)])) (hok : (getT (Aq8 s) name).2 = true)
 (hdo : ∀ w1 v, RepAt B g s w1 mv sv pv → Below w.heap.size w w1 → Kd.R (Kd.int .u8) 5 w1 w.heap.size (fun _ => True) v (getT (Aq8 s) name).1 → Calls Try.prog 70 #[v, .pointer (some ⟨c0, 0, none⟩), .pointer (some ⟨c1, 0, none⟩)] w1 fun e w' => ∃ r, e = .returned (.int .i64 r) ∧ R r w') :
 Calls Try.prog 93 #[.pointer (some ⟨b0, 0, none⟩), .pointer (some ⟨b1, 0, none⟩), .pointer (some ⟨b2, 0, none⟩)] w fun e w' => ∃ r, e = .returned (.int .i64 r) ∧ R r w' := by
 have HDO := Bvh hdo
 clear hdo
 have hk0 : OfS B g s mv sv pv name b0 b1 b2 (.func (.func 70) #[] #[.pointer (some ⟨c0, 0, none⟩), .pointer (some ⟨c1, 0, none⟩)]) w w := ⟨h, hp, hn, hc, Below.refl _ _⟩
 have HF := Bvh hf
 obtain ⟨hfo, hfl⟩ := Axt hf
 have HFO := Bvh hfo
 have hge := Bq1 (Aq8 s) name (by omega) hfo
 rw [hok] at hge
 have HGE := Bvh hge
 clear h hp hn hc hf hfo hge
 go_enter Try.func93, Try.ntmps93
 go_wp2_with fail
 go_region_held3 (fun w' => w'.cell? ⟨b0, 0, none⟩ = some (.pointer (some ⟨g, 0, none⟩)) ∧ w'.cell? ⟨b1, 0, none⟩ = some (.string name) ∧ OfS B g s mv sv pv name b0 b1 b2 (.func (.func 70) #[] #[.pointer (some ⟨c0, 0, none⟩), .pointer (some ⟨c1, 0, none⟩)]) w w')
  (first
    | exact (hk0.step (Aq5 (Below.refl _ _))).all
    | (go_split_ands
       first
        | exact OfS.all (OfS.step (by assumption) hb6)
        | exact OfS.all (OfS.step (by assumption) hb5))
    | go_keep)
  (first
    | (go_split_ands; go_at_call 42; refine (Az4 ⟨mv, sv, pv, OfS.rep (by assumption)⟩ HF.out).mono ?_; rintro e w5 ⟨v5, rfl, hV5, hb5⟩; obtain ⟨A5, c5, rfl⟩ := Kd.V_slice hV5)
    | (go_split_ands
       go_at_call 28
       ((with_reducible refine (Aqs.calls A5 c5 (Aq8 s) name (getT (Aq8 s) name).1 true _ ?hs ?hc HGE.out).mono ?_); (case hs => exact (Kd.V_reads' hV5).2.2); (case hc => exact (Kd.V_reads' hV5).2.1))
       rintro e w6 ⟨v6, rfl, hV6, hb6⟩))
 have hfin : OfS B g s mv sv pv name b0 b1 b2 (.func (.func 70) #[] #[.pointer (some ⟨c0, 0, none⟩), .pointer (some ⟨c1, 0, none⟩)]) w w6 := by go_split_ands; assumption
 have h5 : OfS B g s mv sv pv name b0 b1 b2 (.func (.func 70) #[] #[.pointer (some ⟨c0, 0, none⟩), .pointer (some ⟨c1, 0, none⟩)]) w w5 := by go_split_ands; assumption
 have hc6 := hfin.c.cell
 have HFIN := Bvh hfin
 have HV6 := Bvh (Kd.R_lower hV6 h5.below.size)
 clear hk0 hfin hV6 hV5 hb5 hb6 h5
 go_wp2_with (go_at_call 70; refine (HDO.out _ _ HFIN.out.rep HFIN.out.below HV6.out).mono ?_; rintro e w7 ⟨r, rfl, hR⟩; have HR := Bvh hR; clear hR)
 go_ret
 exact ⟨r, rfl, HR.out⟩
theorem of_ok70 (c0 c1 : Nat) (R : Int → World → Prop) (h : RepAt B g s w mv sv pv) (hf : Fit s) (hf1 : Fit (asked s).1) (hBw : Up B w.heap.size) (ha : (asked s).2 = 0) (hok : (getT (Aq8 s) name).2 = true)
 (hdo : ∀ w1 v, RepAt B g (asked s).1 w1 mv sv pv → BelS B w w1 → Axl g w w1 → Kd.R (Kd.int .u8) 5 w1 w.heap.size (fun _ => True) v (getT (Aq8 s) name).1 → Calls Try.prog 70 #[v, .pointer (some ⟨c0, 0, none⟩), .pointer (some ⟨c1, 0, none⟩)] w1 fun e w' => ∃ r, e = .returned (.int .i64 r) ∧ R r w') :
 Calls Try.prog 69 #[.pointer (some ⟨g, 0, none⟩), .string name, (.func (.func 70) #[] #[.pointer (some ⟨c0, 0, none⟩), .pointer (some ⟨c1, 0, none⟩)])] w fun e w' => ∃ r, e = .returned (.int .i64 r) ∧ R r w' := by
 have HDO := Bvh hdo
 have H := Bvh h
 have HF := Bvh hf
 have HF1 := Bvh hf1
 have HA := Bvh ha
 have HOK := Bvh hok
 clear h hf hf1 ha hok hdo
 obtain ⟨o0, ho0⟩ : ∃ o, o = Obj.cells #[.pointer (some ⟨g, 0, none⟩)] 58 := ⟨_, rfl⟩
 obtain ⟨o1, ho1⟩ : ∃ o, o = Obj.cells #[.string name] 9 := ⟨_, rfl⟩
 obtain ⟨o2, ho2⟩ : ∃ o, o = Obj.cells #[(.func (.func 70) #[] #[.pointer (some ⟨c0, 0, none⟩), .pointer (some ⟨c1, 0, none⟩)])] 113 := ⟨_, rfl⟩
 have hw3 : Below w.heap.size w (((w.alloc (.cells #[.pointer (some ⟨g, 0, none⟩)] 58)).alloc (.cells #[.string name] 9)).alloc (.cells #[(.func (.func 70) #[] #[.pointer (some ⟨c0, 0, none⟩), .pointer (some ⟨c1, 0, none⟩)])] 113)) := Aq4 (Aq4 (Aq4 (Below.refl _ _) _) _) _
 have hp : VarP (((w.alloc (.cells #[.pointer (some ⟨g, 0, none⟩)] 58)).alloc (.cells #[.string name] 9)).alloc (.cells #[(.func (.func 70) #[] #[.pointer (some ⟨c0, 0, none⟩), .pointer (some ⟨c1, 0, none⟩)])] 113)) w.heap.size g := Aqe (Aqe (heap_alloc_new _ _) _) _
 have hn : VarS (((w.alloc (.cells #[.pointer (some ⟨g, 0, none⟩)] 58)).alloc (.cells #[.string name] 9)).alloc (.cells #[(.func (.func 70) #[] #[.pointer (some ⟨c0, 0, none⟩), .pointer (some ⟨c1, 0, none⟩)])] 113)) (w.heap.size + 1) name := by
  have := heap_alloc_new (w.alloc (.cells #[.pointer (some ⟨g, 0, none⟩)] 58)) (.cells #[.string name] 9)
  rw [World.size_alloc] at this
  exact Aqe this _
 have hc : VarC (((w.alloc (.cells #[.pointer (some ⟨g, 0, none⟩)] 58)).alloc (.cells #[.string name] 9)).alloc (.cells #[(.func (.func 70) #[] #[.pointer (some ⟨c0, 0, none⟩), .pointer (some ⟨c1, 0, none⟩)])] 113)) (w.heap.size + 2) (.func (.func 70) #[] #[.pointer (some ⟨c0, 0, none⟩), .pointer (some ⟨c1, 0, none⟩)]) := by
  have := heap_alloc_new ((w.alloc (.cells #[.pointer (some ⟨g, 0, none⟩)] 58)).alloc (.cells #[.string name] 9)) (.cells #[(.func (.func 70) #[] #[.pointer (some ⟨c0, 0, none⟩), .pointer (some ⟨c1, 0, none⟩)])] 113)
  rw [World.size_alloc, World.size_alloc] at this
  exact this
 have HW3 := Bvh hw3
 have HP := Bvh hp
 have HN := Bvh hn
 have HC := Bvh hc
 clear ho0 ho1 ho2 o0 o1 o2 hw3 hp hn hc
 have hg0 : g < w.heap.size := by exact Ax7 H.out.blk
 go_enter Try.func69, Try.ntmps69
 go_wp2_with (go_at_call 90; refine (Ajk w.heap.size (w.heap.size + 1) (w.heap.size + 2) R (H.out.below HW3.out) HF.out HA.out ?hclo).mono ?_; (case hclo =>
  intro w1 hr1 hb1 hk1
  have hne : ∀ b, w.heap.size ≤ b → b ≠ g := fun b hb => by omega
  refine of1_ok70 w.heap.size (w.heap.size + 1) (w.heap.size + 2) c0 c1 R hr1 HF1.out (Aqt HP.out hk1 (hne _ (by omega))) (Aqt HN.out hk1 (hne _ (by omega))) (Aqt HC.out hk1 (hne _ (by omega))) (by rw [Axx]; exact HOK.out) ?_
  intro w2 v hr2 hb2 hv
  rw [Axx] at hv
  refine HDO.out w2 v hr2 (Aqc (Aqk hBw HW3.out) (Aqc hb1 (Aqk (Up.le hBw (Nat.le_trans HW3.out.size hk1.1)) hb2))) ((Axl.of_below HW3.out).trans (hk1.trans (Axl.of_below hb2))) (Kd.R_lower hv (Nat.le_trans HW3.out.size hk1.1))); rintro e w7 ⟨r, rfl, hR⟩; have HR := Bvh hR; clear hR)
 go_ret
 exact ⟨r, rfl, HR.out⟩
theorem Bkn (c0 c1 : Nat) (h : RepAt B g s w mv sv pv) (hf : Fit s) (hf1 : Fit (asked s).1) (hBw : Up B w.heap.size) (ha : (asked s).2 = 0) (hok : (getT (Aq8 s) name).2 = false) :
 Calls Try.prog 69 #[.pointer (some ⟨g, 0, none⟩), .string name, (.func (.func 70) #[] #[.pointer (some ⟨c0, 0, none⟩), .pointer (some ⟨c1, 0, none⟩)])] w fun e w' => ∃ r, e = .returned (.int .i64 r) ∧ r = 4 ∧ Rep B g (asked s).1 w' ∧ BelS B w w' := by
 have H := Bvh h
 have HF := Bvh hf
 have HF1 := Bvh hf1
 have HA := Bvh ha
 have HOK := Bvh hok
 clear h hf hf1 ha hok
 obtain ⟨o0, ho0⟩ : ∃ o, o = Obj.cells #[.pointer (some ⟨g, 0, none⟩)] 58 := ⟨_, rfl⟩
 obtain ⟨o1, ho1⟩ : ∃ o, o = Obj.cells #[.string name] 9 := ⟨_, rfl⟩
 obtain ⟨o2, ho2⟩ : ∃ o, o = Obj.cells #[(.func (.func 70) #[] #[.pointer (some ⟨c0, 0, none⟩), .pointer (some ⟨c1, 0, none⟩)])] 113 := ⟨_, rfl⟩
 have hw3 : Below w.heap.size w (((w.alloc (.cells #[.pointer (some ⟨g, 0, none⟩)] 58)).alloc (.cells #[.string name] 9)).alloc (.cells #[(.func (.func 70) #[] #[.pointer (some ⟨c0, 0, none⟩), .pointer (some ⟨c1, 0, none⟩)])] 113)) := Aq4 (Aq4 (Aq4 (Below.refl _ _) _) _) _
 have hp : VarP (((w.alloc (.cells #[.pointer (some ⟨g, 0, none⟩)] 58)).alloc (.cells #[.string name] 9)).alloc (.cells #[(.func (.func 70) #[] #[.pointer (some ⟨c0, 0, none⟩), .pointer (some ⟨c1, 0, none⟩)])] 113)) w.heap.size g := Aqe (Aqe (heap_alloc_new _ _) _) _
 have hn : VarS (((w.alloc (.cells #[.pointer (some ⟨g, 0, none⟩)] 58)).alloc (.cells #[.string name] 9)).alloc (.cells #[(.func (.func 70) #[] #[.pointer (some ⟨c0, 0, none⟩), .pointer (some ⟨c1, 0, none⟩)])] 113)) (w.heap.size + 1) name := by
  have := heap_alloc_new (w.alloc (.cells #[.pointer (some ⟨g, 0, none⟩)] 58)) (.cells #[.string name] 9)
  rw [World.size_alloc] at this
  exact Aqe this _
 have hc : VarC (((w.alloc (.cells #[.pointer (some ⟨g, 0, none⟩)] 58)).alloc (.cells #[.string name] 9)).alloc (.cells #[(.func (.func 70) #[] #[.pointer (some ⟨c0, 0, none⟩), .pointer (some ⟨c1, 0, none⟩)])] 113)) (w.heap.size + 2) (.func (.func 70) #[] #[.pointer (some ⟨c0, 0, none⟩), .pointer (some ⟨c1, 0, none⟩)]) := by
  have := heap_alloc_new ((w.alloc (.cells #[.pointer (some ⟨g, 0, none⟩)] 58)).alloc (.cells #[.string name] 9)) (.cells #[(.func (.func 70) #[] #[.pointer (some ⟨c0, 0, none⟩), .pointer (some ⟨c1, 0, none⟩)])] 113)
  rw [World.size_alloc, World.size_alloc] at this
  exact this
 have HW3 := Bvh hw3
 have HP := Bvh hp
 have HN := Bvh hn
 have HC := Bvh hc
 clear ho0 ho1 ho2 o0 o1 o2 hw3 hp hn hc
 have hg0 : g < w.heap.size := by exact Ax7 H.out.blk
 go_enter Try.func69, Try.ntmps69
 go_wp2_with (go_at_call 90; refine (Ajk w.heap.size (w.heap.size + 1) (w.heap.size + 2) (fun r w' => r = 4 ∧ Rep B g (asked s).1 w' ∧ BelS B w w') (H.out.below HW3.out) HF.out HA.out ?hclo).mono ?_; (case hclo =>
  intro w1 hr1 hb1 hk1
  have hne : ∀ b, w.heap.size ≤ b → b ≠ g := fun b hb => by omega
  refine (Avz w.heap.size (w.heap.size + 1) (w.heap.size + 2) (.func (.func 70) #[] #[.pointer (some ⟨c0, 0, none⟩), .pointer (some ⟨c1, 0, none⟩)]) hr1 HF1.out (Aqt HP.out hk1 (hne _ (by omega))) (Aqt HN.out hk1 (hne _ (by omega))) (Aqt HC.out hk1 (hne _ (by omega))) (by rw [Axx]; exact HOK.out)).mono ?_
  rintro e w2 ⟨rfl, hr2, hb2⟩
  exact ⟨4, rfl, rfl, ⟨mv, sv, pv, hr2⟩, Aqc (Aqk hBw HW3.out) (Aqc hb1 (Aqk (Up.le hBw (Nat.le_trans HW3.out.size hk1.1)) hb2))⟩); rintro e w7 ⟨r, rfl, rfl, hr7, hb7⟩; have HR7 := Bvh hr7; have HB7 := Bvh hb7; clear hr7 hb7)
 go_ret
 exact ⟨4, rfl, rfl, HR7.out, HB7.out⟩
theorem of_err70 (c0 c1 : Nat) (h : Rep B g s w) (hf : Fit s) (hBw : Up B w.heap.size) (ha : (asked s).2 ≠ 0) :
 Calls Try.prog 69 #[.pointer (some ⟨g, 0, none⟩), .string name, (.func (.func 70) #[] #[.pointer (some ⟨c0, 0, none⟩), .pointer (some ⟨c1, 0, none⟩)])] w fun e w' => ∃ r, e = .returned (.int .i64 r) ∧ r = (asked s).2 ∧ Rep B g (asked s).1 w' ∧ BelS B w w' := by
 have H := Bvh h
 have HF := Bvh hf
 have HA := Bvh ha
 have hw3 : Below w.heap.size w (((w.alloc (.cells #[.pointer (some ⟨g, 0, none⟩)] 58)).alloc (.cells #[.string name] 9)).alloc (.cells #[(.func (.func 70) #[] #[.pointer (some ⟨c0, 0, none⟩), .pointer (some ⟨c1, 0, none⟩)])] 113)) := Aq4 (Aq4 (Aq4 (Below.refl _ _) _) _) _
 have HW3 := Bvh hw3
 clear h hf ha hw3
 go_enter Try.func69, Try.ntmps69
 go_wp2_with (go_at_call 90; refine (Aku _ (H.out.below HW3.out) HF.out HA.out).mono ?_; rintro e w7 ⟨rfl, hr7, hb7, hk7⟩; have HR7 := Bvh hr7; have HB7 := Bvh (Aqc (Aqk hBw HW3.out) hb7); clear hr7 hb7 hk7)
 go_ret
 exact ⟨_, rfl, rfl, HR7.out, HB7.out⟩
theorem of1_ok96 (b0 b1 b2 c0 c1 : Nat) (R : Int → World → Prop) (h : RepAt B g s w mv sv pv) (hf : Fit s) (hp : VarP w b0 g) (hn : VarS w b1 name) (hc : VarC w b2 (.func (.func 96) #[] #[.pointer (some ⟨c0, 0, none⟩), .pointer (some ⟨c1, 0, none⟩)])) (hok : (getT (Aq8 s) name).2 = true)
 (hdo : ∀ w1 v, RepAt B g s w1 mv sv pv → Below w.heap.size w w1 → Kd.R (Kd.int .u8) 5 w1 w.heap.size (fun _ => True) v (getT (Aq8 s) name).1 → Calls Try.prog 96 #[v, .pointer (some ⟨c0, 0, none⟩), .pointer (some ⟨c1, 0, none⟩)] w1 fun e w' => ∃ r, e = .returned (.int .i64 r) ∧ R r w') :
 Calls Try.prog 93 #[.pointer (some ⟨b0, 0, none⟩), .pointer (some ⟨b1, 0, none⟩), .pointer (some ⟨b2, 0, none⟩)] w fun e w' => ∃ r, e = .returned (.int .i64 r) ∧ R r w' := by
 have HDO := Bvh hdo
 clear hdo
 have hk0 : OfS B g s mv sv pv name b0 b1 b2 (.func (.func 96) #[] #[.pointer (some ⟨c0, 0, none⟩), .pointer (some ⟨c1, 0, none⟩)]) w w := ⟨h, hp, hn, hc, Below.refl _ _⟩
 have HF := Bvh hf
 obtain ⟨hfo, hfl⟩ := Axt hf
 have HFO := Bvh hfo
 have hge := Bq1 (Aq8 s) name (by omega) hfo
 rw [hok] at hge
 have HGE := Bvh hge
 clear h hp hn hc hf hfo hge
 go_enter Try.func93, Try.ntmps93
 go_wp2_with fail
 go_region_held3 (fun w' => w'.cell? ⟨b0, 0, none⟩ = some (.pointer (some ⟨g, 0, none⟩)) ∧ w'.cell? ⟨b1, 0, none⟩ = some (.string name) ∧ OfS B g s mv sv pv name b0 b1 b2 (.func (.func 96) #[] #[.pointer (some ⟨c0, 0, none⟩), .pointer (some ⟨c1, 0, none⟩)]) w w')
  (first
    | exact (hk0.step (Aq5 (Below.refl _ _))).all
    | (go_split_ands
       first
        | exact OfS.all (OfS.step (by assumption) hb6)
        | exact OfS.all (OfS.step (by assumption) hb5))
    | go_keep)
  (first
    | (go_split_ands; go_at_call 42; refine (Az4 ⟨mv, sv, pv, OfS.rep (by assumption)⟩ HF.out).mono ?_; rintro e w5 ⟨v5, rfl, hV5, hb5⟩; obtain ⟨A5, c5, rfl⟩ := Kd.V_slice hV5)
    | (go_split_ands
       go_at_call 28
       ((with_reducible refine (Aqs.calls A5 c5 (Aq8 s) name (getT (Aq8 s) name).1 true _ ?hs ?hc HGE.out).mono ?_); (case hs => exact (Kd.V_reads' hV5).2.2); (case hc => exact (Kd.V_reads' hV5).2.1))
       rintro e w6 ⟨v6, rfl, hV6, hb6⟩))
 have hfin : OfS B g s mv sv pv name b0 b1 b2 (.func (.func 96) #[] #[.pointer (some ⟨c0, 0, none⟩), .pointer (some ⟨c1, 0, none⟩)]) w w6 := by go_split_ands; assumption
 have h5 : OfS B g s mv sv pv name b0 b1 b2 (.func (.func 96) #[] #[.pointer (some ⟨c0, 0, none⟩), .pointer (some ⟨c1, 0, none⟩)]) w w5 := by go_split_ands; assumption
 have hc6 := hfin.c.cell
 have HFIN := Bvh hfin
 have HV6 := Bvh (Kd.R_lower hV6 h5.below.size)
 clear hk0 hfin hV6 hV5 hb5 hb6 h5
 go_wp2_with (go_at_call 96; refine (HDO.out _ _ HFIN.out.rep HFIN.out.below HV6.out).mono ?_; rintro e w7 ⟨r, rfl, hR⟩; have HR := Bvh hR; clear hR)
 go_ret
 exact ⟨r, rfl, HR.out⟩
theorem of_ok96 (c0 c1 : Nat) (R : Int → World → Prop) (h : RepAt B g s w mv sv pv) (hf : Fit s) (hf1 : Fit (asked s).1) (hBw : Up B w.heap.size) (ha : (asked s).2 = 0) (hok : (getT (Aq8 s) name).2 = true)
 (hdo : ∀ w1 v, RepAt B g (asked s).1 w1 mv sv pv → BelS B w w1 → Axl g w w1 → Kd.R (Kd.int .u8) 5 w1 w.heap.size (fun _ => True) v (getT (Aq8 s) name).1 → Calls Try.prog 96 #[v, .pointer (some ⟨c0, 0, none⟩), .pointer (some ⟨c1, 0, none⟩)] w1 fun e w' => ∃ r, e = .returned (.int .i64 r) ∧ R r w') :
 Calls Try.prog 69 #[.pointer (some ⟨g, 0, none⟩), .string name, (.func (.func 96) #[] #[.pointer (some ⟨c0, 0, none⟩), .pointer (some ⟨c1, 0, none⟩)])] w fun e w' => ∃ r, e = .returned (.int .i64 r) ∧ R r w' := by
 have HDO := Bvh hdo
 have H := Bvh h
 have HF := Bvh hf
 have HF1 := Bvh hf1
 have HA := Bvh ha
 have HOK := Bvh hok
 clear h hf hf1 ha hok hdo
 obtain ⟨o0, ho0⟩ : ∃ o, o = Obj.cells #[.pointer (some ⟨g, 0, none⟩)] 58 := ⟨_, rfl⟩
 obtain ⟨o1, ho1⟩ : ∃ o, o = Obj.cells #[.string name] 9 := ⟨_, rfl⟩
 obtain ⟨o2, ho2⟩ : ∃ o, o = Obj.cells #[(.func (.func 96) #[] #[.pointer (some ⟨c0, 0, none⟩), .pointer (some ⟨c1, 0, none⟩)])] 113 := ⟨_, rfl⟩
 have hw3 : Below w.heap.size w (((w.alloc (.cells #[.pointer (some ⟨g, 0, none⟩)] 58)).alloc (.cells #[.string name] 9)).alloc (.cells #[(.func (.func 96) #[] #[.pointer (some ⟨c0, 0, none⟩), .pointer (some ⟨c1, 0, none⟩)])] 113)) := Aq4 (Aq4 (Aq4 (Below.refl _ _) _) _) _
 have hp : VarP (((w.alloc (.cells #[.pointer (some ⟨g, 0, none⟩)] 58)).alloc (.cells #[.string name] 9)).alloc (.cells #[(.func (.func 96) #[] #[.pointer (some ⟨c0, 0, none⟩), .pointer (some ⟨c1, 0, none⟩)])] 113)) w.heap.size g := Aqe (Aqe (heap_alloc_new _ _) _) _
 have hn : VarS (((w.alloc (.cells #[.pointer (some ⟨g, 0, none⟩)] 58)).alloc (.cells #[.string name] 9)).alloc (.cells #[(.func (.func 96) #[] #[.pointer (some ⟨c0, 0, none⟩), .pointer (some ⟨c1, 0, none⟩)])] 113)) (w.heap.size + 1) name := by
  have := heap_alloc_new (w.alloc (.cells #[.pointer (some ⟨g, 0, none⟩)] 58)) (.cells #[.string name] 9)
  rw [World.size_alloc] at this
  exact Aqe this _
 have hc : VarC (((w.alloc (.cells #[.pointer (some ⟨g, 0, none⟩)] 58)).alloc (.cells #[.string name] 9)).alloc (.cells #[(.func (.func 96) #[] #[.pointer (some ⟨c0, 0, none⟩), .pointer (some ⟨c1, 0, none⟩)])] 113)) (w.heap.size + 2) (.func (.func 96) #[] #[.pointer (some ⟨c0, 0, none⟩), .pointer (some ⟨c1, 0, none⟩)]) := by
  have := heap_alloc_new ((w.alloc (.cells #[.pointer (some ⟨g, 0, none⟩)] 58)).alloc (.cells #[.string name] 9)) (.cells #[(.func (.func 96) #[] #[.pointer (some ⟨c0, 0, none⟩), .pointer (some ⟨c1, 0, none⟩)])] 113)
  rw [World.size_alloc, World.size_alloc] at this
  exact this
 have HW3 := Bvh hw3
 have HP := Bvh hp
 have HN := Bvh hn
 have HC := Bvh hc
 clear ho0 ho1 ho2 o0 o1 o2 hw3 hp hn hc
 have hg0 : g < w.heap.size := by exact Ax7 H.out.blk
 go_enter Try.func69, Try.ntmps69
 go_wp2_with (go_at_call 90; refine (Ajk w.heap.size (w.heap.size + 1) (w.heap.size + 2) R (H.out.below HW3.out) HF.out HA.out ?hclo).mono ?_; (case hclo =>
  intro w1 hr1 hb1 hk1
  have hne : ∀ b, w.heap.size ≤ b → b ≠ g := fun b hb => by omega
  refine of1_ok96 w.heap.size (w.heap.size + 1) (w.heap.size + 2) c0 c1 R hr1 HF1.out (Aqt HP.out hk1 (hne _ (by omega))) (Aqt HN.out hk1 (hne _ (by omega))) (Aqt HC.out hk1 (hne _ (by omega))) (by rw [Axx]; exact HOK.out) ?_
  intro w2 v hr2 hb2 hv
  rw [Axx] at hv
  refine HDO.out w2 v hr2 (Aqc (Aqk hBw HW3.out) (Aqc hb1 (Aqk (Up.le hBw (Nat.le_trans HW3.out.size hk1.1)) hb2))) ((Axl.of_below HW3.out).trans (hk1.trans (Axl.of_below hb2))) (Kd.R_lower hv (Nat.le_trans HW3.out.size hk1.1))); rintro e w7 ⟨r, rfl, hR⟩; have HR := Bvh hR; clear hR)
 go_ret
 exact ⟨r, rfl, HR.out⟩
theorem Bkk (c0 c1 : Nat) (h : RepAt B g s w mv sv pv) (hf : Fit s) (hf1 : Fit (asked s).1) (hBw : Up B w.heap.size) (ha : (asked s).2 = 0) (hok : (getT (Aq8 s) name).2 = false) :
 Calls Try.prog 69 #[.pointer (some ⟨g, 0, none⟩), .string name, (.func (.func 96) #[] #[.pointer (some ⟨c0, 0, none⟩), .pointer (some ⟨c1, 0, none⟩)])] w fun e w' => ∃ r, e = .returned (.int .i64 r) ∧ r = 4 ∧ Rep B g (asked s).1 w' ∧ BelS B w w' := by
 have H := Bvh h
 have HF := Bvh hf
 have HF1 := Bvh hf1
 have HA := Bvh ha
 have HOK := Bvh hok
 clear h hf hf1 ha hok
 obtain ⟨o0, ho0⟩ : ∃ o, o = Obj.cells #[.pointer (some ⟨g, 0, none⟩)] 58 := ⟨_, rfl⟩
 obtain ⟨o1, ho1⟩ : ∃ o, o = Obj.cells #[.string name] 9 := ⟨_, rfl⟩
 obtain ⟨o2, ho2⟩ : ∃ o, o = Obj.cells #[(.func (.func 96) #[] #[.pointer (some ⟨c0, 0, none⟩), .pointer (some ⟨c1, 0, none⟩)])] 113 := ⟨_, rfl⟩
 have hw3 : Below w.heap.size w (((w.alloc (.cells #[.pointer (some ⟨g, 0, none⟩)] 58)).alloc (.cells #[.string name] 9)).alloc (.cells #[(.func (.func 96) #[] #[.pointer (some ⟨c0, 0, none⟩), .pointer (some ⟨c1, 0, none⟩)])] 113)) := Aq4 (Aq4 (Aq4 (Below.refl _ _) _) _) _
 have hp : VarP (((w.alloc (.cells #[.pointer (some ⟨g, 0, none⟩)] 58)).alloc (.cells #[.string name] 9)).alloc (.cells #[(.func (.func 96) #[] #[.pointer (some ⟨c0, 0, none⟩), .pointer (some ⟨c1, 0, none⟩)])] 113)) w.heap.size g := Aqe (Aqe (heap_alloc_new _ _) _) _
 have hn : VarS (((w.alloc (.cells #[.pointer (some ⟨g, 0, none⟩)] 58)).alloc (.cells #[.string name] 9)).alloc (.cells #[(.func (.func 96) #[] #[.pointer (some ⟨c0, 0, none⟩), .pointer (some ⟨c1, 0, none⟩)])] 113)) (w.heap.size + 1) name := by
  have := heap_alloc_new (w.alloc (.cells #[.pointer (some ⟨g, 0, none⟩)] 58)) (.cells #[.string name] 9)
  rw [World.size_alloc] at this
  exact Aqe this _
 have hc : VarC (((w.alloc (.cells #[.pointer (some ⟨g, 0, none⟩)] 58)).alloc (.cells #[.string name] 9)).alloc (.cells #[(.func (.func 96) #[] #[.pointer (some ⟨c0, 0, none⟩), .pointer (some ⟨c1, 0, none⟩)])] 113)) (w.heap.size + 2) (.func (.func 96) #[] #[.pointer (some ⟨c0, 0, none⟩), .pointer (some ⟨c1, 0, none⟩)]) := by
  have := heap_alloc_new ((w.alloc (.cells #[.pointer (some ⟨g, 0, none⟩)] 58)).alloc (.cells #[.string name] 9)) (.cells #[(.func (.func 96) #[] #[.pointer (some ⟨c0, 0, none⟩), .pointer (some ⟨c1, 0, none⟩)])] 113)
  rw [World.size_alloc, World.size_alloc] at this
  exact this
 have HW3 := Bvh hw3
 have HP := Bvh hp
 have HN := Bvh hn
 have HC := Bvh hc
 clear ho0 ho1 ho2 o0 o1 o2 hw3 hp hn hc
 have hg0 : g < w.heap.size := by exact Ax7 H.out.blk
 go_enter Try.func69, Try.ntmps69
 go_wp2_with (go_at_call 90; refine (Ajk w.heap.size (w.heap.size + 1) (w.heap.size + 2) (fun r w' => r = 4 ∧ Rep B g (asked s).1 w' ∧ BelS B w w') (H.out.below HW3.out) HF.out HA.out ?hclo).mono ?_; (case hclo =>
  intro w1 hr1 hb1 hk1
  have hne : ∀ b, w.heap.size ≤ b → b ≠ g := fun b hb => by omega
  refine (Avz w.heap.size (w.heap.size + 1) (w.heap.size + 2) (.func (.func 96) #[] #[.pointer (some ⟨c0, 0, none⟩), .pointer (some ⟨c1, 0, none⟩)]) hr1 HF1.out (Aqt HP.out hk1 (hne _ (by omega))) (Aqt HN.out hk1 (hne _ (by omega))) (Aqt HC.out hk1 (hne _ (by omega))) (by rw [Axx]; exact HOK.out)).mono ?_
  rintro e w2 ⟨rfl, hr2, hb2⟩
  exact ⟨4, rfl, rfl, ⟨mv, sv, pv, hr2⟩, Aqc (Aqk hBw HW3.out) (Aqc hb1 (Aqk (Up.le hBw (Nat.le_trans HW3.out.size hk1.1)) hb2))⟩); rintro e w7 ⟨r, rfl, rfl, hr7, hb7⟩; have HR7 := Bvh hr7; have HB7 := Bvh hb7; clear hr7 hb7)
 go_ret
 exact ⟨4, rfl, rfl, HR7.out, HB7.out⟩
theorem of_err96 (c0 c1 : Nat) (h : Rep B g s w) (hf : Fit s) (hBw : Up B w.heap.size) (ha : (asked s).2 ≠ 0) :
 Calls Try.prog 69 #[.pointer (some ⟨g, 0, none⟩), .string name, (.func (.func 96) #[] #[.pointer (some ⟨c0, 0, none⟩), .pointer (some ⟨c1, 0, none⟩)])] w fun e w' => ∃ r, e = .returned (.int .i64 r) ∧ r = (asked s).2 ∧ Rep B g (asked s).1 w' ∧ BelS B w w' := by
 have H := Bvh h
 have HF := Bvh hf
 have HA := Bvh ha
 have hw3 : Below w.heap.size w (((w.alloc (.cells #[.pointer (some ⟨g, 0, none⟩)] 58)).alloc (.cells #[.string name] 9)).alloc (.cells #[(.func (.func 96) #[] #[.pointer (some ⟨c0, 0, none⟩), .pointer (some ⟨c1, 0, none⟩)])] 113)) := Aq4 (Aq4 (Aq4 (Below.refl _ _) _) _) _
 have HW3 := Bvh hw3
 clear h hf ha hw3
 go_enter Try.func69, Try.ntmps69
 go_wp2_with (go_at_call 90; refine (Aku _ (H.out.below HW3.out) HF.out HA.out).mono ?_; rintro e w7 ⟨rfl, hr7, hb7, hk7⟩; have HR7 := Bvh hr7; have HB7 := Bvh (Aqc (Aqk hBw HW3.out) hb7); clear hr7 hb7 hk7)
 go_ret
 exact ⟨_, rfl, rfl, HR7.out, HB7.out⟩
theorem of1_ok77 (b0 b1 b2 c0 c1 c2 : Nat) (R : Int → World → Prop) (h : RepAt B g s w mv sv pv) (hf : Fit s) (hp : VarP w b0 g) (hn : VarS w b1 name) (hc : VarC w b2 (.func (.func 77) #[] #[.pointer (some ⟨c0, 0, none⟩), .pointer (some ⟨c1, 0, none⟩), .pointer (some ⟨c2, 0, none⟩)])) (hok : (getT (Aq8 s) name).2 = true)
 (hdo : ∀ w1 v, RepAt B g s w1 mv sv pv → Below w.heap.size w w1 → Kd.R (Kd.int .u8) 5 w1 w.heap.size (fun _ => True) v (getT (Aq8 s) name).1 → Calls Try.prog 77 #[v, .pointer (some ⟨c0, 0, none⟩), .pointer (some ⟨c1, 0, none⟩), .pointer (some ⟨c2, 0, none⟩)] w1 fun e w' => ∃ r, e = .returned (.int .i64 r) ∧ R r w') :
 Calls Try.prog 93 #[.pointer (some ⟨b0, 0, none⟩), .pointer (some ⟨b1, 0, none⟩), .pointer (some ⟨b2, 0, none⟩)] w fun e w' => ∃ r, e = .returned (.int .i64 r) ∧ R r w' := by
 have HDO := Bvh hdo
 clear hdo
 have hk0 : OfS B g s mv sv pv name b0 b1 b2 (.func (.func 77) #[] #[.pointer (some ⟨c0, 0, none⟩), .pointer (some ⟨c1, 0, none⟩), .pointer (some ⟨c2, 0, none⟩)]) w w := ⟨h, hp, hn, hc, Below.refl _ _⟩
 have HF := Bvh hf
 obtain ⟨hfo, hfl⟩ := Axt hf
 have HFO := Bvh hfo
 have hge := Bq1 (Aq8 s) name (by omega) hfo
 rw [hok] at hge
 have HGE := Bvh hge
 clear h hp hn hc hf hfo hge
 go_enter Try.func93, Try.ntmps93
 go_wp2_with fail
 go_region_held3 (fun w' => w'.cell? ⟨b0, 0, none⟩ = some (.pointer (some ⟨g, 0, none⟩)) ∧ w'.cell? ⟨b1, 0, none⟩ = some (.string name) ∧ OfS B g s mv sv pv name b0 b1 b2 (.func (.func 77) #[] #[.pointer (some ⟨c0, 0, none⟩), .pointer (some ⟨c1, 0, none⟩), .pointer (some ⟨c2, 0, none⟩)]) w w')
  (first
    | exact (hk0.step (Aq5 (Below.refl _ _))).all
    | (go_split_ands
       first
        | exact OfS.all (OfS.step (by assumption) hb6)
        | exact OfS.all (OfS.step (by assumption) hb5))
    | go_keep)
  (first
    | (go_split_ands; go_at_call 42; refine (Az4 ⟨mv, sv, pv, OfS.rep (by assumption)⟩ HF.out).mono ?_; rintro e w5 ⟨v5, rfl, hV5, hb5⟩; obtain ⟨A5, c5, rfl⟩ := Kd.V_slice hV5)
    | (go_split_ands
       go_at_call 28
       ((with_reducible refine (Aqs.calls A5 c5 (Aq8 s) name (getT (Aq8 s) name).1 true _ ?hs ?hc HGE.out).mono ?_); (case hs => exact (Kd.V_reads' hV5).2.2); (case hc => exact (Kd.V_reads' hV5).2.1))
       rintro e w6 ⟨v6, rfl, hV6, hb6⟩))
 have hfin : OfS B g s mv sv pv name b0 b1 b2 (.func (.func 77) #[] #[.pointer (some ⟨c0, 0, none⟩), .pointer (some ⟨c1, 0, none⟩), .pointer (some ⟨c2, 0, none⟩)]) w w6 := by go_split_ands; assumption
 have h5 : OfS B g s mv sv pv name b0 b1 b2 (.func (.func 77) #[] #[.pointer (some ⟨c0, 0, none⟩), .pointer (some ⟨c1, 0, none⟩), .pointer (some ⟨c2, 0, none⟩)]) w w5 := by go_split_ands; assumption
 have hc6 := hfin.c.cell
 have HFIN := Bvh hfin
 have HV6 := Bvh (Kd.R_lower hV6 h5.below.size)
 clear hk0 hfin hV6 hV5 hb5 hb6 h5
 go_wp2_with (go_at_call 77; refine (HDO.out _ _ HFIN.out.rep HFIN.out.below HV6.out).mono ?_; rintro e w7 ⟨r, rfl, hR⟩; have HR := Bvh hR; clear hR)
 go_ret
 exact ⟨r, rfl, HR.out⟩
theorem Bz3 (c0 c1 c2 : Nat) (R : Int → World → Prop) (h : RepAt B g s w mv sv pv) (hf : Fit s) (hf1 : Fit (asked s).1) (hBw : Up B w.heap.size) (ha : (asked s).2 = 0) (hok : (getT (Aq8 s) name).2 = true)
 (hdo : ∀ w1 v, RepAt B g (asked s).1 w1 mv sv pv → BelS B w w1 → Axl g w w1 → Kd.R (Kd.int .u8) 5 w1 w.heap.size (fun _ => True) v (getT (Aq8 s) name).1 → Calls Try.prog 77 #[v, .pointer (some ⟨c0, 0, none⟩), .pointer (some ⟨c1, 0, none⟩), .pointer (some ⟨c2, 0, none⟩)] w1 fun e w' => ∃ r, e = .returned (.int .i64 r) ∧ R r w') :
 Calls Try.prog 69 #[.pointer (some ⟨g, 0, none⟩), .string name, (.func (.func 77) #[] #[.pointer (some ⟨c0, 0, none⟩), .pointer (some ⟨c1, 0, none⟩), .pointer (some ⟨c2, 0, none⟩)])] w fun e w' => ∃ r, e = .returned (.int .i64 r) ∧ R r w' := by
 have HDO := Bvh hdo
 have H := Bvh h
 have HF := Bvh hf
 have HF1 := Bvh hf1
 have HA := Bvh ha
 have HOK := Bvh hok
 clear h hf hf1 ha hok hdo
 obtain ⟨o0, ho0⟩ : ∃ o, o = Obj.cells #[.pointer (some ⟨g, 0, none⟩)] 58 := ⟨_, rfl⟩
 obtain ⟨o1, ho1⟩ : ∃ o, o = Obj.cells #[.string name] 9 := ⟨_, rfl⟩
 obtain ⟨o2, ho2⟩ : ∃ o, o = Obj.cells #[(.func (.func 77) #[] #[.pointer (some ⟨c0, 0, none⟩), .pointer (some ⟨c1, 0, none⟩), .pointer (some ⟨c2, 0, none⟩)])] 113 := ⟨_, rfl⟩
 have hw3 : Below w.heap.size w (((w.alloc (.cells #[.pointer (some ⟨g, 0, none⟩)] 58)).alloc (.cells #[.string name] 9)).alloc (.cells #[(.func (.func 77) #[] #[.pointer (some ⟨c0, 0, none⟩), .pointer (some ⟨c1, 0, none⟩), .pointer (some ⟨c2, 0, none⟩)])] 113)) := Aq4 (Aq4 (Aq4 (Below.refl _ _) _) _) _
 have hp : VarP (((w.alloc (.cells #[.pointer (some ⟨g, 0, none⟩)] 58)).alloc (.cells #[.string name] 9)).alloc (.cells #[(.func (.func 77) #[] #[.pointer (some ⟨c0, 0, none⟩), .pointer (some ⟨c1, 0, none⟩), .pointer (some ⟨c2, 0, none⟩)])] 113)) w.heap.size g := Aqe (Aqe (heap_alloc_new _ _) _) _
 have hn : VarS (((w.alloc (.cells #[.pointer (some ⟨g, 0, none⟩)] 58)).alloc (.cells #[.string name] 9)).alloc (.cells #[(.func (.func 77) #[] #[.pointer (some ⟨c0, 0, none⟩), .pointer (some ⟨c1, 0, none⟩), .pointer (some ⟨c2, 0, none⟩)])] 113)) (w.heap.size + 1) name := by
  have := heap_alloc_new (w.alloc (.cells #[.pointer (some ⟨g, 0, none⟩)] 58)) (.cells #[.string name] 9)
  rw [World.size_alloc] at this
  exact Aqe this _
 have hc : VarC (((w.alloc (.cells #[.pointer (some ⟨g, 0, none⟩)] 58)).alloc (.cells #[.string name] 9)).alloc (.cells #[(.func (.func 77) #[] #[.pointer (some ⟨c0, 0, none⟩), .pointer (some ⟨c1, 0, none⟩), .pointer (some ⟨c2, 0, none⟩)])] 113)) (w.heap.size + 2) (.func (.func 77) #[] #[.pointer (some ⟨c0, 0, none⟩), .pointer (some ⟨c1, 0, none⟩), .pointer (some ⟨c2, 0, none⟩)]) := by
  have := heap_alloc_new ((w.alloc (.cells #[.pointer (some ⟨g, 0, none⟩)] 58)).alloc (.cells #[.string name] 9)) (.cells #[(.func (.func 77) #[] #[.pointer (some ⟨c0, 0, none⟩), .pointer (some ⟨c1, 0, none⟩), .pointer (some ⟨c2, 0, none⟩)])] 113)
  rw [World.size_alloc, World.size_alloc] at this
  exact this
 have HW3 := Bvh hw3
 have HP := Bvh hp
 have HN := Bvh hn
 have HC := Bvh hc
 clear ho0 ho1 ho2 o0 o1 o2 hw3 hp hn hc
 have hg0 : g < w.heap.size := by exact Ax7 H.out.blk
 go_enter Try.func69, Try.ntmps69
 go_wp2_with (go_at_call 90; refine (Ajk w.heap.size (w.heap.size + 1) (w.heap.size + 2) R (H.out.below HW3.out) HF.out HA.out ?hclo).mono ?_; (case hclo =>
  intro w1 hr1 hb1 hk1
  have hne : ∀ b, w.heap.size ≤ b → b ≠ g := fun b hb => by omega
  refine of1_ok77 w.heap.size (w.heap.size + 1) (w.heap.size + 2) c0 c1 c2 R hr1 HF1.out (Aqt HP.out hk1 (hne _ (by omega))) (Aqt HN.out hk1 (hne _ (by omega))) (Aqt HC.out hk1 (hne _ (by omega))) (by rw [Axx]; exact HOK.out) ?_
  intro w2 v hr2 hb2 hv
  rw [Axx] at hv
  refine HDO.out w2 v hr2 (Aqc (Aqk hBw HW3.out) (Aqc hb1 (Aqk (Up.le hBw (Nat.le_trans HW3.out.size hk1.1)) hb2))) ((Axl.of_below HW3.out).trans (hk1.trans (Axl.of_below hb2))) (Kd.R_lower hv (Nat.le_trans HW3.out.size hk1.1))); rintro e w7 ⟨r, rfl, hR⟩; have HR := Bvh hR; clear hR)
 go_ret
 exact ⟨r, rfl, HR.out⟩
theorem Bkm (c0 c1 c2 : Nat) (h : RepAt B g s w mv sv pv) (hf : Fit s) (hf1 : Fit (asked s).1) (hBw : Up B w.heap.size) (ha : (asked s).2 = 0) (hok : (getT (Aq8 s) name).2 = false) :
 Calls Try.prog 69 #[.pointer (some ⟨g, 0, none⟩), .string name, (.func (.func 77) #[] #[.pointer (some ⟨c0, 0, none⟩), .pointer (some ⟨c1, 0, none⟩), .pointer (some ⟨c2, 0, none⟩)])] w fun e w' => ∃ r, e = .returned (.int .i64 r) ∧ r = 4 ∧ Rep B g (asked s).1 w' ∧ BelS B w w' := by
 have H := Bvh h
 have HF := Bvh hf
 have HF1 := Bvh hf1
 have HA := Bvh ha
 have HOK := Bvh hok
 clear h hf hf1 ha hok
 obtain ⟨o0, ho0⟩ : ∃ o, o = Obj.cells #[.pointer (some ⟨g, 0, none⟩)] 58 := ⟨_, rfl⟩
 obtain ⟨o1, ho1⟩ : ∃ o, o = Obj.cells #[.string name] 9 := ⟨_, rfl⟩
 obtain ⟨o2, ho2⟩ : ∃ o, o = Obj.cells #[(.func (.func 77) #[] #[.pointer (some ⟨c0, 0, none⟩), .pointer (some ⟨c1, 0, none⟩), .pointer (some ⟨c2, 0, none⟩)])] 113 := ⟨_, rfl⟩
 have hw3 : Below w.heap.size w (((w.alloc (.cells #[.pointer (some ⟨g, 0, none⟩)] 58)).alloc (.cells #[.string name] 9)).alloc (.cells #[(.func (.func 77) #[] #[.pointer (some ⟨c0, 0, none⟩), .pointer (some ⟨c1, 0, none⟩), .pointer (some ⟨c2, 0, none⟩)])] 113)) := Aq4 (Aq4 (Aq4 (Below.refl _ _) _) _) _
 have hp : VarP (((w.alloc (.cells #[.pointer (some ⟨g, 0, none⟩)] 58)).alloc (.cells #[.string name] 9)).alloc (.cells #[(.func (.func 77) #[] #[.pointer (some ⟨c0, 0, none⟩), .pointer (some ⟨c1, 0, none⟩), .pointer (some ⟨c2, 0, none⟩)])] 113)) w.heap.size g := Aqe (Aqe (heap_alloc_new _ _) _) _
 have hn : VarS (((w.alloc (.cells #[.pointer (some ⟨g, 0, none⟩)] 58)).alloc (.cells #[.string name] 9)).alloc (.cells #[(.func (.func 77) #[] #[.pointer (some ⟨c0, 0, none⟩), .pointer (some ⟨c1, 0, none⟩), .pointer (some ⟨c2, 0, none⟩)])] 113)) (w.heap.size + 1) name := by
  have := heap_alloc_new (w.alloc (.cells #[.pointer (some ⟨g, 0, none⟩)] 58)) (.cells #[.string name] 9)
  rw [World.size_alloc] at this
  exact Aqe this _
 have hc : VarC (((w.alloc (.cells #[.pointer (some ⟨g, 0, none⟩)] 58)).alloc (.cells #[.string name] 9)).alloc (.cells #[(.func (.func 77) #[] #[.pointer (some ⟨c0, 0, none⟩), .pointer (some ⟨c1, 0, none⟩), .pointer (some ⟨c2, 0, none⟩)])] 113)) (w.heap.size + 2) (.func (.func 77) #[] #[.pointer (some ⟨c0, 0, none⟩), .pointer (some ⟨c1, 0, none⟩), .pointer (some ⟨c2, 0, none⟩)]) := by
  have := heap_alloc_new ((w.alloc (.cells #[.pointer (some ⟨g, 0, none⟩)] 58)).alloc (.cells #[.string name] 9)) (.cells #[(.func (.func 77) #[] #[.pointer (some ⟨c0, 0, none⟩), .pointer (some ⟨c1, 0, none⟩), .pointer (some ⟨c2, 0, none⟩)])] 113)
  rw [World.size_alloc, World.size_alloc] at this
  exact this
 have HW3 := Bvh hw3
 have HP := Bvh hp
 have HN := Bvh hn
 have HC := Bvh hc
 clear ho0 ho1 ho2 o0 o1 o2 hw3 hp hn hc
 have hg0 : g < w.heap.size := by exact Ax7 H.out.blk
 go_enter Try.func69, Try.ntmps69
 go_wp2_with (go_at_call 90; refine (Ajk w.heap.size (w.heap.size + 1) (w.heap.size + 2) (fun r w' => r = 4 ∧ Rep B g (asked s).1 w' ∧ BelS B w w') (H.out.below HW3.out) HF.out HA.out ?hclo).mono ?_; (case hclo =>
  intro w1 hr1 hb1 hk1
  have hne : ∀ b, w.heap.size ≤ b → b ≠ g := fun b hb => by omega
  refine (Avz w.heap.size (w.heap.size + 1) (w.heap.size + 2) (.func (.func 77) #[] #[.pointer (some ⟨c0, 0, none⟩), .pointer (some ⟨c1, 0, none⟩), .pointer (some ⟨c2, 0, none⟩)]) hr1 HF1.out (Aqt HP.out hk1 (hne _ (by omega))) (Aqt HN.out hk1 (hne _ (by omega))) (Aqt HC.out hk1 (hne _ (by omega))) (by rw [Axx]; exact HOK.out)).mono ?_
  rintro e w2 ⟨rfl, hr2, hb2⟩
  exact ⟨4, rfl, rfl, ⟨mv, sv, pv, hr2⟩, Aqc (Aqk hBw HW3.out) (Aqc hb1 (Aqk (Up.le hBw (Nat.le_trans HW3.out.size hk1.1)) hb2))⟩); rintro e w7 ⟨r, rfl, rfl, hr7, hb7⟩; have HR7 := Bvh hr7; have HB7 := Bvh hb7; clear hr7 hb7)
 go_ret
 exact ⟨4, rfl, rfl, HR7.out, HB7.out⟩
theorem of_err77 (c0 c1 c2 : Nat) (h : Rep B g s w) (hf : Fit s) (hBw : Up B w.heap.size) (ha : (asked s).2 ≠ 0) :
 Calls Try.prog 69 #[.pointer (some ⟨g, 0, none⟩), .string name, (.func (.func 77) #[] #[.pointer (some ⟨c0, 0, none⟩), .pointer (some ⟨c1, 0, none⟩), .pointer (some ⟨c2, 0, none⟩)])] w fun e w' => ∃ r, e = .returned (.int .i64 r) ∧ r = (asked s).2 ∧ Rep B g (asked s).1 w' ∧ BelS B w w' := by
 have H := Bvh h
 have HF := Bvh hf
 have HA := Bvh ha
 have hw3 : Below w.heap.size w (((w.alloc (.cells #[.pointer (some ⟨g, 0, none⟩)] 58)).alloc (.cells #[.string name] 9)).alloc (.cells #[(.func (.func 77) #[] #[.pointer (some ⟨c0, 0, none⟩), .pointer (some ⟨c1, 0, none⟩), .pointer (some ⟨c2, 0, none⟩)])] 113)) := Aq4 (Aq4 (Aq4 (Below.refl _ _) _) _) _
 have HW3 := Bvh hw3
 clear h hf ha hw3
 go_enter Try.func69, Try.ntmps69
 go_wp2_with (go_at_call 90; refine (Aku _ (H.out.below HW3.out) HF.out HA.out).mono ?_; rintro e w7 ⟨rfl, hr7, hb7, hk7⟩; have HR7 := Bvh hr7; have HB7 := Bvh (Aqc (Aqk hBw HW3.out) hb7); clear hr7 hb7 hk7)
 go_ret
 exact ⟨_, rfl, rfl, HR7.out, HB7.out⟩
theorem of1_ok92 (b0 b1 b2 c0 : Nat) (R : Int → World → Prop) (h : RepAt B g s w mv sv pv) (hf : Fit s) (hp : VarP w b0 g) (hn : VarS w b1 name) (hc : VarC w b2 (.func (.func 92) #[] #[.pointer (some ⟨c0, 0, none⟩)])) (hok : (getT (Aq8 s) name).2 = true)
 (hdo : ∀ w1 v, RepAt B g s w1 mv sv pv → Below w.heap.size w w1 → Kd.R (Kd.int .u8) 5 w1 w.heap.size (fun _ => True) v (getT (Aq8 s) name).1 → Calls Try.prog 92 #[v, .pointer (some ⟨c0, 0, none⟩)] w1 fun e w' => ∃ r, e = .returned (.int .i64 r) ∧ R r w') :
 Calls Try.prog 93 #[.pointer (some ⟨b0, 0, none⟩), .pointer (some ⟨b1, 0, none⟩), .pointer (some ⟨b2, 0, none⟩)] w fun e w' => ∃ r, e = .returned (.int .i64 r) ∧ R r w' := by
 have HDO := Bvh hdo
 clear hdo
 have hk0 : OfS B g s mv sv pv name b0 b1 b2 (.func (.func 92) #[] #[.pointer (some ⟨c0, 0, none⟩)]) w w := ⟨h, hp, hn, hc, Below.refl _ _⟩
 have HF := Bvh hf
 obtain ⟨hfo, hfl⟩ := Axt hf
 have HFO := Bvh hfo
 have hge := Bq1 (Aq8 s) name (by omega) hfo
 rw [hok] at hge
 have HGE := Bvh hge
 clear h hp hn hc hf hfo hge
 go_enter Try.func93, Try.ntmps93
 go_wp2_with fail
 go_region_held3 (fun w' => w'.cell? ⟨b0, 0, none⟩ = some (.pointer (some ⟨g, 0, none⟩)) ∧ w'.cell? ⟨b1, 0, none⟩ = some (.string name) ∧ OfS B g s mv sv pv name b0 b1 b2 (.func (.func 92) #[] #[.pointer (some ⟨c0, 0, none⟩)]) w w')
  (first
    | exact (hk0.step (Aq5 (Below.refl _ _))).all
    | (go_split_ands
       first
        | exact OfS.all (OfS.step (by assumption) hb6)
        | exact OfS.all (OfS.step (by assumption) hb5))
    | go_keep)
  (first
    | (go_split_ands; go_at_call 42; refine (Az4 ⟨mv, sv, pv, OfS.rep (by assumption)⟩ HF.out).mono ?_; rintro e w5 ⟨v5, rfl, hV5, hb5⟩; obtain ⟨A5, c5, rfl⟩ := Kd.V_slice hV5)
    | (go_split_ands
       go_at_call 28
       ((with_reducible refine (Aqs.calls A5 c5 (Aq8 s) name (getT (Aq8 s) name).1 true _ ?hs ?hc HGE.out).mono ?_); (case hs => exact (Kd.V_reads' hV5).2.2); (case hc => exact (Kd.V_reads' hV5).2.1))
       rintro e w6 ⟨v6, rfl, hV6, hb6⟩))
 have hfin : OfS B g s mv sv pv name b0 b1 b2 (.func (.func 92) #[] #[.pointer (some ⟨c0, 0, none⟩)]) w w6 := by go_split_ands; assumption
 have h5 : OfS B g s mv sv pv name b0 b1 b2 (.func (.func 92) #[] #[.pointer (some ⟨c0, 0, none⟩)]) w w5 := by go_split_ands; assumption
 have hc6 := hfin.c.cell
 have HFIN := Bvh hfin
 have HV6 := Bvh (Kd.R_lower hV6 h5.below.size)
 clear hk0 hfin hV6 hV5 hb5 hb6 h5
 go_wp2_with (go_at_call 92; refine (HDO.out _ _ HFIN.out.rep HFIN.out.below HV6.out).mono ?_; rintro e w7 ⟨r, rfl, hR⟩; have HR := Bvh hR; clear hR)
 go_ret
 exact ⟨r, rfl, HR.out⟩
theorem of_ok92 (c0 : Nat) (R : Int → World → Prop) (h : RepAt B g s w mv sv pv) (hf : Fit s) (hf1 : Fit (asked s).1) (hBw : Up B w.heap.size) (ha : (asked s).2 = 0) (hok : (getT (Aq8 s) name).2 = true)
 (hdo : ∀ w1 v, RepAt B g (asked s).1 w1 mv sv pv → BelS B w w1 → Axl g w w1 → Kd.R (Kd.int .u8) 5 w1 w.heap.size (fun _ => True) v (getT (Aq8 s) name).1 → Calls Try.prog 92 #[v, .pointer (some ⟨c0, 0, none⟩)] w1 fun e w' => ∃ r, e = .returned (.int .i64 r) ∧ R r w') :
 Calls Try.prog 69 #[.pointer (some ⟨g, 0, none⟩), .string name, (.func (.func 92) #[] #[.pointer (some ⟨c0, 0, none⟩)])] w fun e w' => ∃ r, e = .returned (.int .i64 r) ∧ R r w' := by
 have HDO := Bvh hdo
 have H := Bvh h
 have HF := Bvh hf
 have HF1 := Bvh hf1
 have HA := Bvh ha
 have HOK := Bvh hok
 clear h hf hf1 ha hok hdo
 obtain ⟨o0, ho0⟩ : ∃ o, o = Obj.cells #[.pointer (some ⟨g, 0, none⟩)] 58 := ⟨_, rfl⟩
 obtain ⟨o1, ho1⟩ : ∃ o, o = Obj.cells #[.string name] 9 := ⟨_, rfl⟩
 obtain ⟨o2, ho2⟩ : ∃ o, o = Obj.cells #[(.func (.func 92) #[] #[.pointer (some ⟨c0, 0, none⟩)])] 113 := ⟨_, rfl⟩
 have hw3 : Below w.heap.size w (((w.alloc (.cells #[.pointer (some ⟨g, 0, none⟩)] 58)).alloc (.cells #[.string name] 9)).alloc (.cells #[(.func (.func 92) #[] #[.pointer (some ⟨c0, 0, none⟩)])] 113)) := Aq4 (Aq4 (Aq4 (Below.refl _ _) _) _) _
 have hp : VarP (((w.alloc (.cells #[.pointer (some ⟨g, 0, none⟩)] 58)).alloc (.cells #[.string name] 9)).alloc (.cells #[(.func (.func 92) #[] #[.pointer (some ⟨c0, 0, none⟩)])] 113)) w.heap.size g := Aqe (Aqe (heap_alloc_new _ _) _) _
 have hn : VarS (((w.alloc (.cells #[.pointer (some ⟨g, 0, none⟩)] 58)).alloc (.cells #[.string name] 9)).alloc (.cells #[(.func (.func 92) #[] #[.pointer (some ⟨c0, 0, none⟩)])] 113)) (w.heap.size + 1) name := by
  have := heap_alloc_new (w.alloc (.cells #[.pointer (some ⟨g, 0, none⟩)] 58)) (.cells #[.string name] 9)
  rw [World.size_alloc] at this
  exact Aqe this _
 have hc : VarC (((w.alloc (.cells #[.pointer (some ⟨g, 0, none⟩)] 58)).alloc (.cells #[.string name] 9)).alloc (.cells #[(.func (.func 92) #[] #[.pointer (some ⟨c0, 0, none⟩)])] 113)) (w.heap.size + 2) (.func (.func 92) #[] #[.pointer (some ⟨c0, 0, none⟩)]) := by
  have := heap_alloc_new ((w.alloc (.cells #[.pointer (some ⟨g, 0, none⟩)] 58)).alloc (.cells #[.string name] 9)) (.cells #[(.func (.func 92) #[] #[.pointer (some ⟨c0, 0, none⟩)])] 113)
  rw [World.size_alloc, World.size_alloc] at this
  exact this
 have HW3 := Bvh hw3
 have HP := Bvh hp
 have HN := Bvh hn
 have HC := Bvh hc
 clear ho0 ho1 ho2 o0 o1 o2 hw3 hp hn hc
 have hg0 : g < w.heap.size := by exact Ax7 H.out.blk
 go_enter Try.func69, Try.ntmps69
 go_wp2_with (go_at_call 90; refine (Ajk w.heap.size (w.heap.size + 1) (w.heap.size + 2) R (H.out.below HW3.out) HF.out HA.out ?hclo).mono ?_; (case hclo =>
  intro w1 hr1 hb1 hk1
  have hne : ∀ b, w.heap.size ≤ b → b ≠ g := fun b hb => by omega
  refine of1_ok92 w.heap.size (w.heap.size + 1) (w.heap.size + 2) c0 R hr1 HF1.out (Aqt HP.out hk1 (hne _ (by omega))) (Aqt HN.out hk1 (hne _ (by omega))) (Aqt HC.out hk1 (hne _ (by omega))) (by rw [Axx]; exact HOK.out) ?_
  intro w2 v hr2 hb2 hv
  rw [Axx] at hv
  refine HDO.out w2 v hr2 (Aqc (Aqk hBw HW3.out) (Aqc hb1 (Aqk (Up.le hBw (Nat.le_trans HW3.out.size hk1.1)) hb2))) ((Axl.of_below HW3.out).trans (hk1.trans (Axl.of_below hb2))) (Kd.R_lower hv (Nat.le_trans HW3.out.size hk1.1))); rintro e w7 ⟨r, rfl, hR⟩; have HR := Bvh hR; clear hR)
 go_ret
 exact ⟨r, rfl, HR.out⟩
theorem Bkl (c0 : Nat) (h : RepAt B g s w mv sv pv) (hf : Fit s) (hf1 : Fit (asked s).1) (hBw : Up B w.heap.size) (ha : (asked s).2 = 0) (hok : (getT (Aq8 s) name).2 = false) :
 Calls Try.prog 69 #[.pointer (some ⟨g, 0, none⟩), .string name, (.func (.func 92) #[] #[.pointer (some ⟨c0, 0, none⟩)])] w fun e w' => ∃ r, e = .returned (.int .i64 r) ∧ r = 4 ∧ Rep B g (asked s).1 w' ∧ BelS B w w' ∧ Axl g w w' := by
 have H := Bvh h
 have HF := Bvh hf
 have HF1 := Bvh hf1
 have HA := Bvh ha
 have HOK := Bvh hok
 clear h hf hf1 ha hok
 obtain ⟨o0, ho0⟩ : ∃ o, o = Obj.cells #[.pointer (some ⟨g, 0, none⟩)] 58 := ⟨_, rfl⟩
 obtain ⟨o1, ho1⟩ : ∃ o, o = Obj.cells #[.string name] 9 := ⟨_, rfl⟩
 obtain ⟨o2, ho2⟩ : ∃ o, o = Obj.cells #[(.func (.func 92) #[] #[.pointer (some ⟨c0, 0, none⟩)])] 113 := ⟨_, rfl⟩
 have hw3 : Below w.heap.size w (((w.alloc (.cells #[.pointer (some ⟨g, 0, none⟩)] 58)).alloc (.cells #[.string name] 9)).alloc (.cells #[(.func (.func 92) #[] #[.pointer (some ⟨c0, 0, none⟩)])] 113)) := Aq4 (Aq4 (Aq4 (Below.refl _ _) _) _) _
 have hp : VarP (((w.alloc (.cells #[.pointer (some ⟨g, 0, none⟩)] 58)).alloc (.cells #[.string name] 9)).alloc (.cells #[(.func (.func 92) #[] #[.pointer (some ⟨c0, 0, none⟩)])] 113)) w.heap.size g := Aqe (Aqe (heap_alloc_new _ _) _) _
 have hn : VarS (((w.alloc (.cells #[.pointer (some ⟨g, 0, none⟩)] 58)).alloc (.cells #[.string name] 9)).alloc (.cells #[(.func (.func 92) #[] #[.pointer (some ⟨c0, 0, none⟩)])] 113)) (w.heap.size + 1) name := by
  have := heap_alloc_new (w.alloc (.cells #[.pointer (some ⟨g, 0, none⟩)] 58)) (.cells #[.string name] 9)
  rw [World.size_alloc] at this
  exact Aqe this _
 have hc : VarC (((w.alloc (.cells #[.pointer (some ⟨g, 0, none⟩)] 58)).alloc (.cells #[.string name] 9)).alloc (.cells #[(.func (.func 92) #[] #[.pointer (some ⟨c0, 0, none⟩)])] 113)) (w.heap.size + 2) (.func (.func 92) #[] #[.pointer (some ⟨c0, 0, none⟩)]) := by
  have := heap_alloc_new ((w.alloc (.cells #[.pointer (some ⟨g, 0, none⟩)] 58)).alloc (.cells #[.string name] 9)) (.cells #[(.func (.func 92) #[] #[.pointer (some ⟨c0, 0, none⟩)])] 113)
  rw [World.size_alloc, World.size_alloc] at this
  exact this
 have HW3 := Bvh hw3
 have HP := Bvh hp
 have HN := Bvh hn
 have HC := Bvh hc
 clear ho0 ho1 ho2 o0 o1 o2 hw3 hp hn hc
 have hg0 : g < w.heap.size := by exact Ax7 H.out.blk
 go_enter Try.func69, Try.ntmps69
 go_wp2_with (go_at_call 90; refine (Ajk w.heap.size (w.heap.size + 1) (w.heap.size + 2) (fun r w' => r = 4 ∧ Rep B g (asked s).1 w' ∧ BelS B w w' ∧ Axl g w w') (H.out.below HW3.out) HF.out HA.out ?hclo).mono ?_; (case hclo =>
  intro w1 hr1 hb1 hk1
  have hne : ∀ b, w.heap.size ≤ b → b ≠ g := fun b hb => by omega
  refine (Avz w.heap.size (w.heap.size + 1) (w.heap.size + 2) (.func (.func 92) #[] #[.pointer (some ⟨c0, 0, none⟩)]) hr1 HF1.out (Aqt HP.out hk1 (hne _ (by omega))) (Aqt HN.out hk1 (hne _ (by omega))) (Aqt HC.out hk1 (hne _ (by omega))) (by rw [Axx]; exact HOK.out)).mono ?_
  rintro e w2 ⟨rfl, hr2, hb2⟩
  exact ⟨4, rfl, rfl, ⟨mv, sv, pv, hr2⟩, Aqc (Aqk hBw HW3.out) (Aqc hb1 (Aqk (Up.le hBw (Nat.le_trans HW3.out.size hk1.1)) hb2)), (Axl.of_below HW3.out).trans (hk1.trans (Axl.of_below hb2))⟩); rintro e w7 ⟨r, rfl, rfl, hr7, hb7, hk7⟩; have HK7 := Bvh hk7; have HR7 := Bvh hr7; have HB7 := Bvh hb7; clear hr7 hb7 hk7)
 go_ret
 exact ⟨4, rfl, rfl, HR7.out, HB7.out, HK7.out⟩
theorem of_err92 (c0 : Nat) (h : Rep B g s w) (hf : Fit s) (hBw : Up B w.heap.size) (ha : (asked s).2 ≠ 0) :
 Calls Try.prog 69 #[.pointer (some ⟨g, 0, none⟩), .string name, (.func (.func 92) #[] #[.pointer (some ⟨c0, 0, none⟩)])] w fun e w' => ∃ r, e = .returned (.int .i64 r) ∧ r = (asked s).2 ∧ Rep B g (asked s).1 w' ∧ BelS B w w' ∧ Axl g w w' := by
 have H := Bvh h
 have HF := Bvh hf
 have HA := Bvh ha
 have hw3 : Below w.heap.size w (((w.alloc (.cells #[.pointer (some ⟨g, 0, none⟩)] 58)).alloc (.cells #[.string name] 9)).alloc (.cells #[(.func (.func 92) #[] #[.pointer (some ⟨c0, 0, none⟩)])] 113)) := Aq4 (Aq4 (Aq4 (Below.refl _ _) _) _) _
 have HW3 := Bvh hw3
 clear h hf ha hw3
 go_enter Try.func69, Try.ntmps69
 go_wp2_with (go_at_call 90; refine (Aku _ (H.out.below HW3.out) HF.out HA.out).mono ?_; rintro e w7 ⟨rfl, hr7, hb7, hk7⟩; have HR7 := Bvh hr7; have HB7 := Bvh (Aqc (Aqk hBw HW3.out) hb7); have HK7 := Bvh ((Axl.of_below HW3.out).trans hk7); clear hr7 hb7 hk7)
 go_ret
 exact ⟨_, rfl, rfl, HR7.out, HB7.out, HK7.out⟩
def ofR (s : SSt) (name : ByteArray) (k : SSt → SSt × Int) : SSt × Int := if (asked s).2 ≠ 0 then asked s else if (getT (Aq8 s) name).2 = true then k (asked s).1 else ((asked s).1, 4)
def Aky (s : SSt) (name : ByteArray) : SSt × Int := ofR s name fun s => (Bxr s name, 0)
def Avo (s : SSt) (name : ByteArray) : SSt × Int := ofR s name fun s => (Bjp s name, 0)
def Akg (s : SSt) (a b : ByteArray) : SSt × Int := ofR s a fun s => if b.size < 1 ∨ 40 < b.size then (s, 1) else if (a.toList == b.toList) = true then (s, 0) else (Bz5 s a b, 0)
theorem Bz4 {name : ByteArray} {k : SSt → SSt × Int} (ha : ¬ (asked s).2 = 0) : ofR s name k = asked s := by unfold ofR; rw [if_pos ha]
theorem Akr {name : ByteArray} {k : SSt → SSt × Int} (ha : (asked s).2 = 0) (h : (getT (Aq8 s) name).2 = false) : ofR s name k = ((asked s).1, 4) := by unfold ofR; rw [if_neg (by simp [ha]), if_neg (by simp [h])]
theorem Avs {name : ByteArray} {k : SSt → SSt × Int} (ha : (asked s).2 = 0) (h : (getT (Aq8 s) name).2 = true) : ofR s name k = k (asked s).1 := by unfold ofR; rw [if_neg (by simp [ha]), if_pos h]
theorem Bq4 (name : ByteArray) (h : Rep B g s w) (hf : Fit s) (hf1 : Fit (asked s).1) (hBw : Up B w.heap.size) :
 Calls Try.prog 41 #[.pointer (some ⟨g, 0, none⟩), .string name] w fun e w' => e = .returned (.int .i64 (Aky s name).2) ∧ Rep B g (Aky s name).1 w' ∧ BelS B w w' := by
 obtain ⟨mv, sv, pv, h⟩ := h
 have H := Bvh h
 have HF := Bvh hf
 have HF1 := Bvh hf1
 have hg0 : g < w.heap.size := by exact Ax7 H.out.blk
 clear h hf hf1
 have hw3 : Below w.heap.size w ((w.alloc (.cells #[.pointer (some ⟨g, 0, none⟩)] 58)).alloc (.cells #[.string name] 9)) := Aq4 (Aq4 (Below.refl _ _) _) _
 have hp : VarP ((w.alloc (.cells #[.pointer (some ⟨g, 0, none⟩)] 58)).alloc (.cells #[.string name] 9)) w.heap.size g := Aqe (heap_alloc_new _ _) _
 have hn0 : VarS ((w.alloc (.cells #[.pointer (some ⟨g, 0, none⟩)] 58)).alloc (.cells #[.string name] 9)) (w.heap.size + 1) name := by
  have := heap_alloc_new (w.alloc (.cells #[.pointer (some ⟨g, 0, none⟩)] 58)) (.cells #[.string name] 9)
  rw [World.size_alloc] at this
  exact this
 have HW3 := Bvh hw3
 have HP := Bvh hp
 have HN0 := Bvh hn0
 clear hw3 hp hn0
 by_cases ha : (asked s).2 = 0
 · cases hok : (getT (Aq8 s) name).2
   · have hR : Aky s name = ((asked s).1, 4) := Akr ha hok
     rw [hR]
     have HA := Bvh ha
     have HOK := Bvh hok
     clear hR ha hok
     go_enter Try.func41, Try.ntmps41
     go_wp2_with (go_at_call 69; refine (Bkn w.heap.size (w.heap.size + 1) (H.out.below HW3.out) HF.out HF1.out (Up.le hBw HW3.out.size) HA.out HOK.out).mono ?_; rintro e w7 ⟨r, rfl, rfl, hr7, hb7⟩; have HR7 := Bvh hr7; have HB7 := Bvh (Aqc (Aqk hBw HW3.out) hb7); clear hr7 hb7)
     go_ret
     exact ⟨rfl, HR7.out, HB7.out⟩
   · have hR : Aky s name = (Bxr (asked s).1 name, 0) := Avs ha hok
     rw [hR]
     have HA := Bvh ha
     have HOK := Bvh hok
     clear hR ha hok
     go_enter Try.func41, Try.ntmps41
     go_wp2_with (go_at_call 69; refine (of_ok70 w.heap.size (w.heap.size + 1) (fun r w' => r = 0 ∧ Rep B g (Bxr (asked s).1 name) w' ∧ BelS B ((w.alloc (.cells #[.pointer (some ⟨g, 0, none⟩)] 58)).alloc (.cells #[.string name] 9)) w') (H.out.below HW3.out) HF.out HF1.out (Up.le hBw HW3.out.size) HA.out HOK.out ?hdo).mono ?_; (case hdo =>
      intro w1 v hr1 hb1 hk1 hv
      have hne : ∀ b, w.heap.size ≤ b → b ≠ g := fun b hb => by omega
      refine (Bxs name v w.heap.size (w.heap.size + 1) ⟨mv, sv, pv, hr1⟩ HF1.out (Up.le hBw (Nat.le_trans HW3.out.size hk1.1)) (Aqt HP.out hk1 (hne _ (by omega))) (Aqt HN0.out hk1 (hne _ (by omega)))).mono ?_
      rintro e w2 ⟨r, rfl, rfl, hr2, hb2⟩
      exact ⟨0, rfl, rfl, hr2, Aqc hb1 hb2⟩); rintro e w7 ⟨r, rfl, rfl, hr7, hb7⟩; have HR7 := Bvh hr7; have HB7 := Bvh (Aqc (Aqk hBw HW3.out) hb7); clear hr7 hb7)
     go_ret
     exact ⟨rfl, HR7.out, HB7.out⟩
 · have hR : Aky s name = asked s := Bz4 ha
   rw [hR]
   have HA := Bvh ha
   clear hR ha
   go_enter Try.func41, Try.ntmps41
   go_wp2_with (go_at_call 69; refine (of_err70 w.heap.size (w.heap.size + 1) ⟨mv, sv, pv, H.out.below HW3.out⟩ HF.out (Up.le hBw HW3.out.size) HA.out).mono ?_; rintro e w7 ⟨r, rfl, rfl, hr7, hb7⟩; have HR7 := Bvh hr7; have HB7 := Bvh (Aqc (Aqk hBw HW3.out) hb7); clear hr7 hb7)
   go_ret
   exact ⟨rfl, HR7.out, HB7.out⟩
theorem Bjo (name : ByteArray) (h : Rep B g s w) (hf : Fit s) (hf1 : Fit (asked s).1) (hBw : Up B w.heap.size) :
 Calls Try.prog 80 #[.pointer (some ⟨g, 0, none⟩), .string name] w fun e w' => e = .returned (.int .i64 (Avo s name).2) ∧ Rep B g (Avo s name).1 w' ∧ BelS B w w' := by
 obtain ⟨mv, sv, pv, h⟩ := h
 have H := Bvh h
 have HF := Bvh hf
 have HF1 := Bvh hf1
 have hg0 : g < w.heap.size := by exact Ax7 H.out.blk
 clear h hf hf1
 have hw3 : Below w.heap.size w ((w.alloc (.cells #[.pointer (some ⟨g, 0, none⟩)] 58)).alloc (.cells #[.string name] 9)) := Aq4 (Aq4 (Below.refl _ _) _) _
 have hp : VarP ((w.alloc (.cells #[.pointer (some ⟨g, 0, none⟩)] 58)).alloc (.cells #[.string name] 9)) w.heap.size g := Aqe (heap_alloc_new _ _) _
 have hn0 : VarS ((w.alloc (.cells #[.pointer (some ⟨g, 0, none⟩)] 58)).alloc (.cells #[.string name] 9)) (w.heap.size + 1) name := by
  have := heap_alloc_new (w.alloc (.cells #[.pointer (some ⟨g, 0, none⟩)] 58)) (.cells #[.string name] 9)
  rw [World.size_alloc] at this
  exact this
 have HW3 := Bvh hw3
 have HP := Bvh hp
 have HN0 := Bvh hn0
 clear hw3 hp hn0
 by_cases ha : (asked s).2 = 0
 · cases hok : (getT (Aq8 s) name).2
   · have hR : Avo s name = ((asked s).1, 4) := Akr ha hok
     rw [hR]
     have HA := Bvh ha
     have HOK := Bvh hok
     clear hR ha hok
     go_enter Try.func80, Try.ntmps80
     go_wp2_with (go_at_call 69; refine (Bkk w.heap.size (w.heap.size + 1) (H.out.below HW3.out) HF.out HF1.out (Up.le hBw HW3.out.size) HA.out HOK.out).mono ?_; rintro e w7 ⟨r, rfl, rfl, hr7, hb7⟩; have HR7 := Bvh hr7; have HB7 := Bvh (Aqc (Aqk hBw HW3.out) hb7); clear hr7 hb7)
     go_ret
     exact ⟨rfl, HR7.out, HB7.out⟩
   · have hR : Avo s name = (Bjp (asked s).1 name, 0) := Avs ha hok
     rw [hR]
     have HA := Bvh ha
     have HOK := Bvh hok
     clear hR ha hok
     go_enter Try.func80, Try.ntmps80
     go_wp2_with (go_at_call 69; refine (of_ok96 w.heap.size (w.heap.size + 1) (fun r w' => r = 0 ∧ Rep B g (Bjp (asked s).1 name) w' ∧ BelS B ((w.alloc (.cells #[.pointer (some ⟨g, 0, none⟩)] 58)).alloc (.cells #[.string name] 9)) w') (H.out.below HW3.out) HF.out HF1.out (Up.le hBw HW3.out.size) HA.out HOK.out ?hdo).mono ?_; (case hdo =>
      intro w1 v hr1 hb1 hk1 hv
      have hne : ∀ b, w.heap.size ≤ b → b ≠ g := fun b hb => by omega
      refine (Bzb name v w.heap.size (w.heap.size + 1) ⟨mv, sv, pv, hr1⟩ HF1.out (Up.le hBw (Nat.le_trans HW3.out.size hk1.1)) (Aqt HP.out hk1 (hne _ (by omega))) (Aqt HN0.out hk1 (hne _ (by omega)))).mono ?_
      rintro e w2 ⟨r, rfl, rfl, hr2, hb2⟩
      exact ⟨0, rfl, rfl, hr2, Aqc hb1 hb2⟩); rintro e w7 ⟨r, rfl, rfl, hr7, hb7⟩; have HR7 := Bvh hr7; have HB7 := Bvh (Aqc (Aqk hBw HW3.out) hb7); clear hr7 hb7)
     go_ret
     exact ⟨rfl, HR7.out, HB7.out⟩
 · have hR : Avo s name = asked s := Bz4 ha
   rw [hR]
   have HA := Bvh ha
   clear hR ha
   go_enter Try.func80, Try.ntmps80
   go_wp2_with (go_at_call 69; refine (of_err96 w.heap.size (w.heap.size + 1) ⟨mv, sv, pv, H.out.below HW3.out⟩ HF.out (Up.le hBw HW3.out.size) HA.out).mono ?_; rintro e w7 ⟨r, rfl, rfl, hr7, hb7⟩; have HR7 := Bvh hr7; have HB7 := Bvh (Aqc (Aqk hBw HW3.out) hb7); clear hr7 hb7)
   go_ret
   exact ⟨rfl, HR7.out, HB7.out⟩
theorem Bje (from_ to_ : ByteArray) (h : Rep B g s w) (hf : Fit s) (hf1 : Fit (asked s).1) (hBw : Up B w.heap.size) :
 Calls Try.prog 43 #[.pointer (some ⟨g, 0, none⟩), .string from_, .string to_] w fun e w' => e = .returned (.int .i64 (Akg s from_ to_).2) ∧ Rep B g (Akg s from_ to_).1 w' ∧ BelS B w w' := by
 obtain ⟨mv, sv, pv, h⟩ := h
 have H := Bvh h
 have HF := Bvh hf
 have HF1 := Bvh hf1
 have hg0 : g < w.heap.size := by exact Ax7 H.out.blk
 clear h hf hf1
 have hw3 : Below w.heap.size w (((w.alloc (.cells #[.pointer (some ⟨g, 0, none⟩)] 58)).alloc (.cells #[.string from_] 9)).alloc (.cells #[.string to_] 9)) := Aq4 (Aq4 (Aq4 (Below.refl _ _) _) _) _
 have hp : VarP (((w.alloc (.cells #[.pointer (some ⟨g, 0, none⟩)] 58)).alloc (.cells #[.string from_] 9)).alloc (.cells #[.string to_] 9)) w.heap.size g := Aqe (Aqe (heap_alloc_new _ _) _) _
 have hn0 : VarS (((w.alloc (.cells #[.pointer (some ⟨g, 0, none⟩)] 58)).alloc (.cells #[.string from_] 9)).alloc (.cells #[.string to_] 9)) (w.heap.size + 1) from_ := by
  have := heap_alloc_new (w.alloc (.cells #[.pointer (some ⟨g, 0, none⟩)] 58)) (.cells #[.string from_] 9)
  rw [World.size_alloc] at this
  exact Aqe (this) _
 have hn1 : VarS (((w.alloc (.cells #[.pointer (some ⟨g, 0, none⟩)] 58)).alloc (.cells #[.string from_] 9)).alloc (.cells #[.string to_] 9)) (w.heap.size + 2) to_ := by
  have := heap_alloc_new ((w.alloc (.cells #[.pointer (some ⟨g, 0, none⟩)] 58)).alloc (.cells #[.string from_] 9)) (.cells #[.string to_] 9)
  rw [World.size_alloc, World.size_alloc] at this
  exact this
 have HW3 := Bvh hw3
 have HP := Bvh hp
 have HN0 := Bvh hn0
 have HN1 := Bvh hn1
 clear hw3 hp hn0 hn1
 by_cases ha : (asked s).2 = 0
 · cases hok : (getT (Aq8 s) from_).2
   · have hR : Akg s from_ to_ = ((asked s).1, 4) := Akr ha hok
     rw [hR]
     have HA := Bvh ha
     have HOK := Bvh hok
     clear hR ha hok
     go_enter Try.func43, Try.ntmps43
     go_wp2_with (go_at_call 69; refine (Bkm (w.heap.size + 2) (w.heap.size + 1) w.heap.size (H.out.below HW3.out) HF.out HF1.out (Up.le hBw HW3.out.size) HA.out HOK.out).mono ?_; rintro e w7 ⟨r, rfl, rfl, hr7, hb7⟩; have HR7 := Bvh hr7; have HB7 := Bvh (Aqc (Aqk hBw HW3.out) hb7); clear hr7 hb7)
     go_ret
     exact ⟨rfl, HR7.out, HB7.out⟩
   · by_cases hbad : to_.size < 1 ∨ 40 < to_.size
     · have HBAD := Bvh hbad
       have hR : Akg s from_ to_ = ((asked s).1, 1) := by
        refine (Avs ha hok).trans ?_
        show (if _ then _ else _) = _
        rw [if_pos hbad]
       rw [hR]
       have HA := Bvh ha
       have HOK := Bvh hok
       clear hR ha hok
       go_enter Try.func43, Try.ntmps43
       go_wp2_with (go_at_call 69; refine (Bz3 (w.heap.size + 2) (w.heap.size + 1) w.heap.size (fun r w' => r = 1 ∧ Rep B g ((asked s).1) w' ∧ BelS B (((w.alloc (.cells #[.pointer (some ⟨g, 0, none⟩)] 58)).alloc (.cells #[.string from_] 9)).alloc (.cells #[.string to_] 9)) w') (H.out.below HW3.out) HF.out HF1.out (Up.le hBw HW3.out.size) HA.out HOK.out ?hdo).mono ?_; (case hdo =>
        intro w1 v hr1 hb1 hk1 hv
        have hne : ∀ b, w.heap.size ≤ b → b ≠ g := fun b hb => by omega
        refine (Bkp from_ to_ v (w.heap.size + 2) (w.heap.size + 1) w.heap.size (Aqt HN1.out hk1 (hne _ (by omega))) HBAD.out).mono ?_
        rintro e w2 ⟨rfl, hb2⟩
        exact ⟨1, rfl, rfl, ⟨mv, sv, pv, hr1.below hb2⟩, Aqc hb1 (Aqk (Up.le hBw (Nat.le_trans HW3.out.size hk1.1)) hb2)⟩); rintro e w7 ⟨r, rfl, rfl, hr7, hb7⟩; have HR7 := Bvh hr7; have HB7 := Bvh (Aqc (Aqk hBw HW3.out) hb7); clear hr7 hb7)
       go_ret
       exact ⟨rfl, HR7.out, HB7.out⟩
     · have HOKN : Aside0 (1 ≤ to_.size ∧ to_.size ≤ 40) := ⟨by omega⟩
       by_cases hsame : (from_.toList == to_.toList) = true
       · have HSAME := Bvh hsame
         have hR : Akg s from_ to_ = ((asked s).1, 0) := by
          refine (Avs ha hok).trans ?_
          show (if _ then _ else _) = _
          rw [if_neg hbad, if_pos hsame]
         rw [hR]
         have HA := Bvh ha
         have HOK := Bvh hok
         clear hR ha hok
         go_enter Try.func43, Try.ntmps43
         go_wp2_with (go_at_call 69; refine (Bz3 (w.heap.size + 2) (w.heap.size + 1) w.heap.size (fun r w' => r = 0 ∧ Rep B g ((asked s).1) w' ∧ BelS B (((w.alloc (.cells #[.pointer (some ⟨g, 0, none⟩)] 58)).alloc (.cells #[.string from_] 9)).alloc (.cells #[.string to_] 9)) w') (H.out.below HW3.out) HF.out HF1.out (Up.le hBw HW3.out.size) HA.out HOK.out ?hdo).mono ?_; (case hdo =>
          intro w1 v hr1 hb1 hk1 hv
          have hne : ∀ b, w.heap.size ≤ b → b ≠ g := fun b hb => by omega
          refine (Bjf from_ to_ v (w.heap.size + 2) (w.heap.size + 1) w.heap.size (Aqt HN1.out hk1 (hne _ (by omega))) (Aqt HN0.out hk1 (hne _ (by omega))) HOKN.out HSAME.out).mono ?_
          rintro e w2 ⟨rfl, hb2⟩
          exact ⟨0, rfl, rfl, ⟨mv, sv, pv, hr1.below hb2⟩, Aqc hb1 (Aqk (Up.le hBw (Nat.le_trans HW3.out.size hk1.1)) hb2)⟩); rintro e w7 ⟨r, rfl, rfl, hr7, hb7⟩; have HR7 := Bvh hr7; have HB7 := Bvh (Aqc (Aqk hBw HW3.out) hb7); clear hr7 hb7)
         go_ret
         exact ⟨rfl, HR7.out, HB7.out⟩
       · have HSAME : Aside0 ((from_.toList == to_.toList) = false) := ⟨by simpa using hsame⟩
         have hR : Akg s from_ to_ = (Bz5 (asked s).1 from_ to_, 0) := by
          refine (Avs ha hok).trans ?_
          show (if _ then _ else _) = _
          rw [if_neg hbad, if_neg hsame]
         rw [hR]
         have HA := Bvh ha
         have HOK := Bvh hok
         clear hR ha hok
         go_enter Try.func43, Try.ntmps43
         go_wp2_with (go_at_call 69; refine (Bz3 (w.heap.size + 2) (w.heap.size + 1) w.heap.size (fun r w' => r = 0 ∧ Rep B g (Bz5 (asked s).1 from_ to_) w' ∧ BelS B (((w.alloc (.cells #[.pointer (some ⟨g, 0, none⟩)] 58)).alloc (.cells #[.string from_] 9)).alloc (.cells #[.string to_] 9)) w') (H.out.below HW3.out) HF.out HF1.out (Up.le hBw HW3.out.size) HA.out HOK.out ?hdo).mono ?_; (case hdo =>
          intro w1 v hr1 hb1 hk1 hv
          have hne : ∀ b, w.heap.size ≤ b → b ≠ g := fun b hb => by omega
          refine (Bz6 from_ to_ v (w.heap.size + 2) (w.heap.size + 1) w.heap.size ⟨mv, sv, pv, hr1⟩ HF1.out (Up.le hBw (Nat.le_trans HW3.out.size hk1.1)) (Aqt HN1.out hk1 (hne _ (by omega))) (Aqt HN0.out hk1 (hne _ (by omega))) (Aqt HP.out hk1 (hne _ (by omega))) HOKN.out HSAME.out).mono ?_
          rintro e w2 ⟨r, rfl, rfl, hr2, hb2⟩
          exact ⟨0, rfl, rfl, hr2, Aqc hb1 hb2⟩); rintro e w7 ⟨r, rfl, rfl, hr7, hb7⟩; have HR7 := Bvh hr7; have HB7 := Bvh (Aqc (Aqk hBw HW3.out) hb7); clear hr7 hb7)
         go_ret
         exact ⟨rfl, HR7.out, HB7.out⟩
 · have hR : Akg s from_ to_ = asked s := Bz4 ha
   rw [hR]
   have HA := Bvh ha
   clear hR ha
   go_enter Try.func43, Try.ntmps43
   go_wp2_with (go_at_call 69; refine (of_err77 (w.heap.size + 2) (w.heap.size + 1) w.heap.size ⟨mv, sv, pv, H.out.below HW3.out⟩ HF.out (Up.le hBw HW3.out.size) HA.out).mono ?_; rintro e w7 ⟨r, rfl, rfl, hr7, hb7⟩; have HR7 := Bvh hr7; have HB7 := Bvh (Aqc (Aqk hBw HW3.out) hb7); clear hr7 hb7)
   go_ret
   exact ⟨rfl, HR7.out, HB7.out⟩
end
end
section
attribute [local go_sem] Axk Axr Az3 Az7 Axj Axi Axz Axy
def Axn.l0 : Nat → List ByteArray → List (S38) → Int → Int → Option (List ByteArray)
 | 0, _, _, _, _ => none
 | k + 1, x3, x6, x7, x8 => if x8 < x7 then (if 0 ≤ x8 then (if x8 < (x6.length : Int) then (if x3.length < 8796093022208 then (Axn.l0 k (x3 ++ [(Aqf x6 x8).f0]) x6 x7 (wrap64 (x8 + 1))) else (none)) else (none)) else (none)) else (some x3)
def Axn.f (k : Nat) (l0 : List (S38)) : Option (List ByteArray) := Axn.l0 k ([] : List ByteArray) l0 (l0.length : Int) 0
theorem Axn.calls (k : Nat) (A0 : Option Addr) (c0 : Nat) (l0 : List (S38)) (r : List ByteArray) (w : World) (hr0 : Kd.C k38 w A0 l0.length l0) (hc0 : l0.length ≤ c0) (h : Axn.f k l0 = some r) :
 Calls Try.prog 33 #[.slice A0 l0.length c0] w fun e w' => ∃ v0_ : Value, e = .returned (v0_) ∧ Kd.R Kd.string 9 w' w.heap.size (fun _ => True) v0_ r ∧ Below w.heap.size w w' := by
 have hu38 := Try.underlying38
 have HR0 := Bvh hr0
 have HC0 := Bvh hc0
 clear hr0 hc0
 have HB := Bvh (Below.refl w.heap.size w)
 have H : (Axn.l0 k ([] : List ByteArray) l0 (l0.length : Int) 0) = some r := h
 clear h
 have H' := Bvh H
 clear H
 go_enter Try.func33, Try.ntmps33
 go_wp2
 go_loopg [3, 8] k (fun kq v3 v8 w' => ∃ (x3_1 : List ByteArray) (x8_1 : Int), v8 = .int .i64 x8_1 ∧ Aside0 (Axn.l0 kq x3_1 l0 (l0.length : Int) x8_1 = some r) ∧ Aside0 (kq ≤ k) ∧ Aside0 (Kd.R Kd.string 9 w' w.heap.size (fun _ => True) v3 x3_1) ∧ Aside0 (Below w.heap.size w w'))
 case atStart => exact ⟨(([] : List ByteArray)), (0), (by first | rfl | (simp; done) | (simp [*]; done)), H', ⟨Nat.le_refl _⟩, ⟨by first | exact Kd.R_nil _ _ _ _ _ | exact Kd.N_nil _ _ _ _ _ | exact Kd.V_nil _ _ _ _ _ | exact Kd.Q_nil _ _ _ _ _ | exact Kd.S_nil _ _ _ _ _⟩, ⟨by repeat (first | (with_reducible first | exact HB.out | apply Aq4 | apply Aq7 | apply Aq5) | exact HB.out)⟩⟩
 case round =>
  clear H'
  obtain ⟨x3_1, x8_1, rfl, HA, HK1, HO_3, HB⟩ := hrel
  cases gk with
  | zero => exact absurd HA.out (by simp [Axn.l0])
  | succ k1 =>
    have H := HA.out
    clear HA
    simp only [Axn.l0] at H
    by_cases c2 : x8_1 < (l0.length : Int)
    · rw [if_pos c2] at H
      have c2b0 : decide (x8_1 < (l0.length : Int)) = true := decide_eq_true c2
      clear c2
      by_cases c3 : 0 ≤ x8_1
      · rw [if_pos c3] at H
        have c3b0 : decide (0 ≤ x8_1) = true := decide_eq_true c3
        clear c3
        by_cases c4 : x8_1 < (l0.length : Int)
        · rw [if_pos c4] at H
          have c4b0 : decide (x8_1 < (l0.length : Int)) = true := decide_eq_true c4
          clear c4
          by_cases c5 : x3_1.length < 8796093022208
          · rw [if_pos c5] at H
            have LMc5 := Bvh c5
            clear c5
            obtain ⟨y284, hy284⟩ : ∃ y_ : List ByteArray, y_ = (x3_1 ++ [(Aqf l0 x8_1).f0]) := ⟨_, rfl⟩
            replace H : (Axn.l0 k1 y284 l0 (l0.length : Int) (wrap64 (x8_1 + 1))) = some r := by first | (rw [hy284]; with_reducible exact H) | (have H2_ := (Option.bind_some _ _).symm.trans H; rw [hy284]; with_reducible exact H2_) | (have H2_ := (Option.bind_some _ _).symm.trans H; with_reducible exact H2_) | with_reducible exact H | (rw [hy284]; exact H) | exact H
            have Ny284 := Bvh hy284
            clear hy284
            have H' := Bvh H
            clear H
            have p282 : 0 ≤ (x8_1 : Int) := of_decide_eq_true (by first | (with_reducible assumption) | assumption)
            have q282 : x8_1 < (l0.length : Int) := of_decide_eq_true (by first | (with_reducible assumption) | assumption)
            obtain ⟨ad282, A282_1, c282_1, e282, hx282_0, hx282_1, hl282_1, hi282_1⟩ := Azf HR0.out x8_1 p282 q282
            cases e282
            replace hx282_0 := (HB.out.cell (World.block_lt_of_cell? w _ hx282_0)).trans hx282_0
            replace hx282_1 := (HB.out.cell (World.block_lt_of_cell? w _ hx282_1)).trans hx282_1
            have HR282_1 := Bvh hi282_1
            have HC282_1 := Bvh hl282_1
            clear hi282_1 hl282_1
            replace p282 := eq_true p282
            replace q282 := eq_true q282
            go_wp2_with (first | ((with_reducible refine Ax1 (N := 5) rfl ?_); refine Axd ?hg (N := 5) ?hd (cs := #[.string (⟨#[]⟩ : ByteArray), .slice none 0 0]) (t := 38) ?hr ?_; (case hd => rfl); (case hg => rfl); (case hr => first | (go_simp; done) | (go_simp; rfl)); intro gb283 hg w6 hbox hb; have n0_ := Bvh (Kd.R_below (by (with_reducible repeat (first | apply Kd.R_alloc | apply Kd.R_drewN | apply Kd.R_drew)); exact HO_3.out) hb); have n1_ := Bvh (Aq1 (by repeat (first | (with_reducible first | exact HB.out | apply Aq4 | apply Aq7 | apply Aq5) | exact HB.out)) hb); have n2_ := Bvh (hbox); have n3_ := Bvh ((by rw [hg]; exact (Aqb (by repeat (first | (with_reducible first | exact HB.out | apply Aq4 | apply Aq7 | apply Aq5) | exact HB.out))) : w.heap.size ≤ gb283)); have n4_ := Bvh ((by rw [hg]; exact (Aqb (by repeat (first | (with_reducible first | exact HB.out | apply Aq4 | apply Aq7 | apply Aq5) | exact HB.out))) : w.heap.size ≤ gb283)); clear HO_3; clear HB; have HO_3 := n0_; have HB := n1_; have BK283 := n2_; have GW283 := n3_; have GE283 := n4_; clear n0_ n1_ n2_ n3_ n4_; clear hb hbox hg; have hcz7_0 : w6.cell? ⟨gb283, 0, none⟩ = some (.string (⟨#[]⟩ : ByteArray)) := (Aq3 BK283.out 0).trans rfl; have hcz7_1 : w6.cell? ⟨gb283, 1, none⟩ = some (.slice none 0 0) := (Aq3 BK283.out 1).trans rfl; have hfz7_0 := Aq2 BK283.out 0; have hfz7_1 := Aq2 BK283.out 1) | ((with_reducible refine Axc (b := .append) (xs := #[.tmp 12, .tmp 15]) rfl ?_); at_builtin; refine Kd.R_append Kd.string (w0 := w) w.heap.size rfl (.tmp 12) (.tmp 15) 48 9 (.string ⟨#[]⟩) 16 rfl Try.underlying48 info9 rfl (by decide) (by omega) u3 x3_1 ((Aqf l0 x8_1).f0) [.string ((Aqf l0 x8_1).f0)] (fun _ => True) (fun _ => False) rfl (by first | (go_simp; done) | (go_simp; rfl)) ?aP (fun _ hk => hk.elim) ?aF ?aO ?aB ?aS ?aL ?_; (case aP => exact rfl); (case aB => exact (by repeat (first | (with_reducible first | exact HB.out | apply Aq4 | apply Aq7 | apply Aq5 | refine Ax2 ?_ GE283.out) | exact HB.out))); (case aF => exact (fun _ _ => trivial)); (case aO => exact (by (with_reducible repeat (first | apply Kd.R_alloc | apply Kd.R_drewN | apply Kd.R_drew)); exact Kd.R_mono (Kd.R_far (p := ⟨gb283, 1, none⟩) (Kd.R_far (p := ⟨gb283, 0, none⟩) (Kd.R_types HO_3.out BK283.out (by decide)) (fun _ hk => hk.2) (.string ((Aqf l0 x8_1).f0))) (fun _ hk => hk.2) (.slice A282_1 ((Aqf l0 x8_1).f1).length c282_1)) (fun _ hk => trivial))); (case aS => exact (Aqb (by repeat (first | (with_reducible first | exact HB.out | apply Aq4 | apply Aq7 | apply Aq5 | refine Ax2 ?_ GE283.out) | exact HB.out)))); (case aL => have := LMc5.out; omega); intro v285 w8 ho hb hg hat; rw [← Ny284.out] at ho; have n0_ := Bvh (Akl (g := gb283) (o := .cells #[.string ((Aqf l0 x8_1).f0), .slice A282_1 ((Aqf l0 x8_1).f1).length c282_1] 38 (0, 0)) (by (with_reducible repeat (first | refine Axg ?_ _ | refine Axu ?_ | refine Aqe ?_ _)); refine Avp (cs := #[.string ((Aqf l0 x8_1).f0), .slice none 0 0]) ?_ 1 _ rfl; (with_reducible repeat (first | refine Axg ?_ _ | refine Axu ?_ | refine Aqe ?_ _)); refine Avp (cs := #[.string (⟨#[]⟩ : ByteArray), .slice none 0 0]) ?_ 0 _ rfl; (with_reducible repeat (first | refine Axg ?_ _ | refine Axu ?_ | refine Aqe ?_ _)); exact BK283.out) hg (Kd.R_ne HO_3.out BK283.out (by decide))); have n1_ := Bvh (hb); have n2_ := Bvh (ho); clear BK283; clear HB; clear HO_3; have BK283 := n0_; have HB := n1_; have HO286 := n2_; clear n0_ n1_ n2_; clear ho hb hg hat))
            go_roundg k1
            case measure => have := HK1.out; omega
            case rel => exact ⟨(y284), (wrap64 (x8_1 + 1)), rfl, H', ⟨by have := HK1.out; omega⟩, HO286, HB⟩
          · rw [if_neg c5] at H
            exact absurd H (by simp)
        · rw [if_neg c4] at H
          exact absurd H (by simp)
      · rw [if_neg c3] at H
        exact absurd H (by simp)
    · rw [if_neg c2] at H
      have c2b0 : decide (x8_1 < (l0.length : Int)) = false := decide_eq_false c2
      clear c2
      obtain rfl := Option.some.inj H
      go_wp2
      go_ret
      exact ⟨_, by first | rfl | (simp [Aqj, Aqi] <;> rfl) | (simp [*, Aqj, Aqi] <;> rfl), by exact HO_3.out, by exact HB.out⟩
end
end Go.Proofs.Ytcgeioingikeeaa.P
