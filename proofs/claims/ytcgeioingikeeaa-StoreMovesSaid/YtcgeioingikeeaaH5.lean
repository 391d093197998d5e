/- files.Do: what it returns, for every row of files and every write. -/
import Derived.Test.YtcgeioingikeeaaH4
namespace Go.Proofs.Ytcgeioingikeeaa.P
open Go.RowKit Go.Proofs.YtcgeioingikeeaaW.PrintWords Go.Proofs.YtcgeioingikeeaaW.PrintLast Go.Proofs.YtcgeioingikeeaaW.PrintMore
set_option linter.unusedVariables false
set_option linter.unusedSimpArgs false

set_option maxHeartbeats 16000000 in
set_option maxRecDepth 100000 in
theorem do_bad (s0 : Value) (nm : ByteArray) (kind off keep : Int) (v : Value) (w : World) (hv : v.oneCell' = true) (h : kind < 1 ∨ kind > 3 ∨ nm.size < 1 ∨ nm.size > 40 ∨ (kind = 3 ∧ off < 0)) :
    Calls Try.prog 17 #[s0, .agg #[.string nm, .int .i64 kind, .int .i64 off, v], .int .i64 keep] w fun e w' => e = .returned (.tuple #[.slice none 0 0, .int .i64 1]) ∧ Below w.heap.size w w' := by
  by_cases h1 : kind < 1
  · clear h
    go_enter Try.func17, Try.ntmps17
    go_wp2
    go_ret2
    exact ⟨rfl, below_alloc (Below.refl _ _) _⟩
  · by_cases h2 : kind > 3
    · clear h
      go_enter Try.func17, Try.ntmps17
      go_wp2
      go_ret2
      exact ⟨rfl, below_alloc (Below.refl _ _) _⟩
    · by_cases h3 : nm.size < 1 ∨ nm.size > 40
      · have hf : Aside0 (files_fine.f nm = some false) := ⟨by
          unfold files_fine.f
          rcases h3 with h3 | h3
          · rw [if_neg (by omega)]
          · rw [if_pos (by omega)]; simp; omega⟩
        clear h h3
        go_enter Try.func17, Try.ntmps17
        go_wp2_with (go_at_call 55; refine (files_fine.calls nm false _ hf.out).mono ?_; rintro e w1 ⟨rfl, ⟨nd, rfl⟩⟩)
        go_ret2
        exact ⟨rfl, pw_below_drewN (below_alloc (Below.refl _ _) _) _⟩
      · have hf : Aside0 (files_fine.f nm = some true) := ⟨by unfold files_fine.f; rw [if_pos (by omega)]; simp; omega⟩
        obtain ⟨rfl, h5⟩ : kind = 3 ∧ off < 0 := by omega
        clear h h3 h2 h1
        go_enter Try.func17, Try.ntmps17
        go_wp2_with (go_at_call 55; refine (files_fine.calls nm true _ hf.out).mono ?_; rintro e w1 ⟨rfl, ⟨nd, rfl⟩⟩)
        go_ret2
        exact ⟨rfl, pw_below_drewN (below_alloc (Below.refl _ _) _) _⟩

def oldOf (l : List S38) (nm : ByteArray) : List Int := match l.find? (named nm) with | some x => x.f1 | none => []
def frmOf (kind off : Int) (old : List Int) : Int := if kind = 2 then (old.length : Int) else if kind = 3 then off else 0
def files_Do.f (l0 : List S38) (a1_0 : ByteArray) (a1_1 : Int) (a1_2 : Int) (l1_3 : List Int) (a2 : Int) : Option (List S38 × Int) :=
  if l0.length ≤ 1000000 ∧ l1_3.length ≤ 1000000 ∧ (∀ x ∈ l0, x.f1.length ≤ 1000000) then
    if a1_1 < 1 ∨ a1_1 > 3 ∨ a1_0.size < 1 ∨ a1_0.size > 40 ∨ (a1_1 = 3 ∧ a1_2 < 0) then some ([], 1) else
      some (doRes a1_1.toNat l0 a1_0 (frmOf a1_1 a1_2 (oldOf l0 a1_0)) (oldOf l0 a1_0) l1_3 (keptOf l1_3 a2))
  else none
theorem files_Do.calls (P0_ : Nat → Prop) (A0 : Option Addr) (c0 : Nat) (l0 : List S38) (a1_0 : ByteArray) (a1_1 : Int) (a1_2 : Int) (A1_3 : Option Addr) (c1_3 : Nat) (l1_3 : List Int) (a2 : Int) (r1 : List S38) (r2 : Int) (w : World) (hs0 : Kd.V k38 38 w w.heap.size (fun k_ => P0_ k_) (.slice A0 l0.length c0) l0) (hr1_3 : Kd.C (Kd.int .u8) w A1_3 l1_3.length l1_3) (hc1_3 : l1_3.length ≤ c1_3) (h : files_Do.f l0 a1_0 a1_1 a1_2 l1_3 a2 = some (r1, r2)) :
    Calls Try.prog 17 #[.slice A0 l0.length c0, .agg #[.string a1_0, .int .i64 a1_1, .int .i64 a1_2, .slice A1_3 l1_3.length c1_3], .int .i64 a2] w fun e w' => ∃ v0_ : Value, e = .returned (.tuple #[v0_, .int .i64 r2]) ∧ Kd.V k38 38 w' w.heap.size (fun k_ => (P0_ k_ ∨ w.heap.size ≤ k_)) v0_ r1 ∧ Below w.heap.size w w' := by
  unfold files_Do.f at h
  split at h
  · rename_i hl
    split at h
    · rename_i hbad
      simp only [Option.some.injEq, Prod.mk.injEq] at h
      obtain ⟨rfl, rfl⟩ := h
      refine (do_bad _ a1_0 a1_1 a1_2 a2 _ w rfl hbad).mono ?_
      rintro e w' ⟨rfl, hb⟩
      exact ⟨_, rfl, Kd.V_nil _ _ _ _ _, hb⟩
    · rename_i hok
      obtain ⟨old, hold⟩ : ∃ old, oldOf l0 a1_0 = old := ⟨_, rfl⟩
      rw [hold] at h
      obtain ⟨is, hget, holdl⟩ : ∃ is, files_Get.f l0 a1_0 = some (old, is) ∧ old.length ≤ 1000000 := by
        unfold files_Get.f
        rw [if_pos ⟨hl.1, hl.2.2⟩, ← hold]
        unfold oldOf
        cases hf : l0.find? (named a1_0) with
        | none => exact ⟨_, rfl, by simp⟩
        | some x => exact ⟨_, rfl, hl.2.2 x (List.mem_of_find?_eq_some hf)⟩
      have hC := (Kd.V_reads' hs0).2.1
      have hkind : a1_1 = 1 ∨ a1_1 = 2 ∨ a1_1 = 3 := by omega
      have hres := Option.some.inj h
      rcases hkind with rfl | rfl | rfl
      · refine (do_1 P0_ A0 c0 l0 a1_0 a1_2 a2 A1_3 c1_3 l1_3 old is w (Kd.V_F hs0) hC hl.1 hget holdl (by omega) (by omega) hr1_3 hc1_3 hl.2.1).mono ?_
        rintro e w' hw
        rw [show frmOf 1 a1_2 old = 0 from rfl, show (1 : Int).toNat = 1 from rfl] at hres
        rw [hres] at hw
        exact hw
      · refine (do_2 P0_ A0 c0 l0 a1_0 a1_2 a2 A1_3 c1_3 l1_3 old is w (Kd.V_F hs0) hC hl.1 hget holdl (by omega) (by omega) hr1_3 hc1_3 hl.2.1).mono ?_
        rintro e w' hw
        rw [show frmOf 2 a1_2 old = (old.length : Int) from rfl, show (2 : Int).toNat = 2 from rfl] at hres
        rw [hres] at hw
        exact hw
      · refine (do_3 P0_ A0 c0 l0 a1_0 a1_2 a2 A1_3 c1_3 l1_3 old is w (Kd.V_F hs0) hC hl.1 hget holdl (by omega) (by omega) hr1_3 hc1_3 hl.2.1 (by omega)).mono ?_
        rintro e w' hw
        rw [show frmOf 3 a1_2 old = a1_2 from rfl, show (3 : Int).toNat = 3 from rfl] at hres
        rw [hres] at hw
        exact hw
  · cases h
end Go.Proofs.Ytcgeioingikeeaa.P
