/- A row of files, of bytes, that came in, reads as a list. A file, a write, that came in by value, reads as its fields. A deed that came in by value reads as its fields. Deeds that came in read as a list; so do numbers. -/
import Derived.Test.YtcgeioingikeeaaRows
import Derived.Test.YtcgeioingikeeaaP0
import Derived.Deep.SlicePairs
import Derived.ChangeArms
import Derived.ChangeSlices
import Derived.WalkKit
import Derived.ProofKit
import Derived.OpenShut
import Derived.ShutString
import Derived.ChangeOld
import Derived.Below
import Derived.SizedLaws
import Derived.Lib.SmallJoins
import Derived.Deep.Slices
namespace Go.Proofs.Ytcgeioingikeeaa.P
open Go.RowKit Go.Proofs.YtcgeioingikeeaaW.PrintWords Go.Proofs.YtcgeioingikeeaaW.PrintLast Go.Proofs.YtcgeioingikeeaaW.PrintMore
open Go.ChangeShapes Go.WideShapes Go.ChangeAt
set_option linter.unusedVariables false

section
variable {H : Type} {enc : TypeId × Value → H} {W : World} {base : Nat} {sp : Nat → Bool} {held : Bool}

theorem C_of_cells {w : World} {a : Addr} {zs : List Int} {len : Nat} (hl : len ≤ zs.length) (hm : len ≤ 9223372036854775807) (hc : ∀ i, i < zs.length → w.cell? (a.add i) = some (.int .u8 (zs.getD i 0))) : (Kd.int .u8).C w (some a) len (zs.take len) := by
  refine ⟨by simp; omega, hm, fun _ => ⟨a, rfl, fun j p hj => ⟨[.int .u8 p], rfl, rfl, fun i u hu => ?_⟩⟩⟩
  have hi : i = 0 := by
    rcases Nat.eq_zero_or_pos i with h | h
    · exact h
    · rw [List.getElem?_eq_none (by simp; omega)] at hu; cases hu
  subst hi
  have hu' : u = .int .u8 p := by simpa using hu.symm
  subst hu'
  rw [show (Kd.int .u8).sz = 1 from rfl, Nat.mul_one, Nat.add_zero]
  have hj1 : j < (zs.take len).length := (List.getElem?_eq_some_iff.1 hj).1
  have hj2 : j < zs.length := by simp at hj1; omega
  rw [hc j hj2]
  rw [List.getElem?_take] at hj
  split at hj
  · simp [List.getD, hj]
  · cases hj

/-- bytes that came in -/
theorem open_bytes {fuel : Nat} {cs : List Value} {x : DataW H × List MemPlace} (h : DataW.trod enc Try.prog W base sp held fuel 23 cs = some x) :
    ∃ (A : Option Addr) (cap : Nat) (xs : List Int), cs = [.slice A xs.length cap] ∧ xs.length ≤ cap ∧ (Kd.int .u8).C W A xs.length xs ∧ ∀ n ∈ xs, 0 ≤ n ∧ n < 256 := by
  rcases open_ints Try.underlying23 Try.underlying5 (by kernel_rfl) h with ⟨rfl, _⟩ | ⟨a, l, c, zs, rfl, _, hl, hm, hz, _, hcell, hwz⟩
  · exact ⟨none, 0, [], rfl, Nat.le_refl _, Kd.C_nil _ _, by simp⟩
  · have hlz : l ≤ zs.length := by rw [hz]; split <;> omega
    have hlm : l ≤ 9223372036854775807 := by have : c ≤ 9223372036854775807 := hm; omega
    have ht : (zs.take l).length = l := by simp; omega
    refine ⟨some a, c, zs.take l, by rw [ht], by omega, by rw [ht]; exact C_of_cells hlz hlm hcell, fun n hn => ?_⟩
    have := hwz n (List.mem_of_mem_take hn)
    have h2 : (decide (IntKind.u8.min ≤ n) && decide (n ≤ IntKind.u8.max)) = true := this
    have e1 : IntKind.u8.min = 0 := by decide
    have e2 : IntKind.u8.max = 255 := by decide
    rw [e1, e2] at h2
    simp only [Bool.and_eq_true, decide_eq_true_eq] at h2
    omega

/-- files that came in -/
theorem open_files {fuel : Nat} {cs : List Value} {x : DataW H × List MemPlace} (h : DataW.trod enc Try.prog W base sp held fuel 22 cs = some x) :
    ∃ (A : Option Addr) (cap : Nat) (xs : List S38), cs = [.slice A xs.length cap] ∧ xs.length ≤ cap ∧ k38.C W A xs.length xs ∧ ∀ y ∈ xs, ∀ n ∈ y.f1, 0 ≤ n ∧ n < 256 := by
  rcases Go.Deep.open_slice_pairs Try.underlying22 Try.underlying38 (by kernel_rfl) rfl rfl (by kernel_rfl) (by kernel_rfl) h with ⟨rfl, _⟩ | ⟨a, l, c, m, n, V0, V1, D0, D1, P0, P1, rfl, _, hl, hm, hmm, _, hx⟩
  · exact ⟨none, 0, [], rfl, Nat.le_refl _, Kd.C_nil _ _, by simp⟩
  · have hlm : l ≤ m := by rw [hmm]; split <;> omega
    have hl63 : l ≤ 9223372036854775807 := by have : c ≤ 9223372036854775807 := hm; omega
    have each : ∀ i, i < l → ∃ q : S38 × List Value, W.cell? (a.add (i * 2)) = q.2[0]? ∧ W.cell? (a.add (i * 2 + 1)) = q.2[1]? ∧ k38.K W q.1 q.2 ∧ ∀ n ∈ q.1.f1, 0 ≤ n ∧ n < 256 := by
      intro i hi
      obtain ⟨h0, h1, t0, t1⟩ := hx i (by omega)
      obtain ⟨s, hs, _, _⟩ := DataW.trod_string Try.underlying9 t0
      obtain ⟨A1, c1, xs, hv, hc1, hC, hb⟩ := open_bytes t1
      simp only [List.cons.injEq, and_true] at hs hv
      rw [hs] at h0
      rw [hv] at h1
      exact ⟨(⟨s, xs⟩, [.string s, .slice A1 xs.length c1]), h0, h1, k38_mk W ⟨s, xs⟩ hc1 hC, hb⟩
    haveI : Inhabited S38 := ⟨z38⟩
    obtain ⟨q, hq⟩ := Go.Deep.choose_lt each
    have hlen : ((List.range l).map fun i => (q i).1).length = l := by simp
    refine ⟨some a, c, (List.range l).map fun i => (q i).1, by rw [hlen], by omega, ?_, ?_⟩
    · rw [hlen]
      refine ⟨hlen, hl63, fun _ => ⟨a, rfl, fun j p hj => ?_⟩⟩
      have hjl : j < l := by
        have := (List.getElem?_eq_some_iff.1 hj).1
        rwa [hlen] at this
      have hp : p = (q j).1 := by simpa [hjl] using hj.symm
      subst hp
      obtain ⟨g0, g1, g2, _⟩ := hq j hjl
      have hsz : (q j).2.length = 2 := k38.K_len g2
      refine ⟨(q j).2, k38.K_len g2, g2, fun i u hu => ?_⟩
      have hi : i < 2 := by have := (List.getElem?_eq_some_iff.1 hu).1; omega
      show W.cell? (a.add (j * 2 + i)) = some u
      rcases (by omega : i = 0 ∨ i = 1) with rfl | rfl
      · rw [← hu]; exact g0
      · rw [← hu]; exact g1
    · intro y hy
      obtain ⟨i, hi, rfl⟩ := List.mem_map.1 hy
      exact (hq i (List.mem_range.1 hi)).2.2.2
def inFiles (W : World) (A : Option Addr) (len cap : Nat) (xs : List S38) : Prop := len = xs.length ∧ xs.length ≤ cap ∧ k38.C W A xs.length xs ∧ ∀ y ∈ xs, ∀ n ∈ y.f1, 0 ≤ n ∧ n < 256
theorem in_files {A : Option Addr} {len cap : Nat} {d : DataW H} {p : List MemPlace} (h : DataW.Trod enc Try.prog W base sp held 22 (.slice A len cap) d p) : ∃ xs, inFiles W A len cap xs := by
  obtain ⟨fuel, hf⟩ := h
  obtain ⟨A', c', xs, e1, e2, e3, e4⟩ := open_files hf
  simp only [Value.cells, List.cons.injEq, Value.slice.injEq, and_true] at e1
  obtain ⟨rfl, rfl, rfl⟩ := e1
  exact ⟨xs, rfl, e2, e3, e4⟩
def inBytes (W : World) (A : Option Addr) (len cap : Nat) (xs : List Int) : Prop := len = xs.length ∧ xs.length ≤ cap ∧ (Kd.int .u8).C W A xs.length xs ∧ ∀ n ∈ xs, 0 ≤ n ∧ n < 256
theorem in_bytes {A : Option Addr} {len cap : Nat} {d : DataW H} {p : List MemPlace} (h : DataW.Trod enc Try.prog W base sp held 23 (.slice A len cap) d p) : ∃ xs, inBytes W A len cap xs := by
  obtain ⟨fuel, hf⟩ := h
  obtain ⟨A', c', xs, e1, e2, e3, e4⟩ := open_bytes hf
  simp only [Value.cells, List.cons.injEq, Value.slice.injEq, and_true] at e1
  obtain ⟨rfl, rfl, rfl⟩ := e1
  exact ⟨xs, rfl, e2, e3, e4⟩
end
end Go.Proofs.Ytcgeioingikeeaa.P
namespace Go.Proofs.Ytcgeioingikeeaa.P
open Go.RowKit Go.Proofs.YtcgeioingikeeaaW.PrintWords Go.Proofs.YtcgeioingikeeaaW.PrintLast Go.Proofs.YtcgeioingikeeaaW.PrintMore
open Go.ChangeShapes Go.WideShapes Go.ChangeAt
set_option linter.unusedVariables false

section
variable {H : Type} {enc : TypeId × Value → H} {W : World} {base : Nat} {sp : Nat → Bool} {held : Bool}

set_option maxRecDepth 100000 in
theorem in_file {r : Reach} {b0 : Nat} {v : Value} {d : DataW H} {p : List MemPlace} (hv : Value.okWide Try.prog W r b0 38 v) (h : DataW.Trod enc Try.prog W base sp held 38 v d p) :
    ∃ (nm : ByteArray) (A : Option Addr) (cap : Nat) (xs : List Int), v = .agg #[.string nm, .slice A xs.length cap] ∧ xs.length ≤ cap ∧ (Kd.int .u8).C W A xs.length xs ∧ ∀ n ∈ xs, 0 ≤ n ∧ n < 256 := by
  obtain ⟨v0, v1, y0, y1, n, rfl, _, _, t0, t1⟩ := Go.Joins.open_agg2 Try.underlying38 (by kernel_rfl) (by kernel_rfl) hv h
  obtain ⟨s, hs, _, _⟩ := DataW.trod_string Try.underlying9 t0
  obtain ⟨A1, c1, xs, hv1, hc1, hC, hb⟩ := open_bytes t1
  simp only [List.cons.injEq, and_true] at hs hv1
  exact ⟨s, A1, c1, xs, by rw [hs, hv1], hc1, hC, hb⟩
set_option maxRecDepth 100000 in
theorem in_write {r : Reach} {b0 : Nat} {v : Value} {d : DataW H} {p : List MemPlace} (hv : Value.okWide Try.prog W r b0 25 v) (h : DataW.Trod enc Try.prog W base sp held 25 v d p) :
    ∃ (nm : ByteArray) (i j : Int) (A : Option Addr) (cap : Nat) (xs : List Int), v = .agg #[.string nm, .int .i64 i, .int .i64 j, .slice A xs.length cap] ∧ (Lit.int .i64 i).wf = true ∧ (Lit.int .i64 j).wf = true ∧ xs.length ≤ cap ∧ (Kd.int .u8).C W A xs.length xs ∧ ∀ n ∈ xs, 0 ≤ n ∧ n < 256 := by
  obtain ⟨v0, v1, v2, v3, y0, y1, y2, y3, n, rfl, _, _, t0, t1, t2, t3⟩ := Go.Joins.open_agg4 Try.underlying25 (by kernel_rfl) (by kernel_rfl) hv h
  obtain ⟨s, hs, _, _⟩ := DataW.trod_string Try.underlying9 t0
  obtain ⟨i, hi, _, wi⟩ := DataW.trod_int Try.underlying3 t1
  obtain ⟨j, hj, _, wj⟩ := DataW.trod_int Try.underlying3 t2
  obtain ⟨A1, c1, xs, hv1, hc1, hC, hb⟩ := open_bytes t3
  simp only [List.cons.injEq, and_true] at hs hi hj hv1
  exact ⟨s, i, j, A1, c1, xs, by rw [hs, hi, hj, hv1], wi, wj, hc1, hC, hb⟩
end
end Go.Proofs.Ytcgeioingikeeaa.P
namespace Go.Proofs.Ytcgeioingikeeaa.P
open Go.RowKit Go.Proofs.YtcgeioingikeeaaW.PrintWords Go.Proofs.YtcgeioingikeeaaW.PrintLast Go.Proofs.YtcgeioingikeeaaW.PrintMore
open Go.ChangeShapes Go.WideShapes Go.ChangeAt
set_option linter.unusedVariables false
section
variable {H : Type} {enc : TypeId × Value → H} {W : World} {base : Nat} {sp : Nat → Bool} {held : Bool}
theorem C_of_ints {w : World} {a : Addr} {zs : List Int} {len : Nat} (hl : len ≤ zs.length) (hm : len ≤ 9223372036854775807) (hc : ∀ i, i < zs.length → w.cell? (a.add i) = some (.int .i64 (zs.getD i 0))) : (Kd.int .i64).C w (some a) len (zs.take len) := by
  refine ⟨by simp; omega, hm, fun _ => ⟨a, rfl, fun j p hj => ⟨[.int .i64 p], rfl, rfl, fun i u hu => ?_⟩⟩⟩
  have hi : i = 0 := by
    rcases Nat.eq_zero_or_pos i with h | h
    · exact h
    · rw [List.getElem?_eq_none (by simp; omega)] at hu; cases hu
  subst hi
  have hu' : u = .int .i64 p := by simpa using hu.symm
  subst hu'
  rw [show (Kd.int .i64).sz = 1 from rfl, Nat.mul_one, Nat.add_zero]
  have hj1 : j < (zs.take len).length := (List.getElem?_eq_some_iff.1 hj).1
  have hj2 : j < zs.length := by simp at hj1; omega
  rw [hc j hj2]
  rw [List.getElem?_take] at hj
  split at hj
  · simp [List.getD, hj]
  · cases hj
/-- numbers that came in -/
theorem open_nums {fuel : Nat} {cs : List Value} {x : DataW H × List MemPlace} (h : DataW.trod enc Try.prog W base sp held fuel 56 cs = some x) :
    ∃ (A : Option Addr) (cap : Nat) (xs : List Int), cs = [.slice A xs.length cap] ∧ xs.length ≤ cap ∧ (Kd.int .i64).C W A xs.length xs ∧ ∀ n ∈ xs, (Lit.int .i64 n).wf = true := by
  rcases open_ints Try.underlying56 Try.underlying3 (by kernel_rfl) h with ⟨rfl, _⟩ | ⟨a, l, c, zs, rfl, _, hl, hm, hz, _, hcell, hwz⟩
  · exact ⟨none, 0, [], rfl, Nat.le_refl _, Kd.C_nil _ _, by simp⟩
  · have hlz : l ≤ zs.length := by rw [hz]; split <;> omega
    have hlm : l ≤ 9223372036854775807 := by have : c ≤ 9223372036854775807 := hm; omega
    have ht : (zs.take l).length = l := by simp; omega
    exact ⟨some a, c, zs.take l, by rw [ht], by omega, by rw [ht]; exact C_of_ints hlz hlm hcell, fun n hn => hwz n (List.mem_of_mem_take hn)⟩
theorem list9 {α : Type} {cs : List α} (h : cs.length = 9) : ∃ c0 c1 c2 c3 c4 c5 c6 c7 c8, cs = [c0, c1, c2, c3, c4, c5, c6, c7, c8] := by
  match cs, h with
  | [c0, c1, c2, c3, c4, c5, c6, c7, c8], _ => exact ⟨_, _, _, _, _, _, _, _, _, rfl⟩
theorem list6 {α : Type} {cs : List α} (h : cs.length = 6) : ∃ c0 c1 c2 c3 c4 c5, cs = [c0, c1, c2, c3, c4, c5] := by
  match cs, h with
  | [c0, c1, c2, c3, c4, c5], _ => exact ⟨_, _, _, _, _, _, rfl⟩
/-- What a deed that came in is. -/
def inDeed (W : World) (d : S76) (A4 : Option Addr) (c4 : Nat) (A7 : Option Addr) (c7 : Nat) : Prop :=
  d.f1.f3.length ≤ c4 ∧ (Kd.int .u8).C W A4 d.f1.f3.length d.f1.f3 ∧ d.f4.length ≤ c7 ∧ (Kd.int .i64).C W A7 d.f4.length d.f4 ∧ (∀ n ∈ d.f1.f3, 0 ≤ n ∧ n < 256) ∧ (∀ n ∈ d.f4, (Lit.int .i64 n).wf = true) ∧
    (Lit.int .i64 d.f0).wf = true ∧ (Lit.int .i64 d.f1.f1).wf = true ∧ (Lit.int .i64 d.f1.f2).wf = true ∧ (Lit.int .i64 d.f5).wf = true
set_option maxRecDepth 100000 in
theorem open_deed {fuel : Nat} {cs : List Value} {x : DataW H × List MemPlace} (h : DataW.trod enc Try.prog W base sp held fuel 76 cs = some x) :
    ∃ (d : S76) (A4 : Option Addr) (c4 : Nat) (A7 : Option Addr) (c7 : Nat), cs = [.int .i64 d.f0, .string d.f1.f0, .int .i64 d.f1.f1, .int .i64 d.f1.f2, .slice A4 d.f1.f3.length c4, .string d.f2, .string d.f3, .slice A7 d.f4.length c7, .int .i64 d.f5] ∧ inDeed W d A4 c4 A7 c7 := by
  obtain ⟨xs, n, _, _, hl, hlen, hf⟩ := DataW.trod_struct Try.underlying76 h
  obtain ⟨v0, v1, v2, v3, v4, v5, v6, v7, v8, rfl⟩ := list9 (hl.trans (show Try.prog.cellsOf 76 = 9 by kernel_rfl))
  obtain ⟨y0, y1, y2, y3, y4, y5, rfl⟩ := list6 (hlen.trans rfl)
  have e3 : Try.prog.cellsOf 3 = 1 := by kernel_rfl
  have e9 : Try.prog.cellsOf 9 = 1 := by kernel_rfl
  have e25 : Try.prog.cellsOf 25 = 4 := by kernel_rfl
  have e56 : Try.prog.cellsOf 56 = 1 := by kernel_rfl
  have e23 : Try.prog.cellsOf 23 = 1 := by kernel_rfl
  have t0 : DataW.trod enc Try.prog W base sp held n 3 [v0] = some y0 := by simpa [e3] using hf 0 _ rfl
  have t1 : DataW.trod enc Try.prog W base sp held n 25 [v1, v2, v3, v4] = some y1 := by simpa [e25] using hf 1 _ rfl
  have t2 : DataW.trod enc Try.prog W base sp held n 9 [v5] = some y2 := by simpa [e9] using hf 2 _ rfl
  have t3 : DataW.trod enc Try.prog W base sp held n 9 [v6] = some y3 := by simpa [e9] using hf 3 _ rfl
  have t4 : DataW.trod enc Try.prog W base sp held n 56 [v7] = some y4 := by simpa [e56] using hf 4 _ rfl
  have t5 : DataW.trod enc Try.prog W base sp held n 3 [v8] = some y5 := by simpa [e3] using hf 5 _ rfl
  obtain ⟨z0, z1, z2, z3, m, _, _, u0, u1, u2, u3⟩ := Go.Joins.trod_struct4 Try.underlying25 t1
  have u0' : DataW.trod enc Try.prog W base sp held m 9 [v1] = some z0 := by simpa [e9] using u0
  have u1' : DataW.trod enc Try.prog W base sp held m 3 [v2] = some z1 := by simpa [e3] using u1
  have u2' : DataW.trod enc Try.prog W base sp held m 3 [v3] = some z2 := by simpa [e3] using u2
  have u3' : DataW.trod enc Try.prog W base sp held m 23 [v4] = some z3 := by simpa [e23] using u3
  obtain ⟨i, hi, _, wi⟩ := DataW.trod_int Try.underlying3 t0
  obtain ⟨s1, hs1, _, _⟩ := DataW.trod_string Try.underlying9 u0'
  obtain ⟨i1, hi1, _, wi1⟩ := DataW.trod_int Try.underlying3 u1'
  obtain ⟨i2, hi2, _, wi2⟩ := DataW.trod_int Try.underlying3 u2'
  obtain ⟨A4, c4, l4, hv4, hc4, hC4, hb4⟩ := open_bytes u3'
  obtain ⟨s2, hs2, _, _⟩ := DataW.trod_string Try.underlying9 t2
  obtain ⟨s3, hs3, _, _⟩ := DataW.trod_string Try.underlying9 t3
  obtain ⟨A7, c7, l7, hv7, hc7, hC7, hb7⟩ := open_nums t4
  obtain ⟨i5, hi5, _, wi5⟩ := DataW.trod_int Try.underlying3 t5
  simp only [List.cons.injEq, and_true] at hi hs1 hi1 hi2 hv4 hs2 hs3 hv7 hi5
  exact ⟨⟨i, ⟨s1, i1, i2, l4⟩, s2, s3, l7, i5⟩, A4, c4, A7, c7, by rw [hi, hs1, hi1, hi2, hv4, hs2, hs3, hv7, hi5], hc4, hC4, hc7, hC7, hb4, hb7, wi, wi1, wi2, wi5⟩
set_option maxRecDepth 100000 in
theorem in_deed {r : Reach} {b0 : Nat} {v : Value} {d : DataW H} {p : List MemPlace} (hv : Value.okWide Try.prog W r b0 76 v) (h : DataW.Trod enc Try.prog W base sp held 76 v d p) :
    ∃ (x : S76) (A4 : Option Addr) (c4 : Nat) (A7 : Option Addr) (c7 : Nat), v = .agg #[.int .i64 x.f0, .string x.f1.f0, .int .i64 x.f1.f1, .int .i64 x.f1.f2, .slice A4 x.f1.f3.length c4, .string x.f2, .string x.f3, .slice A7 x.f4.length c7, .int .i64 x.f5] ∧ inDeed W x A4 c4 A7 c7 := by
  obtain ⟨cs, rfl, hsz⟩ := okWide_struct Try.underlying76 hv
  obtain ⟨fuel, hf⟩ := h
  obtain ⟨x, A4, c4, A7, c7, hcs, hin⟩ := open_deed hf
  refine ⟨x, A4, c4, A7, c7, ?_, hin⟩
  obtain ⟨l⟩ := cs
  have : l = _ := hcs
  rw [this]
end
end Go.Proofs.Ytcgeioingikeeaa.P
namespace Go.Proofs.Ytcgeioingikeeaa.P
open Go.RowKit Go.Proofs.YtcgeioingikeeaaW.PrintWords Go.Proofs.YtcgeioingikeeaaW.PrintLast Go.Proofs.YtcgeioingikeeaaW.PrintMore
open Go.ChangeShapes Go.WideShapes Go.ChangeAt
set_option linter.unusedVariables false
section
variable {H : Type} {enc : TypeId × Value → H} {W : World} {base : Nat} {sp : Nat → Bool} {held : Bool}
/-- What one deed of a list that came in is, beside its cells. -/
def deedIn (d : S76) : Prop := (∀ n ∈ d.f1.f3, 0 ≤ n ∧ n < 256) ∧ (∀ n ∈ d.f4, (Lit.int .i64 n).wf = true) ∧ (Lit.int .i64 d.f0).wf = true ∧ (Lit.int .i64 d.f1.f1).wf = true ∧ (Lit.int .i64 d.f1.f2).wf = true ∧ (Lit.int .i64 d.f5).wf = true
theorem open_deeds {fuel : Nat} {cs : List Value} {x : DataW H × List MemPlace} (h : DataW.trod enc Try.prog W base sp held fuel 54 cs = some x) :
    ∃ (A : Option Addr) (cap : Nat) (xs : List S76), cs = [.slice A xs.length cap] ∧ xs.length ≤ cap ∧ k76.C W A xs.length xs ∧ ∀ y ∈ xs, deedIn y := by
  rcases Go.Deep.open_slice Try.underlying54 h with ⟨rfl, _⟩ | ⟨a, l, c, m, n, D, Pl, rfl, _, hl, hm, hmm, _, hx⟩
  · exact ⟨none, 0, [], rfl, Nat.le_refl _, Kd.C_nil _ _, by simp⟩
  · have hlm : l ≤ m := by rw [hmm]; split <;> omega
    have hl63 : l ≤ 9223372036854775807 := by have : c ≤ 9223372036854775807 := hm; omega
    have ce : Try.prog.cellsOf 76 = 9 := by kernel_rfl
    have each : ∀ i, i < l → ∃ q : S76 × List Value, (∀ j u, q.2[j]? = some u → W.cell? (a.add (i * 9 + j)) = some u) ∧ k76.K W q.1 q.2 ∧ deedIn q.1 := by
      intro i hi
      obtain ⟨cs', h1, h2⟩ := hx i (by omega)
      rw [ce] at h1
      obtain ⟨_, hlen, hcell⟩ := World.cells?_some h1
      obtain ⟨d, A4, c4, A7, c7, rfl, hc4, hC4, hc7, hC7, hrest⟩ := open_deed h2
      refine ⟨(d, _), fun j u hj => ?_, k76_mk W d hc4 hC4 hc7 hC7, hrest⟩
      have hjl : j < 9 := by
        have := (List.getElem?_eq_some_iff.1 hj).1
        exact this
      have := hcell j hjl
      rw [Go.Deep.add_add] at this
      rw [this]
      exact hj
    haveI : Inhabited S76 := ⟨z76⟩
    obtain ⟨q, hq⟩ := Go.Deep.choose_lt each
    have hlen : ((List.range l).map fun i => (q i).1).length = l := by simp
    refine ⟨some a, c, (List.range l).map fun i => (q i).1, by rw [hlen], by omega, ?_, ?_⟩
    · rw [hlen]
      refine ⟨hlen, hl63, fun _ => ⟨a, rfl, fun j p hj => ?_⟩⟩
      have hjl : j < l := by
        have := (List.getElem?_eq_some_iff.1 hj).1
        rwa [hlen] at this
      have hp : p = (q j).1 := by simpa [hjl] using hj.symm
      subst hp
      obtain ⟨g0, g1, _⟩ := hq j hjl
      exact ⟨(q j).2, k76.K_len g1, g1, g0⟩
    · intro y hy
      obtain ⟨i, hi, rfl⟩ := List.mem_map.1 hy
      exact (hq i (List.mem_range.1 hi)).2.2
def inDeeds (W : World) (A : Option Addr) (len cap : Nat) (xs : List S76) : Prop := len = xs.length ∧ xs.length ≤ cap ∧ k76.C W A xs.length xs ∧ ∀ y ∈ xs, deedIn y
theorem in_deeds {A : Option Addr} {len cap : Nat} {d : DataW H} {p : List MemPlace} (h : DataW.Trod enc Try.prog W base sp held 54 (.slice A len cap) d p) : ∃ xs, inDeeds W A len cap xs := by
  obtain ⟨fuel, hf⟩ := h
  obtain ⟨A', c', xs, e1, e2, e3, e4⟩ := open_deeds hf
  simp only [Value.cells, List.cons.injEq, Value.slice.injEq, and_true] at e1
  obtain ⟨rfl, rfl, rfl⟩ := e1
  exact ⟨xs, rfl, e2, e3, e4⟩
def inNums (W : World) (A : Option Addr) (len cap : Nat) (xs : List Int) : Prop := len = xs.length ∧ xs.length ≤ cap ∧ (Kd.int .i64).C W A xs.length xs ∧ ∀ n ∈ xs, (Lit.int .i64 n).wf = true
theorem in_nums {A : Option Addr} {len cap : Nat} {d : DataW H} {p : List MemPlace} (h : DataW.Trod enc Try.prog W base sp held 56 (.slice A len cap) d p) : ∃ xs, inNums W A len cap xs := by
  obtain ⟨fuel, hf⟩ := h
  obtain ⟨A', c', xs, e1, e2, e3, e4⟩ := open_nums hf
  simp only [Value.cells, List.cons.injEq, Value.slice.injEq, and_true] at e1
  obtain ⟨rfl, rfl, rfl⟩ := e1
  exact ⟨xs, rfl, e2, e3, e4⟩
end
end Go.Proofs.Ytcgeioingikeeaa.P
