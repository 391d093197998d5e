/- Bytes, shards, params and three small numbers that came in, read as lists and numbers. -/
import Derived.Test.YtibcgallhldnnaaRows
import Derived.Test.YtibcgallhldnnaaP0
import Derived.Deep.Slices
import Derived.Deep.SlicePairs
import Derived.Laws.IdiomArrays
import Derived.Lib.SmallJoins
import Derived.ChangeArms
import Derived.ChangeSlices
import Derived.WalkKit
import Derived.ProofKit
import Derived.OpenShut
import Derived.ShutString
import Derived.ChangeOld
import Derived.Below
import Derived.SizedLaws
namespace Go.Proofs.Ytibcgallhldnnaa.P
open Go.RowKit Go.Proofs.YtibcgallhldnnaaW.PrintWords Go.Proofs.YtibcgallhldnnaaW.PrintLast Go.Proofs.YtibcgallhldnnaaW.PrintMore
open Go.ChangeShapes Go.WideShapes Go.ChangeAt
set_option linter.unusedVariables false

section
variable {H : Type} {enc : TypeId × Value → H} {W : World} {base : Nat} {sp : Nat → Bool} {held : Bool}

theorem C_of_cells {w : World} {a : Addr} {zs : List Int} {len : Nat} (hl : len ≤ zs.length) (hm : len ≤ 9223372036854775807) (hc : ∀ i, i < zs.length → w.cell? (a.add i) = some (.int .u8 (zs.getD i 0))) : (Kd.int .u8).C w (some a) len (zs.take len) := by
  refine ⟨by simp; omega, hm, fun _ => ⟨a, rfl, fun j p hj => ⟨[.int .u8 p], rfl, rfl, fun i u hu => ?_⟩⟩⟩
  have hi : i = 0 := by
    rcases Nat.eq_zero_or_pos i with h | h
    · exact h
    · rw [List.getElem?_eq_none (by simp; omega)] at hu; cases hu
  subst hi
  have hu' : u = .int .u8 p := by simpa using hu.symm
  subst hu'
  rw [show (Kd.int .u8).sz = 1 from rfl, Nat.mul_one, Nat.add_zero]
  have hj1 : j < (zs.take len).length := (List.getElem?_eq_some_iff.1 hj).1
  have hj2 : j < zs.length := by simp at hj1; omega
  rw [hc j hj2]
  rw [List.getElem?_take] at hj
  split at hj
  · simp [List.getD, hj]
  · cases hj

/-- bytes that came in -/
theorem open_bytes {fuel : Nat} {cs : List Value} {x : DataW H × List MemPlace} (h : DataW.trod enc Try.prog W base sp held fuel 24 cs = some x) :
    ∃ (A : Option Addr) (cap : Nat) (xs : List Int), cs = [.slice A xs.length cap] ∧ xs.length ≤ cap ∧ (Kd.int .u8).C W A xs.length xs ∧ ∀ n ∈ xs, 0 ≤ n ∧ n < 256 := by
  rcases open_ints Try.underlying24 Try.underlying5 (by kernel_rfl) h with ⟨rfl, _⟩ | ⟨a, l, c, zs, rfl, _, hl, hm, hz, _, hcell, hwz⟩
  · exact ⟨none, 0, [], rfl, Nat.le_refl _, Kd.C_nil _ _, by simp⟩
  · have hlz : l ≤ zs.length := by rw [hz]; split <;> omega
    have hlm : l ≤ 9223372036854775807 := by have : c ≤ 9223372036854775807 := hm; omega
    have ht : (zs.take l).length = l := by simp; omega
    refine ⟨some a, c, zs.take l, by rw [ht], by omega, by rw [ht]; exact C_of_cells hlz hlm hcell, fun n hn => ?_⟩
    have := hwz n (List.mem_of_mem_take hn)
    have h2 : (decide (IntKind.u8.min ≤ n) && decide (n ≤ IntKind.u8.max)) = true := this
    have e1 : IntKind.u8.min = 0 := by decide
    have e2 : IntKind.u8.max = 255 := by decide
    rw [e1, e2] at h2
    simp only [Bool.and_eq_true, decide_eq_true_eq] at h2
    omega

def inBytes (W : World) (A : Option Addr) (len cap : Nat) (xs : List Int) : Prop := len = xs.length ∧ xs.length ≤ cap ∧ (Kd.int .u8).C W A xs.length xs ∧ ∀ n ∈ xs, 0 ≤ n ∧ n < 256
theorem in_bytes {A : Option Addr} {len cap : Nat} {d : DataW H} {p : List MemPlace} (h : DataW.Trod enc Try.prog W base sp held 24 (.slice A len cap) d p) : ∃ xs, inBytes W A len cap xs := by
  obtain ⟨fuel, hf⟩ := h
  obtain ⟨A', c', xs, e1, e2, e3, e4⟩ := open_bytes hf
  simp only [Value.cells, List.cons.injEq, Value.slice.injEq, and_true] at e1
  obtain ⟨rfl, rfl, rfl⟩ := e1
  exact ⟨xs, rfl, e2, e3, e4⟩

/-- shards that came in -/
theorem open_rows {fuel : Nat} {cs : List Value} {x : DataW H × List MemPlace} (h : DataW.trod enc Try.prog W base sp held fuel 31 cs = some x) :
    ∃ (A : Option Addr) (cap : Nat) (xs : List (List Int)), cs = [.slice A xs.length cap] ∧ xs.length ≤ cap ∧ (Kd.slice 5 (Kd.int .u8)).C W A xs.length xs ∧ ∀ y ∈ xs, ∀ n ∈ y, 0 ≤ n ∧ n < 256 := by
  rcases Go.Deep.open_slice1 Try.underlying31 (by kernel_rfl) h with ⟨rfl, _⟩ | ⟨a, l, c, m, n, V, D, Pl, rfl, _, hl, hm, hmm, _, hx⟩
  · exact ⟨none, 0, [], rfl, Nat.le_refl _, Kd.C_nil _ _, by simp⟩
  · have hlm : l ≤ m := by rw [hmm]; split <;> omega
    have hl63 : l ≤ 9223372036854775807 := by have : c ≤ 9223372036854775807 := hm; omega
    have each : ∀ i, i < l → ∃ q : List Int × Value, W.cell? (a.add i) = some q.2 ∧ (Kd.slice 5 (Kd.int .u8)).K W q.1 [q.2] ∧ ∀ n ∈ q.1, 0 ≤ n ∧ n < 256 := by
      intro i hi
      obtain ⟨h0, t0⟩ := hx i (by omega)
      obtain ⟨A1, c1, xs, hv, hc1, hC, hb⟩ := open_bytes t0
      simp only [List.cons.injEq, and_true] at hv
      rw [hv] at h0
      exact ⟨(xs, .slice A1 xs.length c1), h0, ⟨A1, c1, rfl, hc1, hC⟩, hb⟩
    obtain ⟨q, hq⟩ := Go.Deep.choose_lt each
    have hlen : ((List.range l).map fun i => (q i).1).length = l := by simp
    refine ⟨some a, c, (List.range l).map fun i => (q i).1, by rw [hlen], by omega, ?_, ?_⟩
    · rw [hlen]
      refine ⟨hlen, hl63, fun _ => ⟨a, rfl, fun j p hj => ?_⟩⟩
      have hjl : j < l := by
        have := (List.getElem?_eq_some_iff.1 hj).1
        rwa [hlen] at this
      have hp : p = (q j).1 := by simpa [hjl] using hj.symm
      subst hp
      obtain ⟨g0, g1, _⟩ := hq j hjl
      refine ⟨[(q j).2], rfl, g1, fun i u hu => ?_⟩
      have hi : i = 0 := by
        rcases Nat.eq_zero_or_pos i with h | h
        · exact h
        · rw [List.getElem?_eq_none (by simp; omega)] at hu; cases hu
      subst hi
      have hu' : u = (q j).2 := by simpa using hu.symm
      subst hu'
      rw [show (Kd.slice 5 (Kd.int .u8)).sz = 1 from rfl, Nat.mul_one, Nat.add_zero]
      exact g0
    · intro y hy
      obtain ⟨i, hi, rfl⟩ := List.mem_map.1 hy
      exact (hq i (List.mem_range.1 hi)).2.2
def inRows (W : World) (A : Option Addr) (len cap : Nat) (xs : List (List Int)) : Prop := len = xs.length ∧ xs.length ≤ cap ∧ (Kd.slice 5 (Kd.int .u8)).C W A xs.length xs ∧ ∀ y ∈ xs, ∀ n ∈ y, 0 ≤ n ∧ n < 256
theorem in_rows {A : Option Addr} {len cap : Nat} {d : DataW H} {p : List MemPlace} (h : DataW.Trod enc Try.prog W base sp held 31 (.slice A len cap) d p) : ∃ xs, inRows W A len cap xs := by
  obtain ⟨fuel, hf⟩ := h
  obtain ⟨A', c', xs, e1, e2, e3, e4⟩ := open_rows hf
  simp only [Value.cells, List.cons.injEq, Value.slice.injEq, and_true] at e1
  obtain ⟨rfl, rfl, rfl⟩ := e1
  exact ⟨xs, rfl, e2, e3, e4⟩
set_option maxRecDepth 100000 in
theorem in_params {r : Reach} {b0 : Nat} {v : Value} {d : DataW H} {p : List MemPlace} (hv : Value.okWide Try.prog W r b0 23 v) (h : DataW.Trod enc Try.prog W base sp held 23 v d p) :
    ∃ (x y z : Int), v = .agg #[.int .i64 x, .int .i64 y, .int .i64 z] ∧ (Lit.int .i64 x).wf = true ∧ (Lit.int .i64 y).wf = true ∧ (Lit.int .i64 z).wf = true := by
  obtain ⟨v0, v1, v2, y0, y1, y2, n, rfl, _, _, t0, t1, t2⟩ := Go.Joins.open_agg3 Try.underlying23 (by kernel_rfl) (by kernel_rfl) hv h
  obtain ⟨i, hi, _, wi⟩ := DataW.trod_int Try.underlying3 t0
  obtain ⟨j, hj, _, wj⟩ := DataW.trod_int Try.underlying3 t1
  obtain ⟨k, hk, _, wk⟩ := DataW.trod_int Try.underlying3 t2
  simp only [List.cons.injEq, and_true] at hi hj hk
  exact ⟨i, j, k, by rw [hi, hj, hk], wi, wj, wk⟩
theorem u8_of {n : Int} (h : (Lit.int .u8 n).wf = true) : 0 ≤ n ∧ n ≤ 255 := by
  have h2 : (decide (IntKind.u8.min ≤ n) && decide (n ≤ IntKind.u8.max)) = true := h
  have e1 : IntKind.u8.min = 0 := by decide
  have e2 : IntKind.u8.max = 255 := by decide
  rw [e1, e2] at h2
  simp only [Bool.and_eq_true, decide_eq_true_eq] at h2
  exact h2
theorem u16_of {n : Int} (h : (Lit.int .u16 n).wf = true) : 0 ≤ n ∧ n ≤ 65535 := by
  have h2 : (decide (IntKind.u16.min ≤ n) && decide (n ≤ IntKind.u16.max)) = true := h
  have e1 : IntKind.u16.min = 0 := by decide
  have e2 : IntKind.u16.max = 65535 := by decide
  rw [e1, e2] at h2
  simp only [Bool.and_eq_true, decide_eq_true_eq] at h2
  exact h2
theorem i64_of {n : Int} (h : (Lit.int .i64 n).wf = true) : -9223372036854775808 ≤ n ∧ n ≤ 9223372036854775807 := by
  have h2 : (decide (IntKind.i64.min ≤ n) && decide (n ≤ IntKind.i64.max)) = true := h
  have e1 : IntKind.i64.min = -9223372036854775808 := by decide
  have e2 : IntKind.i64.max = 9223372036854775807 := by decide
  rw [e1, e2] at h2
  simp only [Bool.and_eq_true, decide_eq_true_eq] at h2
  exact h2
set_option maxRecDepth 100000 in
theorem in_three {r : Reach} {b0 : Nat} {v : Value} {d : DataW H} {p : List MemPlace} (hv : Value.okWide Try.prog W r b0 44 v) (h : DataW.Trod enc Try.prog W base sp held 44 v d p) :
    ∃ (x y z : Int), v = .agg #[.int .u8 x, .int .u8 y, .int .u8 z] ∧ (0 ≤ x ∧ x ≤ 255) ∧ (0 ≤ y ∧ y ≤ 255) ∧ (0 ≤ z ∧ z ≤ 255) := by
  have hu : Try.prog.underlying 44 = some (.array 3 5) := by kernel_rfl
  simp only [Value.okWide, hu] at hv
  obtain ⟨cs, rfl, hsz, _⟩ := hv
  have h3 : Try.prog.cellsOf 44 = 3 := by kernel_rfl
  obtain ⟨c0, c1, c2, rfl⟩ := Go.Joins.array3 (hsz.trans h3)
  obtain ⟨fuel, hf⟩ := h
  obtain ⟨y0, y1, y2, n, _, t0, t1, t2⟩ := trod_array3 hu (by kernel_rfl) hf
  obtain ⟨i, hi, _, wi⟩ := DataW.trod_int Try.underlying5 t0
  obtain ⟨j, hj, _, wj⟩ := DataW.trod_int Try.underlying5 t1
  obtain ⟨k, hk, _, wk⟩ := DataW.trod_int Try.underlying5 t2
  simp only [List.cons.injEq, and_true] at hi hj hk
  exact ⟨i, j, k, by rw [hi, hj, hk], u8_of wi, u8_of wj, u8_of wk⟩
end
end Go.Proofs.Ytibcgallhldnnaa.P
