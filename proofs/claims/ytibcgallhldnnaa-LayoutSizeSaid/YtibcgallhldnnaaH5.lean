/- awake answers true: five bytes in two shards, what a shard has, and the five bytes back. -/
import Derived.Test.YtibcgallhldnnaaH3
import Derived.Lib.SlBytesConst
namespace Go.Proofs.Ytibcgallhldnnaa.P
open Go.RowKit Go.Proofs.YtibcgallhldnnaaW.PrintWords Go.Proofs.YtibcgallhldnnaaW.PrintLast Go.Proofs.YtibcgallhldnnaaW.PrintMore
set_option linter.unusedVariables false
set_option linter.unusedSimpArgs false

theorem C_marked {w : World} {g : Nat} {xs : List Int} {fr : Nat × Nat} (hg : w.heap[g]? = some (.cells (nums .u8 xs).toArray 5 fr)) (hl : xs.length ≤ 9223372036854775807) : (Kd.int .u8).C w (some ⟨g, 0, none⟩) xs.length xs := by
  refine ⟨rfl, hl, fun _ => ⟨⟨g, 0, none⟩, rfl, fun j p hj => ⟨[.int .u8 p], rfl, rfl, fun i u hu => ?_⟩⟩⟩
  have hi : i = 0 := by
    rcases Nat.eq_zero_or_pos i with h | h
    · exact h
    · rw [List.getElem?_eq_none (by simp; omega)] at hu; cases hu
  subst hi
  have hu' : u = .int .u8 p := by simpa using hu.symm
  subst hu'
  rw [show (Kd.int .u8).sz = 1 from rfl, Nat.mul_one, Nat.add_zero, add_plain, cell_of_row w g j _ 5 fr hg]
  simp [nums, hj]

theorem split_ev : layout_Split.f 6 2 1 [97, 98, 99, 100, 101] = some ([[97, 98, 99], [100, 101, 0]], 0) := by kernel_rfl
theorem size_ev : layout_Size.f 9 1 2 1 5 = some (8, 0) := by kernel_rfl
theorem join_ev : layout_Join.f 6 2 1 [[97, 98, 99], [100, 101, 0]] 5 = some ([97, 98, 99, 100, 101], 0) := by kernel_rfl
theorem str3 : strOfNums [100, 101, 0] = ⟨#[100, 101, 0]⟩ := by kernel_rfl
theorem str5 : strOfNums [97, 98, 99, 100, 101] = ⟨#[97, 98, 99, 100, 101]⟩ := by kernel_rfl
theorem lsplit (w : World) (A : Option Addr) (c : Nat) (h : Kd.C (Kd.int .u8) w A 5 [97, 98, 99, 100, 101]) (hc : 5 ≤ c) :
    Calls Try.prog 12 #[.agg #[.int .i64 6, .int .i64 2, .int .i64 1], .slice A 5 c] w fun e w' => ∃ (As : Option Addr) (cs : Nat), e = .returned (.tuple #[.slice As 2 cs, .int .i64 0]) ∧ Kd.S (Kd.slice 5 (Kd.int .u8)) 24 w' w.heap.size (fun _ => True) (.slice As 2 cs) [[97, 98, 99], [100, 101, 0]] ∧ Below w.heap.size w w' := by
  refine (layout_Split.calls 6 2 1 A c [97, 98, 99, 100, 101] _ 0 w h hc split_ev).mono ?_
  rintro e w' ⟨v, rfl, hs, hb⟩
  obtain ⟨As, cs, rfl⟩ := Kd.S_slice hs
  exact ⟨As, cs, rfl, hs, hb⟩
theorem lsize (w : World) : Calls Try.prog 10 #[.agg #[.int .i64 1, .int .i64 2, .int .i64 1], .int .i64 5] w fun e w' => e = .returned (.tuple #[.int .i64 8, .int .i64 0]) ∧ Below w.heap.size w w' :=
  layout_Size.calls 9 1 2 1 5 8 0 w size_ev
theorem ljoin (w : World) (A : Option Addr) (c base : Nat) (ok : Nat → Prop) (hs : Kd.S (Kd.slice 5 (Kd.int .u8)) 24 w base ok (.slice A 2 c) [[97, 98, 99], [100, 101, 0]]) :
    Calls Try.prog 16 #[.agg #[.int .i64 6, .int .i64 2, .int .i64 1], .slice A 2 c, .int .i64 5] w fun e w' => ∃ (Ab : Option Addr) (cb : Nat), e = .returned (.tuple #[.slice Ab 5 cb, .int .i64 0]) ∧ (∀ W : World, Below w'.heap.size w' W → (convert 24 9 (.slice Ab 5 cb)).run Try.prog W = .ok (.string ⟨#[97, 98, 99, 100, 101]⟩) W) ∧ Below w.heap.size w w' := by
  refine (layout_Join.calls 6 2 1 A c [[97, 98, 99], [100, 101, 0]] 5 _ 0 w (Kd.S_reads' hs).2.2 (Kd.S_reads' hs).2.1 join_ev).mono ?_
  rintro e w' ⟨v, rfl, hr, hb⟩
  obtain ⟨Ab, cb, rfl⟩ := Kd.R_slice hr
  refine ⟨Ab, cb, rfl, fun W hW => ?_, hb⟩
  have h := own_string (P := Try.prog) Try.underlying24 Try.underlying5 Try.underlying9 (Kd.own_of_R (Kd.R_below hr hW))
  rw [str5] at h
  exact h
theorem lrow (w : World) (A : Option Addr) (c base : Nat) (ok : Nat → Prop) (hs : Kd.S (Kd.slice 5 (Kd.int .u8)) 24 w base ok (.slice A 2 c) [[97, 98, 99], [100, 101, 0]]) :
    ∃ (ad : Addr) (B : Option Addr) (d : Nat), A = some ad ∧ w.cell? ⟨ad.block, ad.off + 1, none⟩ = some (.slice B 3 d) ∧ (convert 24 9 (.slice B 3 d)).run Try.prog w = .ok (.string ⟨#[100, 101, 0]⟩) w := by
  obtain ⟨ad, B, d, e, hx, hl, hC⟩ := at_L6 (Kd.S_reads' hs).2.2 1 (by decide) (by decide)
  have hx' : w.cell? (ad.add 1) = some (.slice B 3 d) := hx
  simp only [Go.Addr.add, Nat.reduceEqDiff, ↓reduceIte] at hx'
  have hC' : (Kd.int .u8).C w B 3 [100, 101, 0] := hC
  have h := Kd.C_string (P := Try.prog) (c := d) Try.underlying24 Try.underlying5 Try.underlying9 hC'
  rw [str3] at h
  exact ⟨ad, B, d, e, hx', h⟩

def gambrellaw10_awake.f : Option Bool := some true
set_option maxHeartbeats 8000000 in
set_option maxRecDepth 100000 in
theorem awake10 (w : World) : Calls Try.prog 9 #[] w fun e w' => e = .returned (.bool true) ∧ Below w.heap.size w w' := by
  have kc := fun (w : World) (C : Array Value) (n c : Nat) => Lib.run_convert_bytes_const (P := Try.prog) w 24 5 C n c Try.underlying24 Try.underlying5
  go_enter Try.func9, Try.ntmps9
  go_wp2_with (first
    | (go_at_call 12; ((with_reducible refine (lsplit _ (some ⟨w.heap.size, 0, none⟩) _ ?hC1 (by decide)).mono ?_); case hC1 => exact C_marked (heap_alloc_new _ _) (by simp)); rintro e w1 ⟨As, cs, rfl, hs, hb⟩; have HS := Aside0.mk hs; have HB := Aside0.mk (below_step (below_alloc (Below.refl w.heap.size w) _) hb); clear hs hb)
    | (go_at_call 10; (with_reducible refine (lsize _).mono ?_); rintro e w2 ⟨rfl, hb⟩; have n0_ := Aside0.mk (Kd.S_below HS.out hb); have n1_ := Aside0.mk (below_step HB.out hb); clear HS HB; have HS := n0_; have HB := n1_; clear n0_ n1_ hb)
    | (go_at_call 16; (with_reducible refine (ljoin _ As cs _ _ HS.out).mono ?_); rintro e w3 ⟨Ab, cb, rfl, hst, hb⟩; have n0_ := Aside0.mk (Kd.S_below HS.out hb); have n1_ := Aside0.mk (below_step HB.out hb); clear HS HB; have HS := n0_; have HB := n1_; clear n0_ n1_ hb; have hst0 := hst _ (Below.refl _ _); obtain ⟨ad, B, d, ea, hx0, hcv⟩ := lrow _ As cs _ _ HS.out; subst ea; clear hst))
  go_ret
  exact ⟨rfl, HB.out⟩
theorem gambrellaw10_awake.calls (r : Bool) (w : World) (h : gambrellaw10_awake.f = some r) :
    Calls Try.prog 9 #[] w fun e w' => e = .returned (.bool r) ∧ Below w.heap.size w w' := by
  obtain rfl := Option.some.inj h
  exact awake10 w
end Go.Proofs.Ytibcgallhldnnaa.P
