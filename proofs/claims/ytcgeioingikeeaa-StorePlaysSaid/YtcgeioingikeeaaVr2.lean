/- Cut out of this seat's own texts and of the words that the kit's print laid for it, by a program of this seat (wip/tools/shake.py): what the claim needs of them. -/
import Derived.Test.YtcgeioingikeeaaVr1
import Derived.Laws.StructEq
import Derived.Test.YtcgeioingikeeaaProg
import Derived.Below
import Derived.Deep.Draws
import Derived.Deep.AppendLies
import Derived.Maps.AppendAt
import Derived.OwnWalk
import Derived.Laws.BytesArg
import Derived.Laws.MakeOwn
import Derived.Laws.OwnMore
import Derived.Deep.OwnRows
import Derived.Tactics
import Derived.Lib.ConvBytes
import Derived.Laws.Slices
import Derived.WalkKit
import Derived.KernelRfl
import Derived.RowKit3
import Derived.Deep.LoopGhost
import Derived.Deep.QuietTactic
import Derived.BigQuiet
import Derived.WideLaws
import Derived.Deep.DeepCutAuto
import Derived.Deep.CutBlock
import Derived.Deep.RegionHeld3
import Derived.Laws.Rows
import Derived.Lib.AppendStr
import Derived.ArgAppend
import Derived.Laws.IdiomCopy
import Derived.OrdersHeld
import Derived.Laws.BitsLemmas
import Derived.RowKit
import Derived.WalkSpells
import Derived.Lib.AppendZeros
import Derived.Lib.AppendZerosOnto
import Derived.Lib.Overlaps
import Derived.Laws.Externs
import Derived.Deep.RegionLaw
import Derived.Lib.SlBytesConst
import Derived.Lib.Strings
open Go.RowKit Go.Proofs.YtcgeioingikeeaaW.PrintWords Go.Proofs.YtcgeioingikeeaaW.PrintLast Go.Proofs.YtcgeioingikeeaaW.PrintMore
set_option linter.unusedSimpArgs false
set_option linter.unusedVariables false
set_option maxHeartbeats 16000000
set_option maxRecDepth 100000
namespace Go.Proofs.Ytcgeioingikeeaa.P
section
attribute [local go_sem] Axk Axr Az3 Az7 Axj Axi Axz Axy
def errW : Option Int → Value
 | none => .nilIface
 | some c => .iface 0 (.int .i64 c)
theorem Aqj : errW none = .nilIface := rfl
theorem Aqi (c : Int) : errW (some c) = .iface 0 (.int .i64 c) := rfl
theorem Av1 : (Try.prog.info? 5).map (fun i => (i.zero, i.size, i.bytes)) = some (some (.int .u8 0), 1, 1) := by kernel_rfl
theorem info9 : (Try.prog.info? 9).map (fun i => (i.zero, i.size, i.bytes)) = some (some (.string ⟨#[]⟩), 1, 16) := by kernel_rfl
theorem Awl : (Try.prog.info? 25).map (fun i => (i.zero, i.size, i.bytes)) = some (some (.agg #[(.string ⟨#[]⟩), (.int .i64 0), (.int .i64 0), (.slice none 0 0)]), 4, 56) := by kernel_rfl
theorem Aki : (Try.prog.info? 38).map (fun i => (i.zero, i.size, i.bytes)) = some (some (.agg #[(.string ⟨#[]⟩), (.slice none 0 0)]), 2, 40) := by kernel_rfl
structure S38 where
 f0 : ByteArray
 f1 : (List Int)
def z38 : S38 := ⟨(⟨#[]⟩ : ByteArray), ([] : List Int)⟩
def k38 : Kd S38 := Kd.iso (Kd.pair Kd.string (Kd.slice 5 (Kd.int .u8))) (fun x : S38 => (x.f0, x.f1))
theorem Avc {w : World} {x : S38} {cs : List Value} (h : k38.K w x cs) : ∃ A1 c1, cs = [.string x.f0, .slice A1 x.f1.length c1] ∧ x.f1.length ≤ c1 ∧ (Kd.int .u8).C w A1 x.f1.length x.f1 := by
 obtain ⟨_, _, rfl, rfl, ⟨A1, c1, rfl, l1, g1⟩⟩ := h
 exact ⟨A1, c1, rfl, l1, g1⟩
theorem k38_mk (w : World) (x : S38) {A1 : Option Addr} {c1 : Nat} (l1 : x.f1.length ≤ c1) (g1 : (Kd.int .u8).C w A1 x.f1.length x.f1) : k38.K w x [.string x.f0, .slice A1 x.f1.length c1] := ⟨[.string x.f0], [.slice A1 x.f1.length c1], rfl, rfl, ⟨A1, c1, rfl, l1, g1⟩⟩
theorem Azv {W : World} {ok : Nat → Prop} {x : S38} {cs : List Value} (h : Kd.FK k38 W ok x cs) : ∃ A1 c1, cs = [.string x.f0, .slice A1 x.f1.length c1] ∧ x.f1.length ≤ c1 ∧ Kd.F (Kd.int .u8) W ok A1 x.f1.length x.f1 := by
 obtain ⟨A1, c1, rfl, l1, _⟩ := Avc (Kd.FK_now h)
 exact ⟨A1, c1, rfl, l1, (fun W' hW => by obtain ⟨A1_, c1_, he, l1_, g1_⟩ := Avc (h W' hW); injection (Option.some.inj (show some (Value.slice A1 x.f1.length c1) = some (Value.slice A1_ x.f1.length c1_) from congrArg (fun l => l[1]?) he)) with ha_ _ _; rw [ha_]; exact g1_)⟩
theorem Akh (W : World) (ok : Nat → Prop) (x : S38) {A1 : Option Addr} {c1 : Nat} (l1 : x.f1.length ≤ c1) (g1 : Kd.F (Kd.int .u8) W ok A1 x.f1.length x.f1) : Kd.FK k38 W ok x [.string x.f0, .slice A1 x.f1.length c1] := fun W2 hW => k38_mk W2 x l1 (g1 W2 hW)
def Aqf (xs : List S38) (i : Int) : S38 := xs.getD i.toNat z38
theorem Azf {w : World} {A : Option Addr} {n : Nat} {xs : List S38} (h : Kd.C k38 w A n xs) (i : Int) (h0 : 0 ≤ i) (h1 : i < n) : ∃ ad A1 c1, A = some ad ∧ w.cell? (ad.add (i.toNat * 2)) = some (.string (Aqf xs i).f0) ∧ w.cell? ⟨(ad.add (i.toNat * 2)).block, (ad.add (i.toNat * 2)).off + 1, none⟩ = some (.slice A1 (Aqf xs i).f1.length c1) ∧ (Aqf xs i).f1.length ≤ c1 ∧ (Kd.int .u8).C w A1 (Aqf xs i).f1.length (Aqf xs i).f1 := by
 obtain ⟨ad, c, e, _, hK, hc0⟩ := Kd.C_get h z38 i h0 h1
 have hc : ∀ j u, c[j]? = some u → w.cell? (ad.add (i.toNat * 2 + j)) = some u := hc0
 obtain ⟨A1, c1, rfl, l1, g1⟩ := Avc hK
 exact ⟨ad, A1, c1, e, hc 0 _ rfl, by rw [← Ax3 _ _ 1 (by omega)]; exact hc 1 _ rfl, l1, g1⟩
structure S31 where
 f0 : ByteArray
 f1 : Int
 f2 : Int
 f3 : (List Int)
def z31 : S31 := ⟨(⟨#[]⟩ : ByteArray), (0 : Int), (0 : Int), ([] : List Int)⟩
def k31 : Kd S31 := Kd.iso (Kd.pair Kd.string (Kd.pair (Kd.int .i64) (Kd.pair (Kd.int .i64) (Kd.slice 5 (Kd.int .u8))))) (fun x : S31 => (x.f0, x.f1, x.f2, x.f3))
theorem Avd {w : World} {x : S31} {cs : List Value} (h : k31.K w x cs) : ∃ A3 c3, cs = [.string x.f0, .int .i64 x.f1, .int .i64 x.f2, .slice A3 x.f3.length c3] ∧ x.f3.length ≤ c3 ∧ (Kd.int .u8).C w A3 x.f3.length x.f3 := by
 obtain ⟨_, _, rfl, rfl, ⟨_, _, rfl, rfl, ⟨_, _, rfl, rfl, ⟨A3, c3, rfl, l3, g3⟩⟩⟩⟩ := h
 exact ⟨A3, c3, rfl, l3, g3⟩
theorem k31_mk (w : World) (x : S31) {A3 : Option Addr} {c3 : Nat} (l3 : x.f3.length ≤ c3) (g3 : (Kd.int .u8).C w A3 x.f3.length x.f3) : k31.K w x [.string x.f0, .int .i64 x.f1, .int .i64 x.f2, .slice A3 x.f3.length c3] := ⟨[.string x.f0], [.int .i64 x.f1, .int .i64 x.f2, .slice A3 x.f3.length c3], rfl, rfl, ⟨[.int .i64 x.f1], [.int .i64 x.f2, .slice A3 x.f3.length c3], rfl, rfl, ⟨[.int .i64 x.f2], [.slice A3 x.f3.length c3], rfl, rfl, ⟨A3, c3, rfl, l3, g3⟩⟩⟩⟩
theorem Bkr {W : World} {ok : Nat → Prop} {x : S31} {cs : List Value} (h : Kd.FK k31 W ok x cs) : ∃ A3 c3, cs = [.string x.f0, .int .i64 x.f1, .int .i64 x.f2, .slice A3 x.f3.length c3] ∧ x.f3.length ≤ c3 ∧ Kd.F (Kd.int .u8) W ok A3 x.f3.length x.f3 := by
 obtain ⟨A3, c3, rfl, l3, _⟩ := Avd (Kd.FK_now h)
 exact ⟨A3, c3, rfl, l3, (fun W' hW => by obtain ⟨A3_, c3_, he, l3_, g3_⟩ := Avd (h W' hW); injection (Option.some.inj (show some (Value.slice A3 x.f3.length c3) = some (Value.slice A3_ x.f3.length c3_) from congrArg (fun l => l[3]?) he)) with ha_ _ _; rw [ha_]; exact g3_)⟩
theorem Bks (W : World) (ok : Nat → Prop) (x : S31) {A3 : Option Addr} {c3 : Nat} (l3 : x.f3.length ≤ c3) (g3 : Kd.F (Kd.int .u8) W ok A3 x.f3.length x.f3) : Kd.FK k31 W ok x [.string x.f0, .int .i64 x.f1, .int .i64 x.f2, .slice A3 x.f3.length c3] := fun W2 hW => k31_mk W2 x l3 (g3 W2 hW)
def Ajh (xs : List S31) (i : Int) : S31 := xs.getD i.toNat z31
theorem Bzw {w : World} {A : Option Addr} {n : Nat} {xs : List S31} (h : Kd.C k31 w A n xs) (i : Int) (h0 : 0 ≤ i) (h1 : i < n) : ∃ ad A3 c3, A = some ad ∧ w.cell? (ad.add (i.toNat * 4)) = some (.string (Ajh xs i).f0) ∧ w.cell? ⟨(ad.add (i.toNat * 4)).block, (ad.add (i.toNat * 4)).off + 1, none⟩ = some (.int .i64 (Ajh xs i).f1) ∧ w.cell? ⟨(ad.add (i.toNat * 4)).block, (ad.add (i.toNat * 4)).off + 2, none⟩ = some (.int .i64 (Ajh xs i).f2) ∧ w.cell? ⟨(ad.add (i.toNat * 4)).block, (ad.add (i.toNat * 4)).off + 3, none⟩ = some (.slice A3 (Ajh xs i).f3.length c3) ∧ (Ajh xs i).f3.length ≤ c3 ∧ (Kd.int .u8).C w A3 (Ajh xs i).f3.length (Ajh xs i).f3 := by
 obtain ⟨ad, c, e, _, hK, hc0⟩ := Kd.C_get h z31 i h0 h1
 have hc : ∀ j u, c[j]? = some u → w.cell? (ad.add (i.toNat * 4 + j)) = some u := hc0
 obtain ⟨A3, c3, rfl, l3, g3⟩ := Avd hK
 exact ⟨ad, A3, c3, e, hc 0 _ rfl, by rw [← Ax3 _ _ 1 (by omega)]; exact hc 1 _ rfl, by rw [← Ax3 _ _ 2 (by omega)]; exact hc 2 _ rfl, by rw [← Ax3 _ _ 3 (by omega)]; exact hc 3 _ rfl, l3, g3⟩
structure S25 where
 f0 : ByteArray
 f1 : Int
 f2 : Int
 f3 : (List Int)
def z25 : S25 := ⟨(⟨#[]⟩ : ByteArray), (0 : Int), (0 : Int), ([] : List Int)⟩
def k25 : Kd S25 := Kd.iso (Kd.pair Kd.string (Kd.pair (Kd.int .i64) (Kd.pair (Kd.int .i64) (Kd.slice 5 (Kd.int .u8))))) (fun x : S25 => (x.f0, x.f1, x.f2, x.f3))
theorem Aw1 {w : World} {x : S25} {cs : List Value} (h : k25.K w x cs) : ∃ A3 c3, cs = [.string x.f0, .int .i64 x.f1, .int .i64 x.f2, .slice A3 x.f3.length c3] ∧ x.f3.length ≤ c3 ∧ (Kd.int .u8).C w A3 x.f3.length x.f3 := by
 obtain ⟨_, _, rfl, rfl, ⟨_, _, rfl, rfl, ⟨_, _, rfl, rfl, ⟨A3, c3, rfl, l3, g3⟩⟩⟩⟩ := h
 exact ⟨A3, c3, rfl, l3, g3⟩
theorem k25_mk (w : World) (x : S25) {A3 : Option Addr} {c3 : Nat} (l3 : x.f3.length ≤ c3) (g3 : (Kd.int .u8).C w A3 x.f3.length x.f3) : k25.K w x [.string x.f0, .int .i64 x.f1, .int .i64 x.f2, .slice A3 x.f3.length c3] := ⟨[.string x.f0], [.int .i64 x.f1, .int .i64 x.f2, .slice A3 x.f3.length c3], rfl, rfl, ⟨[.int .i64 x.f1], [.int .i64 x.f2, .slice A3 x.f3.length c3], rfl, rfl, ⟨[.int .i64 x.f2], [.slice A3 x.f3.length c3], rfl, rfl, ⟨A3, c3, rfl, l3, g3⟩⟩⟩⟩
theorem Ak2 {W : World} {ok : Nat → Prop} {x : S25} {cs : List Value} (h : Kd.FK k25 W ok x cs) : ∃ A3 c3, cs = [.string x.f0, .int .i64 x.f1, .int .i64 x.f2, .slice A3 x.f3.length c3] ∧ x.f3.length ≤ c3 ∧ Kd.F (Kd.int .u8) W ok A3 x.f3.length x.f3 := by
 obtain ⟨A3, c3, rfl, l3, _⟩ := Aw1 (Kd.FK_now h)
 exact ⟨A3, c3, rfl, l3, (fun W' hW => by obtain ⟨A3_, c3_, he, l3_, g3_⟩ := Aw1 (h W' hW); injection (Option.some.inj (show some (Value.slice A3 x.f3.length c3) = some (Value.slice A3_ x.f3.length c3_) from congrArg (fun l => l[3]?) he)) with ha_ _ _; rw [ha_]; exact g3_)⟩
theorem Awk (W : World) (ok : Nat → Prop) (x : S25) {A3 : Option Addr} {c3 : Nat} (l3 : x.f3.length ≤ c3) (g3 : Kd.F (Kd.int .u8) W ok A3 x.f3.length x.f3) : Kd.FK k25 W ok x [.string x.f0, .int .i64 x.f1, .int .i64 x.f2, .slice A3 x.f3.length c3] := fun W2 hW => k25_mk W2 x l3 (g3 W2 hW)
def Aqr (xs : List S25) (i : Int) : S25 := xs.getD i.toNat z25
theorem Bxk {w : World} {A : Option Addr} {n : Nat} {xs : List S25} (h : Kd.C k25 w A n xs) (i : Int) (h0 : 0 ≤ i) (h1 : i < n) : ∃ ad A3 c3, A = some ad ∧ w.cell? (ad.add (i.toNat * 4)) = some (.string (Aqr xs i).f0) ∧ w.cell? ⟨(ad.add (i.toNat * 4)).block, (ad.add (i.toNat * 4)).off + 1, none⟩ = some (.int .i64 (Aqr xs i).f1) ∧ w.cell? ⟨(ad.add (i.toNat * 4)).block, (ad.add (i.toNat * 4)).off + 2, none⟩ = some (.int .i64 (Aqr xs i).f2) ∧ w.cell? ⟨(ad.add (i.toNat * 4)).block, (ad.add (i.toNat * 4)).off + 3, none⟩ = some (.slice A3 (Aqr xs i).f3.length c3) ∧ (Aqr xs i).f3.length ≤ c3 ∧ (Kd.int .u8).C w A3 (Aqr xs i).f3.length (Aqr xs i).f3 := by
 obtain ⟨ad, c, e, _, hK, hc0⟩ := Kd.C_get h z25 i h0 h1
 have hc : ∀ j u, c[j]? = some u → w.cell? (ad.add (i.toNat * 4 + j)) = some u := hc0
 obtain ⟨A3, c3, rfl, l3, g3⟩ := Aw1 hK
 exact ⟨ad, A3, c3, e, hc 0 _ rfl, by rw [← Ax3 _ _ 1 (by omega)]; exact hc 1 _ rfl, by rw [← Ax3 _ _ 2 (by omega)]; exact hc 2 _ rfl, by rw [← Ax3 _ _ 3 (by omega)]; exact hc 3 _ rfl, l3, g3⟩
structure S76 where
 f0 : Int
 f1 : S25
 f2 : ByteArray
 f3 : ByteArray
 f4 : (List Int)
 f5 : Int
def z76 : S76 := ⟨(0 : Int), z25, (⟨#[]⟩ : ByteArray), (⟨#[]⟩ : ByteArray), ([] : List Int), (0 : Int)⟩
def k76 : Kd S76 := Kd.iso (Kd.pair (Kd.int .i64) (Kd.pair k25 (Kd.pair Kd.string (Kd.pair Kd.string (Kd.pair (Kd.slice 3 (Kd.int .i64)) (Kd.int .i64)))))) (fun x : S76 => (x.f0, x.f1, x.f2, x.f3, x.f4, x.f5))
theorem k76_open {w : World} {x : S76} {cs : List Value} (h : k76.K w x cs) : ∃ A4 c4 A7 c7, cs = [.int .i64 x.f0, .string x.f1.f0, .int .i64 x.f1.f1, .int .i64 x.f1.f2, .slice A4 x.f1.f3.length c4, .string x.f2, .string x.f3, .slice A7 x.f4.length c7, .int .i64 x.f5] ∧ x.f1.f3.length ≤ c4 ∧ (Kd.int .u8).C w A4 x.f1.f3.length x.f1.f3 ∧ x.f4.length ≤ c7 ∧ (Kd.int .i64).C w A7 x.f4.length x.f4 := by
 obtain ⟨_, _, rfl, rfl, ⟨_, _, rfl, s1, ⟨_, _, rfl, rfl, ⟨_, _, rfl, rfl, ⟨_, _, rfl, ⟨A7, c7, rfl, l7, g7⟩, rfl⟩⟩⟩⟩⟩ := h
 obtain ⟨A4, c4, rfl, l4, g4⟩ := Aw1 s1
 exact ⟨A4, c4, A7, c7, rfl, l4, g4, l7, g7⟩
theorem k76_mk (w : World) (x : S76) {A4 : Option Addr} {c4 : Nat} (l4 : x.f1.f3.length ≤ c4) (g4 : (Kd.int .u8).C w A4 x.f1.f3.length x.f1.f3) {A7 : Option Addr} {c7 : Nat} (l7 : x.f4.length ≤ c7) (g7 : (Kd.int .i64).C w A7 x.f4.length x.f4) : k76.K w x [.int .i64 x.f0, .string x.f1.f0, .int .i64 x.f1.f1, .int .i64 x.f1.f2, .slice A4 x.f1.f3.length c4, .string x.f2, .string x.f3, .slice A7 x.f4.length c7, .int .i64 x.f5] := ⟨[.int .i64 x.f0], [.string x.f1.f0, .int .i64 x.f1.f1, .int .i64 x.f1.f2, .slice A4 x.f1.f3.length c4, .string x.f2, .string x.f3, .slice A7 x.f4.length c7, .int .i64 x.f5], rfl, rfl, ⟨[.string x.f1.f0, .int .i64 x.f1.f1, .int .i64 x.f1.f2, .slice A4 x.f1.f3.length c4], [.string x.f2, .string x.f3, .slice A7 x.f4.length c7, .int .i64 x.f5], rfl, (k25_mk w x.f1 l4 g4), ⟨[.string x.f2], [.string x.f3, .slice A7 x.f4.length c7, .int .i64 x.f5], rfl, rfl, ⟨[.string x.f3], [.slice A7 x.f4.length c7, .int .i64 x.f5], rfl, rfl, ⟨[.slice A7 x.f4.length c7], [.int .i64 x.f5], rfl, ⟨A7, c7, rfl, l7, g7⟩, rfl⟩⟩⟩⟩⟩
def Ax6 (xs : List S76) (i : Int) : S76 := xs.getD i.toNat z76
theorem Avh {w : World} {A : Option Addr} {n : Nat} {xs : List S76} (h : Kd.C k76 w A n xs) (i : Int) (h0 : 0 ≤ i) (h1 : i < n) : ∃ ad A4 c4 A7 c7, A = some ad ∧ w.cell? (ad.add (i.toNat * 9)) = some (.int .i64 (Ax6 xs i).f0) ∧ w.cell? ⟨(ad.add (i.toNat * 9)).block, (ad.add (i.toNat * 9)).off + 1, none⟩ = some (.string (Ax6 xs i).f1.f0) ∧ w.cell? ⟨(ad.add (i.toNat * 9)).block, (ad.add (i.toNat * 9)).off + 2, none⟩ = some (.int .i64 (Ax6 xs i).f1.f1) ∧ w.cell? ⟨(ad.add (i.toNat * 9)).block, (ad.add (i.toNat * 9)).off + 3, none⟩ = some (.int .i64 (Ax6 xs i).f1.f2) ∧ w.cell? ⟨(ad.add (i.toNat * 9)).block, (ad.add (i.toNat * 9)).off + 4, none⟩ = some (.slice A4 (Ax6 xs i).f1.f3.length c4) ∧ w.cell? ⟨(ad.add (i.toNat * 9)).block, (ad.add (i.toNat * 9)).off + 5, none⟩ = some (.string (Ax6 xs i).f2) ∧ w.cell? ⟨(ad.add (i.toNat * 9)).block, (ad.add (i.toNat * 9)).off + 6, none⟩ = some (.string (Ax6 xs i).f3) ∧ w.cell? ⟨(ad.add (i.toNat * 9)).block, (ad.add (i.toNat * 9)).off + 7, none⟩ = some (.slice A7 (Ax6 xs i).f4.length c7) ∧ w.cell? ⟨(ad.add (i.toNat * 9)).block, (ad.add (i.toNat * 9)).off + 8, none⟩ = some (.int .i64 (Ax6 xs i).f5) ∧ (Ax6 xs i).f1.f3.length ≤ c4 ∧ (Kd.int .u8).C w A4 (Ax6 xs i).f1.f3.length (Ax6 xs i).f1.f3 ∧ (Ax6 xs i).f4.length ≤ c7 ∧ (Kd.int .i64).C w A7 (Ax6 xs i).f4.length (Ax6 xs i).f4 := by
 obtain ⟨ad, c, e, _, hK, hc0⟩ := Kd.C_get h z76 i h0 h1
 have hc : ∀ j u, c[j]? = some u → w.cell? (ad.add (i.toNat * 9 + j)) = some u := hc0
 obtain ⟨A4, c4, A7, c7, rfl, l4, g4, l7, g7⟩ := k76_open hK
 exact ⟨ad, A4, c4, A7, c7, e, hc 0 _ rfl, by rw [← Ax3 _ _ 1 (by omega)]; exact hc 1 _ rfl, by rw [← Ax3 _ _ 2 (by omega)]; exact hc 2 _ rfl, by rw [← Ax3 _ _ 3 (by omega)]; exact hc 3 _ rfl, by rw [← Ax3 _ _ 4 (by omega)]; exact hc 4 _ rfl, by rw [← Ax3 _ _ 5 (by omega)]; exact hc 5 _ rfl, by rw [← Ax3 _ _ 6 (by omega)]; exact hc 6 _ rfl, by rw [← Ax3 _ _ 7 (by omega)]; exact hc 7 _ rfl, by rw [← Ax3 _ _ 8 (by omega)]; exact hc 8 _ rfl, l4, g4, l7, g7⟩
end
section
open Go Go.RowKit Go.Proofs.YtcgeioingikeeaaW.PrintWords Go.Proofs.YtcgeioingikeeaaW.PrintLast Go.Proofs.YtcgeioingikeeaaW.PrintMore
theorem Bz8 : ∀ (x y : List UInt8), Op.bytesLess x y = decide (x < y)
 | _, [] => by simp [Op.bytesLess]
 | [], _ :: _ => by simp [Op.bytesLess]
 | a :: x, b :: y => by
   rw [Op.bytesLess, Bz8 x y]
   by_cases h : a < b
   · simp [h, List.cons_lt_cons_iff]
   · by_cases e : a = b
     · subst e; simp [List.cons_lt_cons_iff, UInt8.lt_irrefl]
     · simp [h, e, List.cons_lt_cons_iff]
theorem Bx7 (x y : List UInt8) : Op.bytesLess y x = !(Op.bytesLess x y || x == y) := by
 rw [Bz8, Bz8]
 rcases Decidable.em (x < y) with h | h
 · have : ¬ y < x := fun h' => List.lt_irrefl _ (List.lt_trans h h')
   simp [h, this]
 · by_cases e : x = y
   · subst e; simp [List.lt_irrefl]
   · have : y < x := by
      rcases List.le_total x y with h1 | h1
      · exact absurd (List.le_antisymm h1 (List.not_lt.1 h)) e
      · exact Decidable.byContradiction fun h2 => e (List.le_antisymm (List.not_lt.1 h2) (List.not_lt.1 h))
     simp [h, e, this]
theorem Bxv (t : TypeId) (a b : ByteArray) : binOp .geq t (.string a) (.string b) = pure (.bool !(Op.bytesLess a.toList b.toList)) := by simp [binOp, Op.stringOp]
theorem Bxu (t : TypeId) (a b : ByteArray) : binOp .gtr t (.string a) (.string b) = pure (.bool (Op.bytesLess b.toList a.toList)) := by
 rw [Bx7 a.toList b.toList]; simp [binOp, Op.stringOp]
theorem Bxt (t : TypeId) (a b : ByteArray) : binOp .leq t (.string a) (.string b) = pure (.bool !(Op.bytesLess b.toList a.toList)) := by
 rw [Bx7 a.toList b.toList]; simp [binOp, Op.stringOp]
end
section
attribute [local go_sem] Bxv Bxu Bxt
def Ax8 (name : ByteArray) (x : S38) : Bool := x.f0.toList == name.toList
def Ak5 (name : ByteArray) (x : S38) : Bool := Op.bytesLess name.toList x.f0.toList
theorem Aw0 (name : ByteArray) (x : ByteArray) (v : Value) (W : World) :
 Calls Try.prog 63 #[.string name, .agg #[.string x, v]] W fun e W' => e = .returned (.bool (x.toList == name.toList)) ∧ Below W.heap.size W W' := by
 go_enter Try.func63, Try.ntmps63
 go_wp2
 go_ret
 exact ⟨rfl, (Below.refl _ _).alloc (Nat.le_refl _) _⟩
theorem Awh (name : ByteArray) (x : ByteArray) (v : Value) (W : World) :
 Calls Try.prog 59 #[.string name, .agg #[.string x, v]] W fun e W' => e = .returned (.bool (Op.bytesLess name.toList x.toList)) ∧ Below W.heap.size W W' := by
 go_enter Try.func59, Try.ntmps59
 go_wp2
 go_ret
 exact ⟨rfl, (Below.refl _ _).alloc (Nat.le_refl _) _⟩
def Akb (p : S38 → Bool) (l : List S38) : Int := match l.findIdx? p with | some i => (i : Int) | none => -1
theorem Bzs {p : S38 → Bool} {l : List S38} (i : Nat) (hi : i < l.length) (hp : p (l.getD i z38) = true) (hn : ∀ j, j < i → p (l.getD j z38) = false) : Akb p l = i := by
 have : l.findIdx? p = some i := by
  rw [List.findIdx?_eq_some_iff_getElem]
  refine ⟨hi, by simpa [List.getD_eq_getElem?_getD, List.getElem?_eq_getElem hi] using hp, fun j hj => ?_⟩
  have := hn j hj
  rw [List.getD_eq_getElem?_getD, List.getElem?_eq_getElem (by omega)] at this
  simpa using this
 unfold Akb; rw [this]
theorem Bzx {p : S38 → Bool} {l : List S38} {i : Nat} (hn : ∀ j, j < i → p (l.getD j z38) = false) (h : p (l.getD i z38) = false) : ∀ j, j < i + 1 → p (l.getD j z38) = false := by
 intro j hj
 rcases Nat.lt_or_ge j i with h1 | h1
 · exact hn j h1
 · obtain rfl : j = i := by omega
   exact h
theorem Bqd {p : S38 → Bool} {l : List S38} (hn : ∀ j, j < l.length → p (l.getD j z38) = false) : Akb p l = -1 := by
 have : l.findIdx? p = none := by
  rw [List.findIdx?_eq_none_iff]
  intro x hx
  obtain ⟨j, hj, rfl⟩ := List.mem_iff_getElem.1 hx
  have := hn j hj
  rwa [List.getD_eq_getElem?_getD, List.getElem?_eq_getElem hj] at this
 unfold Akb; rw [this]
theorem Avu (name : ByteArray) (A0 : Option Addr) (c0 : Nat) (l0 : List S38) (w : World) (hr0 : Kd.C k38 w A0 l0.length l0) :
 Calls Try.prog 58 #[.slice A0 l0.length c0, .func (.func 63) #[.string name] #[]] w fun e w' => e = .returned (.int .i64 (Akb (Ax8 name) l0)) ∧ Below w.heap.size w w' := by
 have HR := Bvh hr0
 have hmax := Kd.C_max hr0
 clear hr0
 go_enter Try.func58, Try.ntmps58
 go_wp2
 go_loopg [8] l0.length (fun kq v8 w' => ∃ i : Nat, v8 = .int .i64 i ∧ i + kq = l0.length ∧ Aside0 (∀ j, j < i → Ax8 name (l0.getD j z38) = false) ∧ Aside0 (Below w.heap.size w w'))
 case atStart => exact ⟨0, rfl, by omega, ⟨fun j hj => absurd hj (by omega)⟩, ⟨Below.refl _ _⟩⟩
 case round =>
  obtain ⟨i, rfl, hi, HN, HB⟩ := hrel
  by_cases hlt : i < l0.length
  · obtain ⟨ad, A1, c1, e1, hx0, hx1, _, _⟩ := Azf (Kd.C_below HR.out HB.out) (i : Int) (by omega) (by omega)
    cases e1
    rw [Int.toNat_natCast] at hx0 hx1
    have HRD : Aqf l0 (i : Int) = l0.getD i z38 := by unfold Aqf; rw [Int.toNat_natCast]
    rw [HRD] at hx0 hx1
    clear HRD
    obtain ⟨x, hxe⟩ : ∃ x, l0.getD i z38 = x := ⟨_, rfl⟩
    rw [hxe] at hx0 hx1
    have HX := Bvh hxe
    clear hxe
    obtain ⟨k1, rfl⟩ : ∃ k1, gk = k1 + 1 := ⟨gk - 1, by omega⟩
    cases hp : Ax8 name x
    · have HP := Bvh hp
      have hp' : (x.f0.toList == name.toList) = false := hp
      clear hp
      go_wp2_with (go_at_call 63; refine (Aw0 name _ _ _).mono ?_; rintro e w1 ⟨rfl, hb⟩; have HB1 := Bvh (Aq1 HB.out hb); clear hb HB; rw [hp'])
      go_roundg k1
      case measure => omega
      case rel => exact ⟨i + 1, by go_num, by omega, ⟨Bzx HN.out (by rw [HX.out]; exact HP.out)⟩, HB1⟩
    · have HP := Bvh hp
      have hp' : (x.f0.toList == name.toList) = true := hp
      clear hp
      go_wp2_with (go_at_call 63; refine (Aw0 name _ _ _).mono ?_; rintro e w1 ⟨rfl, hb⟩; have HB1 := Bvh (Aq1 HB.out hb); clear hb HB; rw [hp'])
      go_ret
      exact ⟨by rw [Bzs i hlt (by rw [HX.out]; exact HP.out) HN.out]; rfl, HB1.out⟩
  · have hge : l0.length ≤ i := by omega
    clear hlt
    go_wp2
    go_ret
    exact ⟨by rw [Bqd (by intro j hj; exact HN.out j (by omega))]; rfl, HB.out⟩
theorem Akj (name : ByteArray) (A0 : Option Addr) (c0 : Nat) (l0 : List S38) (w : World) (hr0 : Kd.C k38 w A0 l0.length l0) :
 Calls Try.prog 58 #[.slice A0 l0.length c0, .func (.func 59) #[.string name] #[]] w fun e w' => e = .returned (.int .i64 (Akb (Ak5 name) l0)) ∧ Below w.heap.size w w' := by
 have HR := Bvh hr0
 have hmax := Kd.C_max hr0
 clear hr0
 go_enter Try.func58, Try.ntmps58
 go_wp2
 go_loopg [8] l0.length (fun kq v8 w' => ∃ i : Nat, v8 = .int .i64 i ∧ i + kq = l0.length ∧ Aside0 (∀ j, j < i → Ak5 name (l0.getD j z38) = false) ∧ Aside0 (Below w.heap.size w w'))
 case atStart => exact ⟨0, rfl, by omega, ⟨fun j hj => absurd hj (by omega)⟩, ⟨Below.refl _ _⟩⟩
 case round =>
  obtain ⟨i, rfl, hi, HN, HB⟩ := hrel
  by_cases hlt : i < l0.length
  · obtain ⟨ad, A1, c1, e1, hx0, hx1, _, _⟩ := Azf (Kd.C_below HR.out HB.out) (i : Int) (by omega) (by omega)
    cases e1
    rw [Int.toNat_natCast] at hx0 hx1
    have HRD : Aqf l0 (i : Int) = l0.getD i z38 := by unfold Aqf; rw [Int.toNat_natCast]
    rw [HRD] at hx0 hx1
    clear HRD
    obtain ⟨x, hxe⟩ : ∃ x, l0.getD i z38 = x := ⟨_, rfl⟩
    rw [hxe] at hx0 hx1
    have HX := Bvh hxe
    clear hxe
    obtain ⟨k1, rfl⟩ : ∃ k1, gk = k1 + 1 := ⟨gk - 1, by omega⟩
    cases hp : Ak5 name x
    · have HP := Bvh hp
      have hp' : Op.bytesLess name.toList x.f0.toList = false := hp
      clear hp
      go_wp2_with (go_at_call 59; refine (Awh name _ _ _).mono ?_; rintro e w1 ⟨rfl, hb⟩; have HB1 := Bvh (Aq1 HB.out hb); clear hb HB; rw [hp'])
      go_roundg k1
      case measure => omega
      case rel => exact ⟨i + 1, by go_num, by omega, ⟨Bzx HN.out (by rw [HX.out]; exact HP.out)⟩, HB1⟩
    · have HP := Bvh hp
      have hp' : Op.bytesLess name.toList x.f0.toList = true := hp
      clear hp
      go_wp2_with (go_at_call 59; refine (Awh name _ _ _).mono ?_; rintro e w1 ⟨rfl, hb⟩; have HB1 := Bvh (Aq1 HB.out hb); clear hb HB; rw [hp'])
      go_ret
      exact ⟨by rw [Bzs i hlt (by rw [HX.out]; exact HP.out) HN.out]; rfl, HB1.out⟩
  · have hge : l0.length ≤ i := by omega
    clear hlt
    go_wp2
    go_ret
    exact ⟨by rw [Bqd (by intro j hj; exact HN.out j (by omega))]; rfl, HB.out⟩
end
section
theorem Av8 {α : Type} {R : α → List Value → Prop} {size : Nat} {w : World} {A : Option Addr} {n : Nat} {ps : List α} (h : Az8 R size w A n ps) (hn : 0 < n) :
 ∃ ad cs, A = some ad ∧ Reps R size ps cs ∧ ∀ j u, cs[j]? = some u → w.cell? (ad.add j) = some u := by
 obtain ⟨hl, _, hc0⟩ := h
 obtain ⟨ad, rfl, hc⟩ := hc0 hn
 have key : ∀ m, m ≤ ps.length → ∃ cs, Reps R size (ps.take m) cs ∧ ∀ j u, cs[j]? = some u → w.cell? (ad.add j) = some u := by
  intro m
  induction m with
  | zero => intro _; exact ⟨[], by rw [List.take_zero]; exact Reps.none _ _, fun j u hu => by simp at hu⟩
  | succ m ih =>
    intro hm
    obtain ⟨cs, hr, hcs⟩ := ih (by omega)
    obtain ⟨c, hcl, hR, hcc⟩ := hc m ps[m] (List.getElem?_eq_getElem (by omega))
    refine ⟨cs ++ c, ?_, fun j u hu => ?_⟩
    · rw [List.take_succ_eq_append_getElem (by omega)]
      exact hr.snoc hR hcl
    · have hlen : cs.length = m * size := by rw [hr.1, List.length_take, Nat.min_eq_left (by omega)]
      rcases Nat.lt_or_ge j cs.length with hj | hj
      · rw [List.getElem?_append_left hj] at hu
        exact hcs j u hu
      · rw [List.getElem?_append_right hj] at hu
        have := hcc _ u hu
        rwa [show m * size + (j - cs.length) = j by omega] at this
 obtain ⟨cs, hr, hcs⟩ := key ps.length (Nat.le_refl _)
 rw [List.take_length] at hr
 exact ⟨ad, cs, rfl, hr, hcs⟩
def O {α : Type} (d : Kd α) (e : Nat) (w : World) (base : Nat) (ok : Nat → Prop) (v : Value) (xs : List α) : Prop :=
 ∃ inner, w.ownsRow base e d.sz v xs.length inner ∧ Reps (fun x c => Kd.FK d w (fun k => ok k ∧ some k ≠ v.ownBlock) x c) d.sz xs inner
theorem Ajs {α : Type} {d : Kd α} {w : World} {ok : Nat → Prop} {x : α} {c : List Value} (h : Kd.FK d w ok x c) : c.length = d.sz ∧ ∀ u ∈ c, u.oneCell' = true := ⟨d.K_len (Kd.FK_now h), d.K_one (Kd.FK_now h)⟩
theorem Bjx {α : Type} (d : Kd α) (e : Nat) (w : World) (base : Nat) (ok : Nat → Prop) : O d e w base ok (.slice none 0 0) [] := ⟨[], Bke _ _ _ _, Reps.none _ _⟩
theorem Az1 {α : Type} {d : Kd α} {e : Nat} {w : World} {base : Nat} {ok : Nat → Prop} {v : Value} {xs : List α} (h : O d e w base ok v xs) : ∃ A c, v = .slice A xs.length c := by
 obtain ⟨_, h1, _⟩ := h; exact Awe h1
theorem O_mono {α : Type} {d : Kd α} {e : Nat} {w : World} {base : Nat} {ok ok' : Nat → Prop} {v : Value} {xs : List α} (h : O d e w base ok v xs) (hok : ∀ k, ok k → ok' k) : O d e w base ok' v xs := by
 obtain ⟨inner, h1, h2⟩ := h; exact ⟨inner, h1, h2.imp_ fun x c hx => Kd.FK_mono hx fun k hk => ⟨hok k hk.1, hk.2⟩⟩
theorem Azp {α : Type} {d : Kd α} {e : Nat} {w w1 : World} {base : Nat} {ok : Nat → Prop} {v : Value} {xs : List α} (h : O d e w base ok v xs) (hb : Below w.heap.size w w1) : O d e w1 base ok v xs := by
 obtain ⟨inner, h1, h2⟩ := h; exact ⟨inner, Aji h1 hb, h2.imp_ fun x c hx => Kd.FK_below hx hb⟩
theorem O_lower {α : Type} {d : Kd α} {e : Nat} {w : World} {base base' : Nat} {ok : Nat → Prop} {v : Value} {xs : List α} (h : O d e w base ok v xs) (hb : base' ≤ base) : O d e w base' ok v xs := by
 obtain ⟨inner, h1, h2⟩ := h; exact ⟨inner, Ak1 h1 hb, h2⟩
theorem Awv {α : Type} {d : Kd α} {e : Nat} {w : World} {base : Nat} {ok : Nat → Prop} {v : Value} {xs : List α} (h : O d e w base ok v xs) : ∀ k, v.ownBlock = some k → base ≤ k := by
 obtain ⟨_, h1, _⟩ := h; exact Aje h1
theorem O_N {α : Type} {d : Kd α} {e : Nat} {w : World} {base : Nat} {ok : Nat → Prop} {v : Value} {xs : List α} (h : O d e w base ok v xs) : Kd.N d e w base (fun k => ok k ∨ base ≤ k) v xs := by
 obtain ⟨inner, h1, h2⟩ := h
 refine ⟨fun k hk => .inr (Aje h1 k hk), Kd.chunks d.sz xs.length inner, Kd.chunks_length _ _ _, ⟨fun k hk => hk.symm, inner, by rw [Kd.chunks_length]; exact h1, Kd.reps_raw h2 (fun x c hp => Ajs hp)⟩, fun j x c hx hc => ?_⟩
 rw [Kd.chunks_get hc]
 exact Kd.FK_mono (h2.2 j x hx) fun k hk => ⟨.inl hk.1, hk.2⟩
theorem O_V {α : Type} {d : Kd α} {e : Nat} {w : World} {base : Nat} {ok : Nat → Prop} {v : Value} {xs : List α} (h : O d e w base ok v xs) : Kd.V d e w base (fun k => ok k ∨ base ≤ k) v xs := Kd.N_V (O_N h)
theorem Bvg {α : Type} {d : Kd α} {w : World} {n : Nat} {xs : List α} (h : d.C w none n xs) : xs = [] := by
 obtain ⟨hl, _, hc⟩ := h
 rcases Nat.eq_zero_or_pos n with h0 | h0
 · exact List.eq_nil_of_length_eq_zero (by omega)
 · obtain ⟨_, h, _⟩ := hc h0; cases h
end
section
theorem Axw {w : World} {a : Addr} {v : Value} {o : Obj} (h : w.cell? a = some v) : (w.alloc o).cell? a = some v := Aqd (Aq4 (Below.refl _ _) o) h
theorem Awf (w : World) (e size : Nat) : (w.alloc (.cells #[] e (0, 0))).ownsRow w.heap.size e size (.slice (some ⟨w.heap.size, 0, none⟩) 0 0) 0 [] :=
 ⟨by simp, .inr ⟨w.heap.size, 0, #[], rfl, Nat.le_refl _, heap_alloc_new _ _, Nat.le_refl _, by unfold maxLen; omega, by simp, by simp⟩⟩
theorem Av7 {P : Program} (w : World) (t ty e : TypeId) {z : Option Value} {size bytes : Nat} (ht : P.underlying t = some (.slice e)) (hi : (P.info? e).map (fun i => (i.zero, i.size, i.bytes)) = some (z, size, bytes)) (A : Option Addr) (n c : Nat) (B : Addr) (d : Nat) (hn : n ≤ c) :
 (Builtin.append_ #[t, t] ty #[.slice A n c, .slice (some B) 0 d]).run P w = .ok (.slice A n c) w := by
 cases hq : P.info? e with
 | none => simp [hq] at hi
 | some i =>
   have hfc := run_firstCells_some (P := P) w i.size 0 B 0 d [] (by simp) (fun j u hu => by simp at hu)
   cases A <;> simp [Builtin.append_, run_underlying ht, sizeOf, typeInfo, hq, Builtin.lenOf, hn, hfc, storeCells]
theorem Azs {P : Program} {w : World} {ops : Array Oper} {rest : List Oper} {o : Oper} {a : Act} {Q : Exit → Act → World → Prop} (hgd : o.guard = none) (s x : Operand) (t : TypeId)
 (ho : o.op = .call { callee := .builtin .append, args := #[s, x], argTypes := #[t, t] }) {e : TypeId} {z : Option Value} {size bytes : Nat} (ht : P.underlying t = some (.slice e)) (hi : (P.info? e).map (fun i => (i.zero, i.size, i.bytes)) = some (z, size, bytes))
 (A : Option Addr) (n c : Nat) (B : Addr) (d : Nat) (hs : a.eval s = .slice A n c) (hx : a.eval x = .slice (some B) 0 d) (h : wpList P ops Q rest (a.put o.dst (.slice A n c)) w) (hn : n ≤ c := by omega) : wpList P ops Q (o :: rest) a w := by
 refine wpList_plain hgd fun K hK => ?_
 have hrun := Av7 (P := P) w t o.type e ht hi A n c B d hn
 unfold Oper.wp
 simp [execOp, ho, resolve, invoke, builtin, hs, hx, hrun, Result.andThen]
 exact hK _ _ h
theorem Bxg (ok : Nat → Prop) (A0 : Option Addr) (c0 : Nat) (l0 : List S38) (w : World) (hf : Kd.F k38 w ok A0 l0.length l0) (hlen : l0.length ≤ 1000000) :
 Calls Try.prog 57 #[.slice A0 l0.length c0] w fun e w' => ∃ v, e = .returned v ∧ O k38 38 w' w.heap.size (fun k => ok k ∧ k < w.heap.size) v l0 ∧ Below w.heap.size w w' := by
 have hF := Kd.F_bound hf
 clear hf
 have hnil := Lib.run_eql_slice_nil (P := Try.prog)
 cases A0 with
 | none =>
   have h0 := Bvg (Kd.F_now hF)
   subst h0
   go_enter Try.func57, Try.ntmps57
   go_wp2
   go_ret
   exact ⟨_, rfl, Bjx _ _ _ _ _, Below.refl _ _⟩
 | some a =>
   rcases Nat.eq_zero_or_pos l0.length with h0 | h0
   · obtain rfl := List.eq_nil_of_length_eq_zero h0
     clear h0 hlen
     go_enter Try.func57, Try.ntmps57
     go_wp2_with (at_builtin; refine Azs rfl _ _ 22 rfl Try.underlying22 Aki (some ⟨w.heap.size, 0, none⟩) 0 0 a c0 rfl rfl ?_)
     go_ret
     exact ⟨_, rfl, ⟨[], Awf _ _ _, Reps.none _ _⟩, (Below.refl _ _).alloc (Nat.le_refl _) _⟩
   · obtain ⟨ad, cs, e1, hreps, hcs⟩ := Av8 (Kd.F_rows hF) h0
     cases e1
     obtain ⟨i0, hi, hz0, hz1, hz2⟩ := info_parts Aki
     have hl := hreps.1
     have hone := Kd.reps_one hreps (by decide) (fun _ _ hx => (Ajs hx).2)
     have HR := Bvh hreps
     have HC := Bvh hcs
     have HI := Bvh hi
     have HZ0 := Bvh hz0
     have HZ1 := Bvh hz1
     have HZ2 := Bvh hz2
     have HL := Bvh hl
     have H1 := Bvh hone
     clear hreps hcs hi hz0 hz1 hz2 hl hone hF
     go_enter Try.func57, Try.ntmps57
     go_wp2_with (at_builtin; refine wpList_append_grows _ rfl _ _ 22 rfl 38 i0 _ 2 40 Try.underlying22 HI.out HZ0.out HZ1.out HZ2.out rfl (by decide) (some ⟨w.heap.size, 0, none⟩) 0 0 [] rfl (fun h => by cases h) rfl (fun _ _ j u hu => by simp at hu) a l0.length c0 cs rfl HL.out ?ce H1.out (by omega) (by unfold maxLen; omega) (by omega) ?kk; (case ce => intro j u hu; exact Axw (HC.out j u hu)); intro v' w1 hown hgrow; have HO := Bvh hown; have HG := Bvh hgrow; clear hown hgrow)
     go_ret
     have hb1 : Below w.heap.size w w1 := (((Below.refl _ _).alloc (Nat.le_refl _) _).grown HG.out (by simp) (fun k hk => by cases hk))
     have hown := HO.out
     rw [Nat.zero_add, List.nil_append] at hown
     refine ⟨_, rfl, ⟨cs, Ak1 hown (by simp), HR.out.imp_ fun x c hx => ?_⟩, hb1⟩
     refine Kd.FK_mono (Kd.FK_step (Kd.FK_bound hx) (fun k hk hlt => hb1.block k hlt)) (fun k hk => ⟨hk.1, fun he => ?_⟩)
     have h1 := Aje hown k he.symm
     have h2 := hk.2
     rw [World.size_alloc] at h1
     omega
theorem Bxh (ok : Nat → Prop) (A0 : Option Addr) (c0 : Nat) (l0 : List Int) (w : World) (hf : Kd.F (Kd.int .u8) w ok A0 l0.length l0) (hlen : l0.length ≤ 1000000) :
 Calls Try.prog 61 #[.slice A0 l0.length c0] w fun e w' => ∃ v, e = .returned v ∧ O (Kd.int .u8) 5 w' w.heap.size (fun k => ok k ∧ k < w.heap.size) v l0 ∧ Below w.heap.size w w' := by
 have hF := Kd.F_bound hf
 clear hf
 have hnil := Lib.run_eql_slice_nil (P := Try.prog)
 cases A0 with
 | none =>
   have h0 := Bvg (Kd.F_now hF)
   subst h0
   go_enter Try.func61, Try.ntmps61
   go_wp2
   go_ret
   exact ⟨_, rfl, Bjx _ _ _ _ _, Below.refl _ _⟩
 | some a =>
   rcases Nat.eq_zero_or_pos l0.length with h0 | h0
   · obtain rfl := List.eq_nil_of_length_eq_zero h0
     clear h0 hlen
     go_enter Try.func61, Try.ntmps61
     go_wp2_with (at_builtin; refine Azs rfl _ _ 23 rfl Try.underlying23 Av1 (some ⟨w.heap.size, 0, none⟩) 0 0 a c0 rfl rfl ?_)
     go_ret
     exact ⟨_, rfl, ⟨[], Awf _ _ _, Reps.none _ _⟩, (Below.refl _ _).alloc (Nat.le_refl _) _⟩
   · obtain ⟨ad, cs, e1, hreps, hcs⟩ := Av8 (Kd.F_rows hF) h0
     cases e1
     obtain ⟨i0, hi, hz0, hz1, hz2⟩ := info_parts Av1
     have hl := hreps.1
     have hone := Kd.reps_one hreps (by decide) (fun _ _ hx => (Ajs hx).2)
     have HR := Bvh hreps
     have HC := Bvh hcs
     have HI := Bvh hi
     have HZ0 := Bvh hz0
     have HZ1 := Bvh hz1
     have HZ2 := Bvh hz2
     have HL := Bvh hl
     have H1 := Bvh hone
     clear hreps hcs hi hz0 hz1 hz2 hl hone hF
     go_enter Try.func61, Try.ntmps61
     go_wp2_with (at_builtin; refine wpList_append_grows _ rfl _ _ 23 rfl 5 i0 _ 1 1 Try.underlying23 HI.out HZ0.out HZ1.out HZ2.out rfl (by decide) (some ⟨w.heap.size, 0, none⟩) 0 0 [] rfl (fun h => by cases h) rfl (fun _ _ j u hu => by simp at hu) a l0.length c0 cs rfl HL.out ?ce H1.out (by omega) (by unfold maxLen; omega) (by omega) ?kk; (case ce => intro j u hu; exact Axw (HC.out j u hu)); intro v' w1 hown hgrow; have HO := Bvh hown; have HG := Bvh hgrow; clear hown hgrow)
     go_ret
     have hb1 : Below w.heap.size w w1 := (((Below.refl _ _).alloc (Nat.le_refl _) _).grown HG.out (by simp) (fun k hk => by cases hk))
     have hown := HO.out
     rw [Nat.zero_add, List.nil_append] at hown
     refine ⟨_, rfl, ⟨cs, Ak1 hown (by simp), HR.out.imp_ fun x c hx => ?_⟩, hb1⟩
     refine Kd.FK_mono (Kd.FK_step (Kd.FK_bound hx) (fun k hk hlt => hb1.block k hlt)) (fun k hk => ⟨hk.1, fun he => ?_⟩)
     have h1 := Aje hown k he.symm
     have h2 := hk.2
     rw [World.size_alloc] at h1
     omega
end
section
theorem Aj6 {α : Type} {d : Kd α} {e : Nat} {w : World} {base : Nat} {ok : Nat → Prop} {v : Value} {xs : List α} (h : O d e w base ok v xs) (hp : 0 < xs.length) :
 ∃ g cap cur, v = .slice (some ⟨g, 0, none⟩) xs.length cap ∧ base ≤ g ∧ g < w.heap.size ∧ w.heap[g]? = some (.cells cur e (0, 0)) ∧ xs.length ≤ cap ∧ cap ≤ maxLen ∧ cur.size = cap * d.sz ∧
  Reps (fun x c => Kd.FK d w (fun k => ok k ∧ k ≠ g) x c) d.sz xs (cur.toList.take (xs.length * d.sz)) := by
 obtain ⟨inner, ⟨hl, h2⟩, hr⟩ := h
 rcases h2 with ⟨_, h0⟩ | ⟨g, cap, cur, rfl, hg, hh, h3, h4, h5, h6⟩
 · omega
 · refine ⟨g, cap, cur, rfl, hg, (Array.getElem?_eq_some_iff.1 hh).1, hh, h3, h4, h5, ?_⟩
   rw [h6]
   exact hr.imp_ fun x c hx => Kd.FK_mono hx fun k hk => ⟨hk.1, fun he => hk.2 (by subst he; rfl)⟩
theorem O_mk {α : Type} {d : Kd α} {e : Nat} {w : World} {base : Nat} {ok : Nat → Prop} {xs : List α} {g cap : Nat} {cur : Array Value} (hg : base ≤ g) (hh : w.heap[g]? = some (.cells cur e (0, 0))) (h3 : xs.length ≤ cap) (h4 : cap ≤ maxLen) (h5 : cur.size = cap * d.sz)
 (hr : Reps (fun x c => Kd.FK d w (fun k => ok k ∧ k ≠ g) x c) d.sz xs (cur.toList.take (xs.length * d.sz))) : O d e w base ok (.slice (some ⟨g, 0, none⟩) xs.length cap) xs :=
 ⟨_, ⟨hr.1, .inr ⟨g, cap, cur, rfl, hg, hh, h3, h4, h5, rfl⟩⟩, hr.imp_ fun x c hx => Kd.FK_mono hx fun k hk => ⟨hk.1, fun he => hk.2 (by injection he)⟩⟩
theorem Bxx {β : Type} (cs seg : List β) {a T : Nat} (h1 : a + seg.length ≤ T) (h2 : T ≤ cs.length) : (cs.take T).take a ++ seg ++ (cs.take T).drop (a + seg.length) = (cs.take a ++ seg ++ cs.drop (a + seg.length)).take T := by
 rw [List.take_take, Nat.min_eq_left (by omega), List.append_assoc, List.append_assoc, List.take_append, List.take_append, List.length_take, Nat.min_eq_left (by omega : a ≤ cs.length),
  List.take_of_length_le (l := cs.take a) (by rw [List.length_take]; omega), List.take_of_length_le (l := seg) (by omega), List.drop_take]
 congr 3
 omega
theorem O_set {α : Type} {d : Kd α} {e : Nat} {w w1 : World} {base : Nat} {ok : Nat → Prop} {xs : List α} {g cap n : Nat} (h : O d e w base ok (.slice (some ⟨g, 0, none⟩) n cap) xs) (i : Nat) (hi : i < xs.length) (x : α) (seg : List Value) (cur : Array Value) (hc : w.heap[g]? = some (.cells cur e (0, 0)))
 (hx : Kd.FK d w (fun k => ok k ∧ k ≠ g) x seg) (h1 : w1.heap[g]? = some (.cells (cur.toList.take (i * d.sz) ++ seg ++ cur.toList.drop (i * d.sz + seg.length)).toArray e (0, 0))) (hs : ∀ k, k < w.heap.size → k ≠ g → w1.heap[k]? = w.heap[k]?) :
 O d e w1 base ok (.slice (some ⟨g, 0, none⟩) n cap) (xs.set i x) := by
 have hp : 0 < xs.length := by omega
 obtain ⟨g', cap', cur', he, hg, _, hh, h3, h4, h5, hr⟩ := Aj6 h hp
 injection he with he1 he2 he3
 injection he1 with he1
 injection he1 with he1
 subst he1 he3
 rw [hc] at hh
 injection hh with hh
 injection hh with hh
 subst hh
 have hsl : seg.length = d.sz := (Ajs hx).1
 have hroom : (i + 1) * d.sz ≤ xs.length * d.sz := Nat.mul_le_mul_right _ hi
 have hroom2 : xs.length * d.sz ≤ cap * d.sz := Nat.mul_le_mul_right _ h3
 rw [Nat.add_mul, Nat.one_mul] at hroom
 have hcl : cur.toList.length = cap * d.sz := by rw [Array.length_toList]; exact h5
 have := O_mk (d := d) (ok := ok) (w := w1) (xs := xs.set i x) (cap := cap) hg h1 (by simpa using h3) h4 (by
  simp only [List.size_toArray, List.length_append, List.length_take, List.length_drop]; omega) (by
  have hr' := Kd.reps_set hr hi hx hsl
  have hr2 := hr'.imp_ (R' := fun x c => Kd.FK d w1 (fun k => ok k ∧ k ≠ g) x c) fun y c hy => Kd.FK_mono (Kd.FK_step (Kd.FK_bound hy) fun k hk hlt => hs k hlt hk.1.2) fun k hk => hk.1
  rw [List.length_set]
  rw [Bxx cur.toList seg (by omega) (by omega)] at hr2
  exact hr2)
 rw [List.length_set] at this
 rw [he2]
 exact this
end
section
theorem set2 (cur : Array Value) (a : Nat) (u v : Value) (h : a + 2 ≤ cur.size) : (cur.setIfInBounds a u).setIfInBounds (a + 1) v = (cur.toList.take a ++ [u, v] ++ cur.toList.drop (a + [u, v].length)).toArray := by
 apply Array.ext'
 simp only [Array.toList_setIfInBounds]
 apply List.ext_getElem?
 intro k
 simp only [List.getElem?_set, List.length_set, Array.length_toList, List.append_assoc, List.getElem?_append, List.length_take, List.length_cons, List.length_nil, List.getElem?_take, List.getElem?_drop]
 rw [Nat.min_eq_left (by omega : a ≤ cur.size)]
 by_cases h1 : k < a
 · simp [h1, show ¬ a + 1 = k by omega, show ¬ a = k by omega]
 · by_cases h2 : k = a
   · subst h2; simp [show k < cur.size by omega]
   · by_cases h3 : k = a + 1
     · subst h3; simp [show a + 1 < cur.size by omega, show ¬ a + 1 < a by omega]
     · simp [h1, show ¬ a + 1 = k by omega, show ¬ a = k by omega, show ¬ k - a < 2 by omega, show a + 2 + (k - a - 2) = k by omega]
theorem O_at38 {w : World} {base : Nat} {ok : Nat → Prop} {xs : List S38} {g cap n : Nat} (h : O k38 38 w base ok (.slice (some ⟨g, 0, none⟩) n cap) xs) (j : Nat) (hj : j < xs.length) :
 ∃ A1 c1, w.cell? ⟨g, j * 2, none⟩ = some (.string (xs.getD j z38).f0) ∧ w.cell? ⟨g, j * 2 + 1, none⟩ = some (.slice A1 (xs.getD j z38).f1.length c1) ∧ Kd.FK k38 w (fun k => ok k ∧ k ≠ g) (xs.getD j z38) [.string (xs.getD j z38).f0, .slice A1 (xs.getD j z38).f1.length c1] := by
 obtain ⟨g', cap', cur, he, hg, _, hh, h3, h4, h5, hr⟩ := Aj6 h (by omega)
 injection he with he1 he2 he3
 injection he1 with he1
 injection he1 with he1
 subst he1
 have hx := hr.2 j _ (List.getElem?_eq_getElem hj)
 have hxe : xs.getD j z38 = xs[j] := by rw [List.getD_eq_getElem?_getD, List.getElem?_eq_getElem hj]; rfl
 rw [hxe]
 obtain ⟨A1, c1, he, _, _⟩ := Avc (Kd.FK_now hx)
 have hb : j * 2 + 2 ≤ xs.length * 2 := by omega
 have hsz : cur.size = cap' * 2 := h5
 have hsz2 : k38.sz = 2 := rfl
 rw [hsz2] at he hx
 refine ⟨A1, c1, ?_, ?_, by rw [← he]; exact hx⟩
 · have := congrArg (fun l => l[0]?) he
   simp only [List.getElem?_take, List.getElem?_drop, List.getElem?_cons_zero] at this
   rw [if_pos (by omega), Nat.add_zero, if_pos (by omega)] at this
   rw [cell_of_row w g _ cur 38 (0, 0) hh]
   simpa using this
 · have := congrArg (fun l => l[1]?) he
   simp only [List.getElem?_take, List.getElem?_drop, List.getElem?_cons_succ, List.getElem?_cons_zero] at this
   rw [if_pos (by omega), if_pos (by omega)] at this
   rw [cell_of_row w g _ cur 38 (0, 0) hh]
   simpa using this
def Avv (p : S38 → Bool) (l : List S38) (i j : Nat) (xs : List S38) : Prop := xs.take i = (l.take j).filter (fun x => !p x) ∧ xs.drop j = l.drop j
theorem Bv4 {p : S38 → Bool} {l : List S38} {i0 : Nat} {h : i0 < l.length} (hp : p l[i0] = true) (hn : ∀ (j : Nat) (hji : j < i0), ¬p (l[j]'(by omega)) = true) (_ : i0 < l.length) : Avv p l i0 (i0 + 1) l := by
 refine ⟨?_, rfl⟩
 rw [List.take_succ_eq_append_getElem h, List.filter_append]
 have h1 : (l.take i0).filter (fun x => !p x) = l.take i0 := by
  rw [List.filter_eq_self]
  intro x hx
  obtain ⟨j, hj, rfl⟩ := List.mem_iff_getElem.1 hx
  rw [List.length_take] at hj
  have := hn j (by omega)
  simp at this
  simp [this]
 rw [h1]
 simp [hp]
theorem del_at {p : S38 → Bool} {l xs : List S38} {i j : Nat} (h : Avv p l i j xs) (hj : j < l.length) : xs.getD j z38 = l.getD j z38 := by
 have := congrArg (fun l => l.head?) h.2
 simp only [List.head?_drop] at this
 rw [List.getD_eq_getElem?_getD, List.getD_eq_getElem?_getD, this]
theorem del_skip {p : S38 → Bool} {l xs : List S38} {i j : Nat} (h : Avv p l i j xs) (hj : j < l.length) (hp : p (l.getD j z38) = true) : Avv p l i (j + 1) xs := by
 have he : l.getD j z38 = l[j] := by rw [List.getD_eq_getElem?_getD, List.getElem?_eq_getElem hj]; rfl
 rw [he] at hp
 refine ⟨?_, by rw [← List.drop_drop, h.2, List.drop_drop]⟩
 rw [h.1, List.take_succ_eq_append_getElem hj, List.filter_append]
 simp [hp]
theorem del_keep {p : S38 → Bool} {l xs : List S38} {i j : Nat} (h : Avv p l i j xs) (hij : i < j) (hj : j < l.length) (hl : xs.length = l.length) (hp : p (l.getD j z38) = false) : Avv p l (i + 1) (j + 1) (xs.set i (l.getD j z38)) := by
 have he : l.getD j z38 = l[j] := by rw [List.getD_eq_getElem?_getD, List.getElem?_eq_getElem hj]; rfl
 rw [he] at hp ⊢
 refine ⟨?_, ?_⟩
 · rw [List.take_succ_eq_append_getElem hj, List.filter_append, ← h.1]
   rw [List.take_succ_eq_append_getElem (by rw [List.length_set]; omega), List.take_set_of_le (Nat.le_refl _)]
   simp [hp]
 · rw [List.drop_set_of_lt (by omega), ← List.drop_drop, h.2, List.drop_drop]
theorem Ak6 {α : Type} {d : Kd α} {e : Nat} {w : World} {base : Nat} {ok : Nat → Prop} {xs : List α} {g cap n : Nat} (h : O d e w base ok (.slice (some ⟨g, 0, none⟩) n cap) xs) : ∃ cur, w.heap[g]? = some (.cells cur e (0, 0)) := by
 obtain ⟨_, h1, _⟩ := h
 exact Azu h1 g rfl
theorem Ajf (w : World) (cs : Array Value) (t : TypeId) (k : Nat) (u : Value) (h : cs[k]? = some u) : (w.alloc (.cells cs t (0, 0))).cell? ⟨w.heap.size, k, none⟩ = some u := by
 rw [cell_of_row _ _ _ cs t (0, 0) (heap_alloc_new _ _)]; exact h
theorem Aqn {w w1 : World} {g : Nat} {o : Obj} (hb : Below w.heap.size w w1) (h : w.heap[g]? = some o) : w1.heap[g]? = some o := (hb.block g (Ax7 h)).trans h
theorem grownBy.trans_below {w w1 w2 : World} {row : Option Nat} (h : w.grownBy w1 row) (hb : Below w1.heap.size w1 w2) : w.grownBy w2 row :=
 ⟨hb.os.trans h.os, hb.tape.trans h.tape, hb.output.trans h.output, Nat.le_trans h.size hb.size, fun k hk hr => (hb.block k (Nat.lt_of_lt_of_le hk h.size)).trans (h.block k hk hr)⟩
theorem grownBy.setCell_row {w w1 : World} {g : Nat} (h : w.grownBy w1 (some g)) (j : Nat) (u : Value) : w.grownBy (w1.setCell ⟨g, j, none⟩ u) (some g) :=
 ⟨h.os, h.tape, h.output, by simpa [World.setCell] using h.size, fun k hk hr => (Below.heap_setCell _ _ _ _ (fun he => hr (by rw [he]))).trans (h.block k hk hr)⟩
theorem del_end {p : S38 → Bool} {l xs : List S38} {i j : Nat} (h : Avv p l i j xs) (hj : l.length ≤ j) : xs.take i = l.filter (fun x => !p x) := by
 rw [h.1, List.take_of_length_le hj]
theorem Ajt {g : Nat} {t : TypeId} : ∀ (vs : List Value) (o : Nat) (w : World) (cur : Array Value), w.heap[g]? = some (.cells cur t (0, 0)) →
 ∃ cur', (w.setCells g o vs).heap[g]? = some (.cells cur' t (0, 0)) ∧ cur'.size = cur.size ∧ cur'.toList.take o = cur.toList.take o ∧ w.grownBy (w.setCells g o vs) (some g)
 | [], o, w, cur, h => ⟨cur, h, rfl, rfl, ⟨rfl, rfl, rfl, Nat.le_refl _, fun _ _ _ => rfl⟩⟩
 | v :: vs, o, w, cur, h => by
   obtain ⟨cur', h1, h2, h3, h4⟩ := Ajt vs (o + 1) (w.setCell ⟨g, o, none⟩ v) (cur.setIfInBounds o v) (Axb h o v)
   refine ⟨cur', h1, by rw [h2]; simp, ?_, ?_⟩
   · have := congrArg (List.take o) h3
     rw [List.take_take, List.take_take, Nat.min_eq_left (by omega)] at this
     rw [this]
     simp [List.take_set_of_le]
   · have hg := grownBy.setCell_row (w := w) (w1 := w) (g := g) ⟨rfl, rfl, rfl, Nat.le_refl _, fun _ _ _ => rfl⟩ o v
     exact ⟨h4.os.trans hg.os, h4.tape.trans hg.tape, h4.output.trans hg.output, Nat.le_trans hg.size h4.size, fun k hk hr => (h4.block k (Nat.lt_of_lt_of_le hk hg.size) hr).trans (hg.block k hk hr)⟩
theorem Bqh {z : Array Value} {n : Nat} (h : ∀ u ∈ z, u.oneCell' = true) : ∀ u ∈ (Builtin.zeroCells z n).toList, u.oneCell' = true := by
 intro u hu
 simp only [Builtin.zeroCells, Array.toList_map, List.mem_map] at hu
 obtain ⟨i, hi, rfl⟩ := hu
 rcases Nat.eq_zero_or_pos z.size with h0 | h0
 · simp [h0] at hi
 · rw [getElem!_pos z (i % z.size) (Nat.mod_lt _ h0)]
   exact h _ (Array.getElem_mem _)
theorem Ajm {P : Program} {w : World} {ops : Array Oper} {rest : List Oper} {o : Oper} {a : Act} {Q : Exit → Act → World → Prop} (hgd : o.guard = none) (s : Operand) (t : TypeId)
 (ho : o.op = .call { callee := .builtin .clear, args := #[s], argTypes := #[t] }) {e : TypeId} {z : Value} (ht : P.underlying t = some (.slice e)) (hz : ∀ w, (zeroValue e).run P w = .ok z w) (h1 : ∀ u ∈ z.cells, u.oneCell' = true)
 (g off n c : Nat) (hs : a.eval s = .slice (some ⟨g, off, none⟩) n c) (hn : 0 < n) {cur : Array Value} {tt : TypeId} (hg : w.heap[g]? = some (.cells cur tt (0, 0))) (hfit : off + n * z.cells.size ≤ cur.size)
 (h : ∀ w' cur', w'.heap[g]? = some (.cells cur' tt (0, 0)) → cur'.size = cur.size → cur'.toList.take off = cur.toList.take off → w.grownBy w' (some g) → wpList P ops Q rest (a.put o.dst (.tuple #[])) w') : wpList P ops Q (o :: rest) a w := by
 refine wpList_plain hgd fun K hK => ?_
 have hst := run_storeCells_cells (P := P) g off (Builtin.zeroCells z.cells n).toList 0 w
  (by intro j hj; rw [Array.length_toList, size_zeroCells] at hj; rw [cell_of_row w g _ cur tt (0, 0) hg, Array.getElem?_eq_getElem (by omega)]; rfl)
  (by intro j _; exact Aq2 hg _) (Bqh h1)
 simp only [Nat.add_zero] at hst
 obtain ⟨cur', r1, r2, r3, r4⟩ := Ajt (Builtin.zeroCells z.cells n).toList off w cur hg
 obtain ⟨m, rfl⟩ : ∃ m, n = m + 1 := ⟨n - 1, by omega⟩
 have hrun : (Builtin.clear_ #[t] o.type #[.slice (some ⟨g, off, none⟩) (m + 1) c]).run P w = .ok (.tuple #[]) (w.setCells g off (Builtin.zeroCells z.cells (m + 1)).toList) := by
  simp [Builtin.clear_, run_underlying ht, hz, hst]
 unfold Oper.wp
 simp [execOp, ho, resolve, invoke, builtin, hs, hrun, Result.andThen]
 exact hK _ _ (h _ cur' r1 r2 r3 r4)
theorem zero38 (w : World) : (zeroValue 38).run Try.prog w = .ok (.agg #[.string ⟨#[]⟩, .slice none 0 0]) w := by kernel_rfl
theorem Bju (ok : Nat → Prop) (B : Nat) (name : ByteArray) (v : Value) (l : List S38) (w : World) (ho : O k38 38 w B ok v l) (hB : B ≤ w.heap.size) (hlen : l.length ≤ 1000001) :
 Calls Try.prog 62 #[v, .func (.func 63) #[.string name] #[]] w fun e w' => ∃ v', e = .returned v' ∧ O k38 38 w' B ok v' (l.filter fun x => !Ax8 name x) ∧ w.grownBy w' v.ownBlock ∧ v'.ownBlock = v.ownBlock := by
 have HO := Bvh ho
 have hV := O_V ho
 obtain ⟨A, c, rfl⟩ := Az1 ho
 have hC := (Kd.V_reads' hV).2.2
 have hIdx := Avu name A c l w hC
 clear hV ho
 rcases hfi : l.findIdx? (Ax8 name) with _ | i0
 · have hid : Akb (Ax8 name) l = -1 := by unfold Akb; rw [hfi]
   have hfl : (l.filter fun x => !Ax8 name x) = l := by
    rw [List.filter_eq_self]
    intro x hx
    have := List.findIdx?_eq_none_iff.1 hfi x hx
    simp [this]
   rw [hid] at hIdx
   have HF := Bvh hfl
   clear hid hfl hfi hC
   go_enter Try.func62, Try.ntmps62
   go_wp2_with (go_at_call 58; refine hIdx.mono ?_; rintro e w1 ⟨rfl, hb⟩; have HB := Bvh hb; clear hb)
   go_ret
   exact ⟨_, rfl, by rw [HF.out]; exact Azp HO.out HB.out, Az9 HB.out _, rfl⟩
 · have hid : Akb (Ax8 name) l = (i0 : Int) := by unfold Akb; rw [hfi]
   rw [hid] at hIdx
   obtain ⟨hi0, hp0, hn0⟩ := List.findIdx?_eq_some_iff_getElem.1 hfi
   clear hid hfi hC
   obtain ⟨g, cap, cur0, he, hg, hgs, _, h30, h40, _, _⟩ := Aj6 HO.out (by omega)
   injection he with he1 _ he3
   subst he1 he3
   have HN := Bvh hn0
   have HP0 := Bvh hp0
   clear hn0 hp0
   have hne : ((i0 : Int) == -1) = false := by simp
   go_enter Try.func62, Try.ntmps62
   go_wp2_with (go_at_call 58; refine hIdx.mono ?_; rintro e w1 ⟨rfl, hb⟩; have HB := Bvh hb; clear hb)
   have hstart := Bvh (Bv4 HP0.out HN.out hi0)
   clear hne
   go_loopg [5, 6] l.length (fun kq v5 v6 w' => ∃ (i j : Nat) (xs : List S38), v5 = .int .i64 i ∧ v6 = .int .i64 j ∧ l.length < j + kq ∧ i < j ∧ j ≤ l.length ∧ xs.length = l.length ∧ Aside0 (Avv (Ax8 name) l i j xs) ∧ Aside0 (O k38 38 w' B ok (.slice (some ⟨g, 0, none⟩) l.length c) xs) ∧ Aside0 (w.grownBy w' (some g)) ∧ Aside0 (B ≤ w'.heap.size))
   case atStart => exact ⟨i0, i0 + 1, l, rfl, by go_num, by omega, by omega, by omega, rfl, hstart, ⟨Azp HO.out HB.out⟩, ⟨Az9 HB.out _⟩, ⟨Nat.le_trans hB HB.out.size⟩⟩
   case round =>
    obtain ⟨i, j, xs, rfl, rfl, hjk, hij, hjl, hxl, HI, HO1, HG, HBs⟩ := hrel
    by_cases hlt : j < l.length
    · obtain ⟨A1, c1, hx0, hx1, hfk⟩ := O_at38 HO1.out j (by omega)
      obtain ⟨A2, c2, hy0, hy1, _⟩ := O_at38 HO1.out i (by omega)
      have HX := Bvh (del_at HI.out hlt)
      obtain ⟨x, hxe⟩ : ∃ x, xs.getD j z38 = x := ⟨_, rfl⟩
      obtain ⟨y, hye⟩ : ∃ y, xs.getD i z38 = y := ⟨_, rfl⟩
      rw [hxe] at hx0 hx1 hfk HX
      rw [hye] at hy0 hy1
      clear hxe hye
      obtain ⟨k1, rfl⟩ : ∃ k1, gk = k1 + 1 := ⟨gk - 1, by omega⟩
      obtain ⟨cur, hh⟩ := Ak6 HO1.out
      have hfz : ∀ k, wr.frozen? ⟨g, k, none⟩ = false := Aq2 hh
      have HH := Bvh hh
      have HFK := Bvh hfk
      clear hh hfk
      cases hp : Ax8 name x
      · have hp' : (x.f0.toList == name.toList) = false := hp
        have HP := Bvh hp
        clear hp
        go_wp2_with (go_at_call 63; refine (Aw0 name _ _ _).mono ?_; rintro e w2 ⟨rfl, hb⟩; rw [hp']; have hz0 := Aqd hb (Axw hy0); have hz1 := Aqd hb (Axw hy1); have hb0 := Aqd hb (Ajf wr _ 38 0 _ rfl); have hb1 := Aqd hb (Ajf wr _ 38 1 _ rfl); have hh2 := Aqn hb (Aqe HH.out _); have hf0 := Aq2 hh2 (i * 2); have hf1 := Aq2 hh2 (i * 2 + 1); have HB2 := Bvh hb; have HH2 := Bvh hh2; clear hb hh2 hy0 hy1 hx0 hx1 hfz hp')
        go_roundg k1
        case measure => omega
        case rel =>
         have hb' : Below wr.heap.size wr w2 := Aq1 (Aq4 (Below.refl _ _) _) HB2.out
         have hgr : g < wr.heap.size := Ax7 HH.out
         have hbig : (i + 1) * 2 ≤ cur.size := by
          obtain ⟨g', cap', cur', he, _, _, hh', h3, _, h5, _⟩ := Aj6 HO1.out (by omega)
          injection he with he1 he2 he3
          injection he1 with he1
          injection he1 with he1
          subst he1
          rw [HH.out] at hh'
          injection hh' with hh'
          injection hh' with hh'
          subst hh'
          rw [h5]
          exact Nat.mul_le_mul_right 2 (by omega)
         refine ⟨i + 1, j + 1, xs.set i x, by go_num, by go_num, by omega, by omega, by omega, by rw [List.length_set]; exact hxl, ⟨?_⟩, ⟨?_⟩, ⟨?_⟩, ⟨?_⟩⟩
         · rw [HX.out]
           exact del_keep HI.out hij hlt hxl (by rw [← HX.out]; exact HP.out)
         · refine O_set (Azp HO1.out hb') i (by omega) x _ cur HH2.out (Kd.FK_below HFK.out hb') ?_ ?_
           · have := Axb (Axb HH2.out (i * 2) (.string x.f0)) (i * 2 + 1) (.slice A1 x.f1.length c1)
             rw [set2 _ _ _ _ (by omega)] at this
             exact this
           · intro k _ hk
             rw [Below.heap_setCell _ _ _ _ hk, Below.heap_setCell _ _ _ _ hk]
         · exact grownBy.setCell_row (grownBy.setCell_row (grownBy.trans_below HG.out hb') _ _) _ _
         · have := HBs.out; have := hb'.size; simp only [World.setCell, Array.size_modify]; omega
      · have hp' : (x.f0.toList == name.toList) = true := hp
        have HP := Bvh hp
        clear hp
        go_wp2_with (go_at_call 63; refine (Aw0 name _ _ _).mono ?_; rintro e w2 ⟨rfl, hb⟩; rw [hp']; have HB2 := Bvh hb; clear hb hy0 hy1 hx0 hx1 hfz hp')
        go_roundg k1
        case measure => omega
        case rel =>
         have hb' : Below wr.heap.size wr w2 := Aq1 (Aq4 (Below.refl _ _) _) HB2.out
         exact ⟨i, j + 1, xs, rfl, by go_num, by omega, by omega, by omega, hxl, ⟨del_skip HI.out hlt (by rw [← HX.out]; exact HP.out)⟩, ⟨Azp HO1.out hb'⟩, ⟨grownBy.trans_below HG.out hb'⟩, ⟨Nat.le_trans HBs.out hb'.size⟩⟩
    · have hge : l.length ≤ j := by omega
      clear hlt
      obtain ⟨cur, hh⟩ := Ak6 HO1.out
      have HH := Bvh hh
      clear hh
      have hci : (c == i) = false := by simp; omega
      have hfit : i * 2 + (l.length - i) * 2 ≤ cur.size := by
       obtain ⟨g', cap', cur', he, _, _, hh', h3, _, h5, _⟩ := Aj6 HO1.out (by omega)
       injection he with he1 he2 he3
       injection he1 with he1
       injection he1 with he1
       subst he1
       rw [HH.out] at hh'
       injection hh' with hh'
       injection hh' with hh'
       subst hh'
       rw [h5, show k38.sz = 2 from rfl]
       omega
      have HFIT := Bvh hfit
      clear hfit
      go_wp2_with (refine Ajm rfl (.tmp 38) 22 rfl Try.underlying22 zero38 (by intro u hu; simp [Value.cells] at hu; rcases hu with rfl | rfl <;> rfl) g (i * 2) (l.length - i) (c - i) rfl (by omega) HH.out (by have := HFIT.out; simpa [Value.cells] using this) ?_; intro w2 cur2 h1 h2 h3 h4; have K1 := Bvh h1; have K2 := Bvh h2; have K3 := Bvh h3; have K4 := Bvh h4; clear h1 h2 h3 h4)
      go_ret
      have hfl := del_end HI.out hge
      refine ⟨_, rfl, ?_, ⟨K4.out.os.trans HG.out.os, K4.out.tape.trans HG.out.tape, K4.out.output.trans HG.out.output, Nat.le_trans HG.out.size K4.out.size, fun k hk hr => (K4.out.block k (Nat.lt_of_lt_of_le hk HG.out.size) hr).trans (HG.out.block k hk hr)⟩, rfl⟩
      rw [← hfl]
      obtain ⟨g', cap', cur', he, hg', _, hh', h3, h4, h5, hr⟩ := Aj6 HO1.out (by omega)
      injection he with he1 he2 he3
      injection he1 with he1
      injection he1 with he1
      subst he1 he3
      rw [HH.out] at hh'
      injection hh' with hh'
      injection hh' with hh'
      subst hh'
      have hl2 : (xs.take i).length = i := by rw [List.length_take]; omega
      have := O_mk (d := k38) (ok := ok) (xs := xs.take i) (cap := c) hg' K1.out (by omega) h4 (by rw [K2.out]; exact h5) (by
       have hr2 := (Kd.reps_take hr (m := i) (by omega)).imp_ (R' := fun x c => Kd.FK k38 w2 (fun k => ok k ∧ k ≠ g) x c) fun y c hy => Kd.FK_grown hy K4.out fun k hk he => hk.2 (by injection he)
       rw [List.take_take, Nat.min_eq_left (Nat.mul_le_mul_right _ (by omega))] at hr2
       rw [hl2, show i * k38.sz = i * 2 from rfl, K3.out]
       exact hr2)
      rw [hl2] at this
      exact this
end
section
theorem Ajg {P : Program} (w : World) (dT sT ty elem : TypeId) (g off dLen dCap : Nat) (a : Addr) (sLen sCap sz : Nat) (cur : Array Value) (t : TypeId) (cs : List Value)
 (hu : P.underlying dT = some (.slice elem)) (hs : (P.info? elem).map (·.size) = some sz)
 (hg : w.heap[g]? = some (.cells cur t (0, 0))) (hn : cs.length = Nat.min sLen dLen * sz)
 (hsrc : ∀ j v, cs[j]? = some v → w.cell? (a.add j) = some v) (hfit : off + cs.length ≤ cur.size) (h1 : ∀ v ∈ cs, v.oneCell' = true) :
 (Builtin.copy_ #[dT, sT] ty #[.slice (some ⟨g, off, none⟩) dLen dCap, .slice (some a) sLen sCap]).run P w =
   .ok (goInt (Nat.min sLen dLen)) (w.setRow g (cur.toList.take off ++ cs ++ cur.toList.drop (off + cs.length)).toArray) := by
 have hl := run_loadCells_list (P := P) w a cs hsrc
 have hst := run_storeCells_at P g off t cs 0 cur w hg (by simpa using hfit) h1
 cases hq : P.info? elem with
 | none => simp [hq] at hs
 | some i =>
   have hi : i.size = sz := by simpa [hq] using hs
   simp [Builtin.copy_, run_underlying hu, Builtin.lenOf, Builtin.firstCells, sizeOf, typeInfo, hq, hi, ← hn, hl, hst]
theorem Aqu {P : Program} (w : World) {ops : Array Oper} {rest : List Oper} {o : Oper} {a : Act} {Q : Exit → Act → World → Prop} (hgd : o.guard = none) (d s : Operand) (t t' : TypeId)
 (ho : o.op = .call { callee := .builtin .copy, args := #[d, s], argTypes := #[t, t'] }) (v u : Value) (hd : a.eval d = v) (hs : a.eval s = u) {v' : Value} {w' : World}
 (hr : (Builtin.copy_ #[t, t'] o.type #[v, u]).run P w = .ok v' w') (h : wpList P ops Q rest (a.put o.dst v') w') : wpList P ops Q (o :: rest) a w :=
 wpList_plain hgd fun K hK => by
  unfold Oper.wp execOp
  simp only [ho, resolve, invoke, builtin, Sem.run_bind, Sem.run_pure, Result.andThen_ok, List.map_toArray, List.map_cons, List.map_nil, hd, hs, hr]
  exact hK _ _ h
theorem Av5 {P : Program} {ops : Array Oper} {o : Oper} {a : Act} {w : World} {K : Act → World → Prop} {Q : Exit → Act → World → Prop} {E : Prop}
 (hg : o.guard = none) (d x : Operand) (dT sT : TypeId) (hop : o.op = Op.call { callee := Callee.builtin Builtin.copy, args := #[d, x], argTypes := #[dT, sT] })
 (v u : Value) (hd : a.eval d = v) (hx : a.eval x = u) {v' : Value} {w' : World} (hr : (Builtin.copy_ #[dT, sT] o.type #[v, u]).run P w = .ok v' w') (hK : K (a.put o.dst v') w') :
 if Region.wanted o (yielded ops a.tmps) = true then Oper.wp P o a w K Q else E := by
 have hw : Region.wanted o (yielded ops a.tmps) = true := by simp [Region.wanted, hg]
 rw [if_pos hw]
 unfold Oper.wp
 simp [execOp, hop, resolve, invoke, builtin, hd, hx, hr, Result.andThen]
 exact hK
theorem O_put {α : Type} {R : α → List Value → Prop} {size : Nat} {xs : List α} {inner seg : List Value} {x : α} (h : Reps R size xs inner) (hx : R x seg) (hl : seg.length = size) : Reps R size (xs ++ [x]) (inner ++ seg) := h.snoc hx hl
theorem Ajx {α : Type} {d : Kd α} {w w1 : World} {ok : Nat → Prop} {v v1 : Value} {x : α} {c : List Value} (h : Kd.FK d w (fun k => ok k ∧ some k ≠ v.ownBlock) x c) (hg : w.grownBy w1 v.ownBlock) (hat : v1.ownBlock = v.ownBlock ∨ v1.ownBlock = some w.heap.size) :
 Kd.FK d w1 (fun k => ok k ∧ some k ≠ v1.ownBlock) x c := by
 refine Kd.FK_mono (Kd.FK_step (Kd.FK_bound h) fun k hk hlt => hg.block k hlt hk.1.2) fun k hk => ⟨hk.1.1, ?_⟩
 rcases hat with hat | hat
 · rw [hat]; exact hk.1.2
 · rw [hat]; intro he; injection he with he; have := hk.2; omega
theorem Bzk : (Try.prog.info? 38).map (·.size) = some 2 := by kernel_rfl
theorem sizeOf38 (w : World) : (Go.sizeOf 38).run Try.prog w = .ok 2 w := by kernel_rfl
theorem Bza (ok : Nat → Prop) (B : Nat) (v : Value) (xs : List S38) (hb : Nat) (x : S38) (seg : List Value) (w : World) (ho : O k38 38 w B ok v xs) (hlen : xs.length ≤ 1000001) (hB : B ≤ w.heap.size)
 (hv : w.heap[hb]? = some (.cells seg.toArray 38 (0, 0))) (hx : Kd.FK k38 w (fun k => ok k ∧ some k ≠ v.ownBlock) x seg) :
 Calls Try.prog 60 #[v, .int .i64 xs.length, .slice (some ⟨hb, 0, none⟩) 1 1] w fun e w' => ∃ v', e = .returned v' ∧ O k38 38 w' B ok v' (xs ++ [x]) ∧ w.grownBy w' v.ownBlock := by
 obtain ⟨inner, hown, hr⟩ := ho
 obtain ⟨A, c, rfl⟩ := Awe hown
 obtain ⟨i0, hi, hz0, hz1, hz2⟩ := info_parts Aki
 have HI := Bvh hi
 have HZ0 := Bvh hz0
 have HZ1 := Bvh hz1
 have HZ2 := Bvh hz2
 have HO := Bvh hown
 have HR := Bvh hr
 have HX := Bvh hx
 have HV := Bvh hv
 have hsl := (Ajs hx).1
 have HSL := Bvh hsl
 have H1 := Bvh (Ajs hx).2
 clear hi hz0 hz1 hz2 hown hr hx hv hsl
 have hce : ∀ j u, seg[j]? = some u → w.cell? ((⟨hb, 0, none⟩ : Addr).add j) = some u := by
  intro j u hu; rw [Ajr, cell_of_row _ _ _ _ _ _ HV.out]; simpa using hu
 have HCE := Bvh hce
 clear hce
 by_cases hc : c = xs.length
 · subst hc
   go_enter Try.func60, Try.ntmps60
   go_wp2_with (at_builtin; refine wpList_append_own_at _ rfl _ _ 22 rfl B 38 i0 _ 2 40 Try.underlying22 HI.out HZ0.out HZ1.out HZ2.out rfl (by decide) _ xs.length inner rfl HO.out ⟨hb, 0, none⟩ 1 1 seg rfl (by rw [HSL.out]; rfl) HCE.out H1.out (by unfold maxLen; omega) (by omega) hB ?_; intro v' w1 h1 h2 _ h4; have K1 : Aside0 (w1.ownsRow B 38 2 v' (xs.length + 1) (inner ++ seg)) := Bvh h1; have K2 : Aside0 (w.grownBy w1 (Value.slice A xs.length xs.length).ownBlock) := Bvh h2; have K4 : Aside0 (v'.ownBlock = (Value.slice A xs.length xs.length).ownBlock ∨ v'.ownBlock = some w.heap.size) := Bvh h4; clear h1 h2 h4)
   go_ret
   refine ⟨_, rfl, ⟨inner ++ seg, by rw [List.length_append]; exact K1.out, ?_⟩, K2.out⟩
   refine O_put (HR.out.imp_ fun y c' hy => ?_) ?_ HSL.out
   · exact Ajx hy K2.out K4.out
   · exact Ajx HX.out K2.out K4.out
 · have hc' : (c == xs.length) = false := by simpa using hc
   go_enter Try.func60, Try.ntmps60
   go_wp2_with (at_builtin; refine wpList_append_own_at _ rfl _ _ 22 rfl B 38 i0 _ 2 40 Try.underlying22 HI.out HZ0.out HZ1.out HZ2.out rfl (by decide) _ xs.length inner rfl HO.out ⟨hb, 0, none⟩ 1 1 seg rfl (by rw [HSL.out]; rfl) HCE.out H1.out (by unfold maxLen; omega) (by omega) hB ?_; intro v' w1 h1 h2 _ h4; have K1 : Aside0 (w1.ownsRow B 38 2 v' (xs.length + 1) (inner ++ seg)) := Bvh h1; have K2 : Aside0 (w.grownBy w1 (Value.slice A xs.length c).ownBlock) := Bvh h2; have K4 : Aside0 (v'.ownBlock = (Value.slice A xs.length c).ownBlock ∨ v'.ownBlock = some w.heap.size) := Bvh h4; clear h1 h2 h4)
   go_ret
   refine ⟨_, rfl, ⟨inner ++ seg, by rw [List.length_append]; exact K1.out, ?_⟩, K2.out⟩
   refine O_put (HR.out.imp_ fun y c' hy => ?_) ?_ HSL.out
   · exact Ajx hy K2.out K4.out
   · exact Ajx HX.out K2.out K4.out
theorem splice2 {β : Type} (L seg cs : List β) {a T : Nat} (hT : a + seg.length + cs.length = T) (hL : T ≤ L.length) :
 ((L.take a ++ seg ++ L.drop (a + seg.length)).take (a + seg.length) ++ cs ++ (L.take a ++ seg ++ L.drop (a + seg.length)).drop (a + seg.length + cs.length)).take T = L.take a ++ seg ++ cs := by
 have h1 : (L.take a ++ seg).length = a + seg.length := by rw [List.length_append, List.length_take]; omega
 have h4 : (L.take a ++ seg ++ L.drop (a + seg.length)).take (a + seg.length) = L.take a ++ seg := List.take_left' h1
 rw [h4, List.take_append_of_le_length (by simp only [List.length_append, List.length_take]; omega), List.take_of_length_le (by simp only [List.length_append, List.length_take]; omega)]
theorem splice3 {β : Type} (L seg cs : List β) {a T : Nat} (hT : a + seg.length + cs.length = T) (hL : T ≤ L.length) :
 ((L.take (a + seg.length) ++ cs ++ L.drop (a + seg.length + cs.length)).take a ++ seg ++ (L.take (a + seg.length) ++ cs ++ L.drop (a + seg.length + cs.length)).drop (a + seg.length)).take T = L.take a ++ seg ++ cs := by
 have h1 : (L.take (a + seg.length)).length = a + seg.length := by rw [List.length_take]; omega
 have h2 : (L.take (a + seg.length) ++ cs ++ L.drop (a + seg.length + cs.length)).take a = L.take a := by
  rw [List.append_assoc, List.take_append_of_le_length (by omega), List.take_take, Nat.min_eq_left (by omega)]
 have h3 : (L.take (a + seg.length) ++ cs ++ L.drop (a + seg.length + cs.length)).drop (a + seg.length) = cs ++ L.drop (a + seg.length + cs.length) := by
  rw [List.append_assoc, List.drop_left' h1]
 rw [h2, h3, ← List.append_assoc, List.take_append_of_le_length (by simp only [List.length_append, List.length_take]; omega), List.take_of_length_le (by simp only [List.length_append, List.length_take]; omega)]
theorem Aw9 {α : Type} {R : α → List Value → Prop} {size : Nat} {xs : List α} {inner seg : List Value} {x : α} (h : Reps R size xs inner) (hx : R x seg) (hl : seg.length = size) (i : Nat) (hi : i ≤ xs.length) :
 Reps R size (xs.take i ++ x :: xs.drop i) (inner.take (i * size) ++ seg ++ inner.drop (i * size)) := by
 have h1 := (Kd.reps_take h hi).snoc hx hl
 have h2 := Kd.reps_append h1 (Kd.reps_drop (m := i) h)
 rwa [List.append_assoc, List.singleton_append] at h2
theorem Bz2 (w : World) (hb g off la ca lb cb : Nat) (hne : hb ≠ g) (c1 c2 : Array Value) (h1 : w.heap[hb]? = some (.cells c1 38 (0, 0))) (h2 : w.heap[g]? = some (.cells c2 38 (0, 0))) (h0 : c2.size ≠ 0) :
 (callFunc 88 #[.slice (some ⟨hb, 0, none⟩) la ca, .slice (some ⟨g, off, none⟩) lb cb]).run Try.prog w = .ok (.value (.bool false)) w := by
 rw [run_callFunc_extern Try.func88 (by kernel_rfl) (by kernel_rfl) (by kernel_rfl) (e := Extern.SlicesOverlaps.overlaps #[22, 22] #[4]) (by kernel_rfl),
  Lib.run_overlaps_apart w 22 4 38 Try.underlying22 2 sizeOf38 ⟨hb, 0, none⟩ ⟨g, off, none⟩ la ca lb cb hne 38 38 c1.size c2.size (by simp [World.shape?, h1]) (by simp [World.shape?, h2]) h0 (Aq2 h1 _) (Aq2 h1 _)]
 rfl
theorem Bx9 (ok : Nat → Prop) (B : Nat) (g c i : Nat) (xs : List S38) (hb : Nat) (x : S38) (seg : List Value) (w : World) (ho : O k38 38 w B ok (.slice (some ⟨g, 0, none⟩) xs.length c) xs) (hlen : xs.length ≤ 1000001) (hi : i < xs.length) (hroom : xs.length < c)
 (hv : w.heap[hb]? = some (.cells seg.toArray 38 (0, 0))) (hne : hb ≠ g) (hx : Kd.FK k38 w (fun k => ok k ∧ k ≠ g) x seg) :
 Calls Try.prog 60 #[.slice (some ⟨g, 0, none⟩) xs.length c, .int .i64 i, .slice (some ⟨hb, 0, none⟩) 1 1] w fun e w' => ∃ v', e = .returned v' ∧ O k38 38 w' B ok v' (xs.take i ++ x :: xs.drop i) ∧ w.grownBy w' (some g) := by
 obtain ⟨g', cap', cur, he, hg, _, hh, h3, h4, h5, hr⟩ := Aj6 ho (by omega)
 injection he with he1 _ he3
 injection he1 with he1
 injection he1 with he1
 subst he1 he3
 have h6 : cur.size = c * 2 := h5
 have h7 : seg.length = 2 := (Ajs hx).1
 have hcl : cur.toList.length = c * 2 := by rw [← h6]; simp
 have hinl : (cur.toList.take (xs.length * 2)).length = xs.length * 2 := by rw [List.length_take, hcl]; omega
 have hcz : cur.size ≠ 0 := by rw [h6]; omega
 have hone := Kd.reps_one hr (by decide) (fun _ _ hx => (Ajs hx).2)
 obtain ⟨cs, hcs⟩ : ∃ cs, (cur.toList.take (xs.length * 2)).drop (i * 2) = cs := ⟨_, rfl⟩
 have hcsl : cs.length = (xs.length - i) * 2 := by rw [← hcs, List.length_drop, hinl]; omega
 have hcs1 : ∀ v ∈ cs, v.oneCell' = true := fun v hv => by rw [← hcs] at hv; exact hone v (List.mem_of_mem_drop hv)
 have hsrc : ∀ j v, cs[j]? = some v → w.drew.cell? ((⟨g, i * 2, none⟩ : Addr).add j) = some v := by
  intro j v hj
  rw [Addr.add_lit]
  show w.cell? _ = _
  rw [cell_of_row w g _ cur 38 (0, 0) hh]
  rw [← hcs, List.getElem?_drop, List.getElem?_take] at hj
  split at hj
  · simpa using hj
  · cases hj
 have hov := fun lb cb => Bz2 w hb g ((i + 1) * 2) 1 1 lb cb hne seg.toArray cur hv hh hcz
 have hcp1 : ∀ ty dc sc, (Builtin.copy_ #[22, 22] ty #[.slice (some ⟨g, (i + 1) * 2, none⟩) (xs.length - i) dc, .slice (some ⟨g, i * 2, none⟩) (xs.length + 1 - i) sc]).run Try.prog w.drew = .ok (goInt (Nat.min (xs.length + 1 - i) (xs.length - i))) (w.drew.setRow g (cur.toList.take ((i + 1) * 2) ++ cs ++ cur.toList.drop ((i + 1) * 2 + cs.length)).toArray) := fun ty dc sc =>
  Ajg w.drew 22 22 ty 38 g ((i + 1) * 2) _ dc ⟨g, i * 2, none⟩ _ sc 2 cur 38 cs Try.underlying22 Bzk hh (by rw [hcsl, show Nat.min (xs.length + 1 - i) (xs.length - i) = xs.length - i by simp only [Nat.min_def]; split <;> omega]) hsrc (by omega) hcs1
 obtain ⟨W1, hW1⟩ : ∃ W1, w.drew.setRow g (cur.toList.take ((i + 1) * 2) ++ cs ++ cur.toList.drop ((i + 1) * 2 + cs.length)).toArray = W1 := ⟨_, rfl⟩
 rw [hW1] at hcp1
 have hW1h : W1.heap[g]? = some (.cells (cur.toList.take ((i + 1) * 2) ++ cs ++ cur.toList.drop ((i + 1) * 2 + cs.length)).toArray 38 (0, 0)) := by rw [← hW1]; exact setRow_heap _ _ _ _ _ _ hh
 have hW1b : W1.heap[hb]? = some (.cells seg.toArray 38 (0, 0)) := by rw [← hW1, setRow_other _ _ _ _ hne]; exact hv
 have hcp2 : ∀ ty dc, (Builtin.copy_ #[22, 22] ty #[.slice (some ⟨g, i * 2, none⟩) (xs.length + 1 - i) dc, .slice (some ⟨hb, 0, none⟩) 1 1]).run Try.prog W1 = .ok (goInt (Nat.min 1 (xs.length + 1 - i))) (W1.setRow g ((cur.toList.take ((i + 1) * 2) ++ cs ++ cur.toList.drop ((i + 1) * 2 + cs.length)).take (i * 2) ++ seg ++ (cur.toList.take ((i + 1) * 2) ++ cs ++ cur.toList.drop ((i + 1) * 2 + cs.length)).drop (i * 2 + seg.length)).toArray) := fun ty dc => by
  have := Ajg W1 22 22 ty 38 g (i * 2) (xs.length + 1 - i) dc ⟨hb, 0, none⟩ 1 1 2 _ 38 seg Try.underlying22 Bzk hW1h (by rw [h7, show Nat.min 1 (xs.length + 1 - i) = 1 by simp only [Nat.min_def]; split <;> omega]) (fun j u hu => by rw [Ajr, cell_of_row _ _ _ _ _ _ hW1b]; simpa using hu) (by simp only [List.size_toArray, List.length_append, List.length_take, List.length_drop, hcl, hcsl]; omega) (Ajs hx).2
  simpa only [List.toList_toArray] using this
 have hWd : ∀ k, k ≠ g → W1.heap[k]? = w.heap[k]? := fun k hk => by rw [← hW1, setRow_other _ _ _ _ hk]; rfl
 have hW1s : W1.heap.size = w.heap.size := by rw [← hW1, setRow_size]; rfl
 have hWo : W1.os = w.os ∧ W1.tape = w.tape ∧ W1.output = w.output := by rw [← hW1]; exact ⟨rfl, rfl, rfl⟩
 have HA := Bvh (And.intro hW1h (And.intro hWd (And.intro hW1s hWo)))
 have HR := Bvh hr
 have HX := Bvh hx
 have HS := Bvh (And.intro hcs (And.intro hcsl (And.intro h6 h7)))
 have HC4 := Bvh h4
 clear hW1 hW1h hW1b hWd hW1s hWo hr hx hcs hcsl h6 h7 hsrc hcs1 hone hinl h5 hh hv ho h4
 have e1 : ¬ (c = i + 1) := by omega
 have e2 : ¬ (c = i) := by omega
 go_enter Try.func60, Try.ntmps60
 go_wp2_with (simp only [hov])
 have hw1 : IntKind.i64.wrap ((i : Int) + 1) = (i : Int) + 1 := by rw [IntKind.wrap_i64]; omega
 have hb1 : (0 : Int) ≤ (i : Int) + 1 := by omega
 have htn : ((i : Int) + 1).toNat = i + 1 := by omega
 have hb3 : (i : Int) ≤ (xs.length : Int) + 1 := by omega
 have hin : i ≤ xs.length := by omega
 go_region_law (refine Av5 rfl _ _ 22 22 rfl _ _ (by simp [Act.eval, Act.put]) (by simp [Act.eval, Act.put]) (hcp1 _ _ _) ?_)
 clear hw1 hb1 htn hb3 hin
 go_wp2_with (refine Aqu _ rfl _ _ 22 22 rfl _ _ rfl rfl (hcp2 _ _) ?_)
 go_ret
 obtain ⟨hW1h, hWd, hW1s, hW1o, hW1t, hW1u⟩ := HA.out
 obtain ⟨hcs, hcsl, h6, h7⟩ := HS.out
 have hcl : cur.toList.length = c * 2 := by rw [← h6]; simp
 have hle : (xs.take i ++ x :: xs.drop i).length = xs.length + 1 := by simp only [List.length_append, List.length_take, List.length_cons, List.length_drop]; omega
 have hf := setRow_heap W1 g _ ((cur.toList.take ((i + 1) * 2) ++ cs ++ cur.toList.drop ((i + 1) * 2 + cs.length)).take (i * 2) ++ seg ++ (cur.toList.take ((i + 1) * 2) ++ cs ++ cur.toList.drop ((i + 1) * 2 + cs.length)).drop (i * 2 + seg.length)).toArray 38 (0, 0) hW1h
 refine ⟨_, rfl, ?_, ?_⟩
 · have := O_mk (d := k38) (ok := ok) (xs := xs.take i ++ x :: xs.drop i) (cap := c) hg hf (by omega) HC4.out (by
    rw [show k38.sz = 2 from rfl]
    simp only [List.size_toArray, List.length_append, List.length_take, List.length_drop, hcl, hcsl, h7]
    omega) (by
    have e3 : (i + 1) * 2 = i * 2 + seg.length := by omega
    have h8 := splice3 cur.toList seg cs (a := i * 2) (T := (xs.length + 1) * 2) (by omega) (by omega)
    rw [hle, show (xs.length + 1) * k38.sz = (xs.length + 1) * 2 from rfl, List.toList_toArray, e3, h8]
    have h9 := Aw9 HR.out HX.out h7 i (by omega)
    rw [show i * k38.sz = i * 2 from rfl, show xs.length * k38.sz = xs.length * 2 from rfl, hcs, List.take_take, Nat.min_eq_left (by omega)] at h9
    exact h9.imp_ fun y c' hy => Kd.FK_step hy fun k hk _ => by rw [setRow_other _ _ _ _ hk.2]; exact hWd k hk.2)
   rw [hle] at this
   simp only [List.append_assoc] at this
   exact this
 · exact ⟨hW1o, hW1t, hW1u, by rw [setRow_size, hW1s]; exact Nat.le_refl _, fun k _ hk => by rw [setRow_other _ _ _ _ (fun e => hk (by rw [e]))]; exact hWd k (fun e => hk (by rw [e]))⟩
end
section
theorem Bxa (ok : Nat → Prop) (B : Nat) (g c i : Nat) (xs : List S38) (hb : Nat) (x : S38) (seg : List Value) (w : World) (ho : O k38 38 w B ok (.slice (some ⟨g, 0, none⟩) xs.length c) xs) (hlen : xs.length ≤ 1000001) (hi : i < xs.length) (hroom : c ≤ xs.length) (hB : B ≤ w.heap.size)
 (hv : w.heap[hb]? = some (.cells seg.toArray 38 (0, 0))) (hx : Kd.FK k38 w (fun k => ok k ∧ k ≠ g) x seg) :
 Calls Try.prog 60 #[.slice (some ⟨g, 0, none⟩) xs.length c, .int .i64 i, .slice (some ⟨hb, 0, none⟩) 1 1] w fun e w' => ∃ v', e = .returned v' ∧ O k38 38 w' B ok v' (xs.take i ++ x :: xs.drop i) ∧ w.grownBy w' (some g) := by
 obtain ⟨g', cap', cur, he, hg, hgs, hh, h3, h4, h5, hr⟩ := Aj6 ho (by omega)
 injection he with he1 _ he3
 injection he1 with he1
 injection he1 with he1
 subst he1 he3
 have h6 : cur.size = c * 2 := h5
 have h7 : seg.length = 2 := (Ajs hx).1
 have hcl : cur.toList.length = c * 2 := by rw [← h6]; simp
 have hinl : (cur.toList.take (xs.length * 2)).length = xs.length * 2 := by rw [List.length_take, hcl]; omega
 have hone := Kd.reps_one hr (by decide) (fun _ _ hx => (Ajs hx).2)
 obtain ⟨cs, hcs⟩ : ∃ cs, (cur.toList.take (xs.length * 2)).drop (i * 2) = cs := ⟨_, rfl⟩
 have hcsl : cs.length = (xs.length - i) * 2 := by rw [← hcs, List.length_drop, hinl]; omega
 have hcs1 : ∀ v ∈ cs, v.oneCell' = true := fun v hv => by rw [← hcs] at hv; exact hone v (List.mem_of_mem_drop hv)
 obtain ⟨i0, hi0, hz0, hz1, hz2⟩ := info_parts Aki
 have hold : (Builtin.firstCells i0.size i (.slice (some ⟨g, 0, none⟩) i c)).run Try.prog w.drew = .ok (cur.toList.take (i * 2)).toArray w.drew := by
  rw [hz1]
  refine run_firstCells_some (P := Try.prog) w.drew 2 i ⟨g, 0, none⟩ i c (cur.toList.take (i * 2)) (by rw [List.length_take, hcl]; omega) (fun j v hj => ?_)
  rw [Ajr]
  show w.cell? _ = _
  rw [cell_of_row w g _ cur 38 (0, 0) hh]
  rw [List.getElem?_take] at hj
  split at hj
  · simpa using hj
  · cases hj
 have hap0 := Lib.run_append_grow_zeros (P := Try.prog) w 22 3 22 38 i0 _ .i64 .i64 Try.underlying22 Try.underlying3 hi0 hz0 (some ⟨g, 0, none⟩) i c (cur.toList.take (i * 2)) hold (xs.length + 1 - i) (by omega) (by rw [hz1]; omega) (by omega) (by omega) (by rw [hz2]; omega) (growslice_fits (by omega) (by rw [hz2]; omega))
 have hk : i + (xs.length + 1 - i) = xs.length + 1 := by omega
 rw [hk, show ((xs.length + 1 - i : Nat) : Int) = (xs.length : Int) + 1 - (i : Int) by omega] at hap0
 obtain ⟨cap2, hcap2⟩ : ∃ cap2, grownCap w (xs.length + 1) c 38 = cap2 := ⟨_, rfl⟩
 have hge : xs.length + 1 ≤ cap2 := by rw [← hcap2]; exact grownCap_ge _ _ _ _
 have hcm : cap2 ≤ maxLen := by rw [← hcap2]; exact grownCap_le_maxLen _ _ _ _ (by unfold maxLen; omega)
 rw [hcap2] at hap0
 obtain ⟨C2, hC2⟩ : ∃ C2, (cur.toList.take (i * 2)).toArray ++ Builtin.zeroCells (Value.agg #[Value.string { data := #[] }, Value.slice none 0 0]).cells (xs.length + 1 - i) ++ Builtin.zeroCells (Value.agg #[Value.string { data := #[] }, Value.slice none 0 0]).cells (cap2 - (xs.length + 1)) = C2 := ⟨_, rfl⟩
 rw [hC2] at hap0
 have hC2s : C2.size = cap2 * 2 := by
  rw [← hC2]
  simp only [Array.size_append, List.size_toArray, List.length_take, hcl, size_zeroCells, Value.cells]
  simp
  omega
 have hC2t : C2.toList.take (i * 2) = cur.toList.take (i * 2) := by
  rw [← hC2]
  simp only [Array.toList_append, List.append_assoc]
  rw [List.take_append_of_le_length (by rw [List.length_take, hcl]; omega), List.take_take, Nat.min_self]
 clear hC2 hcap2 hold
 obtain ⟨w1, hw1⟩ : ∃ w1, w.drew.alloc (.cells C2 38) = w1 := ⟨_, rfl⟩
 rw [hw1] at hap0
 have hw1n : w1.heap[w.heap.size]? = some (.cells C2 38 (0, 0)) := by rw [← hw1]; exact heap_alloc_new w.drew _
 have hw1o : ∀ k, k < w.heap.size → w1.heap[k]? = w.heap[k]? := fun k hk => by rw [← hw1]; exact Below.heap_alloc w.drew _ k hk
 have hw1s : w1.heap.size = w.heap.size + 1 := by rw [← hw1]; simp
 have hw1x : w1.os = w.os ∧ w1.tape = w.tape ∧ w1.output = w.output := by rw [← hw1]; exact ⟨rfl, rfl, rfl⟩
 clear hw1
 have hbs : hb < w.heap.size := Ax7 hv
 obtain ⟨g2, hg2⟩ : ∃ g2, w.heap.size = g2 := ⟨_, rfl⟩
 rw [hg2] at hap0 hw1n hw1o hw1s hbs hgs hB
 have hcp1 : ∀ ty dc, (Builtin.copy_ #[22, 22] ty #[.slice (some ⟨g2, i * 2, none⟩) (xs.length + 1 - i) dc, .slice (some ⟨hb, 0, none⟩) 1 1]).run Try.prog w1 = .ok (goInt (Nat.min 1 (xs.length + 1 - i))) (w1.setRow g2 (C2.toList.take (i * 2) ++ seg ++ C2.toList.drop (i * 2 + seg.length)).toArray) := fun ty dc =>
  Ajg w1 22 22 ty 38 g2 (i * 2) (xs.length + 1 - i) dc ⟨hb, 0, none⟩ 1 1 2 C2 38 seg Try.underlying22 Bzk hw1n (by rw [h7, show Nat.min 1 (xs.length + 1 - i) = 1 by simp only [Nat.min_def]; split <;> omega]) (fun j u hu => by rw [Ajr, cell_of_row w1 _ _ seg.toArray 38 (0, 0) ((hw1o hb hbs).trans hv)]; simpa using hu) (by omega) (Ajs hx).2
 obtain ⟨w2, hw2⟩ : ∃ w2, w1.setRow g2 (C2.toList.take (i * 2) ++ seg ++ C2.toList.drop (i * 2 + seg.length)).toArray = w2 := ⟨_, rfl⟩
 rw [hw2] at hcp1
 have hw2n : w2.heap[g2]? = some (.cells (C2.toList.take (i * 2) ++ seg ++ C2.toList.drop (i * 2 + seg.length)).toArray 38 (0, 0)) := by rw [← hw2]; exact setRow_heap _ _ _ _ _ _ hw1n
 have hw2o : ∀ k, k < g2 → w2.heap[k]? = w.heap[k]? := fun k hk => by rw [← hw2, setRow_other _ _ _ _ (by omega)]; exact hw1o k hk
 have hw2s : w2.heap.size = g2 + 1 := by rw [← hw2, setRow_size, hw1s]
 have hw2x : w2.os = w.os ∧ w2.tape = w.tape ∧ w2.output = w.output := by rw [← hw2]; exact hw1x
 clear hw2 hw1n hw1o hw1s hw1x
 have hsrc : ∀ j v, cs[j]? = some v → w2.drew.cell? ((⟨g, i * 2, none⟩ : Addr).add j) = some v := by
  intro j v hj
  rw [Addr.add_lit]
  show w2.cell? _ = _
  rw [cell_of_row w2 g _ cur 38 (0, 0) ((hw2o g hgs).trans hh)]
  rw [← hcs, List.getElem?_drop, List.getElem?_take] at hj
  split at hj
  · simpa using hj
  · cases hj
 have hC2l : C2.toList.length = cap2 * 2 := by rw [← hC2s]; simp
 have hcp2 : ∀ ty dc sc, (Builtin.copy_ #[22, 22] ty #[.slice (some ⟨g2, (i + 1) * 2, none⟩) (xs.length - i) dc, .slice (some ⟨g, i * 2, none⟩) (xs.length - i) sc]).run Try.prog w2.drew = .ok (goInt (Nat.min (xs.length - i) (xs.length - i))) (w2.drew.setRow g2 ((C2.toList.take (i * 2) ++ seg ++ C2.toList.drop (i * 2 + seg.length)).take ((i + 1) * 2) ++ cs ++ (C2.toList.take (i * 2) ++ seg ++ C2.toList.drop (i * 2 + seg.length)).drop ((i + 1) * 2 + cs.length)).toArray) := fun ty dc sc => by
  have := Ajg w2.drew 22 22 ty 38 g2 ((i + 1) * 2) _ dc ⟨g, i * 2, none⟩ _ sc 2 _ 38 cs Try.underlying22 Bzk hw2n (by rw [hcsl, show Nat.min (xs.length - i) (xs.length - i) = xs.length - i from Nat.min_self _]) hsrc (by simp only [List.size_toArray, List.length_append, List.length_take, List.length_drop, hC2l, hcsl]; omega) hcs1
  simpa only [List.toList_toArray] using this
 have HA := Bvh (And.intro hw2n (And.intro hw2o (And.intro hw2s hw2x)))
 have HR := Bvh hr
 have HX := Bvh hx
 have HS := Bvh (And.intro hcs (And.intro hcsl (And.intro h6 (And.intro h7 (And.intro hC2l hC2t)))))
 have HC4 := Bvh hcm
 have HG2 := Bvh hg2
 clear hw2n hw2o hw2s hw2x hr hx hcs hcsl h6 h7 hsrc hcs1 hone hinl h5 hh hv ho hcm hC2l hC2t hC2s hcl h4 hg2 hi0 hz0 hz1 hz2
 have e1 : ¬ (cap2 = i + 1) := by omega
 have e2 : ¬ (cap2 = i) := by omega
 have e3 : ¬ (c = i) := by omega
 go_enter Try.func60, Try.ntmps60
 go_wp2_with (first | (at_builtin; refine Lib.wpList_append_run _ rfl _ _ 22 3 rfl _ _ rfl rfl _ _ hap0 ?_) | (refine Aqu _ rfl _ _ 22 22 rfl _ _ rfl rfl (hcp1 _ _) ?_))
 have hw1 : IntKind.i64.wrap ((i : Int) + 1) = (i : Int) + 1 := by rw [IntKind.wrap_i64]; omega
 have hb1 : (0 : Int) ≤ (i : Int) + 1 := by omega
 have htn : ((i : Int) + 1).toNat = i + 1 := by omega
 have hin : i ≤ xs.length := by omega
 go_region_law (refine Av5 rfl _ _ 22 22 rfl _ _ (by simp [Act.eval, Act.put]) (by simp [Act.eval, Act.put]) (hcp2 _ _ _) ?_)
 clear hw1 hb1 htn hin
 go_wp2
 go_ret
 obtain ⟨hw2n, hw2o, hw2s, hw2os, hw2t, hw2u⟩ := HA.out
 obtain ⟨hcs, hcsl, h6, h7, hC2l, hC2t⟩ := HS.out
 have hle : (xs.take i ++ x :: xs.drop i).length = xs.length + 1 := by simp only [List.length_append, List.length_take, List.length_cons, List.length_drop]; omega
 have hf := setRow_heap w2.drew g2 _ ((C2.toList.take (i * 2) ++ seg ++ C2.toList.drop (i * 2 + seg.length)).take ((i + 1) * 2) ++ cs ++ (C2.toList.take (i * 2) ++ seg ++ C2.toList.drop (i * 2 + seg.length)).drop ((i + 1) * 2 + cs.length)).toArray 38 (0, 0) hw2n
 refine ⟨_, rfl, ?_, ?_⟩
 · have := O_mk (d := k38) (ok := ok) (xs := xs.take i ++ x :: xs.drop i) (cap := cap2) hB hf (by omega) HC4.out (by
    rw [show k38.sz = 2 from rfl]
    simp only [List.size_toArray, List.length_append, List.length_take, List.length_drop, hC2l, hcsl, h7]
    omega) (by
    have e3 : (i + 1) * 2 = i * 2 + seg.length := by omega
    have h8 := splice2 C2.toList seg cs (a := i * 2) (T := (xs.length + 1) * 2) (by omega) (by omega)
    rw [hle, show (xs.length + 1) * k38.sz = (xs.length + 1) * 2 from rfl, List.toList_toArray, e3, h8, hC2t]
    have h9 := Aw9 HR.out HX.out h7 i (by omega)
    rw [show i * k38.sz = i * 2 from rfl, show xs.length * k38.sz = xs.length * 2 from rfl, hcs, List.take_take, Nat.min_eq_left (by omega)] at h9
    refine h9.imp_ fun y c' hy => Kd.FK_mono (Kd.FK_step (Kd.FK_bound hy) fun k hk hlt => ?_) fun k hk => ⟨hk.1.1, ?_⟩
    · have hk2 := hk.2
      rw [HG2.out] at hk2
      rw [setRow_other _ _ _ _ (by omega)]
      exact hw2o k hk2
    · have hk2 := hk.2
      rw [HG2.out] at hk2
      omega)
   rw [hle] at this
   simp only [List.append_assoc] at this
   exact this
 · exact ⟨hw2os, hw2t, hw2u, by rw [setRow_size, HG2.out]; show _ ≤ w2.heap.size; omega, fun k hk _ => by rw [HG2.out] at hk; rw [setRow_other _ _ _ _ (by omega)]; exact hw2o k hk⟩
end
section
def Aqs.f (l0 : List S38) (a1 : ByteArray) : Option (List Int × Bool) := if l0.length ≤ 1000000 ∧ (∀ x ∈ l0, x.f1.length ≤ 1000000) then some (match l0.find? (Ax8 a1) with | some x => (x.f1, true) | none => ([], false)) else none
def Az6.f (l0 : List S38) : Option (List S38) := if l0.length ≤ 1000000 then some l0 else none
def Azb.f (l0 : List S38) (a1 : ByteArray) : Option (List S38) := if l0.length ≤ 1000000 then some (l0.filter fun x => !Ax8 a1 x) else none
theorem Az6.calls (P0_ : Nat → Prop) (A0 : Option Addr) (c0 : Nat) (l0 : List S38) (r : List S38) (w : World) (hs0 : Kd.V k38 38 w w.heap.size (fun k_ => P0_ k_) (.slice A0 l0.length c0) l0) (h : Az6.f l0 = some r) :
 Calls Try.prog 57 #[.slice A0 l0.length c0] w fun e w' => ∃ v0_ : Value, e = .returned (v0_) ∧ Kd.V k38 38 w' w.heap.size (fun k_ => (P0_ k_ ∨ w.heap.size ≤ k_)) v0_ r ∧ Below w.heap.size w w' := by
 unfold Az6.f at h
 split at h
 · rename_i hl
   obtain rfl := Option.some.inj h
   refine (Bxg P0_ A0 c0 l0 w (Kd.V_F hs0) hl).mono ?_
   rintro e w' ⟨v, rfl, ho, hb⟩
   exact ⟨v, rfl, Kd.V_mono (O_V ho) fun k hk => hk.imp And.left id, hb⟩
 · cases h
theorem dropO (ok : Nat → Prop) (A0 : Option Addr) (c0 : Nat) (l0 : List S38) (name : ByteArray) (w : World) (hf : Kd.F k38 w ok A0 l0.length l0) (hlen : l0.length ≤ 1000000) :
 Calls Try.prog 25 #[.slice A0 l0.length c0, .string name] w fun e w' => ∃ v, e = .returned v ∧ O k38 38 w' w.heap.size (fun k => ok k ∧ k < w.heap.size) v (l0.filter fun x => !Ax8 name x) ∧ Below w.heap.size w w' := by
 have hcl := Bxg ok A0 c0 l0 w hf hlen
 clear hf
 go_enter Try.func25, Try.ntmps25
 go_wp2_with (first | (go_at_call 57; refine hcl.mono ?_; rintro e w1 ⟨v1, rfl, ho, hb⟩; have HO := Bvh ho; have HB := Bvh hb; clear ho hb) | (go_at_call 62; refine (Bju _ _ name v1 l0 _ HO.out HB.out.size (by omega)).mono ?_; rintro e w2 ⟨v2, rfl, ho2, hg2, hv2⟩; have HO2 := Bvh ho2; have HG2 := Bvh hg2; clear ho2 hg2 hv2))
 go_ret
 exact ⟨_, rfl, HO2.out, HB.out.grown HG2.out HB.out.size fun k hk => Awv HO.out k hk⟩
theorem Azb.calls (P0_ : Nat → Prop) (A0 : Option Addr) (c0 : Nat) (l0 : List S38) (a1 : ByteArray) (r : List S38) (w : World) (hs0 : Kd.V k38 38 w w.heap.size (fun k_ => P0_ k_) (.slice A0 l0.length c0) l0) (h : Azb.f l0 a1 = some r) :
 Calls Try.prog 25 #[.slice A0 l0.length c0, .string a1] w fun e w' => ∃ v0_ : Value, e = .returned (v0_) ∧ Kd.V k38 38 w' w.heap.size (fun k_ => (P0_ k_ ∨ w.heap.size ≤ k_)) v0_ r ∧ Below w.heap.size w w' := by
 unfold Azb.f at h
 split at h
 · rename_i hl
   obtain rfl := Option.some.inj h
   refine (dropO P0_ A0 c0 l0 a1 w (Kd.V_F hs0) hl).mono ?_
   rintro e w' ⟨v, rfl, ho, hb⟩
   exact ⟨v, rfl, Kd.V_mono (O_V ho) fun k hk => hk.imp And.left id, hb⟩
 · cases h
theorem O_R {w : World} {base : Nat} {ok : Nat → Prop} {v : Value} {xs : List Int} (h : O (Kd.int .u8) 5 w base ok v xs) : Kd.R (Kd.int .u8) 5 w base (fun _ => True) v xs := by
 obtain ⟨inner, h1, h2⟩ := h
 have he : inner = encs (Value.int .u8) xs := Kd.reps_encs (h2.imp_ fun x c hx => Kd.FK_now hx)
 subst he
 exact Kd.R_of_own h1 fun _ _ => trivial
theorem Aqs.calls (A0 : Option Addr) (c0 : Nat) (l0 : List S38) (a1 : ByteArray) (r1 : List Int) (r2 : Bool) (w : World) (hr0 : Kd.C k38 w A0 l0.length l0) (hc0 : l0.length ≤ c0) (h : Aqs.f l0 a1 = some (r1, r2)) :
 Calls Try.prog 28 #[.slice A0 l0.length c0, .string a1] w fun e w' => ∃ v0_ : Value, e = .returned (.tuple #[v0_, .bool r2]) ∧ Kd.R (Kd.int .u8) 5 w' w.heap.size (fun _ => True) v0_ r1 ∧ Below w.heap.size w w' := by
 unfold Aqs.f at h
 split at h
 · rename_i hl
   have hIdx := Avu a1 A0 c0 l0 w hr0
   have HR := Bvh hr0
   clear hr0
   rcases hfi : l0.findIdx? (Ax8 a1) with _ | i0
   · have hid : Akb (Ax8 a1) l0 = -1 := by unfold Akb; rw [hfi]
     have hfd : l0.find? (Ax8 a1) = none := by
      rw [List.find?_eq_none]
      intro x hx
      have := List.findIdx?_eq_none_iff.1 hfi x hx
      simp [this]
     rw [hfd] at h
     simp only [Option.some.injEq, Prod.mk.injEq] at h
     obtain ⟨rfl, rfl⟩ := h
     rw [hid] at hIdx
     clear hid hfd hfi hl
     go_enter Try.func28, Try.ntmps28
     go_wp2_with (go_at_call 58; refine hIdx.mono ?_; rintro e w1 ⟨rfl, hb⟩; have HB := Bvh hb; clear hb)
     go_ret2
     exact ⟨_, rfl, Kd.R_nil _ _ _ _ _, HB.out⟩
   · have hid : Akb (Ax8 a1) l0 = (i0 : Int) := by unfold Akb; rw [hfi]
     obtain ⟨hi0, hp0, hn0⟩ := List.findIdx?_eq_some_iff_getElem.1 hfi
     have hfd : l0.find? (Ax8 a1) = some l0[i0] := by
      rw [List.find?_eq_some_iff_getElem]
      exact ⟨hp0, i0, hi0, rfl, fun j hj => by simpa using hn0 j hj⟩
     rw [hfd] at h
     simp only [Option.some.injEq, Prod.mk.injEq] at h
     obtain ⟨rfl, rfl⟩ := h
     have hlx := hl.2 l0[i0] (List.getElem_mem _)
     rw [hid] at hIdx
     have HL := Bvh hlx
     clear hid hfd hfi hl hp0 hn0 hlx
     obtain ⟨ad, A1, c1, e1, hx0, hx1, hx2, hx3⟩ := Azf HR.out (i0 : Int) (by omega) (by omega)
     cases e1
     have HRD : Aqf l0 (i0 : Int) = l0[i0] := by unfold Aqf; rw [Int.toNat_natCast, List.getD_eq_getElem?_getD, List.getElem?_eq_getElem hi0]; rfl
     rw [Int.toNat_natCast] at hx0 hx1
     rw [HRD] at hx0 hx1 hx2 hx3
     clear HRD
     obtain ⟨x, hxe⟩ : ∃ x, l0[i0] = x := ⟨_, rfl⟩
     rw [hxe] at hx0 hx1 hx2 hx3 HL
     have HXE := Bvh hxe
     have HX2 := Bvh hx2
     have HX3 := Bvh (Kd.C_F (Kd.heap_int .u8) hx3)
     clear hxe hx2 hx3
     go_enter Try.func28, Try.ntmps28
     go_wp2_with (first | (go_at_call 58; refine hIdx.mono ?_; rintro e w1 ⟨rfl, hb⟩; have HB := Bvh hb; have hz1 := Aqd hb hx1; clear hb hx0 hx1) | (go_at_call 61; refine (Bxh _ A1 c1 x.f1 _ (Kd.F_below HX3.out HB.out) HL.out).mono ?_; rintro e w2 ⟨v2, rfl, ho2, hb2⟩; have HO2 := Bvh ho2; have HB2 := Bvh hb2; clear ho2 hb2))
     go_ret2
     exact ⟨_, rfl, by rw [HXE.out]; exact Kd.R_lower (O_R HO2.out) HB.out.size, Aq1 HB.out HB2.out⟩
 · cases h
end
section
attribute [local go_sem] Axk Axr Az3 Az7 Axj Axi Axz Axy
def Axq.f (a0 : ByteArray) : Option (Bool) := if (a0.size : Int) ≥ 1 then (some (decide ((a0.size : Int) ≤ 40))) else (some false)
theorem Axq.calls (a0 : ByteArray) (r : Bool) (w : World) (h : Axq.f a0 = some r) :
 Calls Try.prog 55 #[.string a0] w fun e w' => e = .returned (.bool r) ∧ Axa w w' := by
 have H : (if (a0.size : Int) ≥ 1 then (some (decide ((a0.size : Int) ≤ 40))) else (some false)) = some r := h
 clear h
 by_cases c2 : (a0.size : Int) ≥ 1
 · rw [if_pos c2] at H
   have c2b0 : decide (1 ≤ (a0.size : Int)) = true := decide_eq_true c2
   have c2b1 : decide (1 ≤ a0.size) = true := decide_eq_true (by omega)
   clear c2
   obtain rfl := Option.some.inj H
   go_enter Try.func55, Try.ntmps55
   go_wp2
   go_ret
   exact ⟨by first | rfl | (simp; done) | (simp [*]; done), by repeat (first | exact Axa.refl _ | apply Axa.step)⟩
 · rw [if_neg c2] at H
   have c2b0 : decide (1 ≤ (a0.size : Int)) = false := decide_eq_false c2
   have c2b1 : decide (1 ≤ a0.size) = false := decide_eq_false (by omega)
   clear c2
   obtain rfl := Option.some.inj H
   go_enter Try.func55, Try.ntmps55
   go_wp2
   go_ret
   exact ⟨by first | rfl | (simp; done) | (simp [*]; done), by repeat (first | exact Axa.refl _ | apply Axa.step)⟩
end
section
attribute [local go_sem] Axk Axr Az3 Az7 Axj Axi Axz Axy
def Aql.f (a0_0 : ByteArray) (a0_1 : Int) (a0_2 : Int) (l0_3 : List Int) (a1 : Int) : Option (Int) := if a0_1 = 2 then (some a1) else (if a0_1 = 3 then (some a0_2) else (some 0))
theorem Aql.calls (a0_0 : ByteArray) (a0_1 : Int) (a0_2 : Int) (A0_3 : Option Addr) (c0_3 : Nat) (l0_3 : List Int) (a1 : Int) (r : Int) (w : World) (hr0_3 : Kd.C (Kd.int .u8) w A0_3 l0_3.length l0_3) (hc0_3 : l0_3.length ≤ c0_3) (h : Aql.f a0_0 a0_1 a0_2 l0_3 a1 = some r) :
 Calls Try.prog 56 #[.agg #[.string a0_0, .int .i64 a0_1, .int .i64 a0_2, .slice A0_3 l0_3.length c0_3], .int .i64 a1] w fun e w' => e = .returned (.int .i64 r) ∧ Below w.heap.size w w' := by
 have hu31 := Try.underlying31
 have HR0_3 := Bvh hr0_3
 have HC0_3 := Bvh hc0_3
 clear hr0_3 hc0_3
 have HB := Bvh (Below.refl w.heap.size w)
 have H : (if a0_1 = 2 then (some a1) else (if a0_1 = 3 then (some a0_2) else (some 0))) = some r := h
 clear h
 by_cases c3 : a0_1 = 2
 · rw [if_pos c3] at H
   have c3b0 : (a0_1 == 2) = true := beq_iff_eq.mpr c3
   have c3b1 : (a0_1 != 2) = false := bne_eq_false_iff_eq.mpr c3
   clear c3
   obtain rfl := Option.some.inj H
   go_enter Try.func56, Try.ntmps56
   go_wp2_with (first | ((with_reducible refine Ax1 (N := 2) rfl ?_); refine Axd ?hg (N := 2) ?hd (cs := #[.string a0_0, .int .i64 a0_1, .int .i64 a0_2, .slice A0_3 l0_3.length c0_3]) (t := 31) ?hr ?_; (case hd => rfl); (case hg => rfl); (case hr => (go_simp; rfl)); intro gb401 hg w4 hbox hb; have n0_ := Bvh (Aq1 HB.out hb); have n1_ := Bvh (hbox); have n2_ := Bvh ((by rw [hg]; exact (Aqb HB.out) : w.heap.size ≤ gb401)); have n3_ := Bvh ((by rw [hg]; exact (Aqb HB.out) : w.heap.size ≤ gb401)); clear HB; have HB := n0_; have BK401 := n1_; have GW401 := n2_; have GE401 := n3_; clear n0_ n1_ n2_ n3_; clear hb hbox hg; have hcz5_0 : w4.cell? ⟨gb401, 0, none⟩ = some (.string a0_0) := (Aq3 BK401.out 0).trans rfl; have hcz5_1 : w4.cell? ⟨gb401, 1, none⟩ = some (.int .i64 a0_1) := (Aq3 BK401.out 1).trans rfl; have hcz5_2 : w4.cell? ⟨gb401, 2, none⟩ = some (.int .i64 a0_2) := (Aq3 BK401.out 2).trans rfl; have hcz5_3 : w4.cell? ⟨gb401, 3, none⟩ = some (.slice A0_3 l0_3.length c0_3) := (Aq3 BK401.out 3).trans rfl; have hfz5_0 := Aq2 BK401.out 0; have hfz5_1 := Aq2 BK401.out 1; have hfz5_2 := Aq2 BK401.out 2; have hfz5_3 := Aq2 BK401.out 3))
   go_ret
   exact ⟨by first | rfl | (simp [Aqj, Aqi] <;> rfl) | (simp [*, Aqj, Aqi] <;> rfl), by repeat (first | (with_reducible first | exact HB.out | apply Aq4 | apply Aq7 | apply Aq5 | refine Ax2 ?_ GE401.out) | exact HB.out)⟩
 · rw [if_neg c3] at H
   have c3b0 : (a0_1 == 2) = false := beq_eq_false_iff_ne.mpr c3
   have c3b1 : (a0_1 != 2) = true := bne_iff_ne.mpr c3
   by_cases c6 : a0_1 = 3
   · rw [if_pos c6] at H
     have c6b0 : (a0_1 == 3) = true := beq_iff_eq.mpr c6
     have c6b1 : (a0_1 != 3) = false := bne_eq_false_iff_eq.mpr c6
     clear c6
     obtain rfl := Option.some.inj H
     go_enter Try.func56, Try.ntmps56
     go_wp2_with (first | ((with_reducible refine Ax1 (N := 2) rfl ?_); refine Axd ?hg (N := 2) ?hd (cs := #[.string a0_0, .int .i64 a0_1, .int .i64 a0_2, .slice A0_3 l0_3.length c0_3]) (t := 31) ?hr ?_; (case hd => rfl); (case hg => rfl); (case hr => (go_simp; rfl)); intro gb401 hg w7 hbox hb; have n0_ := Bvh (Aq1 HB.out hb); have n1_ := Bvh (hbox); have n2_ := Bvh ((by rw [hg]; exact (Aqb HB.out) : w.heap.size ≤ gb401)); have n3_ := Bvh ((by rw [hg]; exact (Aqb HB.out) : w.heap.size ≤ gb401)); clear HB; have HB := n0_; have BK401 := n1_; have GW401 := n2_; have GE401 := n3_; clear n0_ n1_ n2_ n3_; clear hb hbox hg; have hcz8_0 : w7.cell? ⟨gb401, 0, none⟩ = some (.string a0_0) := (Aq3 BK401.out 0).trans rfl; have hcz8_1 : w7.cell? ⟨gb401, 1, none⟩ = some (.int .i64 a0_1) := (Aq3 BK401.out 1).trans rfl; have hcz8_2 : w7.cell? ⟨gb401, 2, none⟩ = some (.int .i64 a0_2) := (Aq3 BK401.out 2).trans rfl; have hcz8_3 : w7.cell? ⟨gb401, 3, none⟩ = some (.slice A0_3 l0_3.length c0_3) := (Aq3 BK401.out 3).trans rfl; have hfz8_0 := Aq2 BK401.out 0; have hfz8_1 := Aq2 BK401.out 1; have hfz8_2 := Aq2 BK401.out 2; have hfz8_3 := Aq2 BK401.out 3))
     go_ret
     exact ⟨by first | rfl | (simp [Aqj, Aqi] <;> rfl) | (simp [*, Aqj, Aqi] <;> rfl), by repeat (first | (with_reducible first | exact HB.out | apply Aq4 | apply Aq7 | apply Aq5 | refine Ax2 ?_ GE401.out) | exact HB.out)⟩
   · rw [if_neg c6] at H
     have c6b0 : (a0_1 == 3) = false := beq_eq_false_iff_ne.mpr c6
     have c6b1 : (a0_1 != 3) = true := bne_iff_ne.mpr c6
     obtain rfl := Option.some.inj H
     go_enter Try.func56, Try.ntmps56
     go_wp2_with (first | ((with_reducible refine Ax1 (N := 2) rfl ?_); refine Axd ?hg (N := 2) ?hd (cs := #[.string a0_0, .int .i64 a0_1, .int .i64 a0_2, .slice A0_3 l0_3.length c0_3]) (t := 31) ?hr ?_; (case hd => rfl); (case hg => rfl); (case hr => (go_simp; rfl)); intro gb401 hg w9 hbox hb; have n0_ := Bvh (Aq1 HB.out hb); have n1_ := Bvh (hbox); have n2_ := Bvh ((by rw [hg]; exact (Aqb HB.out) : w.heap.size ≤ gb401)); have n3_ := Bvh ((by rw [hg]; exact (Aqb HB.out) : w.heap.size ≤ gb401)); clear HB; have HB := n0_; have BK401 := n1_; have GW401 := n2_; have GE401 := n3_; clear n0_ n1_ n2_ n3_; clear hb hbox hg; have hcz10_0 : w9.cell? ⟨gb401, 0, none⟩ = some (.string a0_0) := (Aq3 BK401.out 0).trans rfl; have hcz10_1 : w9.cell? ⟨gb401, 1, none⟩ = some (.int .i64 a0_1) := (Aq3 BK401.out 1).trans rfl; have hcz10_2 : w9.cell? ⟨gb401, 2, none⟩ = some (.int .i64 a0_2) := (Aq3 BK401.out 2).trans rfl; have hcz10_3 : w9.cell? ⟨gb401, 3, none⟩ = some (.slice A0_3 l0_3.length c0_3) := (Aq3 BK401.out 3).trans rfl; have hfz10_0 := Aq2 BK401.out 0; have hfz10_1 := Aq2 BK401.out 1; have hfz10_2 := Aq2 BK401.out 2; have hfz10_3 := Aq2 BK401.out 3))
     go_ret
     exact ⟨by first | rfl | (simp [Aqj, Aqi] <;> rfl) | (simp [*, Aqj, Aqi] <;> rfl), by repeat (first | (with_reducible first | exact HB.out | apply Aq4 | apply Aq7 | apply Aq5 | refine Ax2 ?_ GE401.out) | exact HB.out)⟩
end
section
def Az2 (x : S38) : List S38 → List S38
 | [] => [x]
 | y :: l => if Op.bytesLess x.f0.toList y.f0.toList then x :: y :: l else y :: Az2 x l
def putL (l : List S38) (name : ByteArray) (b : List Int) : List S38 := Az2 ⟨name, b⟩ (l.filter fun x => !Ax8 name x)
def Aj3.f (l0 : List S38) (a1 : ByteArray) (l2 : List Int) : Option (List S38) := if l0.length ≤ 1000000 ∧ l2.length ≤ 1000000 then some (putL l0 a1 l2) else none
def Aj1 (old : List Int) (off : Nat) (d : List Int) : List Int := (old ++ List.replicate (off - old.length) 0).take off ++ d ++ old.drop (off + d.length)
theorem Avt (x : S38) : ∀ l : List S38, (match l.findIdx? (Ak5 x.f0) with | some i => Az2 x l = l.take i ++ x :: l.drop i | none => Az2 x l = l ++ [x])
 | [] => by simp [Az2]
 | y :: l => by
   have ih := Avt x l
   rw [List.findIdx?_cons]
   unfold Az2
   cases h : Ak5 x.f0 y
   · have h' : Op.bytesLess x.f0.toList y.f0.toList = false := h
     simp only [h', Bool.false_eq_true, if_false]
     cases hf : l.findIdx? (Ak5 x.f0) with
     | none => rw [hf] at ih; simp [ih]
     | some i => rw [hf] at ih; simp [ih]
   · have h' : Op.bytesLess x.f0.toList y.f0.toList = true := h
     simp [h']
theorem insertF (ok : Nat → Prop) (B : Nat) (v : Value) (xs : List S38) (i : Nat) (hb : Nat) (x : S38) (seg : List Value) (w : World) (ho : O k38 38 w B ok v xs) (hlen : xs.length ≤ 1000001) (hi : i ≤ xs.length) (hB : B ≤ w.heap.size)
 (hv : w.heap[hb]? = some (.cells seg.toArray 38 (0, 0))) (hne : v.ownBlock ≠ some hb) (hx : Kd.FK k38 w (fun k => ok k ∧ some k ≠ v.ownBlock) x seg) :
 Calls Try.prog 60 #[v, .int .i64 i, .slice (some ⟨hb, 0, none⟩) 1 1] w fun e w' => ∃ v', e = .returned v' ∧ O k38 38 w' B ok v' (xs.take i ++ x :: xs.drop i) ∧ w.grownBy w' v.ownBlock := by
 rcases Nat.lt_or_ge i xs.length with h | h
 · obtain ⟨g, cap, cur, rfl, _, _, _, h3, _⟩ := Aj6 ho (by omega)
   have hx' : Kd.FK k38 w (fun k => ok k ∧ k ≠ g) x seg := Kd.FK_mono hx fun k hk => ⟨hk.1, fun e => hk.2 (by rw [e]; rfl)⟩
   rcases Nat.lt_or_ge xs.length cap with h' | h'
   · exact Bx9 ok B g cap i xs hb x seg w ho hlen h h' hv (fun e => hne (by rw [e]; rfl)) hx'
   · exact Bxa ok B g cap i xs hb x seg w ho hlen h h' hB hv hx'
 · obtain rfl : i = xs.length := by omega
   rw [List.take_length, List.drop_length]
   exact Bza ok B v xs hb x seg w ho hlen hB hv hx
theorem Bzg {w : World} {base n c : Nat} {ok : Nat → Prop} {A : Option Addr} {xs : List Int} (h : O (Kd.int .u8) 5 w base ok (.slice A n c) xs) : Kd.F (Kd.int .u8) w (fun k => some k = (Value.slice A n c).ownBlock) A n xs := by
 obtain ⟨inner, h1, h2⟩ := h
 have he : inner = encs (Value.int .u8) xs := Kd.reps_encs (h2.imp_ fun x c hx => Kd.FK_now hx)
 subst he
 exact Kd.R_F (Kd.R_of_own (enc := Value.int .u8) (h1 := fun _ => rfl) (ok := fun k => some k = (Value.slice A n c).ownBlock) h1 fun k hk => hk.symm)
theorem Bka {ok : Nat → Prop} {w w2 w3 : World} {A1 A3 : Option Addr} {c1 c3 : Nat} {okd : Nat → Prop} (name : ByteArray) (b : List Int) (l : List S38) (i : Nat) (ho2 : O k38 38 w2 w.heap.size (fun k => ok k ∧ k < w.heap.size) (.slice A1 l.length c1) l) (hb2 : Below w.heap.size w w2)
 (hd : O (Kd.int .u8) 5 w3 w2.heap.size okd (.slice A3 b.length c3) b) (hb : Below w2.heap.size w2 w3) (hlen : l.length ≤ 1000001) (hi : i ≤ l.length) :
 Calls Try.prog 60 #[.slice A1 l.length c1, .int .i64 i, .slice (some ⟨w3.heap.size, 0, none⟩) 1 1] (w3.alloc (.cells #[.string name, .slice A3 b.length c3] 38)) fun e w' => ∃ v', e = .returned v' ∧ O k38 38 w' w.heap.size (fun k => ok k ∧ k < w.heap.size ∨ w.heap.size ≤ k) v' (l.take i ++ ⟨name, b⟩ :: l.drop i) ∧ (w3.alloc (.cells #[.string name, .slice A3 b.length c3] 38)).grownBy w' (Value.slice A1 l.length c1).ownBlock := by
 have hlt : ∀ k, (Value.slice A1 l.length c1).ownBlock = some k → k < w2.heap.size := by
  obtain ⟨inner, h1, _⟩ := ho2
  exact Ava h1
 have hs3 : w2.heap.size ≤ w3.heap.size := hb.size
 have hsw : w.heap.size ≤ w2.heap.size := hb2.size
 refine insertF _ w.heap.size _ l i w3.heap.size ⟨name, b⟩ [.string name, .slice A3 b.length c3] _ (O_mono (Azp (Azp ho2 hb) (Aq4 (Below.refl _ _) _)) fun k hk => .inl hk) hlen hi (by rw [World.size_alloc]; omega) (heap_alloc_new _ _) (fun e => by have := hlt _ e; omega) ?_
 refine Akh _ _ (⟨name, b⟩ : S38) (Kd.V_reads' (O_V hd)).2.1 (Kd.F_mono (Kd.F_alloc (Bzg hd) _) fun k hk => ?_)
 have hk1 := Awv hd k hk.symm
 exact ⟨.inr (by omega), fun e => by have := hlt k e.symm; omega⟩
theorem putO (ok : Nat → Prop) (A0 : Option Addr) (c0 : Nat) (l0 : List S38) (name : ByteArray) (A2 : Option Addr) (c2 : Nat) (b : List Int) (w : World) (hf : Kd.F k38 w ok A0 l0.length l0) (hlen : l0.length ≤ 1000000) (hr2 : Kd.C (Kd.int .u8) w A2 b.length b) (hblen : b.length ≤ 1000000) :
 Calls Try.prog 23 #[.slice A0 l0.length c0, .string name, .slice A2 b.length c2] w fun e w' => ∃ v, e = .returned v ∧ O k38 38 w' w.heap.size (fun k => ok k ∧ k < w.heap.size ∨ w.heap.size ≤ k) v (putL l0 name b) ∧ Below w.heap.size w w' := by
 have hd := dropO ok A0 c0 l0 name w hf hlen
 have hll : (l0.filter fun x => !Ax8 name x).length ≤ 1000000 := Nat.le_trans (List.length_filter_le _ _) hlen
 have hF2 := Bvh (Kd.C_F (Kd.heap_int .u8) hr2)
 have hix := Avt ⟨name, b⟩ (l0.filter fun x => !Ax8 name x)
 have HPL : Aside0 (putL l0 name b = Az2 ⟨name, b⟩ (l0.filter fun x => !Ax8 name x)) := ⟨rfl⟩
 obtain ⟨l, hle⟩ : ∃ l, (l0.filter fun x => !Ax8 name x) = l := ⟨_, rfl⟩
 rw [hle] at hd hll hix HPL
 clear hf hr2 hle
 rcases hfi : l.findIdx? (Ak5 name) with _ | i0
 · have HID : Aside0 (Akb (Ak5 name) l = -1) := ⟨by unfold Akb; rw [hfi]⟩
   rw [hfi] at hix
   have HIX : Aside0 (Az2 ⟨name, b⟩ l = l ++ [⟨name, b⟩]) := ⟨hix⟩
   clear hix hfi
   go_enter Try.func23, Try.ntmps23
   go_wp2_with (first | (go_at_call 25; refine hd.mono ?_; rintro e w1 ⟨v1, rfl, ho, hb⟩; have HO := Bvh ho; have HB := Bvh hb; obtain ⟨A1, c1, ev⟩ := Az1 ho; subst ev; clear ho hb) | (go_at_call 58; refine (Akj name A1 c1 l _ (Kd.V_reads' (O_V HO.out)).2.2).mono ?_; rintro e w2 ⟨rfl, hb⟩; rw [HID.out]; have HB2 := Bvh (Aq1 HB.out hb); have HO2 := Bvh (Azp HO.out hb); clear hb) | (go_at_call 61; refine (Bxh _ A2 c2 b _ (Kd.F_below hF2.out HB2.out) hblen).mono ?_; rintro e w3 ⟨v3, rfl, ho3, hb⟩; have HB3 := Bvh (Aq1 HB2.out hb); have HBS := Bvh hb; have HD := Bvh ho3; obtain ⟨A3, c3, ev⟩ := Az1 ho3; subst ev; clear ho3 hb) | (go_at_call 60; refine (Bka name b l l.length HO2.out HB2.out HD.out HBS.out (by omega) (Nat.le_refl _)).mono ?_; rintro e w5 ⟨v5, rfl, ho5, hg5⟩; have HO5 := Bvh ho5; have HG5 := Bvh hg5; clear ho5 hg5))
   go_ret
   refine ⟨_, rfl, ?_, (Aq4 HB3.out _).grown HG5.out (Aq4 HB3.out _).size fun k hk => Awv HO2.out k hk⟩
   rw [HPL.out, HIX.out]
   have := HO5.out
   rw [List.take_length, List.drop_length] at this
   exact this
 · have HID : Aside0 (Akb (Ak5 name) l = (i0 : Int)) := ⟨by unfold Akb; rw [hfi]⟩
   have hi0 : i0 < l.length := (List.findIdx?_eq_some_iff_getElem.1 hfi).1
   rw [hfi] at hix
   have HIX : Aside0 (Az2 ⟨name, b⟩ l = l.take i0 ++ ⟨name, b⟩ :: l.drop i0) := ⟨hix⟩
   clear hix hfi
   go_enter Try.func23, Try.ntmps23
   go_wp2_with (first | (go_at_call 25; refine hd.mono ?_; rintro e w1 ⟨v1, rfl, ho, hb⟩; have HO := Bvh ho; have HB := Bvh hb; obtain ⟨A1, c1, ev⟩ := Az1 ho; subst ev; clear ho hb) | (go_at_call 58; refine (Akj name A1 c1 l _ (Kd.V_reads' (O_V HO.out)).2.2).mono ?_; rintro e w2 ⟨rfl, hb⟩; rw [HID.out]; have HB2 := Bvh (Aq1 HB.out hb); have HO2 := Bvh (Azp HO.out hb); clear hb) | (go_at_call 61; refine (Bxh _ A2 c2 b _ (Kd.F_below hF2.out HB2.out) hblen).mono ?_; rintro e w3 ⟨v3, rfl, ho3, hb⟩; have HB3 := Bvh (Aq1 HB2.out hb); have HBS := Bvh hb; have HD := Bvh ho3; obtain ⟨A3, c3, ev⟩ := Az1 ho3; subst ev; clear ho3 hb) | (go_at_call 60; refine (Bka name b l i0 HO2.out HB2.out HD.out HBS.out (by omega) (by omega)).mono ?_; rintro e w5 ⟨v5, rfl, ho5, hg5⟩; have HO5 := Bvh ho5; have HG5 := Bvh hg5; clear ho5 hg5))
   go_ret
   refine ⟨_, rfl, ?_, (Aq4 HB3.out _).grown HG5.out (Aq4 HB3.out _).size fun k hk => Awv HO2.out k hk⟩
   rw [HPL.out, HIX.out]
   have := HO5.out
   exact this
theorem Aj3.calls (P0_ : Nat → Prop) (A0 : Option Addr) (c0 : Nat) (l0 : List S38) (a1 : ByteArray) (A2 : Option Addr) (c2 : Nat) (l2 : List Int) (r : List S38) (w : World) (hs0 : Kd.V k38 38 w w.heap.size (fun k_ => P0_ k_) (.slice A0 l0.length c0) l0) (hr2 : Kd.C (Kd.int .u8) w A2 l2.length l2) (hc2 : l2.length ≤ c2) (h : Aj3.f l0 a1 l2 = some r) :
 Calls Try.prog 23 #[.slice A0 l0.length c0, .string a1, .slice A2 l2.length c2] w fun e w' => ∃ v0_ : Value, e = .returned (v0_) ∧ Kd.V k38 38 w' w.heap.size (fun k_ => (P0_ k_ ∨ w.heap.size ≤ k_)) v0_ r ∧ Below w.heap.size w w' := by
 unfold Aj3.f at h
 split at h
 · rename_i hl
   obtain rfl := Option.some.inj h
   refine (putO P0_ A0 c0 l0 a1 A2 c2 l2 w (Kd.V_F hs0) hl.1 hr2 hl.2).mono ?_
   rintro e w' ⟨v, rfl, ho, hb⟩
   exact ⟨v, rfl, Kd.V_mono (O_V ho) fun k hk => Or.elim hk (fun h => Or.elim h (fun h => .inl h.1) .inr) .inr, hb⟩
 · cases h
end
section
attribute [local go_sem] Axk Axr Az3 Az7
theorem size5 : (Try.prog.info? 5).map (·.size) = some 1 := by kernel_rfl
theorem Axv (w : World) (ty : TypeId) (g off dLen dCap : Nat) (A : Option Addr) (c : Nat) (xs ys : List Int) (hg : w.heap[g]? = some (.cells (nums .u8 xs).toArray 5 (0, 0))) (hC : (Kd.int .u8).C w A ys.length ys) (h1 : ys.length ≤ dLen) (h2 : off + ys.length ≤ xs.length) :
 ∃ w', (Builtin.copy_ #[23, 23] ty #[.slice (some ⟨g, off, none⟩) dLen dCap, .slice A ys.length c]).run Try.prog w = .ok (goInt ys.length) w' ∧ w'.heap[g]? = some (.cells (nums .u8 (xs.take off ++ ys ++ xs.drop (off + ys.length))).toArray 5 (0, 0)) ∧ (∀ k, k ≠ g → w'.heap[k]? = w.heap[k]?) ∧ w'.heap.size = w.heap.size ∧ w'.os = w.os ∧ w'.tape = w.tape ∧ w'.output = w.output := by
 have hmin : Nat.min ys.length dLen = ys.length := Nat.min_eq_left h1
 rcases Nat.eq_zero_or_pos ys.length with h0 | h0
 · obtain rfl := List.eq_nil_of_length_eq_zero h0
   refine ⟨w, ?_, by simpa using hg, fun _ _ => rfl, rfl, rfl, rfl, rfl⟩
   cases hq : Try.prog.info? 5 with
   | none => have := size5; rw [hq] at this; cases this
   | some i =>
     cases A with
     | none => simp [Builtin.copy_, run_underlying Try.underlying23, Builtin.lenOf, Builtin.firstCells, sizeOf, typeInfo, hq, storeCells]
     | some a =>
       have hl := run_loadCells_list (P := Try.prog) w a [] (fun j v hj => by simp at hj)
       simp only [List.length_nil] at hl
       simp [Builtin.copy_, run_underlying Try.underlying23, Builtin.lenOf, Builtin.firstCells, sizeOf, typeInfo, hq, hl, storeCells]
 · obtain ⟨ad, cs, rfl, hr, hcs⟩ := Av8 hC h0
   have he : cs = encs (Value.int .u8) ys := Kd.reps_encs hr
   subst he
   have hl : (encs (Value.int .u8) ys).length = ys.length := by simp [encs]
   have := Ajg (P := Try.prog) w 23 23 ty 5 g off dLen dCap ad ys.length c 1 _ 5 (encs (Value.int .u8) ys) Try.underlying23 size5 hg (by rw [hl, hmin, Nat.mul_one]) hcs (by rw [hl]; simpa [nums] using h2) (fun v hv => by simp only [encs, List.mem_map] at hv; obtain ⟨x, _, rfl⟩ := hv; rfl)
   rw [hmin] at this
   refine ⟨_, this, ?_, fun k hk => setRow_other _ _ _ _ hk, setRow_size _ _ _, rfl, rfl, rfl⟩
   rw [setRow_heap _ _ _ _ _ _ hg]
   simp only [List.toList_toArray, hl, nums, encs, List.map_append, List.map_take, List.map_drop, List.length_map]
theorem C_blk {w : World} {g : Nat} {xs : List Int} (hg : w.heap[g]? = some (.cells (nums .u8 xs).toArray 5 (0, 0))) (hl : xs.length ≤ 9223372036854775807) : (Kd.int .u8).C w (some ⟨g, 0, none⟩) xs.length xs := by
 have ho : w.ownsRow 0 5 1 (.slice (some ⟨g, 0, none⟩) xs.length xs.length) xs.length (nums .u8 xs) :=
  ⟨by rw [Awg, Nat.mul_one], .inr ⟨g, xs.length, _, rfl, Nat.zero_le _, hg, Nat.le_refl _, by unfold maxLen; omega, by simp [nums], by rw [List.toList_toArray, List.take_of_length_le (by rw [Awg]; omega)]⟩⟩
 exact (Kd.R_reads' (Kd.R_of_own (enc := Value.int .u8) (h1 := fun _ => rfl) (ok := fun _ => True) ho fun _ _ => trivial)).2.2
theorem Bjb (old d : List Int) (off t : Nat) (h1 : old.length ≤ t) (h2 : off + d.length ≤ t) (h3 : t = old.length ∨ t = off + d.length) :
 ((List.replicate t 0).take 0 ++ old ++ (List.replicate t (0 : Int)).drop (0 + old.length)).take off ++ d ++ ((List.replicate t 0).take 0 ++ old ++ (List.replicate t (0 : Int)).drop (0 + old.length)).drop (off + d.length) = Aj1 old off d := by
 unfold Aj1
 simp only [List.take_zero, List.nil_append, Nat.zero_add, List.drop_replicate]
 congr 1
 · congr 1
   apply List.ext_getElem?
   intro k
   simp only [List.getElem?_take, List.getElem?_append, List.getElem?_replicate]
   by_cases hk : k < off
   · simp only [hk, if_true]
     by_cases hk2 : k < old.length
     · simp [hk2]
     · simp [hk2, show k - old.length < t - old.length by omega, show k - old.length < off - old.length by omega]
   · simp [hk]
 · apply List.ext_getElem?
   intro k
   simp only [List.getElem?_drop, List.getElem?_append, List.getElem?_replicate]
   by_cases hk : off + d.length + k < old.length
   · simp [hk]
   · simp only [hk, if_false]
     rw [List.getElem?_eq_none (by omega)]
     rw [if_neg (by omega)]
theorem Ak4 (t : Nat) : madeCells #[Value.int .u8 0] t = (nums .u8 (List.replicate t 0)).toArray := by
 apply Array.ext'
 apply List.ext_getElem
 · simp [nums, madeCells]
 · intro i h1 h2
   simp [nums, madeCells, Nat.mod_one]
theorem Bq2 {w w4 w6 : World} {o : Obj} (hb : Below w.heap.size w w4) (h : (∀ k, k ≠ w4.heap.size → w6.heap[k]? = (w4.alloc o).heap[k]?) ∧ w6.heap.size = (w4.alloc o).heap.size ∧ w6.os = (w4.alloc o).os ∧ w6.tape = (w4.alloc o).tape ∧ w6.output = (w4.alloc o).output) : Below w.heap.size w w6 := by
 have hb' := Aq4 hb o
 obtain ⟨h1, h2, h3, h4, h5⟩ := h
 have := hb.size
 exact ⟨h3.trans hb'.os, h4.trans hb'.tape, h5.trans hb'.output, by rw [h2]; exact hb'.size, fun k hk => (h1 k (by omega)).trans (hb'.block k hk)⟩
theorem Bqv {w w4 w6 w7 : World} {o : Obj} (hb : Below w.heap.size w w4) (h : (∀ k, k ≠ w4.heap.size → w6.heap[k]? = (w4.alloc o).heap[k]?) ∧ w6.heap.size = (w4.alloc o).heap.size ∧ w6.os = (w4.alloc o).os ∧ w6.tape = (w4.alloc o).tape ∧ w6.output = (w4.alloc o).output)
 (h' : (∀ k, k ≠ w4.heap.size → w7.heap[k]? = w6.heap[k]?) ∧ w7.heap.size = w6.heap.size ∧ w7.os = w6.os ∧ w7.tape = w6.tape ∧ w7.output = w6.output) : Below w.heap.size w w7 := by
 have hb' := Bq2 hb h
 obtain ⟨h1, h2, h3, h4, h5⟩ := h'
 have := hb.size
 exact ⟨h3.trans hb'.os, h4.trans hb'.tape, h5.trans hb'.output, by rw [h2]; exact hb'.size, fun k hk => (h1 k (by omega)).trans (hb'.block k hk)⟩
theorem Bqt {w4 w6 w7 : World} {o o' : Obj} {g : Nat} (hk : w4.heap[g]? = some o') (h : (∀ k, k ≠ w4.heap.size → w6.heap[k]? = (w4.alloc o).heap[k]?) ∧ w6.heap.size = (w4.alloc o).heap.size ∧ w6.os = (w4.alloc o).os ∧ w6.tape = (w4.alloc o).tape ∧ w6.output = (w4.alloc o).output)
 (h' : (∀ k, k ≠ w4.heap.size → w7.heap[k]? = w6.heap[k]?) ∧ w7.heap.size = w6.heap.size ∧ w7.os = w6.os ∧ w7.tape = w6.tape ∧ w7.output = w6.output) : w7.heap[g]? = some o' := by
 have hlt := Ax7 hk
 rw [h'.1 g (by omega), h.1 g (by omega)]
 exact Aqe hk o
theorem Avg (ok : Nat → Prop) (A0 : Option Addr) (c0 : Nat) (l0 : List S38) (nm : ByteArray) (w : World) {w7 : World} {g T : Nat} {X : List Int} (hf : Kd.F k38 w ok A0 l0.length l0) (hlen : l0.length ≤ 1000000) (hb : Below w.heap.size w w7) (hg : w7.heap[g]? = some (.cells (nums .u8 X).toArray 5 (0, 0))) (hX : X.length = T) (hT : T ≤ 1000000) :
 Calls Try.prog 23 #[.slice A0 l0.length c0, .string nm, .slice (some ⟨g, 0, none⟩) T T] w7 fun e w' => ∃ v, e = .returned v ∧ Kd.V k38 38 w' w.heap.size (fun k => ok k ∨ w.heap.size ≤ k) v (putL l0 nm X) ∧ Below w.heap.size w w' := by
 subst hX
 refine (putO ok A0 c0 l0 nm (some ⟨g, 0, none⟩) X.length X w7 (Kd.F_below hf hb) hlen (C_blk hg (by omega)) hT).mono ?_
 rintro e w' ⟨v, rfl, ho, hb'⟩
 have := hb.size
 exact ⟨v, rfl, Kd.V_mono (O_V (O_lower ho hb.size)) fun k hk => Or.elim hk (fun h => Or.elim h (fun h => .inl h.1) (fun h => .inr (by omega))) .inr, Aq1 hb hb'⟩
def DoT (a : Nat) (frm : Int) (m t : Nat) : Prop := a ≤ t ∧ frm + m ≤ t ∧ (t = a ∨ (t : Int) = frm + m) ∧ t ≤ 1000000
theorem Bjs {old kept : List Int} {frm : Int} {t LO : Nat} (hT : DoT old.length frm kept.length t) (hlo : frm.toNat = LO) (h0 : 0 ≤ frm) :
 ((List.replicate t 0).take 0 ++ old ++ (List.replicate t (0 : Int)).drop (0 + old.length)).take LO ++ kept ++ ((List.replicate t 0).take 0 ++ old ++ (List.replicate t (0 : Int)).drop (0 + old.length)).drop (LO + kept.length) = Aj1 old frm.toNat kept := by
 obtain ⟨h1, h2, h3, h4⟩ := hT
 rw [hlo]
 exact Bjb old kept LO t h1 (by omega) (by omega)
theorem Aw2 {old kept : List Int} {frm : Int} {LO : Nat} (hT : DoT old.length frm kept.length LO) (hlo : frm.toNat = LO) (h0 : 0 ≤ frm) :
 ((List.replicate LO 0).take 0 ++ old ++ (List.replicate LO (0 : Int)).drop (0 + old.length)).take 0 ++ kept ++ ((List.replicate LO 0).take 0 ++ old ++ (List.replicate LO (0 : Int)).drop (0 + old.length)).drop (0 + kept.length) = Aj1 old frm.toNat kept := by
 have hk : kept = [] := List.eq_nil_of_length_eq_zero (by have := hT.2.1; omega)
 rw [← Bjs hT hlo h0]
 subst hk
 have hl : ((List.replicate LO 0).take 0 ++ old ++ (List.replicate LO (0 : Int)).drop (0 + old.length)).length = LO := by
  simp only [List.length_append, List.length_take, List.length_drop, List.length_replicate]; have := hT.1; omega
 rw [List.take_of_length_le (i := LO) (by omega), List.drop_eq_nil_of_le (i := LO + _) (by simp only [List.length_nil]; omega)]
 simp only [List.take_zero, List.nil_append, List.append_nil, List.length_nil, Nat.add_zero, List.drop_zero]
def Axp (d : List Int) (keep : Int) : List Int := if keep ≥ 0 then d.take keep.toNat else d
def Aze (K : Nat) (l0 : List S38) (nm : ByteArray) (frm : Int) (old d kept : List Int) : List S38 × Int :=
 if frm > 65536 ∨ frm + kept.length > 65536 ∨ (K = 3 ∧ old.length > 65536) then ([], 11) else
  if kept.length = 0 ∧ d.length > 0 then (l0, 0) else (putL l0 nm (Aj1 (if K = 1 then [] else old) frm.toNat kept), 0)
theorem C_take {w : World} {A : Option Addr} {n : Nat} {d : List Int} (h : (Kd.int .u8).C w A n d) (m : Nat) : (Kd.int .u8).C w A (d.take m).length (d.take m) := by
 obtain ⟨hl, hm, hc⟩ := h
 refine ⟨rfl, by rw [List.length_take]; omega, fun hp => ?_⟩
 obtain ⟨ad, rfl, hx⟩ := hc (by rw [List.length_take] at hp; omega)
 refine ⟨ad, rfl, fun j p hj => hx j p ?_⟩
 rw [List.getElem?_take] at hj
 split at hj
 · exact hj
 · cases hj
theorem do_1 (ok : Nat → Prop) (A0 : Option Addr) (c0 : Nat) (l0 : List S38) (nm : ByteArray) (off keep : Int) (A : Option Addr) (c : Nat) (d old : List Int) (is : Bool) (w : World) (hf : Kd.F k38 w ok A0 l0.length l0) (hc0 : l0.length ≤ c0) (hlen : l0.length ≤ 1000000) (hg : Aqs.f l0 nm = some (old, is)) (hold : old.length ≤ 1000000)
 (hn1 : 1 ≤ nm.size) (hn2 : nm.size ≤ 40) (hd : (Kd.int .u8).C w A d.length d) (hdc : d.length ≤ c) (hdl : d.length ≤ 1000000) :
 Calls Try.prog 17 #[.slice A0 l0.length c0, .agg #[.string nm, .int .i64 1, .int .i64 off, .slice A d.length c], .int .i64 keep] w fun e w' => ∃ v, e = .returned (.tuple #[v, .int .i64 (Aze 1 l0 nm 0 old d (Axp d keep)).2]) ∧ Kd.V k38 38 w' w.heap.size (fun k => ok k ∨ w.heap.size ≤ k) v (Aze 1 l0 nm 0 old d (Axp d keep)).1 ∧ Below w.heap.size w w' := by
 have HF := Bvh hf
 have HG := Bvh hg
 have HD := Bvh hd
 have hfine : Axq.f nm = some true := by unfold Axq.f; rw [if_pos (by omega)]; simp; omega
 have HFINE := Bvh hfine
 obtain ⟨kept, hkept⟩ : ∃ kept, Axp d keep = kept := ⟨_, rfl⟩
 have hkl : kept.length ≤ d.length := by rw [← hkept]; unfold Axp; split; (rw [List.length_take]; omega); exact Nat.le_refl _
 have hkc : (Kd.int .u8).C w A kept.length kept := by
  rw [← hkept]; unfold Axp; split
  · exact C_take hd _
  · exact hd
 have HKC := Bvh hkc
 rw [hkept]
 have HKEPT := Bvh hkept
 clear hf hg hd hfine hkept hkc
 go_enter Try.func17, Try.ntmps17
 go_upto_if 40 with (go_at_call 55; refine (Axq.calls nm true _ HFINE.out).mono ?_; rintro e w1 ⟨rfl, ⟨nd, rfl⟩⟩)
 go_cut [8] (fun v8 wc => v8 = .slice A kept.length c ∧ Aside0 (wc.heap[w.heap.size]? = some (.cells #[.string nm, .int .i64 1, .int .i64 off, .slice A d.length c] 31 (0, 0))) ∧ Aside0 (Below w.heap.size w wc))
 case first =>
  have hbx := heap_alloc_new w (.cells #[.string nm, .int .i64 1, .int .i64 off, .slice A d.length c] 31)
  by_cases h0 : 0 ≤ keep
  · by_cases h1 : (d.length : Int) < keep
    · have he : kept.length = d.length := by rw [← HKEPT.out]; unfold Axp; rw [if_pos h0, List.length_take]; omega
      have HE := Bvh he
      have HBX := Bvh hbx
      clear he hbx
      go_wp2
      go_meet
      case rel => exact ⟨by rw [HE.out], HBX, ⟨Aq7 (Aq4 (Below.refl _ _) _) _⟩⟩
    · have he : keep.toNat = kept.length := by rw [← HKEPT.out]; unfold Axp; rw [if_pos h0, List.length_take]; omega
      have h2 : keep ≤ d.length := by omega
      have HE := Bvh he
      have HBX := Bvh hbx
      clear he hbx h1
      go_wp2
      go_meet
      case rel => exact ⟨by rw [HE.out], HBX, ⟨Aq7 (Aq4 (Below.refl _ _) _) _⟩⟩
  · have he : kept.length = d.length := by rw [← HKEPT.out]; unfold Axp; rw [if_neg h0]
    have HE := Bvh he
    have HBX := Bvh hbx
    clear he hbx
    go_wp2
    go_meet
    case rel => exact ⟨by rw [HE.out], HBX, ⟨Aq7 (Aq4 (Below.refl _ _) _) _⟩⟩
 case rest =>
  obtain ⟨rfl, BK, HB⟩ := hcut
  have hz0 : wc.cell? ⟨w.heap.size, 0, none⟩ = some (.string nm) := (Aq3 BK.out 0).trans rfl
  have HPL : Aside0 (Aql.f nm 1 off d (old.length : Int) = some 0) := ⟨by unfold Aql.f; rw [if_neg (by decide), if_neg (by decide)]⟩
  by_cases hq1 : 0 + (kept.length : Int) > 65536
  · have HRES : Aside0 (Aze 1 l0 nm 0 old d kept = ([], 11)) := ⟨by unfold Aze; rw [if_pos (.inr (.inl hq1))]⟩
    go_wp2_with (first | (go_at_call 28; refine (Aqs.calls A0 c0 l0 nm old is _ (Kd.F_now (Kd.F_below HF.out HB.out)) hc0 HG.out).mono ?_; rintro e w3 ⟨v3, rfl, ho3, hb3⟩; have HO3 := Bvh ho3; have HB3 := Bvh (Aq1 HB.out hb3); have BK3 := Bvh (Aqn hb3 BK.out); obtain ⟨A3, c3, ev⟩ := Kd.R_slice ho3; subst ev; have y0 := Aq3 BK3.out 0; have y1 := Aq3 BK3.out 1; have y2 := Aq3 BK3.out 2; have y3 := Aq3 BK3.out 3; clear ho3 hb3 hz0) | (go_at_call 56; refine (Aql.calls nm 1 off A c d (old.length : Int) 0 _ (Kd.C_below HD.out HB3.out) hdc HPL.out).mono ?_; rintro e w4 ⟨rfl, hb4⟩; have HB4 := Bvh (Aq1 HB3.out hb4); have HO4 := Bvh (Kd.R_below HO3.out hb4); have BK4 := Bvh (Aqn hb4 BK3.out); have x0 := Aq3 BK4.out 0; have x1 := Aq3 BK4.out 1; have x2 := Aq3 BK4.out 2; have x3 := Aq3 BK4.out 3; clear hb4 y0 y1 y2 y3))
    go_ret2
    exact ⟨_, by rw [HRES.out]; rfl, by rw [HRES.out]; exact Kd.V_nil _ _ _ _ _, HB4.out⟩
  · skip
    by_cases hem : kept.length = 0 ∧ d.length > 0
    · have HRES : Aside0 (Aze 1 l0 nm 0 old d kept = (l0, 0)) := ⟨by unfold Aze; rw [if_neg (by rintro (h | h | ⟨h, _⟩) <;> omega), if_pos hem]⟩
      have e1 : ((kept.length : Int) == 0) = true := by simpa using hem.1
      have e2 : (kept.length == 0) = true := by simpa using hem.1
      have e3 : decide (0 < d.length) = true := by simpa using hem.2
      clear hem
      go_wp2_with (first | (go_at_call 28; refine (Aqs.calls A0 c0 l0 nm old is _ (Kd.F_now (Kd.F_below HF.out HB.out)) hc0 HG.out).mono ?_; rintro e w3 ⟨v3, rfl, ho3, hb3⟩; have HO3 := Bvh ho3; have HB3 := Bvh (Aq1 HB.out hb3); have BK3 := Bvh (Aqn hb3 BK.out); obtain ⟨A3, c3, ev⟩ := Kd.R_slice ho3; subst ev; have y0 := Aq3 BK3.out 0; have y1 := Aq3 BK3.out 1; have y2 := Aq3 BK3.out 2; have y3 := Aq3 BK3.out 3; clear ho3 hb3 hz0) | (go_at_call 56; refine (Aql.calls nm 1 off A c d (old.length : Int) 0 _ (Kd.C_below HD.out HB3.out) hdc HPL.out).mono ?_; rintro e w4 ⟨rfl, hb4⟩; have HB4 := Bvh (Aq1 HB3.out hb4); have HO4 := Bvh (Kd.R_below HO3.out hb4); have BK4 := Bvh (Aqn hb4 BK3.out); have x0 := Aq3 BK4.out 0; have x1 := Aq3 BK4.out 1; have x2 := Aq3 BK4.out 2; have x3 := Aq3 BK4.out 3; clear hb4 y0 y1 y2 y3) | (go_at_call 57; refine (Bxg ok A0 c0 l0 _ (Kd.F_below HF.out HB4.out) hlen).mono ?_; rintro e w5 ⟨v5, rfl, ho5, hb5⟩; have HO5 := Bvh ho5; have HBX5 := Bvh hb5; clear ho5 hb5 x0 x1 x2 x3))
      go_ret2
      exact ⟨_, by rw [HRES.out]; rfl, by rw [HRES.out]; exact Kd.V_lower (Kd.V_mono (O_V HO5.out) fun k hk => Or.elim hk (fun h => .inl h.1) (fun h => .inr (Nat.le_trans HB4.out.size h))) HB4.out.size, Aq1 HB4.out HBX5.out⟩
    · have HRES : Aside0 (Aze 1 l0 nm 0 old d kept = (putL l0 nm (Aj1 ([] : List Int) (0 : Int).toNat kept), 0)) := ⟨by unfold Aze; rw [if_neg (by rintro (h | h | ⟨h, _⟩) <;> omega), if_neg hem]; rfl⟩
      by_cases hm : 0 < kept.length
      · have e1 : ((kept.length : Int) == 0) = false := beq_eq_false_iff_ne.mpr (by omega)
        have e2 : (kept.length == 0) = false := beq_eq_false_iff_ne.mpr (by omega)
        obtain ⟨t, ht⟩ : ∃ t : Nat, (t : Int) = (kept.length : Int) := ⟨((kept.length : Int)).toNat, by omega⟩
        have hmk := Azz 23 5 .u8 1 Try.underlying23 Av1 (by decide) t (by omega)
        rw [ht] at hmk
        have HT : Aside0 (DoT ([] : List Int).length 0 kept.length t) := ⟨by unfold DoT; (try simp only [List.length_nil]); omega⟩
        have hlo : ¬ (t = 0) := by omega
        have hle : 0 ≤ t := by omega
        clear ht hem
        have HGM : Aside0 (∀ W : World, (W.alloc (.cells (madeCells #[.int .u8 0] t) 5)).heap[W.heap.size]? = some (.cells (nums .u8 (List.replicate t 0)).toArray 5 (0, 0))) := ⟨fun W => by rw [heap_alloc_new, Ak4]⟩
        go_wp2_with (first | (go_at_call 28; refine (Aqs.calls A0 c0 l0 nm old is _ (Kd.F_now (Kd.F_below HF.out HB.out)) hc0 HG.out).mono ?_; rintro e w3 ⟨v3, rfl, ho3, hb3⟩; have HO3 := Bvh ho3; have HB3 := Bvh (Aq1 HB.out hb3); have BK3 := Bvh (Aqn hb3 BK.out); obtain ⟨A3, c3, ev⟩ := Kd.R_slice ho3; subst ev; have y0 := Aq3 BK3.out 0; have y1 := Aq3 BK3.out 1; have y2 := Aq3 BK3.out 2; have y3 := Aq3 BK3.out 3; clear ho3 hb3 hz0) | (go_at_call 56; refine (Aql.calls nm 1 off A c d (old.length : Int) 0 _ (Kd.C_below HD.out HB3.out) hdc HPL.out).mono ?_; rintro e w4 ⟨rfl, hb4⟩; have HB4 := Bvh (Aq1 HB3.out hb4); have HO4 := Bvh (Kd.R_below HO3.out hb4); have BK4 := Bvh (Aqn hb4 BK3.out); have x0 := Aq3 BK4.out 0; have x1 := Aq3 BK4.out 1; have x2 := Aq3 BK4.out 2; have x3 := Aq3 BK4.out 3; clear hb4 y0 y1 y2 y3) | ((with_reducible refine Ax1 (N := 101) rfl ?_); obtain ⟨w6, hr6, hg6, hk6, hs6, hx6⟩ := Axv (w4.alloc (.cells (madeCells #[.int .u8 0] t) 5)) 3 w4.heap.size 0 t t none 0 (List.replicate t 0) ([] : List Int) (HGM.out w4) ⟨rfl, by simp, fun h => absurd h (by simp)⟩ (by (try simp only [List.length_nil]); have := HT.out; unfold DoT at this; omega) (by rw [List.length_replicate]; (try simp only [List.length_nil]); have := HT.out; unfold DoT at this; omega); refine Aqu _ rfl (.tmp 99) (.tmp 100) 23 23 rfl _ _ rfl rfl hr6 ?_; have HG6 := Bvh hg6; have HX6 := Bvh (And.intro hk6 (And.intro hs6 hx6)); clear hr6 hg6 hk6 hs6 hx6 x0 x1 x2 x3) | ((with_reducible refine Ax1 (N := 106) rfl ?_); obtain ⟨w7, hr7, hg7, hk7, hs7, hx7⟩ := Axv w6 3 w4.heap.size (0) (t) (t) A c _ kept HG6.out (Kd.C_below HKC.out (Bq2 HB4.out HX6.out)) (by have := HT.out; unfold DoT at this; omega) (by simp only [List.length_append, List.length_take, List.length_drop, List.length_replicate]; (try simp only [List.length_nil]); have := HT.out; unfold DoT at this; omega); refine Aqu _ rfl (.tmp 104) (.tmp 105) 23 23 rfl _ _ rfl rfl hr7 ?_; have HG7 := Bvh hg7; have HX7 := Bvh (And.intro hk7 (And.intro hs7 hx7)); have HB7 := Bvh (Bqv HB4.out HX6.out HX7.out); have BK7 := Bvh (Bqt BK4.out HX6.out HX7.out); have z0 := Aq3 BK7.out 0; clear hr7 hg7 hk7 hs7 hx7) | (go_at_call 23; refine (Avg ok A0 c0 l0 nm w HF.out hlen HB7.out HG7.out (by simp only [List.length_append, List.length_take, List.length_drop, List.length_replicate]; (try simp only [List.length_nil]); have := HT.out; unfold DoT at this; omega) (by have := HT.out; unfold DoT at this; omega)).mono ?_; rintro e w8 ⟨v8, rfl, hv8, hb8⟩; have HV8 := Bvh hv8; have HB8 := Bvh hb8; clear hv8 hb8))
        go_ret2
        refine ⟨_, by rw [HRES.out]; rfl, ?_, HB8.out⟩
        rw [HRES.out]
        have hov := HV8.out
        rw [Bjs (LO := 0) HT.out rfl (by omega)] at hov
        exact hov
      · have e1 : ((kept.length : Int) == 0) = true := beq_iff_eq.mpr (by omega)
        have e2 : (kept.length == 0) = true := beq_iff_eq.mpr (by omega)
        have e3 : decide (0 < d.length) = false := decide_eq_false (by omega)
        obtain ⟨t, ht⟩ : ∃ t : Nat, (t : Int) = (0 : Int) := ⟨((0 : Int)).toNat, by omega⟩
        have hmk := Azz 23 5 .u8 1 Try.underlying23 Av1 (by decide) t (by omega)
        rw [ht] at hmk
        have HT : Aside0 (DoT ([] : List Int).length 0 kept.length t) := ⟨by unfold DoT; (try simp only [List.length_nil]); omega⟩
        have hlo : t = 0 := by omega
        have HLO := Bvh hlo
        have hle : 0 ≤ t := by omega
        subst hlo
        clear ht hem
        have HGM : Aside0 (∀ W : World, (W.alloc (.cells (madeCells #[.int .u8 0] 0) 5)).heap[W.heap.size]? = some (.cells (nums .u8 (List.replicate 0 0)).toArray 5 (0, 0))) := ⟨fun W => by rw [heap_alloc_new, Ak4]⟩
        go_wp2_with (first | (go_at_call 28; refine (Aqs.calls A0 c0 l0 nm old is _ (Kd.F_now (Kd.F_below HF.out HB.out)) hc0 HG.out).mono ?_; rintro e w3 ⟨v3, rfl, ho3, hb3⟩; have HO3 := Bvh ho3; have HB3 := Bvh (Aq1 HB.out hb3); have BK3 := Bvh (Aqn hb3 BK.out); obtain ⟨A3, c3, ev⟩ := Kd.R_slice ho3; subst ev; have y0 := Aq3 BK3.out 0; have y1 := Aq3 BK3.out 1; have y2 := Aq3 BK3.out 2; have y3 := Aq3 BK3.out 3; clear ho3 hb3 hz0) | (go_at_call 56; refine (Aql.calls nm 1 off A c d (old.length : Int) 0 _ (Kd.C_below HD.out HB3.out) hdc HPL.out).mono ?_; rintro e w4 ⟨rfl, hb4⟩; have HB4 := Bvh (Aq1 HB3.out hb4); have HO4 := Bvh (Kd.R_below HO3.out hb4); have BK4 := Bvh (Aqn hb4 BK3.out); have x0 := Aq3 BK4.out 0; have x1 := Aq3 BK4.out 1; have x2 := Aq3 BK4.out 2; have x3 := Aq3 BK4.out 3; clear hb4 y0 y1 y2 y3) | ((with_reducible refine Ax1 (N := 101) rfl ?_); obtain ⟨w6, hr6, hg6, hk6, hs6, hx6⟩ := Axv (w4.alloc (.cells (madeCells #[.int .u8 0] 0) 5)) 3 w4.heap.size 0 0 0 none 0 (List.replicate 0 0) ([] : List Int) (HGM.out w4) ⟨rfl, by simp, fun h => absurd h (by simp)⟩ (by (try simp only [List.length_nil]); have := HT.out; unfold DoT at this; omega) (by rw [List.length_replicate]; (try simp only [List.length_nil]); have := HT.out; unfold DoT at this; omega); refine Aqu _ rfl (.tmp 99) (.tmp 100) 23 23 rfl _ _ rfl rfl hr6 ?_; have HG6 := Bvh hg6; have HX6 := Bvh (And.intro hk6 (And.intro hs6 hx6)); clear hr6 hg6 hk6 hs6 hx6 x0 x1 x2 x3) | ((with_reducible refine Ax1 (N := 106) rfl ?_); obtain ⟨w7, hr7, hg7, hk7, hs7, hx7⟩ := Axv w6 3 w4.heap.size (0) (0) (0) A c _ kept HG6.out (Kd.C_below HKC.out (Bq2 HB4.out HX6.out)) (by have := HT.out; unfold DoT at this; omega) (by simp only [List.length_append, List.length_take, List.length_drop, List.length_replicate]; (try simp only [List.length_nil]); have := HT.out; unfold DoT at this; omega); refine Aqu _ rfl (.tmp 104) (.tmp 105) 23 23 rfl _ _ rfl rfl hr7 ?_; have HG7 := Bvh hg7; have HX7 := Bvh (And.intro hk7 (And.intro hs7 hx7)); have HB7 := Bvh (Bqv HB4.out HX6.out HX7.out); have BK7 := Bvh (Bqt BK4.out HX6.out HX7.out); have z0 := Aq3 BK7.out 0; clear hr7 hg7 hk7 hs7 hx7) | (go_at_call 23; refine (Avg ok A0 c0 l0 nm w HF.out hlen HB7.out HG7.out (by simp only [List.length_append, List.length_take, List.length_drop, List.length_replicate]; (try simp only [List.length_nil]); have := HT.out; unfold DoT at this; omega) (by have := HT.out; unfold DoT at this; omega)).mono ?_; rintro e w8 ⟨v8, rfl, hv8, hb8⟩; have HV8 := Bvh hv8; have HB8 := Bvh hb8; clear hv8 hb8))
        go_ret2
        refine ⟨_, by rw [HRES.out]; rfl, ?_, HB8.out⟩
        rw [HRES.out]
        have hov := HV8.out
        rw [Aw2 (LO := 0) HT.out rfl (by omega)] at hov
        exact hov
theorem do_2 (ok : Nat → Prop) (A0 : Option Addr) (c0 : Nat) (l0 : List S38) (nm : ByteArray) (off keep : Int) (A : Option Addr) (c : Nat) (d old : List Int) (is : Bool) (w : World) (hf : Kd.F k38 w ok A0 l0.length l0) (hc0 : l0.length ≤ c0) (hlen : l0.length ≤ 1000000) (hg : Aqs.f l0 nm = some (old, is)) (hold : old.length ≤ 1000000)
 (hn1 : 1 ≤ nm.size) (hn2 : nm.size ≤ 40) (hd : (Kd.int .u8).C w A d.length d) (hdc : d.length ≤ c) (hdl : d.length ≤ 1000000) :
 Calls Try.prog 17 #[.slice A0 l0.length c0, .agg #[.string nm, .int .i64 2, .int .i64 off, .slice A d.length c], .int .i64 keep] w fun e w' => ∃ v, e = .returned (.tuple #[v, .int .i64 (Aze 2 l0 nm (old.length : Int) old d (Axp d keep)).2]) ∧ Kd.V k38 38 w' w.heap.size (fun k => ok k ∨ w.heap.size ≤ k) v (Aze 2 l0 nm (old.length : Int) old d (Axp d keep)).1 ∧ Below w.heap.size w w' := by
 have HF := Bvh hf
 have HG := Bvh hg
 have HD := Bvh hd
 have hfine : Axq.f nm = some true := by unfold Axq.f; rw [if_pos (by omega)]; simp; omega
 have HFINE := Bvh hfine
 obtain ⟨kept, hkept⟩ : ∃ kept, Axp d keep = kept := ⟨_, rfl⟩
 have hkl : kept.length ≤ d.length := by rw [← hkept]; unfold Axp; split; (rw [List.length_take]; omega); exact Nat.le_refl _
 have hkc : (Kd.int .u8).C w A kept.length kept := by
  rw [← hkept]; unfold Axp; split
  · exact C_take hd _
  · exact hd
 have HKC := Bvh hkc
 rw [hkept]
 have HKEPT := Bvh hkept
 clear hf hg hd hfine hkept hkc
 go_enter Try.func17, Try.ntmps17
 go_upto_if 40 with (go_at_call 55; refine (Axq.calls nm true _ HFINE.out).mono ?_; rintro e w1 ⟨rfl, ⟨nd, rfl⟩⟩)
 go_cut [8] (fun v8 wc => v8 = .slice A kept.length c ∧ Aside0 (wc.heap[w.heap.size]? = some (.cells #[.string nm, .int .i64 2, .int .i64 off, .slice A d.length c] 31 (0, 0))) ∧ Aside0 (Below w.heap.size w wc))
 case first =>
  have hbx := heap_alloc_new w (.cells #[.string nm, .int .i64 2, .int .i64 off, .slice A d.length c] 31)
  by_cases h0 : 0 ≤ keep
  · by_cases h1 : (d.length : Int) < keep
    · have he : kept.length = d.length := by rw [← HKEPT.out]; unfold Axp; rw [if_pos h0, List.length_take]; omega
      have HE := Bvh he
      have HBX := Bvh hbx
      clear he hbx
      go_wp2
      go_meet
      case rel => exact ⟨by rw [HE.out], HBX, ⟨Aq7 (Aq4 (Below.refl _ _) _) _⟩⟩
    · have he : keep.toNat = kept.length := by rw [← HKEPT.out]; unfold Axp; rw [if_pos h0, List.length_take]; omega
      have h2 : keep ≤ d.length := by omega
      have HE := Bvh he
      have HBX := Bvh hbx
      clear he hbx h1
      go_wp2
      go_meet
      case rel => exact ⟨by rw [HE.out], HBX, ⟨Aq7 (Aq4 (Below.refl _ _) _) _⟩⟩
  · have he : kept.length = d.length := by rw [← HKEPT.out]; unfold Axp; rw [if_neg h0]
    have HE := Bvh he
    have HBX := Bvh hbx
    clear he hbx
    go_wp2
    go_meet
    case rel => exact ⟨by rw [HE.out], HBX, ⟨Aq7 (Aq4 (Below.refl _ _) _) _⟩⟩
 case rest =>
  obtain ⟨rfl, BK, HB⟩ := hcut
  have hz0 : wc.cell? ⟨w.heap.size, 0, none⟩ = some (.string nm) := (Aq3 BK.out 0).trans rfl
  have HPL : Aside0 (Aql.f nm 2 off d (old.length : Int) = some (old.length : Int)) := ⟨by unfold Aql.f; rw [if_pos rfl]⟩
  by_cases hq1 : (old.length : Int) > 65536
  · have HRES : Aside0 (Aze 2 l0 nm (old.length : Int) old d kept = ([], 11)) := ⟨by unfold Aze; rw [if_pos (.inl hq1)]⟩
    go_wp2_with (first | (go_at_call 28; refine (Aqs.calls A0 c0 l0 nm old is _ (Kd.F_now (Kd.F_below HF.out HB.out)) hc0 HG.out).mono ?_; rintro e w3 ⟨v3, rfl, ho3, hb3⟩; have HO3 := Bvh ho3; have HB3 := Bvh (Aq1 HB.out hb3); have BK3 := Bvh (Aqn hb3 BK.out); obtain ⟨A3, c3, ev⟩ := Kd.R_slice ho3; subst ev; have y0 := Aq3 BK3.out 0; have y1 := Aq3 BK3.out 1; have y2 := Aq3 BK3.out 2; have y3 := Aq3 BK3.out 3; clear ho3 hb3 hz0) | (go_at_call 56; refine (Aql.calls nm 2 off A c d (old.length : Int) (old.length : Int) _ (Kd.C_below HD.out HB3.out) hdc HPL.out).mono ?_; rintro e w4 ⟨rfl, hb4⟩; have HB4 := Bvh (Aq1 HB3.out hb4); have HO4 := Bvh (Kd.R_below HO3.out hb4); have BK4 := Bvh (Aqn hb4 BK3.out); have x0 := Aq3 BK4.out 0; have x1 := Aq3 BK4.out 1; have x2 := Aq3 BK4.out 2; have x3 := Aq3 BK4.out 3; clear hb4 y0 y1 y2 y3))
    go_ret2
    exact ⟨_, by rw [HRES.out]; rfl, by rw [HRES.out]; exact Kd.V_nil _ _ _ _ _, HB4.out⟩
  · skip
    by_cases hq2 : (old.length : Int) + (kept.length : Int) > 65536
    · have HRES : Aside0 (Aze 2 l0 nm (old.length : Int) old d kept = ([], 11)) := ⟨by unfold Aze; rw [if_pos (.inr (.inl hq2))]⟩
      go_wp2_with (first | (go_at_call 28; refine (Aqs.calls A0 c0 l0 nm old is _ (Kd.F_now (Kd.F_below HF.out HB.out)) hc0 HG.out).mono ?_; rintro e w3 ⟨v3, rfl, ho3, hb3⟩; have HO3 := Bvh ho3; have HB3 := Bvh (Aq1 HB.out hb3); have BK3 := Bvh (Aqn hb3 BK.out); obtain ⟨A3, c3, ev⟩ := Kd.R_slice ho3; subst ev; have y0 := Aq3 BK3.out 0; have y1 := Aq3 BK3.out 1; have y2 := Aq3 BK3.out 2; have y3 := Aq3 BK3.out 3; clear ho3 hb3 hz0) | (go_at_call 56; refine (Aql.calls nm 2 off A c d (old.length : Int) (old.length : Int) _ (Kd.C_below HD.out HB3.out) hdc HPL.out).mono ?_; rintro e w4 ⟨rfl, hb4⟩; have HB4 := Bvh (Aq1 HB3.out hb4); have HO4 := Bvh (Kd.R_below HO3.out hb4); have BK4 := Bvh (Aqn hb4 BK3.out); have x0 := Aq3 BK4.out 0; have x1 := Aq3 BK4.out 1; have x2 := Aq3 BK4.out 2; have x3 := Aq3 BK4.out 3; clear hb4 y0 y1 y2 y3))
      go_ret2
      exact ⟨_, by rw [HRES.out]; rfl, by rw [HRES.out]; exact Kd.V_nil _ _ _ _ _, HB4.out⟩
    · skip
      by_cases hem : kept.length = 0 ∧ d.length > 0
      · have HRES : Aside0 (Aze 2 l0 nm (old.length : Int) old d kept = (l0, 0)) := ⟨by unfold Aze; rw [if_neg (by rintro (h | h | ⟨h, _⟩) <;> omega), if_pos hem]⟩
        have e1 : ((kept.length : Int) == 0) = true := by simpa using hem.1
        have e2 : (kept.length == 0) = true := by simpa using hem.1
        have e3 : decide (0 < d.length) = true := by simpa using hem.2
        clear hem
        go_wp2_with (first | (go_at_call 28; refine (Aqs.calls A0 c0 l0 nm old is _ (Kd.F_now (Kd.F_below HF.out HB.out)) hc0 HG.out).mono ?_; rintro e w3 ⟨v3, rfl, ho3, hb3⟩; have HO3 := Bvh ho3; have HB3 := Bvh (Aq1 HB.out hb3); have BK3 := Bvh (Aqn hb3 BK.out); obtain ⟨A3, c3, ev⟩ := Kd.R_slice ho3; subst ev; have y0 := Aq3 BK3.out 0; have y1 := Aq3 BK3.out 1; have y2 := Aq3 BK3.out 2; have y3 := Aq3 BK3.out 3; clear ho3 hb3 hz0) | (go_at_call 56; refine (Aql.calls nm 2 off A c d (old.length : Int) (old.length : Int) _ (Kd.C_below HD.out HB3.out) hdc HPL.out).mono ?_; rintro e w4 ⟨rfl, hb4⟩; have HB4 := Bvh (Aq1 HB3.out hb4); have HO4 := Bvh (Kd.R_below HO3.out hb4); have BK4 := Bvh (Aqn hb4 BK3.out); have x0 := Aq3 BK4.out 0; have x1 := Aq3 BK4.out 1; have x2 := Aq3 BK4.out 2; have x3 := Aq3 BK4.out 3; clear hb4 y0 y1 y2 y3) | (go_at_call 57; refine (Bxg ok A0 c0 l0 _ (Kd.F_below HF.out HB4.out) hlen).mono ?_; rintro e w5 ⟨v5, rfl, ho5, hb5⟩; have HO5 := Bvh ho5; have HBX5 := Bvh hb5; clear ho5 hb5 x0 x1 x2 x3))
        go_ret2
        exact ⟨_, by rw [HRES.out]; rfl, by rw [HRES.out]; exact Kd.V_lower (Kd.V_mono (O_V HO5.out) fun k hk => Or.elim hk (fun h => .inl h.1) (fun h => .inr (Nat.le_trans HB4.out.size h))) HB4.out.size, Aq1 HB4.out HBX5.out⟩
      · have HRES : Aside0 (Aze 2 l0 nm (old.length : Int) old d kept = (putL l0 nm (Aj1 old ((old.length : Int) : Int).toNat kept), 0)) := ⟨by unfold Aze; rw [if_neg (by rintro (h | h | ⟨h, _⟩) <;> omega), if_neg hem]; rfl⟩
        by_cases hm : 0 < kept.length
        · have e1 : ((kept.length : Int) == 0) = false := beq_eq_false_iff_ne.mpr (by omega)
          have e2 : (kept.length == 0) = false := beq_eq_false_iff_ne.mpr (by omega)
          obtain ⟨t, ht⟩ : ∃ t : Nat, (t : Int) = (old.length : Int) + (kept.length : Int) := ⟨((old.length : Int) + (kept.length : Int)).toNat, by omega⟩
          have hmk := Azz 23 5 .u8 1 Try.underlying23 Av1 (by decide) t (by omega)
          rw [ht] at hmk
          have HT : Aside0 (DoT old.length (old.length : Int) kept.length t) := ⟨by unfold DoT; (try simp only [List.length_nil]); omega⟩
          have hlo : ¬ (t = old.length) := by omega
          have hle : old.length ≤ t := by omega
          clear ht hem
          have HGM : Aside0 (∀ W : World, (W.alloc (.cells (madeCells #[.int .u8 0] t) 5)).heap[W.heap.size]? = some (.cells (nums .u8 (List.replicate t 0)).toArray 5 (0, 0))) := ⟨fun W => by rw [heap_alloc_new, Ak4]⟩
          go_wp2_with (first | (go_at_call 28; refine (Aqs.calls A0 c0 l0 nm old is _ (Kd.F_now (Kd.F_below HF.out HB.out)) hc0 HG.out).mono ?_; rintro e w3 ⟨v3, rfl, ho3, hb3⟩; have HO3 := Bvh ho3; have HB3 := Bvh (Aq1 HB.out hb3); have BK3 := Bvh (Aqn hb3 BK.out); obtain ⟨A3, c3, ev⟩ := Kd.R_slice ho3; subst ev; have y0 := Aq3 BK3.out 0; have y1 := Aq3 BK3.out 1; have y2 := Aq3 BK3.out 2; have y3 := Aq3 BK3.out 3; clear ho3 hb3 hz0) | (go_at_call 56; refine (Aql.calls nm 2 off A c d (old.length : Int) (old.length : Int) _ (Kd.C_below HD.out HB3.out) hdc HPL.out).mono ?_; rintro e w4 ⟨rfl, hb4⟩; have HB4 := Bvh (Aq1 HB3.out hb4); have HO4 := Bvh (Kd.R_below HO3.out hb4); have BK4 := Bvh (Aqn hb4 BK3.out); have x0 := Aq3 BK4.out 0; have x1 := Aq3 BK4.out 1; have x2 := Aq3 BK4.out 2; have x3 := Aq3 BK4.out 3; clear hb4 y0 y1 y2 y3) | ((with_reducible refine Ax1 (N := 101) rfl ?_); obtain ⟨w6, hr6, hg6, hk6, hs6, hx6⟩ := Axv (w4.alloc (.cells (madeCells #[.int .u8 0] t) 5)) 3 w4.heap.size 0 t t A3 c3 (List.replicate t 0) old (HGM.out w4) (Kd.C_alloc (Kd.R_reads' HO4.out).2.2 _) (by (try simp only [List.length_nil]); have := HT.out; unfold DoT at this; omega) (by rw [List.length_replicate]; (try simp only [List.length_nil]); have := HT.out; unfold DoT at this; omega); refine Aqu _ rfl (.tmp 99) (.tmp 100) 23 23 rfl _ _ rfl rfl hr6 ?_; have HG6 := Bvh hg6; have HX6 := Bvh (And.intro hk6 (And.intro hs6 hx6)); clear hr6 hg6 hk6 hs6 hx6 x0 x1 x2 x3) | ((with_reducible refine Ax1 (N := 106) rfl ?_); obtain ⟨w7, hr7, hg7, hk7, hs7, hx7⟩ := Axv w6 3 w4.heap.size (old.length) (t - old.length) (t - old.length) A c _ kept HG6.out (Kd.C_below HKC.out (Bq2 HB4.out HX6.out)) (by have := HT.out; unfold DoT at this; omega) (by simp only [List.length_append, List.length_take, List.length_drop, List.length_replicate]; (try simp only [List.length_nil]); have := HT.out; unfold DoT at this; omega); refine Aqu _ rfl (.tmp 104) (.tmp 105) 23 23 rfl _ _ rfl rfl hr7 ?_; have HG7 := Bvh hg7; have HX7 := Bvh (And.intro hk7 (And.intro hs7 hx7)); have HB7 := Bvh (Bqv HB4.out HX6.out HX7.out); have BK7 := Bvh (Bqt BK4.out HX6.out HX7.out); have z0 := Aq3 BK7.out 0; clear hr7 hg7 hk7 hs7 hx7) | (go_at_call 23; refine (Avg ok A0 c0 l0 nm w HF.out hlen HB7.out HG7.out (by simp only [List.length_append, List.length_take, List.length_drop, List.length_replicate]; (try simp only [List.length_nil]); have := HT.out; unfold DoT at this; omega) (by have := HT.out; unfold DoT at this; omega)).mono ?_; rintro e w8 ⟨v8, rfl, hv8, hb8⟩; have HV8 := Bvh hv8; have HB8 := Bvh hb8; clear hv8 hb8))
          go_ret2
          refine ⟨_, by rw [HRES.out]; rfl, ?_, HB8.out⟩
          rw [HRES.out]
          have hov := HV8.out
          rw [Bjs (LO := old.length) HT.out (Int.toNat_natCast _) (by omega)] at hov
          exact hov
        · have e1 : ((kept.length : Int) == 0) = true := beq_iff_eq.mpr (by omega)
          have e2 : (kept.length == 0) = true := beq_iff_eq.mpr (by omega)
          have e3 : decide (0 < d.length) = false := decide_eq_false (by omega)
          obtain ⟨t, ht⟩ : ∃ t : Nat, (t : Int) = (old.length : Int) := ⟨((old.length : Int)).toNat, by omega⟩
          have hmk := Azz 23 5 .u8 1 Try.underlying23 Av1 (by decide) t (by omega)
          rw [ht] at hmk
          have HT : Aside0 (DoT old.length (old.length : Int) kept.length t) := ⟨by unfold DoT; (try simp only [List.length_nil]); omega⟩
          have hlo : t = old.length := by omega
          have HLO := Bvh hlo
          have hle : old.length ≤ t := by omega
          subst hlo
          clear ht hem
          have HGM : Aside0 (∀ W : World, (W.alloc (.cells (madeCells #[.int .u8 0] old.length) 5)).heap[W.heap.size]? = some (.cells (nums .u8 (List.replicate old.length 0)).toArray 5 (0, 0))) := ⟨fun W => by rw [heap_alloc_new, Ak4]⟩
          go_wp2_with (first | (go_at_call 28; refine (Aqs.calls A0 c0 l0 nm old is _ (Kd.F_now (Kd.F_below HF.out HB.out)) hc0 HG.out).mono ?_; rintro e w3 ⟨v3, rfl, ho3, hb3⟩; have HO3 := Bvh ho3; have HB3 := Bvh (Aq1 HB.out hb3); have BK3 := Bvh (Aqn hb3 BK.out); obtain ⟨A3, c3, ev⟩ := Kd.R_slice ho3; subst ev; have y0 := Aq3 BK3.out 0; have y1 := Aq3 BK3.out 1; have y2 := Aq3 BK3.out 2; have y3 := Aq3 BK3.out 3; clear ho3 hb3 hz0) | (go_at_call 56; refine (Aql.calls nm 2 off A c d (old.length : Int) (old.length : Int) _ (Kd.C_below HD.out HB3.out) hdc HPL.out).mono ?_; rintro e w4 ⟨rfl, hb4⟩; have HB4 := Bvh (Aq1 HB3.out hb4); have HO4 := Bvh (Kd.R_below HO3.out hb4); have BK4 := Bvh (Aqn hb4 BK3.out); have x0 := Aq3 BK4.out 0; have x1 := Aq3 BK4.out 1; have x2 := Aq3 BK4.out 2; have x3 := Aq3 BK4.out 3; clear hb4 y0 y1 y2 y3) | ((with_reducible refine Ax1 (N := 101) rfl ?_); obtain ⟨w6, hr6, hg6, hk6, hs6, hx6⟩ := Axv (w4.alloc (.cells (madeCells #[.int .u8 0] old.length) 5)) 3 w4.heap.size 0 old.length old.length A3 c3 (List.replicate old.length 0) old (HGM.out w4) (Kd.C_alloc (Kd.R_reads' HO4.out).2.2 _) (by (try simp only [List.length_nil]); have := HT.out; unfold DoT at this; omega) (by rw [List.length_replicate]; (try simp only [List.length_nil]); have := HT.out; unfold DoT at this; omega); refine Aqu _ rfl (.tmp 99) (.tmp 100) 23 23 rfl _ _ rfl rfl hr6 ?_; have HG6 := Bvh hg6; have HX6 := Bvh (And.intro hk6 (And.intro hs6 hx6)); clear hr6 hg6 hk6 hs6 hx6 x0 x1 x2 x3) | ((with_reducible refine Ax1 (N := 106) rfl ?_); obtain ⟨w7, hr7, hg7, hk7, hs7, hx7⟩ := Axv w6 3 w4.heap.size (0) (0) (0) A c _ kept HG6.out (Kd.C_below HKC.out (Bq2 HB4.out HX6.out)) (by have := HT.out; unfold DoT at this; omega) (by simp only [List.length_append, List.length_take, List.length_drop, List.length_replicate]; (try simp only [List.length_nil]); have := HT.out; unfold DoT at this; omega); refine Aqu _ rfl (.tmp 104) (.tmp 105) 23 23 rfl _ _ rfl rfl hr7 ?_; have HG7 := Bvh hg7; have HX7 := Bvh (And.intro hk7 (And.intro hs7 hx7)); have HB7 := Bvh (Bqv HB4.out HX6.out HX7.out); have BK7 := Bvh (Bqt BK4.out HX6.out HX7.out); have z0 := Aq3 BK7.out 0; clear hr7 hg7 hk7 hs7 hx7) | (go_at_call 23; refine (Avg ok A0 c0 l0 nm w HF.out hlen HB7.out HG7.out (by simp only [List.length_append, List.length_take, List.length_drop, List.length_replicate]; (try simp only [List.length_nil]); have := HT.out; unfold DoT at this; omega) (by have := HT.out; unfold DoT at this; omega)).mono ?_; rintro e w8 ⟨v8, rfl, hv8, hb8⟩; have HV8 := Bvh hv8; have HB8 := Bvh hb8; clear hv8 hb8))
          go_ret2
          refine ⟨_, by rw [HRES.out]; rfl, ?_, HB8.out⟩
          rw [HRES.out]
          have hov := HV8.out
          rw [Aw2 (LO := old.length) HT.out (Int.toNat_natCast _) (by omega)] at hov
          exact hov
theorem do_3 (ok : Nat → Prop) (A0 : Option Addr) (c0 : Nat) (l0 : List S38) (nm : ByteArray) (off keep : Int) (A : Option Addr) (c : Nat) (d old : List Int) (is : Bool) (w : World) (hf : Kd.F k38 w ok A0 l0.length l0) (hc0 : l0.length ≤ c0) (hlen : l0.length ≤ 1000000) (hg : Aqs.f l0 nm = some (old, is)) (hold : old.length ≤ 1000000)
 (hn1 : 1 ≤ nm.size) (hn2 : nm.size ≤ 40) (hd : (Kd.int .u8).C w A d.length d) (hdc : d.length ≤ c) (hdl : d.length ≤ 1000000) (ho : 0 ≤ off) :
 Calls Try.prog 17 #[.slice A0 l0.length c0, .agg #[.string nm, .int .i64 3, .int .i64 off, .slice A d.length c], .int .i64 keep] w fun e w' => ∃ v, e = .returned (.tuple #[v, .int .i64 (Aze 3 l0 nm off old d (Axp d keep)).2]) ∧ Kd.V k38 38 w' w.heap.size (fun k => ok k ∨ w.heap.size ≤ k) v (Aze 3 l0 nm off old d (Axp d keep)).1 ∧ Below w.heap.size w w' := by
 have HF := Bvh hf
 have HG := Bvh hg
 have HD := Bvh hd
 have hfine : Axq.f nm = some true := by unfold Axq.f; rw [if_pos (by omega)]; simp; omega
 have HFINE := Bvh hfine
 obtain ⟨kept, hkept⟩ : ∃ kept, Axp d keep = kept := ⟨_, rfl⟩
 have hkl : kept.length ≤ d.length := by rw [← hkept]; unfold Axp; split; (rw [List.length_take]; omega); exact Nat.le_refl _
 have hkc : (Kd.int .u8).C w A kept.length kept := by
  rw [← hkept]; unfold Axp; split
  · exact C_take hd _
  · exact hd
 have HKC := Bvh hkc
 rw [hkept]
 have HKEPT := Bvh hkept
 clear hf hg hd hfine hkept hkc
 go_enter Try.func17, Try.ntmps17
 go_upto_if 40 with (go_at_call 55; refine (Axq.calls nm true _ HFINE.out).mono ?_; rintro e w1 ⟨rfl, ⟨nd, rfl⟩⟩)
 go_cut [8] (fun v8 wc => v8 = .slice A kept.length c ∧ Aside0 (wc.heap[w.heap.size]? = some (.cells #[.string nm, .int .i64 3, .int .i64 off, .slice A d.length c] 31 (0, 0))) ∧ Aside0 (Below w.heap.size w wc))
 case first =>
  have hbx := heap_alloc_new w (.cells #[.string nm, .int .i64 3, .int .i64 off, .slice A d.length c] 31)
  by_cases h0 : 0 ≤ keep
  · by_cases h1 : (d.length : Int) < keep
    · have he : kept.length = d.length := by rw [← HKEPT.out]; unfold Axp; rw [if_pos h0, List.length_take]; omega
      have HE := Bvh he
      have HBX := Bvh hbx
      clear he hbx
      go_wp2
      go_meet
      case rel => exact ⟨by rw [HE.out], HBX, ⟨Aq7 (Aq4 (Below.refl _ _) _) _⟩⟩
    · have he : keep.toNat = kept.length := by rw [← HKEPT.out]; unfold Axp; rw [if_pos h0, List.length_take]; omega
      have h2 : keep ≤ d.length := by omega
      have HE := Bvh he
      have HBX := Bvh hbx
      clear he hbx h1
      go_wp2
      go_meet
      case rel => exact ⟨by rw [HE.out], HBX, ⟨Aq7 (Aq4 (Below.refl _ _) _) _⟩⟩
  · have he : kept.length = d.length := by rw [← HKEPT.out]; unfold Axp; rw [if_neg h0]
    have HE := Bvh he
    have HBX := Bvh hbx
    clear he hbx
    go_wp2
    go_meet
    case rel => exact ⟨by rw [HE.out], HBX, ⟨Aq7 (Aq4 (Below.refl _ _) _) _⟩⟩
 case rest =>
  obtain ⟨rfl, BK, HB⟩ := hcut
  have hz0 : wc.cell? ⟨w.heap.size, 0, none⟩ = some (.string nm) := (Aq3 BK.out 0).trans rfl
  have HPL : Aside0 (Aql.f nm 3 off d (old.length : Int) = some off) := ⟨by unfold Aql.f; rw [if_neg (by decide), if_pos rfl]⟩
  by_cases hq1 : off > 65536
  · have HRES : Aside0 (Aze 3 l0 nm off old d kept = ([], 11)) := ⟨by unfold Aze; rw [if_pos (.inl hq1)]⟩
    go_wp2_with (first | (go_at_call 28; refine (Aqs.calls A0 c0 l0 nm old is _ (Kd.F_now (Kd.F_below HF.out HB.out)) hc0 HG.out).mono ?_; rintro e w3 ⟨v3, rfl, ho3, hb3⟩; have HO3 := Bvh ho3; have HB3 := Bvh (Aq1 HB.out hb3); have BK3 := Bvh (Aqn hb3 BK.out); obtain ⟨A3, c3, ev⟩ := Kd.R_slice ho3; subst ev; have y0 := Aq3 BK3.out 0; have y1 := Aq3 BK3.out 1; have y2 := Aq3 BK3.out 2; have y3 := Aq3 BK3.out 3; clear ho3 hb3 hz0) | (go_at_call 56; refine (Aql.calls nm 3 off A c d (old.length : Int) off _ (Kd.C_below HD.out HB3.out) hdc HPL.out).mono ?_; rintro e w4 ⟨rfl, hb4⟩; have HB4 := Bvh (Aq1 HB3.out hb4); have HO4 := Bvh (Kd.R_below HO3.out hb4); have BK4 := Bvh (Aqn hb4 BK3.out); have x0 := Aq3 BK4.out 0; have x1 := Aq3 BK4.out 1; have x2 := Aq3 BK4.out 2; have x3 := Aq3 BK4.out 3; clear hb4 y0 y1 y2 y3))
    go_ret2
    exact ⟨_, by rw [HRES.out]; rfl, by rw [HRES.out]; exact Kd.V_nil _ _ _ _ _, HB4.out⟩
  · skip
    by_cases hq2 : off + (kept.length : Int) > 65536
    · have HRES : Aside0 (Aze 3 l0 nm off old d kept = ([], 11)) := ⟨by unfold Aze; rw [if_pos (.inr (.inl hq2))]⟩
      go_wp2_with (first | (go_at_call 28; refine (Aqs.calls A0 c0 l0 nm old is _ (Kd.F_now (Kd.F_below HF.out HB.out)) hc0 HG.out).mono ?_; rintro e w3 ⟨v3, rfl, ho3, hb3⟩; have HO3 := Bvh ho3; have HB3 := Bvh (Aq1 HB.out hb3); have BK3 := Bvh (Aqn hb3 BK.out); obtain ⟨A3, c3, ev⟩ := Kd.R_slice ho3; subst ev; have y0 := Aq3 BK3.out 0; have y1 := Aq3 BK3.out 1; have y2 := Aq3 BK3.out 2; have y3 := Aq3 BK3.out 3; clear ho3 hb3 hz0) | (go_at_call 56; refine (Aql.calls nm 3 off A c d (old.length : Int) off _ (Kd.C_below HD.out HB3.out) hdc HPL.out).mono ?_; rintro e w4 ⟨rfl, hb4⟩; have HB4 := Bvh (Aq1 HB3.out hb4); have HO4 := Bvh (Kd.R_below HO3.out hb4); have BK4 := Bvh (Aqn hb4 BK3.out); have x0 := Aq3 BK4.out 0; have x1 := Aq3 BK4.out 1; have x2 := Aq3 BK4.out 2; have x3 := Aq3 BK4.out 3; clear hb4 y0 y1 y2 y3))
      go_ret2
      exact ⟨_, by rw [HRES.out]; rfl, by rw [HRES.out]; exact Kd.V_nil _ _ _ _ _, HB4.out⟩
    · skip
      by_cases hq3 : old.length > 65536
      · have HRES : Aside0 (Aze 3 l0 nm off old d kept = ([], 11)) := ⟨by unfold Aze; rw [if_pos (.inr (.inr ⟨rfl, hq3⟩))]⟩
        go_wp2_with (first | (go_at_call 28; refine (Aqs.calls A0 c0 l0 nm old is _ (Kd.F_now (Kd.F_below HF.out HB.out)) hc0 HG.out).mono ?_; rintro e w3 ⟨v3, rfl, ho3, hb3⟩; have HO3 := Bvh ho3; have HB3 := Bvh (Aq1 HB.out hb3); have BK3 := Bvh (Aqn hb3 BK.out); obtain ⟨A3, c3, ev⟩ := Kd.R_slice ho3; subst ev; have y0 := Aq3 BK3.out 0; have y1 := Aq3 BK3.out 1; have y2 := Aq3 BK3.out 2; have y3 := Aq3 BK3.out 3; clear ho3 hb3 hz0) | (go_at_call 56; refine (Aql.calls nm 3 off A c d (old.length : Int) off _ (Kd.C_below HD.out HB3.out) hdc HPL.out).mono ?_; rintro e w4 ⟨rfl, hb4⟩; have HB4 := Bvh (Aq1 HB3.out hb4); have HO4 := Bvh (Kd.R_below HO3.out hb4); have BK4 := Bvh (Aqn hb4 BK3.out); have x0 := Aq3 BK4.out 0; have x1 := Aq3 BK4.out 1; have x2 := Aq3 BK4.out 2; have x3 := Aq3 BK4.out 3; clear hb4 y0 y1 y2 y3))
        go_ret2
        exact ⟨_, by rw [HRES.out]; rfl, by rw [HRES.out]; exact Kd.V_nil _ _ _ _ _, HB4.out⟩
      · skip
        by_cases hem : kept.length = 0 ∧ d.length > 0
        · have HRES : Aside0 (Aze 3 l0 nm off old d kept = (l0, 0)) := ⟨by unfold Aze; rw [if_neg (by rintro (h | h | ⟨_, h⟩) <;> omega), if_pos hem]⟩
          have e1 : ((kept.length : Int) == 0) = true := by simpa using hem.1
          have e2 : (kept.length == 0) = true := by simpa using hem.1
          have e3 : decide (0 < d.length) = true := by simpa using hem.2
          clear hem
          go_wp2_with (first | (go_at_call 28; refine (Aqs.calls A0 c0 l0 nm old is _ (Kd.F_now (Kd.F_below HF.out HB.out)) hc0 HG.out).mono ?_; rintro e w3 ⟨v3, rfl, ho3, hb3⟩; have HO3 := Bvh ho3; have HB3 := Bvh (Aq1 HB.out hb3); have BK3 := Bvh (Aqn hb3 BK.out); obtain ⟨A3, c3, ev⟩ := Kd.R_slice ho3; subst ev; have y0 := Aq3 BK3.out 0; have y1 := Aq3 BK3.out 1; have y2 := Aq3 BK3.out 2; have y3 := Aq3 BK3.out 3; clear ho3 hb3 hz0) | (go_at_call 56; refine (Aql.calls nm 3 off A c d (old.length : Int) off _ (Kd.C_below HD.out HB3.out) hdc HPL.out).mono ?_; rintro e w4 ⟨rfl, hb4⟩; have HB4 := Bvh (Aq1 HB3.out hb4); have HO4 := Bvh (Kd.R_below HO3.out hb4); have BK4 := Bvh (Aqn hb4 BK3.out); have x0 := Aq3 BK4.out 0; have x1 := Aq3 BK4.out 1; have x2 := Aq3 BK4.out 2; have x3 := Aq3 BK4.out 3; clear hb4 y0 y1 y2 y3) | (go_at_call 57; refine (Bxg ok A0 c0 l0 _ (Kd.F_below HF.out HB4.out) hlen).mono ?_; rintro e w5 ⟨v5, rfl, ho5, hb5⟩; have HO5 := Bvh ho5; have HBX5 := Bvh hb5; clear ho5 hb5 x0 x1 x2 x3))
          go_ret2
          exact ⟨_, by rw [HRES.out]; rfl, by rw [HRES.out]; exact Kd.V_lower (Kd.V_mono (O_V HO5.out) fun k hk => Or.elim hk (fun h => .inl h.1) (fun h => .inr (Nat.le_trans HB4.out.size h))) HB4.out.size, Aq1 HB4.out HBX5.out⟩
        · have HRES : Aside0 (Aze 3 l0 nm off old d kept = (putL l0 nm (Aj1 old (off : Int).toNat kept), 0)) := ⟨by unfold Aze; rw [if_neg (by rintro (h | h | ⟨_, h⟩) <;> omega), if_neg hem]; rfl⟩
          by_cases hm : 0 < kept.length
          · by_cases hxy : (old.length : Int) < off + (kept.length : Int)
            · have e1 : ((kept.length : Int) == 0) = false := beq_eq_false_iff_ne.mpr (by omega)
              have e2 : (kept.length == 0) = false := beq_eq_false_iff_ne.mpr (by omega)
              obtain ⟨t, ht⟩ : ∃ t : Nat, (t : Int) = off + (kept.length : Int) := ⟨(off + (kept.length : Int)).toNat, by omega⟩
              have hmk := Azz 23 5 .u8 1 Try.underlying23 Av1 (by decide) t (by omega)
              rw [ht] at hmk
              have HT : Aside0 (DoT old.length off kept.length t) := ⟨by unfold DoT; (try simp only [List.length_nil]); omega⟩
              have hlo : ¬ (t = off.toNat) := by omega
              have hle : off.toNat ≤ t := by omega
              clear ht hem
              have HGM : Aside0 (∀ W : World, (W.alloc (.cells (madeCells #[.int .u8 0] t) 5)).heap[W.heap.size]? = some (.cells (nums .u8 (List.replicate t 0)).toArray 5 (0, 0))) := ⟨fun W => by rw [heap_alloc_new, Ak4]⟩
              go_wp2_with (first | (go_at_call 28; refine (Aqs.calls A0 c0 l0 nm old is _ (Kd.F_now (Kd.F_below HF.out HB.out)) hc0 HG.out).mono ?_; rintro e w3 ⟨v3, rfl, ho3, hb3⟩; have HO3 := Bvh ho3; have HB3 := Bvh (Aq1 HB.out hb3); have BK3 := Bvh (Aqn hb3 BK.out); obtain ⟨A3, c3, ev⟩ := Kd.R_slice ho3; subst ev; have y0 := Aq3 BK3.out 0; have y1 := Aq3 BK3.out 1; have y2 := Aq3 BK3.out 2; have y3 := Aq3 BK3.out 3; clear ho3 hb3 hz0) | (go_at_call 56; refine (Aql.calls nm 3 off A c d (old.length : Int) off _ (Kd.C_below HD.out HB3.out) hdc HPL.out).mono ?_; rintro e w4 ⟨rfl, hb4⟩; have HB4 := Bvh (Aq1 HB3.out hb4); have HO4 := Bvh (Kd.R_below HO3.out hb4); have BK4 := Bvh (Aqn hb4 BK3.out); have x0 := Aq3 BK4.out 0; have x1 := Aq3 BK4.out 1; have x2 := Aq3 BK4.out 2; have x3 := Aq3 BK4.out 3; clear hb4 y0 y1 y2 y3) | ((with_reducible refine Ax1 (N := 101) rfl ?_); obtain ⟨w6, hr6, hg6, hk6, hs6, hx6⟩ := Axv (w4.alloc (.cells (madeCells #[.int .u8 0] t) 5)) 3 w4.heap.size 0 t t A3 c3 (List.replicate t 0) old (HGM.out w4) (Kd.C_alloc (Kd.R_reads' HO4.out).2.2 _) (by (try simp only [List.length_nil]); have := HT.out; unfold DoT at this; omega) (by rw [List.length_replicate]; (try simp only [List.length_nil]); have := HT.out; unfold DoT at this; omega); refine Aqu _ rfl (.tmp 99) (.tmp 100) 23 23 rfl _ _ rfl rfl hr6 ?_; have HG6 := Bvh hg6; have HX6 := Bvh (And.intro hk6 (And.intro hs6 hx6)); clear hr6 hg6 hk6 hs6 hx6 x0 x1 x2 x3) | ((with_reducible refine Ax1 (N := 106) rfl ?_); obtain ⟨w7, hr7, hg7, hk7, hs7, hx7⟩ := Axv w6 3 w4.heap.size (off.toNat) (t - off.toNat) (t - off.toNat) A c _ kept HG6.out (Kd.C_below HKC.out (Bq2 HB4.out HX6.out)) (by have := HT.out; unfold DoT at this; omega) (by simp only [List.length_append, List.length_take, List.length_drop, List.length_replicate]; (try simp only [List.length_nil]); have := HT.out; unfold DoT at this; omega); refine Aqu _ rfl (.tmp 104) (.tmp 105) 23 23 rfl _ _ rfl rfl hr7 ?_; have HG7 := Bvh hg7; have HX7 := Bvh (And.intro hk7 (And.intro hs7 hx7)); have HB7 := Bvh (Bqv HB4.out HX6.out HX7.out); have BK7 := Bvh (Bqt BK4.out HX6.out HX7.out); have z0 := Aq3 BK7.out 0; clear hr7 hg7 hk7 hs7 hx7) | (go_at_call 23; refine (Avg ok A0 c0 l0 nm w HF.out hlen HB7.out HG7.out (by simp only [List.length_append, List.length_take, List.length_drop, List.length_replicate]; (try simp only [List.length_nil]); have := HT.out; unfold DoT at this; omega) (by have := HT.out; unfold DoT at this; omega)).mono ?_; rintro e w8 ⟨v8, rfl, hv8, hb8⟩; have HV8 := Bvh hv8; have HB8 := Bvh hb8; clear hv8 hb8))
              go_ret2
              refine ⟨_, by rw [HRES.out]; rfl, ?_, HB8.out⟩
              rw [HRES.out]
              have hov := HV8.out
              rw [Bjs (LO := off.toNat) HT.out rfl (by omega)] at hov
              exact hov
            · have e1 : ((kept.length : Int) == 0) = false := beq_eq_false_iff_ne.mpr (by omega)
              have e2 : (kept.length == 0) = false := beq_eq_false_iff_ne.mpr (by omega)
              obtain ⟨t, ht⟩ : ∃ t : Nat, (t : Int) = (old.length : Int) := ⟨((old.length : Int)).toNat, by omega⟩
              have hmk := Azz 23 5 .u8 1 Try.underlying23 Av1 (by decide) t (by omega)
              rw [ht] at hmk
              have HT : Aside0 (DoT old.length off kept.length t) := ⟨by unfold DoT; (try simp only [List.length_nil]); omega⟩
              have hlo : ¬ (t = off.toNat) := by omega
              have hle : off.toNat ≤ t := by omega
              clear ht hem
              have HGM : Aside0 (∀ W : World, (W.alloc (.cells (madeCells #[.int .u8 0] t) 5)).heap[W.heap.size]? = some (.cells (nums .u8 (List.replicate t 0)).toArray 5 (0, 0))) := ⟨fun W => by rw [heap_alloc_new, Ak4]⟩
              go_wp2_with (first | (go_at_call 28; refine (Aqs.calls A0 c0 l0 nm old is _ (Kd.F_now (Kd.F_below HF.out HB.out)) hc0 HG.out).mono ?_; rintro e w3 ⟨v3, rfl, ho3, hb3⟩; have HO3 := Bvh ho3; have HB3 := Bvh (Aq1 HB.out hb3); have BK3 := Bvh (Aqn hb3 BK.out); obtain ⟨A3, c3, ev⟩ := Kd.R_slice ho3; subst ev; have y0 := Aq3 BK3.out 0; have y1 := Aq3 BK3.out 1; have y2 := Aq3 BK3.out 2; have y3 := Aq3 BK3.out 3; clear ho3 hb3 hz0) | (go_at_call 56; refine (Aql.calls nm 3 off A c d (old.length : Int) off _ (Kd.C_below HD.out HB3.out) hdc HPL.out).mono ?_; rintro e w4 ⟨rfl, hb4⟩; have HB4 := Bvh (Aq1 HB3.out hb4); have HO4 := Bvh (Kd.R_below HO3.out hb4); have BK4 := Bvh (Aqn hb4 BK3.out); have x0 := Aq3 BK4.out 0; have x1 := Aq3 BK4.out 1; have x2 := Aq3 BK4.out 2; have x3 := Aq3 BK4.out 3; clear hb4 y0 y1 y2 y3) | ((with_reducible refine Ax1 (N := 101) rfl ?_); obtain ⟨w6, hr6, hg6, hk6, hs6, hx6⟩ := Axv (w4.alloc (.cells (madeCells #[.int .u8 0] t) 5)) 3 w4.heap.size 0 t t A3 c3 (List.replicate t 0) old (HGM.out w4) (Kd.C_alloc (Kd.R_reads' HO4.out).2.2 _) (by (try simp only [List.length_nil]); have := HT.out; unfold DoT at this; omega) (by rw [List.length_replicate]; (try simp only [List.length_nil]); have := HT.out; unfold DoT at this; omega); refine Aqu _ rfl (.tmp 99) (.tmp 100) 23 23 rfl _ _ rfl rfl hr6 ?_; have HG6 := Bvh hg6; have HX6 := Bvh (And.intro hk6 (And.intro hs6 hx6)); clear hr6 hg6 hk6 hs6 hx6 x0 x1 x2 x3) | ((with_reducible refine Ax1 (N := 106) rfl ?_); obtain ⟨w7, hr7, hg7, hk7, hs7, hx7⟩ := Axv w6 3 w4.heap.size (off.toNat) (t - off.toNat) (t - off.toNat) A c _ kept HG6.out (Kd.C_below HKC.out (Bq2 HB4.out HX6.out)) (by have := HT.out; unfold DoT at this; omega) (by simp only [List.length_append, List.length_take, List.length_drop, List.length_replicate]; (try simp only [List.length_nil]); have := HT.out; unfold DoT at this; omega); refine Aqu _ rfl (.tmp 104) (.tmp 105) 23 23 rfl _ _ rfl rfl hr7 ?_; have HG7 := Bvh hg7; have HX7 := Bvh (And.intro hk7 (And.intro hs7 hx7)); have HB7 := Bvh (Bqv HB4.out HX6.out HX7.out); have BK7 := Bvh (Bqt BK4.out HX6.out HX7.out); have z0 := Aq3 BK7.out 0; clear hr7 hg7 hk7 hs7 hx7) | (go_at_call 23; refine (Avg ok A0 c0 l0 nm w HF.out hlen HB7.out HG7.out (by simp only [List.length_append, List.length_take, List.length_drop, List.length_replicate]; (try simp only [List.length_nil]); have := HT.out; unfold DoT at this; omega) (by have := HT.out; unfold DoT at this; omega)).mono ?_; rintro e w8 ⟨v8, rfl, hv8, hb8⟩; have HV8 := Bvh hv8; have HB8 := Bvh hb8; clear hv8 hb8))
              go_ret2
              refine ⟨_, by rw [HRES.out]; rfl, ?_, HB8.out⟩
              rw [HRES.out]
              have hov := HV8.out
              rw [Bjs (LO := off.toNat) HT.out rfl (by omega)] at hov
              exact hov
          · by_cases hxy : (old.length : Int) < off + (kept.length : Int)
            · have e1 : ((kept.length : Int) == 0) = true := beq_iff_eq.mpr (by omega)
              have e2 : (kept.length == 0) = true := beq_iff_eq.mpr (by omega)
              have e3 : decide (0 < d.length) = false := decide_eq_false (by omega)
              obtain ⟨t, ht⟩ : ∃ t : Nat, (t : Int) = off + (kept.length : Int) := ⟨(off + (kept.length : Int)).toNat, by omega⟩
              have hmk := Azz 23 5 .u8 1 Try.underlying23 Av1 (by decide) t (by omega)
              rw [ht] at hmk
              have HT : Aside0 (DoT old.length off kept.length t) := ⟨by unfold DoT; (try simp only [List.length_nil]); omega⟩
              have hlo : t = off.toNat := by omega
              have HLO := Bvh hlo
              have hle : off.toNat ≤ t := by omega
              subst hlo
              clear ht hem
              have HGM : Aside0 (∀ W : World, (W.alloc (.cells (madeCells #[.int .u8 0] off.toNat) 5)).heap[W.heap.size]? = some (.cells (nums .u8 (List.replicate off.toNat 0)).toArray 5 (0, 0))) := ⟨fun W => by rw [heap_alloc_new, Ak4]⟩
              go_wp2_with (first | (go_at_call 28; refine (Aqs.calls A0 c0 l0 nm old is _ (Kd.F_now (Kd.F_below HF.out HB.out)) hc0 HG.out).mono ?_; rintro e w3 ⟨v3, rfl, ho3, hb3⟩; have HO3 := Bvh ho3; have HB3 := Bvh (Aq1 HB.out hb3); have BK3 := Bvh (Aqn hb3 BK.out); obtain ⟨A3, c3, ev⟩ := Kd.R_slice ho3; subst ev; have y0 := Aq3 BK3.out 0; have y1 := Aq3 BK3.out 1; have y2 := Aq3 BK3.out 2; have y3 := Aq3 BK3.out 3; clear ho3 hb3 hz0) | (go_at_call 56; refine (Aql.calls nm 3 off A c d (old.length : Int) off _ (Kd.C_below HD.out HB3.out) hdc HPL.out).mono ?_; rintro e w4 ⟨rfl, hb4⟩; have HB4 := Bvh (Aq1 HB3.out hb4); have HO4 := Bvh (Kd.R_below HO3.out hb4); have BK4 := Bvh (Aqn hb4 BK3.out); have x0 := Aq3 BK4.out 0; have x1 := Aq3 BK4.out 1; have x2 := Aq3 BK4.out 2; have x3 := Aq3 BK4.out 3; clear hb4 y0 y1 y2 y3) | ((with_reducible refine Ax1 (N := 101) rfl ?_); obtain ⟨w6, hr6, hg6, hk6, hs6, hx6⟩ := Axv (w4.alloc (.cells (madeCells #[.int .u8 0] off.toNat) 5)) 3 w4.heap.size 0 off.toNat off.toNat A3 c3 (List.replicate off.toNat 0) old (HGM.out w4) (Kd.C_alloc (Kd.R_reads' HO4.out).2.2 _) (by (try simp only [List.length_nil]); have := HT.out; unfold DoT at this; omega) (by rw [List.length_replicate]; (try simp only [List.length_nil]); have := HT.out; unfold DoT at this; omega); refine Aqu _ rfl (.tmp 99) (.tmp 100) 23 23 rfl _ _ rfl rfl hr6 ?_; have HG6 := Bvh hg6; have HX6 := Bvh (And.intro hk6 (And.intro hs6 hx6)); clear hr6 hg6 hk6 hs6 hx6 x0 x1 x2 x3) | ((with_reducible refine Ax1 (N := 106) rfl ?_); obtain ⟨w7, hr7, hg7, hk7, hs7, hx7⟩ := Axv w6 3 w4.heap.size (0) (0) (0) A c _ kept HG6.out (Kd.C_below HKC.out (Bq2 HB4.out HX6.out)) (by have := HT.out; unfold DoT at this; omega) (by simp only [List.length_append, List.length_take, List.length_drop, List.length_replicate]; (try simp only [List.length_nil]); have := HT.out; unfold DoT at this; omega); refine Aqu _ rfl (.tmp 104) (.tmp 105) 23 23 rfl _ _ rfl rfl hr7 ?_; have HG7 := Bvh hg7; have HX7 := Bvh (And.intro hk7 (And.intro hs7 hx7)); have HB7 := Bvh (Bqv HB4.out HX6.out HX7.out); have BK7 := Bvh (Bqt BK4.out HX6.out HX7.out); have z0 := Aq3 BK7.out 0; clear hr7 hg7 hk7 hs7 hx7) | (go_at_call 23; refine (Avg ok A0 c0 l0 nm w HF.out hlen HB7.out HG7.out (by simp only [List.length_append, List.length_take, List.length_drop, List.length_replicate]; (try simp only [List.length_nil]); have := HT.out; unfold DoT at this; omega) (by have := HT.out; unfold DoT at this; omega)).mono ?_; rintro e w8 ⟨v8, rfl, hv8, hb8⟩; have HV8 := Bvh hv8; have HB8 := Bvh hb8; clear hv8 hb8))
              go_ret2
              refine ⟨_, by rw [HRES.out]; rfl, ?_, HB8.out⟩
              rw [HRES.out]
              have hov := HV8.out
              rw [Aw2 (LO := off.toNat) HT.out rfl (by omega)] at hov
              exact hov
            · by_cases hoo : (old.length : Int) = off
              · have hoA : (old.length : Int) ≤ off := by omega
                have hoB : off ≤ (old.length : Int) := by omega
                clear hoo
                have e1 : ((kept.length : Int) == 0) = true := beq_iff_eq.mpr (by omega)
                have e2 : (kept.length == 0) = true := beq_iff_eq.mpr (by omega)
                have e3 : decide (0 < d.length) = false := decide_eq_false (by omega)
                obtain ⟨t, ht⟩ : ∃ t : Nat, (t : Int) = (old.length : Int) := ⟨((old.length : Int)).toNat, by omega⟩
                have hmk := Azz 23 5 .u8 1 Try.underlying23 Av1 (by decide) t (by omega)
                rw [ht] at hmk
                have HT : Aside0 (DoT old.length off kept.length t) := ⟨by unfold DoT; (try simp only [List.length_nil]); omega⟩
                have hlo : t = off.toNat := by omega
                have HLO := Bvh hlo
                have hle : off.toNat ≤ t := by omega
                subst hlo
                clear ht hem
                have HGM : Aside0 (∀ W : World, (W.alloc (.cells (madeCells #[.int .u8 0] off.toNat) 5)).heap[W.heap.size]? = some (.cells (nums .u8 (List.replicate off.toNat 0)).toArray 5 (0, 0))) := ⟨fun W => by rw [heap_alloc_new, Ak4]⟩
                go_wp2_with (first | (go_at_call 28; refine (Aqs.calls A0 c0 l0 nm old is _ (Kd.F_now (Kd.F_below HF.out HB.out)) hc0 HG.out).mono ?_; rintro e w3 ⟨v3, rfl, ho3, hb3⟩; have HO3 := Bvh ho3; have HB3 := Bvh (Aq1 HB.out hb3); have BK3 := Bvh (Aqn hb3 BK.out); obtain ⟨A3, c3, ev⟩ := Kd.R_slice ho3; subst ev; have y0 := Aq3 BK3.out 0; have y1 := Aq3 BK3.out 1; have y2 := Aq3 BK3.out 2; have y3 := Aq3 BK3.out 3; clear ho3 hb3 hz0) | (go_at_call 56; refine (Aql.calls nm 3 off A c d (old.length : Int) off _ (Kd.C_below HD.out HB3.out) hdc HPL.out).mono ?_; rintro e w4 ⟨rfl, hb4⟩; have HB4 := Bvh (Aq1 HB3.out hb4); have HO4 := Bvh (Kd.R_below HO3.out hb4); have BK4 := Bvh (Aqn hb4 BK3.out); have x0 := Aq3 BK4.out 0; have x1 := Aq3 BK4.out 1; have x2 := Aq3 BK4.out 2; have x3 := Aq3 BK4.out 3; clear hb4 y0 y1 y2 y3) | ((with_reducible refine Ax1 (N := 101) rfl ?_); obtain ⟨w6, hr6, hg6, hk6, hs6, hx6⟩ := Axv (w4.alloc (.cells (madeCells #[.int .u8 0] off.toNat) 5)) 3 w4.heap.size 0 off.toNat off.toNat A3 c3 (List.replicate off.toNat 0) old (HGM.out w4) (Kd.C_alloc (Kd.R_reads' HO4.out).2.2 _) (by (try simp only [List.length_nil]); have := HT.out; unfold DoT at this; omega) (by rw [List.length_replicate]; (try simp only [List.length_nil]); have := HT.out; unfold DoT at this; omega); refine Aqu _ rfl (.tmp 99) (.tmp 100) 23 23 rfl _ _ rfl rfl hr6 ?_; have HG6 := Bvh hg6; have HX6 := Bvh (And.intro hk6 (And.intro hs6 hx6)); clear hr6 hg6 hk6 hs6 hx6 x0 x1 x2 x3) | ((with_reducible refine Ax1 (N := 106) rfl ?_); obtain ⟨w7, hr7, hg7, hk7, hs7, hx7⟩ := Axv w6 3 w4.heap.size (0) (0) (0) A c _ kept HG6.out (Kd.C_below HKC.out (Bq2 HB4.out HX6.out)) (by have := HT.out; unfold DoT at this; omega) (by simp only [List.length_append, List.length_take, List.length_drop, List.length_replicate]; (try simp only [List.length_nil]); have := HT.out; unfold DoT at this; omega); refine Aqu _ rfl (.tmp 104) (.tmp 105) 23 23 rfl _ _ rfl rfl hr7 ?_; have HG7 := Bvh hg7; have HX7 := Bvh (And.intro hk7 (And.intro hs7 hx7)); have HB7 := Bvh (Bqv HB4.out HX6.out HX7.out); have BK7 := Bvh (Bqt BK4.out HX6.out HX7.out); have z0 := Aq3 BK7.out 0; clear hr7 hg7 hk7 hs7 hx7) | (go_at_call 23; refine (Avg ok A0 c0 l0 nm w HF.out hlen HB7.out HG7.out (by simp only [List.length_append, List.length_take, List.length_drop, List.length_replicate]; (try simp only [List.length_nil]); have := HT.out; unfold DoT at this; omega) (by have := HT.out; unfold DoT at this; omega)).mono ?_; rintro e w8 ⟨v8, rfl, hv8, hb8⟩; have HV8 := Bvh hv8; have HB8 := Bvh hb8; clear hv8 hb8))
                go_ret2
                refine ⟨_, by rw [HRES.out]; rfl, ?_, HB8.out⟩
                rw [HRES.out]
                have hov := HV8.out
                rw [Aw2 (LO := off.toNat) HT.out rfl (by omega)] at hov
                exact hov
              · have e1 : ((kept.length : Int) == 0) = true := beq_iff_eq.mpr (by omega)
                have e2 : (kept.length == 0) = true := beq_iff_eq.mpr (by omega)
                have e3 : decide (0 < d.length) = false := decide_eq_false (by omega)
                obtain ⟨t, ht⟩ : ∃ t : Nat, (t : Int) = (old.length : Int) := ⟨((old.length : Int)).toNat, by omega⟩
                have hmk := Azz 23 5 .u8 1 Try.underlying23 Av1 (by decide) t (by omega)
                rw [ht] at hmk
                have HT : Aside0 (DoT old.length off kept.length t) := ⟨by unfold DoT; (try simp only [List.length_nil]); omega⟩
                have hlo : ¬ (t = off.toNat) := by omega
                have hle : off.toNat ≤ t := by omega
                clear ht hem
                have HGM : Aside0 (∀ W : World, (W.alloc (.cells (madeCells #[.int .u8 0] t) 5)).heap[W.heap.size]? = some (.cells (nums .u8 (List.replicate t 0)).toArray 5 (0, 0))) := ⟨fun W => by rw [heap_alloc_new, Ak4]⟩
                go_wp2_with (first | (go_at_call 28; refine (Aqs.calls A0 c0 l0 nm old is _ (Kd.F_now (Kd.F_below HF.out HB.out)) hc0 HG.out).mono ?_; rintro e w3 ⟨v3, rfl, ho3, hb3⟩; have HO3 := Bvh ho3; have HB3 := Bvh (Aq1 HB.out hb3); have BK3 := Bvh (Aqn hb3 BK.out); obtain ⟨A3, c3, ev⟩ := Kd.R_slice ho3; subst ev; have y0 := Aq3 BK3.out 0; have y1 := Aq3 BK3.out 1; have y2 := Aq3 BK3.out 2; have y3 := Aq3 BK3.out 3; clear ho3 hb3 hz0) | (go_at_call 56; refine (Aql.calls nm 3 off A c d (old.length : Int) off _ (Kd.C_below HD.out HB3.out) hdc HPL.out).mono ?_; rintro e w4 ⟨rfl, hb4⟩; have HB4 := Bvh (Aq1 HB3.out hb4); have HO4 := Bvh (Kd.R_below HO3.out hb4); have BK4 := Bvh (Aqn hb4 BK3.out); have x0 := Aq3 BK4.out 0; have x1 := Aq3 BK4.out 1; have x2 := Aq3 BK4.out 2; have x3 := Aq3 BK4.out 3; clear hb4 y0 y1 y2 y3) | ((with_reducible refine Ax1 (N := 101) rfl ?_); obtain ⟨w6, hr6, hg6, hk6, hs6, hx6⟩ := Axv (w4.alloc (.cells (madeCells #[.int .u8 0] t) 5)) 3 w4.heap.size 0 t t A3 c3 (List.replicate t 0) old (HGM.out w4) (Kd.C_alloc (Kd.R_reads' HO4.out).2.2 _) (by (try simp only [List.length_nil]); have := HT.out; unfold DoT at this; omega) (by rw [List.length_replicate]; (try simp only [List.length_nil]); have := HT.out; unfold DoT at this; omega); refine Aqu _ rfl (.tmp 99) (.tmp 100) 23 23 rfl _ _ rfl rfl hr6 ?_; have HG6 := Bvh hg6; have HX6 := Bvh (And.intro hk6 (And.intro hs6 hx6)); clear hr6 hg6 hk6 hs6 hx6 x0 x1 x2 x3) | ((with_reducible refine Ax1 (N := 106) rfl ?_); obtain ⟨w7, hr7, hg7, hk7, hs7, hx7⟩ := Axv w6 3 w4.heap.size (off.toNat) (t - off.toNat) (t - off.toNat) A c _ kept HG6.out (Kd.C_below HKC.out (Bq2 HB4.out HX6.out)) (by have := HT.out; unfold DoT at this; omega) (by simp only [List.length_append, List.length_take, List.length_drop, List.length_replicate]; (try simp only [List.length_nil]); have := HT.out; unfold DoT at this; omega); refine Aqu _ rfl (.tmp 104) (.tmp 105) 23 23 rfl _ _ rfl rfl hr7 ?_; have HG7 := Bvh hg7; have HX7 := Bvh (And.intro hk7 (And.intro hs7 hx7)); have HB7 := Bvh (Bqv HB4.out HX6.out HX7.out); have BK7 := Bvh (Bqt BK4.out HX6.out HX7.out); have z0 := Aq3 BK7.out 0; clear hr7 hg7 hk7 hs7 hx7) | (go_at_call 23; refine (Avg ok A0 c0 l0 nm w HF.out hlen HB7.out HG7.out (by simp only [List.length_append, List.length_take, List.length_drop, List.length_replicate]; (try simp only [List.length_nil]); have := HT.out; unfold DoT at this; omega) (by have := HT.out; unfold DoT at this; omega)).mono ?_; rintro e w8 ⟨v8, rfl, hv8, hb8⟩; have HV8 := Bvh hv8; have HB8 := Bvh hb8; clear hv8 hb8))
                go_ret2
                refine ⟨_, by rw [HRES.out]; rfl, ?_, HB8.out⟩
                rw [HRES.out]
                have hov := HV8.out
                rw [Bjs (LO := off.toNat) HT.out rfl (by omega)] at hov
                exact hov
end
section
theorem do_bad (s0 : Value) (nm : ByteArray) (kind off keep : Int) (v : Value) (w : World) (hv : v.oneCell' = true) (h : kind < 1 ∨ kind > 3 ∨ nm.size < 1 ∨ nm.size > 40 ∨ (kind = 3 ∧ off < 0)) :
 Calls Try.prog 17 #[s0, .agg #[.string nm, .int .i64 kind, .int .i64 off, v], .int .i64 keep] w fun e w' => e = .returned (.tuple #[.slice none 0 0, .int .i64 1]) ∧ Below w.heap.size w w' := by
 by_cases h1 : kind < 1
 · clear h
   go_enter Try.func17, Try.ntmps17
   go_wp2
   go_ret2
   exact ⟨rfl, Aq4 (Below.refl _ _) _⟩
 · by_cases h2 : kind > 3
   · clear h
     go_enter Try.func17, Try.ntmps17
     go_wp2
     go_ret2
     exact ⟨rfl, Aq4 (Below.refl _ _) _⟩
   · by_cases h3 : nm.size < 1 ∨ nm.size > 40
     · have hf : Aside0 (Axq.f nm = some false) := ⟨by
        unfold Axq.f
        rcases h3 with h3 | h3
        · rw [if_neg (by omega)]
        · rw [if_pos (by omega)]; simp; omega⟩
       clear h h3
       go_enter Try.func17, Try.ntmps17
       go_wp2_with (go_at_call 55; refine (Axq.calls nm false _ hf.out).mono ?_; rintro e w1 ⟨rfl, ⟨nd, rfl⟩⟩)
       go_ret2
       exact ⟨rfl, Aq7 (Aq4 (Below.refl _ _) _) _⟩
     · have hf : Aside0 (Axq.f nm = some true) := ⟨by unfold Axq.f; rw [if_pos (by omega)]; simp; omega⟩
       obtain ⟨rfl, h5⟩ : kind = 3 ∧ off < 0 := by omega
       clear h h3 h2 h1
       go_enter Try.func17, Try.ntmps17
       go_wp2_with (go_at_call 55; refine (Axq.calls nm true _ hf.out).mono ?_; rintro e w1 ⟨rfl, ⟨nd, rfl⟩⟩)
       go_ret2
       exact ⟨rfl, Aq7 (Aq4 (Below.refl _ _) _) _⟩
def Aj7 (l : List S38) (nm : ByteArray) : List Int := match l.find? (Ax8 nm) with | some x => x.f1 | none => []
def Akc (kind off : Int) (old : List Int) : Int := if kind = 2 then (old.length : Int) else if kind = 3 then off else 0
def Aj0.f (l0 : List S38) (a1_0 : ByteArray) (a1_1 : Int) (a1_2 : Int) (l1_3 : List Int) (a2 : Int) : Option (List S38 × Int) :=
 if l0.length ≤ 1000000 ∧ l1_3.length ≤ 1000000 ∧ (∀ x ∈ l0, x.f1.length ≤ 1000000) then
  if a1_1 < 1 ∨ a1_1 > 3 ∨ a1_0.size < 1 ∨ a1_0.size > 40 ∨ (a1_1 = 3 ∧ a1_2 < 0) then some ([], 1) else
   some (Aze a1_1.toNat l0 a1_0 (Akc a1_1 a1_2 (Aj7 l0 a1_0)) (Aj7 l0 a1_0) l1_3 (Axp l1_3 a2))
 else none
theorem Aj0.calls (P0_ : Nat → Prop) (A0 : Option Addr) (c0 : Nat) (l0 : List S38) (a1_0 : ByteArray) (a1_1 : Int) (a1_2 : Int) (A1_3 : Option Addr) (c1_3 : Nat) (l1_3 : List Int) (a2 : Int) (r1 : List S38) (r2 : Int) (w : World) (hs0 : Kd.V k38 38 w w.heap.size (fun k_ => P0_ k_) (.slice A0 l0.length c0) l0) (hr1_3 : Kd.C (Kd.int .u8) w A1_3 l1_3.length l1_3) (hc1_3 : l1_3.length ≤ c1_3) (h : Aj0.f l0 a1_0 a1_1 a1_2 l1_3 a2 = some (r1, r2)) :
 Calls Try.prog 17 #[.slice A0 l0.length c0, .agg #[.string a1_0, .int .i64 a1_1, .int .i64 a1_2, .slice A1_3 l1_3.length c1_3], .int .i64 a2] w fun e w' => ∃ v0_ : Value, e = .returned (.tuple #[v0_, .int .i64 r2]) ∧ Kd.V k38 38 w' w.heap.size (fun k_ => (P0_ k_ ∨ w.heap.size ≤ k_)) v0_ r1 ∧ Below w.heap.size w w' := by
 unfold Aj0.f at h
 split at h
 · rename_i hl
   split at h
   · rename_i hbad
     simp only [Option.some.injEq, Prod.mk.injEq] at h
     obtain ⟨rfl, rfl⟩ := h
     refine (do_bad _ a1_0 a1_1 a1_2 a2 _ w rfl hbad).mono ?_
     rintro e w' ⟨rfl, hb⟩
     exact ⟨_, rfl, Kd.V_nil _ _ _ _ _, hb⟩
   · rename_i hok
     obtain ⟨old, hold⟩ : ∃ old, Aj7 l0 a1_0 = old := ⟨_, rfl⟩
     rw [hold] at h
     obtain ⟨is, hget, holdl⟩ : ∃ is, Aqs.f l0 a1_0 = some (old, is) ∧ old.length ≤ 1000000 := by
      unfold Aqs.f
      rw [if_pos ⟨hl.1, hl.2.2⟩, ← hold]
      unfold Aj7
      cases hf : l0.find? (Ax8 a1_0) with
      | none => exact ⟨_, rfl, by simp⟩
      | some x => exact ⟨_, rfl, hl.2.2 x (List.mem_of_find?_eq_some hf)⟩
     have hC := (Kd.V_reads' hs0).2.1
     have hkind : a1_1 = 1 ∨ a1_1 = 2 ∨ a1_1 = 3 := by omega
     have hres := Option.some.inj h
     rcases hkind with rfl | rfl | rfl
     · refine (do_1 P0_ A0 c0 l0 a1_0 a1_2 a2 A1_3 c1_3 l1_3 old is w (Kd.V_F hs0) hC hl.1 hget holdl (by omega) (by omega) hr1_3 hc1_3 hl.2.1).mono ?_
       rintro e w' hw
       rw [show Akc 1 a1_2 old = 0 from rfl, show (1 : Int).toNat = 1 from rfl] at hres
       rw [hres] at hw
       exact hw
     · refine (do_2 P0_ A0 c0 l0 a1_0 a1_2 a2 A1_3 c1_3 l1_3 old is w (Kd.V_F hs0) hC hl.1 hget holdl (by omega) (by omega) hr1_3 hc1_3 hl.2.1).mono ?_
       rintro e w' hw
       rw [show Akc 2 a1_2 old = (old.length : Int) from rfl, show (2 : Int).toNat = 2 from rfl] at hres
       rw [hres] at hw
       exact hw
     · refine (do_3 P0_ A0 c0 l0 a1_0 a1_2 a2 A1_3 c1_3 l1_3 old is w (Kd.V_F hs0) hC hl.1 hget holdl (by omega) (by omega) hr1_3 hc1_3 hl.2.1 (by omega)).mono ?_
       rintro e w' hw
       rw [show Akc 3 a1_2 old = a1_2 from rfl, show (3 : Int).toNat = 3 from rfl] at hres
       rw [hres] at hw
       exact hw
 · cases h
end
section
attribute [local go_sem] Bxv Bxu Bxt
def VarS (w : World) (b : Nat) (name : ByteArray) : Prop := w.heap[b]? = some (.cells #[.string name] 9 (0, 0))
theorem VarS.below {w w1 : World} {b : Nat} {name : ByteArray} (h : VarS w b name) (hb : Below w.heap.size w w1) : VarS w1 b name := Aqn hb h
theorem VarS.cell {w : World} {b : Nat} {name : ByteArray} (h : VarS w b name) : w.cell? ⟨b, 0, none⟩ = some (.string name) := by
 rw [cell_of_row w b 0 _ 9 (0, 0) h]; rfl
def ownW (name : ByteArray) (x : S31) : Bool := x.f0.toList == name.toList
def othW (name : ByteArray) (x : S31) : Bool := x.f0.toList != name.toList
theorem Akp (name : ByteArray) (b : Nat) (x0 : ByteArray) (x1 x2 : Int) (v : Value) (W : World) (h : VarS W b name) :
 Calls Try.prog 95 #[.agg #[.string x0, .int .i64 x1, .int .i64 x2, v], .pointer (some ⟨b, 0, none⟩)] W fun e W' => e = .returned (.bool (x0.toList == name.toList)) ∧ Below W.heap.size W W' := by
 have hc := Axw (o := Obj.cells #[.string x0, .int .i64 x1, .int .i64 x2, v] 31) h.cell
 have H := Bvh h
 clear h
 go_enter Try.func95, Try.ntmps95
 go_wp2
 go_ret
 exact ⟨rfl, (Below.refl _ _).alloc (Nat.le_refl _) _⟩
theorem Akq (name : ByteArray) (b : Nat) (x0 : ByteArray) (x1 x2 : Int) (v : Value) (W : World) (h : VarS W b name) :
 Calls Try.prog 73 #[.agg #[.string x0, .int .i64 x1, .int .i64 x2, v], .pointer (some ⟨b, 0, none⟩)] W fun e W' => e = .returned (.bool (x0.toList != name.toList)) ∧ Below W.heap.size W W' := by
 have hc := Axw (o := Obj.cells #[.string x0, .int .i64 x1, .int .i64 x2, v] 31) h.cell
 have H := Bvh h
 clear h
 go_enter Try.func73, Try.ntmps73
 go_wp2
 go_ret
 exact ⟨rfl, (Below.refl _ _).alloc (Nat.le_refl _) _⟩
def Ajw (p : S31 → Bool) (l : List S31) : Int := match l.findIdx? p with | some i => (i : Int) | none => -1
theorem Bxb {p : S31 → Bool} {l : List S31} (i : Nat) (hi : i < l.length) (hp : p (l.getD i z31) = true) (hn : ∀ j, j < i → p (l.getD j z31) = false) : Ajw p l = i := by
 have : l.findIdx? p = some i := by
  rw [List.findIdx?_eq_some_iff_getElem]
  refine ⟨hi, by simpa [List.getD_eq_getElem?_getD, List.getElem?_eq_getElem hi] using hp, fun j hj => ?_⟩
  have := hn j hj
  rw [List.getD_eq_getElem?_getD, List.getElem?_eq_getElem (by omega)] at this
  simpa using this
 unfold Ajw; rw [this]
theorem Bxl {p : S31 → Bool} {l : List S31} {i : Nat} (hn : ∀ j, j < i → p (l.getD j z31) = false) (h : p (l.getD i z31) = false) : ∀ j, j < i + 1 → p (l.getD j z31) = false := by
 intro j hj
 rcases Nat.lt_or_ge j i with h1 | h1
 · exact hn j h1
 · obtain rfl : j = i := by omega
   exact h
theorem Awm {p : S31 → Bool} {l : List S31} (hn : ∀ j, j < l.length → p (l.getD j z31) = false) : Ajw p l = -1 := by
 have : l.findIdx? p = none := by
  rw [List.findIdx?_eq_none_iff]
  intro x hx
  obtain ⟨j, hj, rfl⟩ := List.mem_iff_getElem.1 hx
  have := hn j hj
  rwa [List.getD_eq_getElem?_getD, List.getElem?_eq_getElem hj] at this
 unfold Ajw; rw [this]
theorem Bjj (name : ByteArray) (b : Nat) (A0 : Option Addr) (c0 : Nat) (l0 : List S31) (w : World) (hb0 : VarS w b name) (hr0 : Kd.C k31 w A0 l0.length l0) :
 Calls Try.prog 94 #[.slice A0 l0.length c0, .func (.func 95) #[] #[.pointer (some ⟨b, 0, none⟩)]] w fun e w' => e = .returned (.int .i64 (Ajw (ownW name) l0)) ∧ Below w.heap.size w w' := by
 have HR := Bvh hr0
 have HV := Bvh hb0
 clear hb0
 have hmax := Kd.C_max hr0
 clear hr0
 go_enter Try.func94, Try.ntmps94
 go_wp2
 go_loopg [8] l0.length (fun kq v8 w' => ∃ i : Nat, v8 = .int .i64 i ∧ i + kq = l0.length ∧ Aside0 (∀ j, j < i → ownW name (l0.getD j z31) = false) ∧ Aside0 (Below w.heap.size w w'))
 case atStart => exact ⟨0, rfl, by omega, ⟨fun j hj => absurd hj (by omega)⟩, ⟨Below.refl _ _⟩⟩
 case round =>
  obtain ⟨i, rfl, hi, HN, HB⟩ := hrel
  by_cases hlt : i < l0.length
  · obtain ⟨ad, A1, c1, e1, hx0, hx1, hx2, hx3, _, _⟩ := Bzw (Kd.C_below HR.out HB.out) (i : Int) (by omega) (by omega)
    cases e1
    rw [Int.toNat_natCast] at hx0 hx1 hx2 hx3
    have HRD : Ajh l0 (i : Int) = l0.getD i z31 := by unfold Ajh; rw [Int.toNat_natCast]
    rw [HRD] at hx0 hx1 hx2 hx3
    clear HRD
    obtain ⟨x, hxe⟩ : ∃ x, l0.getD i z31 = x := ⟨_, rfl⟩
    rw [hxe] at hx0 hx1 hx2 hx3
    have HX := Bvh hxe
    clear hxe
    obtain ⟨k1, rfl⟩ : ∃ k1, gk = k1 + 1 := ⟨gk - 1, by omega⟩
    cases hp : ownW name x
    · have HP := Bvh hp
      have hp' : (x.f0.toList == name.toList) = false := hp
      clear hp
      go_wp2_with (go_at_call 95; refine (Akp name b _ _ _ _ _ (HV.out.below HB.out)).mono ?_; rintro e w1 ⟨rfl, hb⟩; have HB1 := Bvh (Aq1 HB.out hb); clear hb HB; rw [hp'])
      go_roundg k1
      case measure => omega
      case rel => exact ⟨i + 1, by go_num, by omega, ⟨Bxl HN.out (by rw [HX.out]; exact HP.out)⟩, HB1⟩
    · have HP := Bvh hp
      have hp' : (x.f0.toList == name.toList) = true := hp
      clear hp
      go_wp2_with (go_at_call 95; refine (Akp name b _ _ _ _ _ (HV.out.below HB.out)).mono ?_; rintro e w1 ⟨rfl, hb⟩; have HB1 := Bvh (Aq1 HB.out hb); clear hb HB; rw [hp'])
      go_ret
      exact ⟨by rw [Bxb i hlt (by rw [HX.out]; exact HP.out) HN.out]; rfl, HB1.out⟩
  · have hge : l0.length ≤ i := by omega
    clear hlt
    go_wp2
    go_ret
    exact ⟨by rw [Awm (by intro j hj; exact HN.out j (by omega))]; rfl, HB.out⟩
theorem Bjk (name : ByteArray) (b : Nat) (A0 : Option Addr) (c0 : Nat) (l0 : List S31) (w : World) (hb0 : VarS w b name) (hr0 : Kd.C k31 w A0 l0.length l0) :
 Calls Try.prog 94 #[.slice A0 l0.length c0, .func (.func 73) #[] #[.pointer (some ⟨b, 0, none⟩)]] w fun e w' => e = .returned (.int .i64 (Ajw (othW name) l0)) ∧ Below w.heap.size w w' := by
 have HR := Bvh hr0
 have HV := Bvh hb0
 clear hb0
 have hmax := Kd.C_max hr0
 clear hr0
 go_enter Try.func94, Try.ntmps94
 go_wp2
 go_loopg [8] l0.length (fun kq v8 w' => ∃ i : Nat, v8 = .int .i64 i ∧ i + kq = l0.length ∧ Aside0 (∀ j, j < i → othW name (l0.getD j z31) = false) ∧ Aside0 (Below w.heap.size w w'))
 case atStart => exact ⟨0, rfl, by omega, ⟨fun j hj => absurd hj (by omega)⟩, ⟨Below.refl _ _⟩⟩
 case round =>
  obtain ⟨i, rfl, hi, HN, HB⟩ := hrel
  by_cases hlt : i < l0.length
  · obtain ⟨ad, A1, c1, e1, hx0, hx1, hx2, hx3, _, _⟩ := Bzw (Kd.C_below HR.out HB.out) (i : Int) (by omega) (by omega)
    cases e1
    rw [Int.toNat_natCast] at hx0 hx1 hx2 hx3
    have HRD : Ajh l0 (i : Int) = l0.getD i z31 := by unfold Ajh; rw [Int.toNat_natCast]
    rw [HRD] at hx0 hx1 hx2 hx3
    clear HRD
    obtain ⟨x, hxe⟩ : ∃ x, l0.getD i z31 = x := ⟨_, rfl⟩
    rw [hxe] at hx0 hx1 hx2 hx3
    have HX := Bvh hxe
    clear hxe
    obtain ⟨k1, rfl⟩ : ∃ k1, gk = k1 + 1 := ⟨gk - 1, by omega⟩
    cases hp : othW name x
    · have HP := Bvh hp
      have hp' : (x.f0.toList != name.toList) = false := hp
      clear hp
      go_wp2_with (go_at_call 73; refine (Akq name b _ _ _ _ _ (HV.out.below HB.out)).mono ?_; rintro e w1 ⟨rfl, hb⟩; have HB1 := Bvh (Aq1 HB.out hb); clear hb HB; rw [hp'])
      go_roundg k1
      case measure => omega
      case rel => exact ⟨i + 1, by go_num, by omega, ⟨Bxl HN.out (by rw [HX.out]; exact HP.out)⟩, HB1⟩
    · have HP := Bvh hp
      have hp' : (x.f0.toList != name.toList) = true := hp
      clear hp
      go_wp2_with (go_at_call 73; refine (Akq name b _ _ _ _ _ (HV.out.below HB.out)).mono ?_; rintro e w1 ⟨rfl, hb⟩; have HB1 := Bvh (Aq1 HB.out hb); clear hb HB; rw [hp'])
      go_ret
      exact ⟨by rw [Bxb i hlt (by rw [HX.out]; exact HP.out) HN.out]; rfl, HB1.out⟩
  · have hge : l0.length ≤ i := by omega
    clear hlt
    go_wp2
    go_ret
    exact ⟨by rw [Awm (by intro j hj; exact HN.out j (by omega))]; rfl, HB.out⟩
theorem Bkt : (Try.prog.info? 31).map (fun i => (i.zero, i.size, i.bytes)) = some (some (.agg #[(.string ⟨#[]⟩), (.int .i64 0), (.int .i64 0), (.slice none 0 0)]), 4, 56) := by kernel_rfl
theorem cloneW (ok : Nat → Prop) (A0 : Option Addr) (c0 : Nat) (l0 : List S31) (w : World) (hf : Kd.F k31 w ok A0 l0.length l0) (hlen : l0.length ≤ 1000000) :
 Calls Try.prog 71 #[.slice A0 l0.length c0] w fun e w' => ∃ v, e = .returned v ∧ O k31 31 w' w.heap.size (fun k => ok k ∧ k < w.heap.size) v l0 ∧ Below w.heap.size w w' := by
 have hF := Kd.F_bound hf
 clear hf
 have hnil := Lib.run_eql_slice_nil (P := Try.prog)
 cases A0 with
 | none =>
   have h0 := Bvg (Kd.F_now hF)
   subst h0
   go_enter Try.func71, Try.ntmps71
   go_wp2
   go_ret
   exact ⟨_, rfl, Bjx _ _ _ _ _, Below.refl _ _⟩
 | some a =>
   rcases Nat.eq_zero_or_pos l0.length with h0 | h0
   · obtain rfl := List.eq_nil_of_length_eq_zero h0
     clear h0 hlen
     go_enter Try.func71, Try.ntmps71
     go_wp2_with (at_builtin; refine Azs rfl _ _ 104 rfl Try.underlying104 Bkt (some ⟨w.heap.size, 0, none⟩) 0 0 a c0 rfl rfl ?_)
     go_ret
     exact ⟨_, rfl, ⟨[], Awf _ _ _, Reps.none _ _⟩, (Below.refl _ _).alloc (Nat.le_refl _) _⟩
   · obtain ⟨ad, cs, e1, hreps, hcs⟩ := Av8 (Kd.F_rows hF) h0
     cases e1
     obtain ⟨i0, hi, hz0, hz1, hz2⟩ := info_parts Bkt
     have hl := hreps.1
     have hone := Kd.reps_one hreps (by decide) (fun _ _ hx => (Ajs hx).2)
     have HR := Bvh hreps
     have HC := Bvh hcs
     have HI := Bvh hi
     have HZ0 := Bvh hz0
     have HZ1 := Bvh hz1
     have HZ2 := Bvh hz2
     have HL := Bvh hl
     have H1 := Bvh hone
     clear hreps hcs hi hz0 hz1 hz2 hl hone hF
     go_enter Try.func71, Try.ntmps71
     go_wp2_with (at_builtin; refine wpList_append_grows _ rfl _ _ 104 rfl 31 i0 _ 4 56 Try.underlying104 HI.out HZ0.out HZ1.out HZ2.out rfl (by decide) (some ⟨w.heap.size, 0, none⟩) 0 0 [] rfl (fun h => by cases h) rfl (fun _ _ j u hu => by simp at hu) a l0.length c0 cs rfl HL.out ?ce H1.out (by omega) (by unfold maxLen; omega) (by omega) ?kk; (case ce => intro j u hu; exact Axw (HC.out j u hu)); intro v' w1 hown hgrow; have HO := Bvh hown; have HG := Bvh hgrow; clear hown hgrow)
     go_ret
     have hb1 : Below w.heap.size w w1 := (((Below.refl _ _).alloc (Nat.le_refl _) _).grown HG.out (by simp) (fun k hk => by cases hk))
     have hown := HO.out
     rw [Nat.zero_add, List.nil_append] at hown
     refine ⟨_, rfl, ⟨cs, Ak1 hown (by simp), HR.out.imp_ fun x c hx => ?_⟩, hb1⟩
     refine Kd.FK_mono (Kd.FK_step (Kd.FK_bound hx) (fun k hk hlt => hb1.block k hlt)) (fun k hk => ⟨hk.1, fun he => ?_⟩)
     have h1 := Aje hown k he.symm
     have h2 := hk.2
     rw [World.size_alloc] at h1
     omega
theorem set4 (cur : Array Value) (a : Nat) (u v x y : Value) (h : a + 4 ≤ cur.size) : (((cur.setIfInBounds a u).setIfInBounds (a + 1) v).setIfInBounds (a + 2) x).setIfInBounds (a + 3) y = (cur.toList.take a ++ [u, v, x, y] ++ cur.toList.drop (a + [u, v, x, y].length)).toArray := by
 apply Array.ext'
 simp only [Array.toList_setIfInBounds]
 apply List.ext_getElem?
 intro k
 simp only [List.getElem?_set, List.length_set, Array.length_toList, List.append_assoc, List.getElem?_append, List.length_take, List.length_cons, List.length_nil, List.getElem?_take, List.getElem?_drop]
 rw [Nat.min_eq_left (by omega : a ≤ cur.size)]
 by_cases h1 : k < a
 · simp [h1, show ¬ a + 3 = k by omega, show ¬ a + 2 = k by omega, show ¬ a + 1 = k by omega, show ¬ a = k by omega]
 · by_cases h2 : k = a
   · subst h2; simp [show k < cur.size by omega]
   · by_cases h3 : k = a + 1
     · subst h3; simp [show a + 1 < cur.size by omega, show ¬ a + 1 < a by omega]
     · by_cases h4 : k = a + 2
       · subst h4; simp [show a + 2 < cur.size by omega, show ¬ a + 2 < a by omega]
       · by_cases h5 : k = a + 3
         · subst h5; simp [show a + 3 < cur.size by omega, show ¬ a + 3 < a by omega]
         · simp [h1, show ¬ a + 3 = k by omega, show ¬ a + 2 = k by omega, show ¬ a + 1 = k by omega, show ¬ a = k by omega, show ¬ k - a < 4 by omega, show a + 4 + (k - a - 4) = k by omega]
theorem Aww {w : World} {base : Nat} {ok : Nat → Prop} {xs : List S31} {g cap n : Nat} (h : O k31 31 w base ok (.slice (some ⟨g, 0, none⟩) n cap) xs) (j : Nat) (hj : j < xs.length) :
 ∃ A1 c1, w.cell? ⟨g, j * 4, none⟩ = some (.string (xs.getD j z31).f0) ∧ w.cell? ⟨g, j * 4 + 1, none⟩ = some (.int .i64 (xs.getD j z31).f1) ∧ w.cell? ⟨g, j * 4 + 2, none⟩ = some (.int .i64 (xs.getD j z31).f2) ∧ w.cell? ⟨g, j * 4 + 3, none⟩ = some (.slice A1 (xs.getD j z31).f3.length c1) ∧
  Kd.FK k31 w (fun k => ok k ∧ k ≠ g) (xs.getD j z31) [.string (xs.getD j z31).f0, .int .i64 (xs.getD j z31).f1, .int .i64 (xs.getD j z31).f2, .slice A1 (xs.getD j z31).f3.length c1] := by
 obtain ⟨g', cap', cur, he, hg, _, hh, h3, h4, h5, hr⟩ := Aj6 h (by omega)
 injection he with he1 he2 he3
 injection he1 with he1
 injection he1 with he1
 subst he1
 have hx := hr.2 j _ (List.getElem?_eq_getElem hj)
 have hxe : xs.getD j z31 = xs[j] := by rw [List.getD_eq_getElem?_getD, List.getElem?_eq_getElem hj]; rfl
 rw [hxe]
 obtain ⟨A1, c1, he, _, _⟩ := Avd (Kd.FK_now hx)
 have hb : j * 4 + 4 ≤ xs.length * 4 := by omega
 have hsz : cur.size = cap' * 4 := h5
 have hsz2 : k31.sz = 4 := rfl
 rw [hsz2] at he hx
 have hat : ∀ i u, i < 4 → ([.string (xs[j]).f0, .int .i64 (xs[j]).f1, .int .i64 (xs[j]).f2, .slice A1 (xs[j]).f3.length c1] : List Value)[i]? = some u → w.cell? ⟨g, j * 4 + i, none⟩ = some u := by
  intro i u hi hu
  have := congrArg (fun l => l[i]?) he
  simp only [List.getElem?_take, List.getElem?_drop] at this
  rw [if_pos (by omega), if_pos (by omega)] at this
  rw [cell_of_row w g _ cur 31 (0, 0) hh]
  rw [hu] at this
  simpa using this
 exact ⟨A1, c1, hat 0 _ (by omega) rfl, hat 1 _ (by omega) rfl, hat 2 _ (by omega) rfl, hat 3 _ (by omega) rfl, by rw [← he]; exact hx⟩
theorem zero31 (w : World) : (zeroValue 31).run Try.prog w = .ok (.agg #[.string ⟨#[]⟩, .int .i64 0, .int .i64 0, .slice none 0 0]) w := by kernel_rfl
def Ak7 (p : S31 → Bool) (l : List S31) (i j : Nat) (xs : List S31) : Prop := xs.take i = (l.take j).filter (fun x => !p x) ∧ xs.drop j = l.drop j
theorem Bqf {p : S31 → Bool} {l : List S31} {i0 : Nat} {h : i0 < l.length} (hp : p l[i0] = true) (hn : ∀ (j : Nat) (hji : j < i0), ¬p (l[j]'(by omega)) = true) (_ : i0 < l.length) : Ak7 p l i0 (i0 + 1) l := by
 refine ⟨?_, rfl⟩
 rw [List.take_succ_eq_append_getElem h, List.filter_append]
 have h1 : (l.take i0).filter (fun x => !p x) = l.take i0 := by
  rw [List.filter_eq_self]
  intro x hx
  obtain ⟨j, hj, rfl⟩ := List.mem_iff_getElem.1 hx
  rw [List.length_take] at hj
  have := hn j (by omega)
  simp at this
  simp [this]
 rw [h1]
 simp [hp]
theorem Bv5 {p : S31 → Bool} {l xs : List S31} {i j : Nat} (h : Ak7 p l i j xs) (hj : j < l.length) : xs.getD j z31 = l.getD j z31 := by
 have := congrArg (fun l => l.head?) h.2
 simp only [List.head?_drop] at this
 rw [List.getD_eq_getElem?_getD, List.getD_eq_getElem?_getD, this]
theorem Bxe {p : S31 → Bool} {l xs : List S31} {i j : Nat} (h : Ak7 p l i j xs) (hj : j < l.length) (hp : p (l.getD j z31) = true) : Ak7 p l i (j + 1) xs := by
 have he : l.getD j z31 = l[j] := by rw [List.getD_eq_getElem?_getD, List.getElem?_eq_getElem hj]; rfl
 rw [he] at hp
 refine ⟨?_, by rw [← List.drop_drop, h.2, List.drop_drop]⟩
 rw [h.1, List.take_succ_eq_append_getElem hj, List.filter_append]
 simp [hp]
theorem Bxf {p : S31 → Bool} {l xs : List S31} {i j : Nat} (h : Ak7 p l i j xs) (hij : i < j) (hj : j < l.length) (hl : xs.length = l.length) (hp : p (l.getD j z31) = false) : Ak7 p l (i + 1) (j + 1) (xs.set i (l.getD j z31)) := by
 have he : l.getD j z31 = l[j] := by rw [List.getD_eq_getElem?_getD, List.getElem?_eq_getElem hj]; rfl
 rw [he] at hp ⊢
 refine ⟨?_, ?_⟩
 · rw [List.take_succ_eq_append_getElem hj, List.filter_append, ← h.1]
   rw [List.take_succ_eq_append_getElem (by rw [List.length_set]; omega), List.take_set_of_le (Nat.le_refl _)]
   simp [hp]
 · rw [List.drop_set_of_lt (by omega), ← List.drop_drop, h.2, List.drop_drop]
theorem Bzu {p : S31 → Bool} {l xs : List S31} {i j : Nat} (h : Ak7 p l i j xs) (hj : l.length ≤ j) : xs.take i = l.filter (fun x => !p x) := by
 rw [h.1, List.take_of_length_le hj]
theorem Av3 (ok : Nat → Prop) (B : Nat) (name : ByteArray) (b : Nat) (v : Value) (l : List S31) (w : World) (ho : O k31 31 w B ok v l) (hB : B ≤ w.heap.size) (hlen : l.length ≤ 1000001) (hb0 : VarS w b name) :
 Calls Try.prog 72 #[v, .func (.func 95) #[] #[.pointer (some ⟨b, 0, none⟩)]] w fun e w' => ∃ v', e = .returned v' ∧ O k31 31 w' B ok v' (l.filter fun x => !ownW name x) ∧ w.grownBy w' v.ownBlock ∧ v'.ownBlock = v.ownBlock := by
 have HO := Bvh ho
 have HV := Bvh hb0
 have hV := O_V ho
 obtain ⟨A, c, rfl⟩ := Az1 ho
 have hC := (Kd.V_reads' hV).2.2
 have hIdx := Bjj name b A c l w hb0 hC
 clear hV ho hb0
 rcases hfi : l.findIdx? (ownW name) with _ | i0
 · have hid : Ajw (ownW name) l = -1 := by unfold Ajw; rw [hfi]
   have hfl : (l.filter fun x => !ownW name x) = l := by
    rw [List.filter_eq_self]
    intro x hx
    have := List.findIdx?_eq_none_iff.1 hfi x hx
    simp [this]
   rw [hid] at hIdx
   have HF := Bvh hfl
   clear hid hfl hfi hC
   go_enter Try.func72, Try.ntmps72
   go_wp2_with (go_at_call 94; refine hIdx.mono ?_; rintro e w1 ⟨rfl, hb⟩; have HB := Bvh hb; clear hb)
   go_ret
   exact ⟨_, rfl, by rw [HF.out]; exact Azp HO.out HB.out, Az9 HB.out _, rfl⟩
 · have hid : Ajw (ownW name) l = (i0 : Int) := by unfold Ajw; rw [hfi]
   rw [hid] at hIdx
   obtain ⟨hi0, hp0, hn0⟩ := List.findIdx?_eq_some_iff_getElem.1 hfi
   clear hid hfi hC
   obtain ⟨g, cap, cur0, he, hg, hgs, _, h30, h40, _, _⟩ := Aj6 HO.out (by omega)
   injection he with he1 _ he3
   subst he1 he3
   have HN := Bvh hn0
   have HP0 := Bvh hp0
   clear hn0 hp0
   have hne : ((i0 : Int) == -1) = false := by simp
   go_enter Try.func72, Try.ntmps72
   go_wp2_with (go_at_call 94; refine hIdx.mono ?_; rintro e w1 ⟨rfl, hb⟩; have HB := Bvh hb; clear hb)
   have hstart := Bvh (Bqf HP0.out HN.out hi0)
   clear hne
   go_loopg [5, 6] l.length (fun kq v5 v6 w' => ∃ (i j : Nat) (xs : List S31), v5 = .int .i64 i ∧ v6 = .int .i64 j ∧ l.length < j + kq ∧ i < j ∧ j ≤ l.length ∧ xs.length = l.length ∧ Aside0 (Ak7 (ownW name) l i j xs) ∧ Aside0 (O k31 31 w' B ok (.slice (some ⟨g, 0, none⟩) l.length c) xs) ∧ Aside0 (w.grownBy w' (some g)) ∧ Aside0 (B ≤ w'.heap.size) ∧ Aside0 (VarS w' b name))
   case atStart => exact ⟨i0, i0 + 1, l, rfl, by go_num, by omega, by omega, by omega, rfl, hstart, ⟨Azp HO.out HB.out⟩, ⟨Az9 HB.out _⟩, ⟨Nat.le_trans hB HB.out.size⟩, ⟨HV.out.below HB.out⟩⟩
   case round =>
    obtain ⟨i, j, xs, rfl, rfl, hjk, hij, hjl, hxl, HI, HO1, HG, HBs, HV1⟩ := hrel
    by_cases hlt : j < l.length
    · obtain ⟨A1, c1, hx0, hx1, hx2, hx3, hfk⟩ := Aww HO1.out j (by omega)
      obtain ⟨A2, c2, hy0, hy1, hy2, hy3, _⟩ := Aww HO1.out i (by omega)
      have HX := Bvh (Bv5 HI.out hlt)
      obtain ⟨x, hxe⟩ : ∃ x, xs.getD j z31 = x := ⟨_, rfl⟩
      obtain ⟨y, hye⟩ : ∃ y, xs.getD i z31 = y := ⟨_, rfl⟩
      rw [hxe] at hx0 hx1 hx2 hx3 hfk HX
      rw [hye] at hy0 hy1 hy2 hy3
      clear hxe hye
      obtain ⟨k1, rfl⟩ : ∃ k1, gk = k1 + 1 := ⟨gk - 1, by omega⟩
      obtain ⟨cur, hh⟩ := Ak6 HO1.out
      have hfz : ∀ k, wr.frozen? ⟨g, k, none⟩ = false := Aq2 hh
      have HH := Bvh hh
      have HFK := Bvh hfk
      clear hh hfk
      cases hp : ownW name x
      · have hp' : (x.f0.toList == name.toList) = false := hp
        have HP := Bvh hp
        clear hp
        go_wp2_with (go_at_call 95; refine (Akp name b _ _ _ _ _ (HV1.out.below (Aq4 (Below.refl _ _) _))).mono ?_; rintro e w2 ⟨rfl, hb⟩; rw [hp']; have hz0 := Aqd hb (Axw hy0); have hz1 := Aqd hb (Axw hy1); have hz2 := Aqd hb (Axw hy2); have hz3 := Aqd hb (Axw hy3); have hb0 := Aqd hb (Ajf wr _ 31 0 _ rfl); have hb1 := Aqd hb (Ajf wr _ 31 1 _ rfl); have hb2 := Aqd hb (Ajf wr _ 31 2 _ rfl); have hb3 := Aqd hb (Ajf wr _ 31 3 _ rfl); have hh2 := Aqn hb (Aqe HH.out _); have hf0 := Aq2 hh2 (i * 4); have hf1 := Aq2 hh2 (i * 4 + 1); have hf2 := Aq2 hh2 (i * 4 + 2); have hf3 := Aq2 hh2 (i * 4 + 3); have HB2 := Bvh hb; have HH2 := Bvh hh2; clear hb hh2 hy0 hy1 hy2 hy3 hx0 hx1 hx2 hx3 hfz hp')
        go_roundg k1
        case measure => omega
        case rel =>
         have hb' : Below wr.heap.size wr w2 := Aq1 (Aq4 (Below.refl _ _) _) HB2.out
         have hgr : g < wr.heap.size := Ax7 HH.out
         have hbig : (i + 1) * 4 ≤ cur.size := by
          obtain ⟨g', cap', cur', he, _, _, hh', h3, _, h5, _⟩ := Aj6 HO1.out (by omega)
          injection he with he1 he2 he3
          injection he1 with he1
          injection he1 with he1
          subst he1
          rw [HH.out] at hh'
          injection hh' with hh'
          injection hh' with hh'
          subst hh'
          rw [h5]
          exact Nat.mul_le_mul_right 4 (by omega)
         refine ⟨i + 1, j + 1, xs.set i x, by go_num, by go_num, by omega, by omega, by omega, by rw [List.length_set]; exact hxl, ⟨?_⟩, ⟨?_⟩, ⟨?_⟩, ⟨?_⟩, ⟨?_⟩⟩
         · rw [HX.out]
           exact Bxf HI.out hij hlt hxl (by rw [← HX.out]; exact HP.out)
         · refine O_set (Azp HO1.out hb') i (by omega) x _ cur HH2.out (Kd.FK_below HFK.out hb') ?_ ?_
           · have := Axb (Axb (Axb (Axb HH2.out (i * 4) (.string x.f0)) (i * 4 + 1) (.int .i64 x.f1)) (i * 4 + 2) (.int .i64 x.f2)) (i * 4 + 3) (.slice A1 x.f3.length c1)
             rw [set4 _ _ _ _ _ _ (by omega)] at this
             exact this
           · intro k _ hk
             rw [Below.heap_setCell _ _ _ _ hk, Below.heap_setCell _ _ _ _ hk, Below.heap_setCell _ _ _ _ hk, Below.heap_setCell _ _ _ _ hk]
         · exact grownBy.setCell_row (grownBy.setCell_row (grownBy.setCell_row (grownBy.setCell_row (grownBy.trans_below HG.out hb') _ _) _ _) _ _) _ _
         · have := HBs.out; have := hb'.size; simp only [World.setCell, Array.size_modify]; omega
         · have hv := HV1.out.below hb'
           have hbg : b ≠ g := fun he => by
            subst he
            have h1 := HH2.out
            have h2 : w2.heap[b]? = _ := hv
            rw [h1] at h2
            injection h2 with h2
            injection h2 with _ h2
            exact absurd h2 (by decide)
           unfold VarS
           rw [Below.heap_setCell _ _ _ _ hbg, Below.heap_setCell _ _ _ _ hbg, Below.heap_setCell _ _ _ _ hbg, Below.heap_setCell _ _ _ _ hbg]
           exact hv
      · have hp' : (x.f0.toList == name.toList) = true := hp
        have HP := Bvh hp
        clear hp
        go_wp2_with (go_at_call 95; refine (Akp name b _ _ _ _ _ (HV1.out.below (Aq4 (Below.refl _ _) _))).mono ?_; rintro e w2 ⟨rfl, hb⟩; rw [hp']; have HB2 := Bvh hb; clear hb hy0 hy1 hy2 hy3 hx0 hx1 hx2 hx3 hfz hp')
        go_roundg k1
        case measure => omega
        case rel =>
         have hb' : Below wr.heap.size wr w2 := Aq1 (Aq4 (Below.refl _ _) _) HB2.out
         exact ⟨i, j + 1, xs, rfl, by go_num, by omega, by omega, by omega, hxl, ⟨Bxe HI.out hlt (by rw [← HX.out]; exact HP.out)⟩, ⟨Azp HO1.out hb'⟩, ⟨grownBy.trans_below HG.out hb'⟩, ⟨Nat.le_trans HBs.out hb'.size⟩, ⟨HV1.out.below hb'⟩⟩
    · have hge : l.length ≤ j := by omega
      clear hlt
      obtain ⟨cur, hh⟩ := Ak6 HO1.out
      have HH := Bvh hh
      clear hh
      have hci : (c == i) = false := by simp; omega
      have hfit : i * 4 + (l.length - i) * 4 ≤ cur.size := by
       obtain ⟨g', cap', cur', he, _, _, hh', h3, _, h5, _⟩ := Aj6 HO1.out (by omega)
       injection he with he1 he2 he3
       injection he1 with he1
       injection he1 with he1
       subst he1
       rw [HH.out] at hh'
       injection hh' with hh'
       injection hh' with hh'
       subst hh'
       rw [h5, show k31.sz = 4 from rfl]
       omega
      have HFIT := Bvh hfit
      clear hfit
      go_wp2_with (refine Ajm rfl (.tmp 38) 104 rfl Try.underlying104 zero31 (by intro u hu; simp [Value.cells] at hu; rcases hu with rfl | rfl | rfl | rfl <;> rfl) g (i * 4) (l.length - i) (c - i) rfl (by omega) HH.out (by have := HFIT.out; simpa [Value.cells] using this) ?_; intro w2 cur2 h1 h2 h3 h4; have K1 := Bvh h1; have K2 := Bvh h2; have K3 := Bvh h3; have K4 := Bvh h4; clear h1 h2 h3 h4)
      go_ret
      have hfl := Bzu HI.out hge
      refine ⟨_, rfl, ?_, ⟨K4.out.os.trans HG.out.os, K4.out.tape.trans HG.out.tape, K4.out.output.trans HG.out.output, Nat.le_trans HG.out.size K4.out.size, fun k hk hr => (K4.out.block k (Nat.lt_of_lt_of_le hk HG.out.size) hr).trans (HG.out.block k hk hr)⟩, rfl⟩
      rw [← hfl]
      obtain ⟨g', cap', cur', he, hg', _, hh', h3, h4, h5, hr⟩ := Aj6 HO1.out (by omega)
      injection he with he1 he2 he3
      injection he1 with he1
      injection he1 with he1
      subst he1 he3
      rw [HH.out] at hh'
      injection hh' with hh'
      injection hh' with hh'
      subst hh'
      have hl2 : (xs.take i).length = i := by rw [List.length_take]; omega
      have := O_mk (d := k31) (ok := ok) (xs := xs.take i) (cap := c) hg' K1.out (by omega) h4 (by rw [K2.out]; exact h5) (by
       have hr2 := (Kd.reps_take hr (m := i) (by omega)).imp_ (R' := fun x c => Kd.FK k31 w2 (fun k => ok k ∧ k ≠ g) x c) fun y c hy => Kd.FK_grown hy K4.out fun k hk he => hk.2 (by injection he)
       rw [List.take_take, Nat.min_eq_left (Nat.mul_le_mul_right _ (by omega))] at hr2
       rw [hl2, show i * k31.sz = i * 4 from rfl, K3.out]
       exact hr2)
      rw [hl2] at this
      exact this
theorem Bzc (ok : Nat → Prop) (B : Nat) (name : ByteArray) (b : Nat) (v : Value) (l : List S31) (w : World) (ho : O k31 31 w B ok v l) (hB : B ≤ w.heap.size) (hlen : l.length ≤ 1000001) (hb0 : VarS w b name) :
 Calls Try.prog 72 #[v, .func (.func 73) #[] #[.pointer (some ⟨b, 0, none⟩)]] w fun e w' => ∃ v', e = .returned v' ∧ O k31 31 w' B ok v' (l.filter fun x => !othW name x) ∧ w.grownBy w' v.ownBlock ∧ v'.ownBlock = v.ownBlock := by
 have HO := Bvh ho
 have HV := Bvh hb0
 have hV := O_V ho
 obtain ⟨A, c, rfl⟩ := Az1 ho
 have hC := (Kd.V_reads' hV).2.2
 have hIdx := Bjk name b A c l w hb0 hC
 clear hV ho hb0
 rcases hfi : l.findIdx? (othW name) with _ | i0
 · have hid : Ajw (othW name) l = -1 := by unfold Ajw; rw [hfi]
   have hfl : (l.filter fun x => !othW name x) = l := by
    rw [List.filter_eq_self]
    intro x hx
    have := List.findIdx?_eq_none_iff.1 hfi x hx
    simp [this]
   rw [hid] at hIdx
   have HF := Bvh hfl
   clear hid hfl hfi hC
   go_enter Try.func72, Try.ntmps72
   go_wp2_with (go_at_call 94; refine hIdx.mono ?_; rintro e w1 ⟨rfl, hb⟩; have HB := Bvh hb; clear hb)
   go_ret
   exact ⟨_, rfl, by rw [HF.out]; exact Azp HO.out HB.out, Az9 HB.out _, rfl⟩
 · have hid : Ajw (othW name) l = (i0 : Int) := by unfold Ajw; rw [hfi]
   rw [hid] at hIdx
   obtain ⟨hi0, hp0, hn0⟩ := List.findIdx?_eq_some_iff_getElem.1 hfi
   clear hid hfi hC
   obtain ⟨g, cap, cur0, he, hg, hgs, _, h30, h40, _, _⟩ := Aj6 HO.out (by omega)
   injection he with he1 _ he3
   subst he1 he3
   have HN := Bvh hn0
   have HP0 := Bvh hp0
   clear hn0 hp0
   have hne : ((i0 : Int) == -1) = false := by simp
   go_enter Try.func72, Try.ntmps72
   go_wp2_with (go_at_call 94; refine hIdx.mono ?_; rintro e w1 ⟨rfl, hb⟩; have HB := Bvh hb; clear hb)
   have hstart := Bvh (Bqf HP0.out HN.out hi0)
   clear hne
   go_loopg [5, 6] l.length (fun kq v5 v6 w' => ∃ (i j : Nat) (xs : List S31), v5 = .int .i64 i ∧ v6 = .int .i64 j ∧ l.length < j + kq ∧ i < j ∧ j ≤ l.length ∧ xs.length = l.length ∧ Aside0 (Ak7 (othW name) l i j xs) ∧ Aside0 (O k31 31 w' B ok (.slice (some ⟨g, 0, none⟩) l.length c) xs) ∧ Aside0 (w.grownBy w' (some g)) ∧ Aside0 (B ≤ w'.heap.size) ∧ Aside0 (VarS w' b name))
   case atStart => exact ⟨i0, i0 + 1, l, rfl, by go_num, by omega, by omega, by omega, rfl, hstart, ⟨Azp HO.out HB.out⟩, ⟨Az9 HB.out _⟩, ⟨Nat.le_trans hB HB.out.size⟩, ⟨HV.out.below HB.out⟩⟩
   case round =>
    obtain ⟨i, j, xs, rfl, rfl, hjk, hij, hjl, hxl, HI, HO1, HG, HBs, HV1⟩ := hrel
    by_cases hlt : j < l.length
    · obtain ⟨A1, c1, hx0, hx1, hx2, hx3, hfk⟩ := Aww HO1.out j (by omega)
      obtain ⟨A2, c2, hy0, hy1, hy2, hy3, _⟩ := Aww HO1.out i (by omega)
      have HX := Bvh (Bv5 HI.out hlt)
      obtain ⟨x, hxe⟩ : ∃ x, xs.getD j z31 = x := ⟨_, rfl⟩
      obtain ⟨y, hye⟩ : ∃ y, xs.getD i z31 = y := ⟨_, rfl⟩
      rw [hxe] at hx0 hx1 hx2 hx3 hfk HX
      rw [hye] at hy0 hy1 hy2 hy3
      clear hxe hye
      obtain ⟨k1, rfl⟩ : ∃ k1, gk = k1 + 1 := ⟨gk - 1, by omega⟩
      obtain ⟨cur, hh⟩ := Ak6 HO1.out
      have hfz : ∀ k, wr.frozen? ⟨g, k, none⟩ = false := Aq2 hh
      have HH := Bvh hh
      have HFK := Bvh hfk
      clear hh hfk
      cases hp : othW name x
      · have hp' : (x.f0.toList != name.toList) = false := hp
        have HP := Bvh hp
        clear hp
        go_wp2_with (go_at_call 73; refine (Akq name b _ _ _ _ _ (HV1.out.below (Aq4 (Below.refl _ _) _))).mono ?_; rintro e w2 ⟨rfl, hb⟩; rw [hp']; have hz0 := Aqd hb (Axw hy0); have hz1 := Aqd hb (Axw hy1); have hz2 := Aqd hb (Axw hy2); have hz3 := Aqd hb (Axw hy3); have hb0 := Aqd hb (Ajf wr _ 31 0 _ rfl); have hb1 := Aqd hb (Ajf wr _ 31 1 _ rfl); have hb2 := Aqd hb (Ajf wr _ 31 2 _ rfl); have hb3 := Aqd hb (Ajf wr _ 31 3 _ rfl); have hh2 := Aqn hb (Aqe HH.out _); have hf0 := Aq2 hh2 (i * 4); have hf1 := Aq2 hh2 (i * 4 + 1); have hf2 := Aq2 hh2 (i * 4 + 2); have hf3 := Aq2 hh2 (i * 4 + 3); have HB2 := Bvh hb; have HH2 := Bvh hh2; clear hb hh2 hy0 hy1 hy2 hy3 hx0 hx1 hx2 hx3 hfz hp')
        go_roundg k1
        case measure => omega
        case rel =>
         have hb' : Below wr.heap.size wr w2 := Aq1 (Aq4 (Below.refl _ _) _) HB2.out
         have hgr : g < wr.heap.size := Ax7 HH.out
         have hbig : (i + 1) * 4 ≤ cur.size := by
          obtain ⟨g', cap', cur', he, _, _, hh', h3, _, h5, _⟩ := Aj6 HO1.out (by omega)
          injection he with he1 he2 he3
          injection he1 with he1
          injection he1 with he1
          subst he1
          rw [HH.out] at hh'
          injection hh' with hh'
          injection hh' with hh'
          subst hh'
          rw [h5]
          exact Nat.mul_le_mul_right 4 (by omega)
         refine ⟨i + 1, j + 1, xs.set i x, by go_num, by go_num, by omega, by omega, by omega, by rw [List.length_set]; exact hxl, ⟨?_⟩, ⟨?_⟩, ⟨?_⟩, ⟨?_⟩, ⟨?_⟩⟩
         · rw [HX.out]
           exact Bxf HI.out hij hlt hxl (by rw [← HX.out]; exact HP.out)
         · refine O_set (Azp HO1.out hb') i (by omega) x _ cur HH2.out (Kd.FK_below HFK.out hb') ?_ ?_
           · have := Axb (Axb (Axb (Axb HH2.out (i * 4) (.string x.f0)) (i * 4 + 1) (.int .i64 x.f1)) (i * 4 + 2) (.int .i64 x.f2)) (i * 4 + 3) (.slice A1 x.f3.length c1)
             rw [set4 _ _ _ _ _ _ (by omega)] at this
             exact this
           · intro k _ hk
             rw [Below.heap_setCell _ _ _ _ hk, Below.heap_setCell _ _ _ _ hk, Below.heap_setCell _ _ _ _ hk, Below.heap_setCell _ _ _ _ hk]
         · exact grownBy.setCell_row (grownBy.setCell_row (grownBy.setCell_row (grownBy.setCell_row (grownBy.trans_below HG.out hb') _ _) _ _) _ _) _ _
         · have := HBs.out; have := hb'.size; simp only [World.setCell, Array.size_modify]; omega
         · have hv := HV1.out.below hb'
           have hbg : b ≠ g := fun he => by
            subst he
            have h1 := HH2.out
            have h2 : w2.heap[b]? = _ := hv
            rw [h1] at h2
            injection h2 with h2
            injection h2 with _ h2
            exact absurd h2 (by decide)
           unfold VarS
           rw [Below.heap_setCell _ _ _ _ hbg, Below.heap_setCell _ _ _ _ hbg, Below.heap_setCell _ _ _ _ hbg, Below.heap_setCell _ _ _ _ hbg]
           exact hv
      · have hp' : (x.f0.toList != name.toList) = true := hp
        have HP := Bvh hp
        clear hp
        go_wp2_with (go_at_call 73; refine (Akq name b _ _ _ _ _ (HV1.out.below (Aq4 (Below.refl _ _) _))).mono ?_; rintro e w2 ⟨rfl, hb⟩; rw [hp']; have HB2 := Bvh hb; clear hb hy0 hy1 hy2 hy3 hx0 hx1 hx2 hx3 hfz hp')
        go_roundg k1
        case measure => omega
        case rel =>
         have hb' : Below wr.heap.size wr w2 := Aq1 (Aq4 (Below.refl _ _) _) HB2.out
         exact ⟨i, j + 1, xs, rfl, by go_num, by omega, by omega, by omega, hxl, ⟨Bxe HI.out hlt (by rw [← HX.out]; exact HP.out)⟩, ⟨Azp HO1.out hb'⟩, ⟨grownBy.trans_below HG.out hb'⟩, ⟨Nat.le_trans HBs.out hb'.size⟩, ⟨HV1.out.below hb'⟩⟩
    · have hge : l.length ≤ j := by omega
      clear hlt
      obtain ⟨cur, hh⟩ := Ak6 HO1.out
      have HH := Bvh hh
      clear hh
      have hci : (c == i) = false := by simp; omega
      have hfit : i * 4 + (l.length - i) * 4 ≤ cur.size := by
       obtain ⟨g', cap', cur', he, _, _, hh', h3, _, h5, _⟩ := Aj6 HO1.out (by omega)
       injection he with he1 he2 he3
       injection he1 with he1
       injection he1 with he1
       subst he1
       rw [HH.out] at hh'
       injection hh' with hh'
       injection hh' with hh'
       subst hh'
       rw [h5, show k31.sz = 4 from rfl]
       omega
      have HFIT := Bvh hfit
      clear hfit
      go_wp2_with (refine Ajm rfl (.tmp 38) 104 rfl Try.underlying104 zero31 (by intro u hu; simp [Value.cells] at hu; rcases hu with rfl | rfl | rfl | rfl <;> rfl) g (i * 4) (l.length - i) (c - i) rfl (by omega) HH.out (by have := HFIT.out; simpa [Value.cells] using this) ?_; intro w2 cur2 h1 h2 h3 h4; have K1 := Bvh h1; have K2 := Bvh h2; have K3 := Bvh h3; have K4 := Bvh h4; clear h1 h2 h3 h4)
      go_ret
      have hfl := Bzu HI.out hge
      refine ⟨_, rfl, ?_, ⟨K4.out.os.trans HG.out.os, K4.out.tape.trans HG.out.tape, K4.out.output.trans HG.out.output, Nat.le_trans HG.out.size K4.out.size, fun k hk hr => (K4.out.block k (Nat.lt_of_lt_of_le hk HG.out.size) hr).trans (HG.out.block k hk hr)⟩, rfl⟩
      rw [← hfl]
      obtain ⟨g', cap', cur', he, hg', _, hh', h3, h4, h5, hr⟩ := Aj6 HO1.out (by omega)
      injection he with he1 he2 he3
      injection he1 with he1
      injection he1 with he1
      subst he1 he3
      rw [HH.out] at hh'
      injection hh' with hh'
      injection hh' with hh'
      subst hh'
      have hl2 : (xs.take i).length = i := by rw [List.length_take]; omega
      have := O_mk (d := k31) (ok := ok) (xs := xs.take i) (cap := c) hg' K1.out (by omega) h4 (by rw [K2.out]; exact h5) (by
       have hr2 := (Kd.reps_take hr (m := i) (by omega)).imp_ (R' := fun x c => Kd.FK k31 w2 (fun k => ok k ∧ k ≠ g) x c) fun y c hy => Kd.FK_grown hy K4.out fun k hk he => hk.2 (by injection he)
       rw [List.take_take, Nat.min_eq_left (Nat.mul_le_mul_right _ (by omega))] at hr2
       rw [hl2, show i * k31.sz = i * 4 from rfl, K3.out]
       exact hr2)
      rw [hl2] at this
      exact this
end
section
attribute [local go_sem] Axk Axr Az3 Az7 Axj Axi Axz Axy
def Axf.l0 : Nat → Int → List (S38) → Int → Int → Option (Int)
 | 0, _, _, _, _ => none
 | k + 1, x3, x6, x7, x8 => if x8 < x7 then (if 0 ≤ x8 then (if x8 < (x6.length : Int) then (Axf.l0 k (wrap64 (x3 + (((Aqf x6 x8).f1).length : Int))) x6 x7 (wrap64 (x8 + 1))) else (none)) else (none)) else (some x3)
def Axf.f (k : Nat) (l0 : List (S38)) : Option (Int) := Axf.l0 k 0 l0 (l0.length : Int) 0
theorem Axf.calls (k : Nat) (A0 : Option Addr) (c0 : Nat) (l0 : List (S38)) (r : Int) (w : World) (hr0 : Kd.C k38 w A0 l0.length l0) (hc0 : l0.length ≤ c0) (h : Axf.f k l0 = some r) :
 Calls Try.prog 35 #[.slice A0 l0.length c0] w fun e w' => e = .returned (.int .i64 r) ∧ Below w.heap.size w w' := by
 have hu38 := Try.underlying38
 have HR0 := Bvh hr0
 have HC0 := Bvh hc0
 clear hr0 hc0
 have HB := Bvh (Below.refl w.heap.size w)
 have H : (Axf.l0 k 0 l0 (l0.length : Int) 0) = some r := h
 clear h
 have H' := Bvh H
 clear H
 go_enter Try.func35, Try.ntmps35
 go_wp2
 go_loopg [3, 8] k (fun kq v3 v8 w' => ∃ (x3_1 : Int) (x8_1 : Int), v3 = .int .i64 x3_1 ∧ v8 = .int .i64 x8_1 ∧ Aside0 (Axf.l0 kq x3_1 l0 (l0.length : Int) x8_1 = some r) ∧ Aside0 (kq ≤ k) ∧ Aside0 (Below w.heap.size w w'))
 case atStart => exact ⟨(0), (0), rfl, rfl, H', ⟨Nat.le_refl _⟩, HB⟩
 case round =>
  clear H'
  obtain ⟨x3_1, x8_1, rfl, rfl, HA, HK1, HB⟩ := hrel
  cases gk with
  | zero => exact absurd HA.out (by simp [Axf.l0])
  | succ k1 =>
    have H := HA.out
    clear HA
    simp only [Axf.l0] at H
    by_cases c2 : x8_1 < (l0.length : Int)
    · rw [if_pos c2] at H
      have c2b0 : decide (x8_1 < (l0.length : Int)) = true := decide_eq_true c2
      clear c2
      by_cases c3 : 0 ≤ x8_1
      · rw [if_pos c3] at H
        have c3b0 : decide (0 ≤ x8_1) = true := decide_eq_true c3
        clear c3
        by_cases c4 : x8_1 < (l0.length : Int)
        · rw [if_pos c4] at H
          have c4b0 : decide (x8_1 < (l0.length : Int)) = true := decide_eq_true c4
          clear c4
          have H' := Bvh H
          clear H
          have p291 : 0 ≤ (x8_1 : Int) := of_decide_eq_true (by first | (with_reducible assumption) | assumption)
          have q291 : x8_1 < (l0.length : Int) := of_decide_eq_true (by first | (with_reducible assumption) | assumption)
          obtain ⟨ad291, A291_1, c291_1, e291, hx291_0, hx291_1, hl291_1, hi291_1⟩ := Azf HR0.out x8_1 p291 q291
          cases e291
          replace hx291_0 := (HB.out.cell (World.block_lt_of_cell? w _ hx291_0)).trans hx291_0
          replace hx291_1 := (HB.out.cell (World.block_lt_of_cell? w _ hx291_1)).trans hx291_1
          have HR291_1 := Bvh hi291_1
          have HC291_1 := Bvh hl291_1
          clear hi291_1 hl291_1
          replace p291 := eq_true p291
          replace q291 := eq_true q291
          go_wp2_with (first | ((with_reducible refine Ax1 (N := 5) rfl ?_); refine Axd ?hg (N := 5) ?hd (cs := #[.string (⟨#[]⟩ : ByteArray), .slice none 0 0]) (t := 38) ?hr ?_; (case hd => rfl); (case hg => rfl); (case hr => (go_simp; rfl)); intro gb292 hg w5 hbox hb; have n0_ := Bvh (Aq1 HB.out hb); have n1_ := Bvh (hbox); have n2_ := Bvh ((by rw [hg]; exact (Aqb HB.out) : w.heap.size ≤ gb292)); have n3_ := Bvh ((by rw [hg]; exact (Aqb HB.out) : w.heap.size ≤ gb292)); clear HB; have HB := n0_; have BK292 := n1_; have GW292 := n2_; have GE292 := n3_; clear n0_ n1_ n2_ n3_; clear hb hbox hg; have hcz6_0 : w5.cell? ⟨gb292, 0, none⟩ = some (.string (⟨#[]⟩ : ByteArray)) := (Aq3 BK292.out 0).trans rfl; have hcz6_1 : w5.cell? ⟨gb292, 1, none⟩ = some (.slice none 0 0) := (Aq3 BK292.out 1).trans rfl; have hfz6_0 := Aq2 BK292.out 0; have hfz6_1 := Aq2 BK292.out 1))
          go_roundg k1
          case measure => have := HK1.out; omega
          case rel => exact ⟨(wrap64 (x3_1 + (((Aqf l0 x8_1).f1).length : Int))), (wrap64 (x8_1 + 1)), (by first | rfl | (simp; done) | (simp [*]; done)), (by first | rfl | (simp; done) | (simp [*]; done)), H', ⟨by have := HK1.out; omega⟩, ⟨by repeat (first | (with_reducible first | exact HB.out | apply Aq4 | apply Aq7 | apply Aq5 | refine Ax2 ?_ GE292.out) | exact HB.out)⟩⟩
        · rw [if_neg c4] at H
          exact absurd H (by simp)
      · rw [if_neg c3] at H
        exact absurd H (by simp)
    · rw [if_neg c2] at H
      have c2b0 : decide (x8_1 < (l0.length : Int)) = false := decide_eq_false c2
      clear c2
      obtain rfl := Option.some.inj H
      go_wp2
      go_ret
      exact ⟨by first | rfl | (simp [Aqj, Aqi] <;> rfl) | (simp [*, Aqj, Aqi] <;> rfl), by exact HB.out⟩
end
section
theorem C_marked {w : World} {g : Nat} {xs : List Int} {fr : Nat × Nat} (hg : w.heap[g]? = some (.cells (nums .u8 xs).toArray 5 fr)) (hl : xs.length ≤ 9223372036854775807) : (Kd.int .u8).C w (some ⟨g, 0, none⟩) xs.length xs := by
 refine ⟨rfl, hl, fun _ => ⟨⟨g, 0, none⟩, rfl, fun j p hj => ⟨[.int .u8 p], rfl, rfl, fun i u hu => ?_⟩⟩⟩
 have hi : i = 0 := by
  rcases Nat.eq_zero_or_pos i with h | h
  · exact h
  · rw [List.getElem?_eq_none (by simp; omega)] at hu; cases hu
 subst hi
 have hu' : u = .int .u8 p := by simpa using hu.symm
 subst hu'
 rw [show (Kd.int .u8).sz = 1 from rfl, Nat.mul_one, Nat.add_zero, Ajr, cell_of_row w g j _ 5 fr hg]
 simp [nums, hj]
def fa : S38 := ⟨⟨#[97]⟩, []⟩
theorem V_slice {α : Type} {d : Kd α} {e : Nat} {w : World} {base : Nat} {ok : Nat → Prop} {v : Value} {xs : List α} (h : Kd.V d e w base ok v xs) : ∃ A c, v = .slice A xs.length c := by
 obtain ⟨A, c, h1, _⟩ := h; exact ⟨A, c, h1⟩
theorem Azn {α : Type} {d : Kd α} {e : Nat} {w : World} {base base' : Nat} {ok : Nat → Prop} {v : Value} {xs : List α} (h : Kd.V d e w base ok v xs) : Kd.V d e w base' ok v xs := h
end
end Go.Proofs.Ytcgeioingikeeaa.P
