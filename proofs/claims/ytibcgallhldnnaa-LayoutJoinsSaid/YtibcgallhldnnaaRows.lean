/-
  No cell of these rows narrows 'for every input' (looked for: loops, veiled, ifaces, maps, wideKeys, modest, calm, conditions, laid).
  DERIVED. THE GIVEN ROWS OF THIS SEAT. 6 by the template 'for every input the law returns true; each argument reads behind the call as it read before'; 0 by the template 'total and deterministic' (their statements: YtibcgallhldnnaaTotals.lean).
  GIVEN WITH THE SEED: the statements are not yours to turn. If you find one false, say at which input.
  Laid BY PROGRAM, IN A SANDBOX (cutbox-rows.mjs): the forced cells as the released guide's own fill.sh prints them over the translation 0067084cadb79de6… (all of the seat's roots in one cut). By AI agents, Wed Nov 11 2026. No macro, syntax, notation, axiom, sorry.
-/
import Derived.Test.YtibcgallhldnnaaChecked
import GoSem.Claim
import GoSem.ClaimJoined
import GoSem.ClaimMapViews
import Derived.JoinedTies
import Derived.KernelRfl
namespace Go.Proofs.Ytibcgallhldnnaa
/- THE CELL 'sum', in the pinned program and in every row, IS THE sha256 OF THE DUMP (.gsa) THAT YtibcgallhldnnaaProg.lean LOADS. Nothing in Lean hashes anything: it is a label: what it is worth is what the hold of that sum in a sandbox is worth. -/
noncomputable def Try.pinned : Pinned := { name := "ytibcgallhldnnaa", sum := "0067084cadb79de6658309b9fa2108e18d61ecd4f73be77033558c162565e431", checked := Try.checked }
namespace Rows
def none {H : Type} : Left H := { results := [], args := [] }

/-- 'gambrellaw10.LayoutTells': WHATEVER THE INPUT: true; the input reads as it did. -/
def layoutTellsSpec : ChangeSpec := { name := "layoutTells", fn := fun _ => fun
  | [d1, d2, d3] => { results := [.lit (.bool true)], args := [d1, d2, d3] }
  | _ => none }
def layoutTellsRow : OpenClaim := { program := "ytibcgallhldnnaa", sum := "0067084cadb79de6658309b9fa2108e18d61ecd4f73be77033558c162565e431", func := "gambrel/gambrellaw10.LayoutTells", spec := "layoutTells", unfollowed := true, recurses := true, apart := false }
def LayoutTellsSaid : Prop := layoutTellsRow.holds Try.pinned (OpenSpec.ofChange layoutTellsSpec)

/-- ITS FALSE NEIGHBOUR: 'it returns false'. Refute it at one input. -/
def layoutTellsWrong : ChangeSpec := { name := "layoutTells", fn := fun _ => fun
  | [d1, d2, d3] => { results := [.lit (.bool false)], args := [d1, d2, d3] }
  | _ => none }
def LayoutTellsWrongFalsely : Prop := layoutTellsRow.holds Try.pinned (OpenSpec.ofChange layoutTellsWrong)

/-- 'gambrellaw10.LayoutJoins': WHATEVER THE INPUT: true; the input reads as it did. -/
def layoutJoinsSpec : ChangeSpec := { name := "layoutJoins", fn := fun _ => fun
  | [d1, d2, d3] => { results := [.lit (.bool true)], args := [d1, d2, d3] }
  | _ => none }
def layoutJoinsRow : OpenClaim := { program := "ytibcgallhldnnaa", sum := "0067084cadb79de6658309b9fa2108e18d61ecd4f73be77033558c162565e431", func := "gambrel/gambrellaw10.LayoutJoins", spec := "layoutJoins", unfollowed := true, recurses := true, apart := false }
def LayoutJoinsSaid : Prop := layoutJoinsRow.holds Try.pinned (OpenSpec.ofChange layoutJoinsSpec)

/-- ITS FALSE NEIGHBOUR: 'it returns false'. Refute it at one input. -/
def layoutJoinsWrong : ChangeSpec := { name := "layoutJoins", fn := fun _ => fun
  | [d1, d2, d3] => { results := [.lit (.bool false)], args := [d1, d2, d3] }
  | _ => none }
def LayoutJoinsWrongFalsely : Prop := layoutJoinsRow.holds Try.pinned (OpenSpec.ofChange layoutJoinsWrong)

/-- 'gambrellaw10.LayoutBack': WHATEVER THE INPUT: true; the input reads as it did. -/
def layoutBackSpec : ChangeSpec := { name := "layoutBack", fn := fun _ => fun
  | [d1, d2] => { results := [.lit (.bool true)], args := [d1, d2] }
  | _ => none }
def layoutBackRow : OpenClaim := { program := "ytibcgallhldnnaa", sum := "0067084cadb79de6658309b9fa2108e18d61ecd4f73be77033558c162565e431", func := "gambrel/gambrellaw10.LayoutBack", spec := "layoutBack", unfollowed := true, recurses := true, apart := false }
def LayoutBackSaid : Prop := layoutBackRow.holds Try.pinned (OpenSpec.ofChange layoutBackSpec)

/-- ITS FALSE NEIGHBOUR: 'it returns false'. Refute it at one input. -/
def layoutBackWrong : ChangeSpec := { name := "layoutBack", fn := fun _ => fun
  | [d1, d2] => { results := [.lit (.bool false)], args := [d1, d2] }
  | _ => none }
def LayoutBackWrongFalsely : Prop := layoutBackRow.holds Try.pinned (OpenSpec.ofChange layoutBackWrong)

/-- 'gambrellaw10.LayoutSame': WHATEVER THE INPUT: true; the input reads as it did. -/
def layoutSameSpec : ChangeSpec := { name := "layoutSame", fn := fun _ => fun
  | [d1, d2, d3] => { results := [.lit (.bool true)], args := [d1, d2, d3] }
  | _ => none }
def layoutSameRow : OpenClaim := { program := "ytibcgallhldnnaa", sum := "0067084cadb79de6658309b9fa2108e18d61ecd4f73be77033558c162565e431", func := "gambrel/gambrellaw10.LayoutSame", spec := "layoutSame", unfollowed := true, recurses := true, apart := false }
def LayoutSameSaid : Prop := layoutSameRow.holds Try.pinned (OpenSpec.ofChange layoutSameSpec)

/-- ITS FALSE NEIGHBOUR: 'it returns false'. Refute it at one input. -/
def layoutSameWrong : ChangeSpec := { name := "layoutSame", fn := fun _ => fun
  | [d1, d2, d3] => { results := [.lit (.bool false)], args := [d1, d2, d3] }
  | _ => none }
def LayoutSameWrongFalsely : Prop := layoutSameRow.holds Try.pinned (OpenSpec.ofChange layoutSameWrong)

/-- 'gambrellaw10.LayoutSize': WHATEVER THE INPUT: true; the input reads as it did. -/
def layoutSizeSpec : ChangeSpec := { name := "layoutSize", fn := fun _ => fun
  | [d1, d2] => { results := [.lit (.bool true)], args := [d1, d2] }
  | _ => none }
def layoutSizeRow : OpenClaim := { program := "ytibcgallhldnnaa", sum := "0067084cadb79de6658309b9fa2108e18d61ecd4f73be77033558c162565e431", func := "gambrel/gambrellaw10.LayoutSize", spec := "layoutSize", unfollowed := true, recurses := true, apart := false }
def LayoutSizeSaid : Prop := layoutSizeRow.holds Try.pinned (OpenSpec.ofChange layoutSizeSpec)

/-- ITS FALSE NEIGHBOUR: 'it returns false'. Refute it at one input. -/
def layoutSizeWrong : ChangeSpec := { name := "layoutSize", fn := fun _ => fun
  | [d1, d2] => { results := [.lit (.bool false)], args := [d1, d2] }
  | _ => none }
def LayoutSizeWrongFalsely : Prop := layoutSizeRow.holds Try.pinned (OpenSpec.ofChange layoutSizeWrong)

/-- 'gambrellaw10.LayoutBig': WHATEVER THE INPUT: true; the input reads as it did. -/
def layoutBigSpec : ChangeSpec := { name := "layoutBig", fn := fun _ => fun
  | [d1, d2, d3] => { results := [.lit (.bool true)], args := [d1, d2, d3] }
  | _ => none }
def layoutBigRow : OpenClaim := { program := "ytibcgallhldnnaa", sum := "0067084cadb79de6658309b9fa2108e18d61ecd4f73be77033558c162565e431", func := "gambrel/gambrellaw10.LayoutBig", spec := "layoutBig", unfollowed := true, recurses := true, apart := false }
def LayoutBigSaid : Prop := layoutBigRow.holds Try.pinned (OpenSpec.ofChange layoutBigSpec)

/-- ITS FALSE NEIGHBOUR: 'it returns false'. Refute it at one input. -/
def layoutBigWrong : ChangeSpec := { name := "layoutBig", fn := fun _ => fun
  | [d1, d2, d3] => { results := [.lit (.bool false)], args := [d1, d2, d3] }
  | _ => none }
def LayoutBigWrongFalsely : Prop := layoutBigRow.holds Try.pinned (OpenSpec.ofChange layoutBigWrong)

/- THE SECOND FORM. 'bulk': how many values and letters a reading holds, each counted each time it is reached (what is shared counts as often as it is met; a slice's spare places count too). A statement '..UptoSaid' is the law's where the arguments, and the package variables that the reading takes, are together of bulk at most 1048576: NARROWER than '..Said'. Prove '..Said' where nothing that the law and all that it calls make is longer than what came in: it says more and counts as full. Else prove '..UptoSaid'. A law counts once. -/
mutual
def uptoBulk {H : Type} : DataW H → Nat
  | .lit (.string bytes) => bytes.length + 1
  | .lit _ => 1
  | .nil => 1
  | .ptr d => uptoBulk d + 1
  | .slice elems spare => uptoBulkAll elems + uptoBulkAll spare + 1
  | .agg parts => uptoBulkAll parts + 1
  | .iface _ d => uptoBulk d + 1
  | .map entries => uptoBulkEntries entries + 1
  | .held _ => 1
def uptoBulkAll {H : Type} : List (DataW H) → Nat
  | [] => 0
  | d :: r => uptoBulk d + uptoBulkAll r
def uptoBulkEntries {H : Type} : List (Lit × DataW H) → Nat
  | [] => 0
  | x :: r => uptoBulkEntry x + uptoBulkEntries r
def uptoBulkEntry {H : Type} : Lit × DataW H → Nat
  | (.string bytes, d) => bytes.length + uptoBulk d + 1
  | (_, d) => uptoBulk d + 1
 end
def uptoSmall : (H : Type) → List (DataW H) → Bool := fun _ ds => decide (uptoBulkAll ds ≤ 1048576)
def OpenSpec.upto (s : _root_.Go.ChangeSpec) : _root_.Go.OpenSpec := { _root_.Go.OpenSpec.ofChange s with cond := some uptoSmall }

/-- 'gambrellaw10.LayoutTells', WHERE WHAT IT READS IS OF BULK AT MOST 1048576: true; the input reads as it did. -/
def layoutTellsUptoRow : OpenClaim := { program := "ytibcgallhldnnaa", sum := "0067084cadb79de6658309b9fa2108e18d61ecd4f73be77033558c162565e431", func := "gambrel/gambrellaw10.LayoutTells", spec := "layoutTells", unfollowed := true, recurses := true, apart := false, narrowed := true }
def LayoutTellsUptoSaid : Prop := layoutTellsUptoRow.holds Try.pinned (OpenSpec.upto layoutTellsSpec)

/-- 'gambrellaw10.LayoutJoins', WHERE WHAT IT READS IS OF BULK AT MOST 1048576: true; the input reads as it did. -/
def layoutJoinsUptoRow : OpenClaim := { program := "ytibcgallhldnnaa", sum := "0067084cadb79de6658309b9fa2108e18d61ecd4f73be77033558c162565e431", func := "gambrel/gambrellaw10.LayoutJoins", spec := "layoutJoins", unfollowed := true, recurses := true, apart := false, narrowed := true }
def LayoutJoinsUptoSaid : Prop := layoutJoinsUptoRow.holds Try.pinned (OpenSpec.upto layoutJoinsSpec)

/-- 'gambrellaw10.LayoutBack', WHERE WHAT IT READS IS OF BULK AT MOST 1048576: true; the input reads as it did. -/
def layoutBackUptoRow : OpenClaim := { program := "ytibcgallhldnnaa", sum := "0067084cadb79de6658309b9fa2108e18d61ecd4f73be77033558c162565e431", func := "gambrel/gambrellaw10.LayoutBack", spec := "layoutBack", unfollowed := true, recurses := true, apart := false, narrowed := true }
def LayoutBackUptoSaid : Prop := layoutBackUptoRow.holds Try.pinned (OpenSpec.upto layoutBackSpec)

/-- 'gambrellaw10.LayoutSame', WHERE WHAT IT READS IS OF BULK AT MOST 1048576: true; the input reads as it did. -/
def layoutSameUptoRow : OpenClaim := { program := "ytibcgallhldnnaa", sum := "0067084cadb79de6658309b9fa2108e18d61ecd4f73be77033558c162565e431", func := "gambrel/gambrellaw10.LayoutSame", spec := "layoutSame", unfollowed := true, recurses := true, apart := false, narrowed := true }
def LayoutSameUptoSaid : Prop := layoutSameUptoRow.holds Try.pinned (OpenSpec.upto layoutSameSpec)

/-- 'gambrellaw10.LayoutSize', WHERE WHAT IT READS IS OF BULK AT MOST 1048576: true; the input reads as it did. -/
def layoutSizeUptoRow : OpenClaim := { program := "ytibcgallhldnnaa", sum := "0067084cadb79de6658309b9fa2108e18d61ecd4f73be77033558c162565e431", func := "gambrel/gambrellaw10.LayoutSize", spec := "layoutSize", unfollowed := true, recurses := true, apart := false, narrowed := true }
def LayoutSizeUptoSaid : Prop := layoutSizeUptoRow.holds Try.pinned (OpenSpec.upto layoutSizeSpec)

/-- 'gambrellaw10.LayoutBig', WHERE WHAT IT READS IS OF BULK AT MOST 1048576: true; the input reads as it did. -/
def layoutBigUptoRow : OpenClaim := { program := "ytibcgallhldnnaa", sum := "0067084cadb79de6658309b9fa2108e18d61ecd4f73be77033558c162565e431", func := "gambrel/gambrellaw10.LayoutBig", spec := "layoutBig", unfollowed := true, recurses := true, apart := false, narrowed := true }
def LayoutBigUptoSaid : Prop := layoutBigUptoRow.holds Try.pinned (OpenSpec.upto layoutBigSpec)

end Rows
end Go.Proofs.Ytibcgallhldnnaa
