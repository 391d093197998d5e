/-
  No cell of these rows narrows 'for every input' (looked for: loops, veiled, ifaces, maps, wideKeys, modest, calm, conditions, laid).
  DERIVED. THE GIVEN ROWS OF THIS SEAT. 12 by the template 'for every input the law returns true; each argument reads behind the call as it read before'; 0 by the template 'total and deterministic' (their statements: YtcgeioingikeeaaTotals.lean).
  GIVEN WITH THE SEED: the statements are not yours to turn. If you find one false, say at which input.
  Laid BY PROGRAM, IN A SANDBOX (cutbox-rows.mjs): the forced cells as the released guide's own fill.sh prints them over the translation b89f0c98f6186c98… (all of the seat's roots in one cut). By AI agents, Wed Nov 11 2026. No macro, syntax, notation, axiom, sorry.
-/
import Derived.Test.YtcgeioingikeeaaChecked
import GoSem.Claim
import GoSem.ClaimJoined
import GoSem.ClaimMapViews
import Derived.JoinedTies
import Derived.KernelRfl
namespace Go.Proofs.Ytcgeioingikeeaa
/- THE CELL 'sum', in the pinned program and in every row, IS THE sha256 OF THE DUMP (.gsa) THAT YtcgeioingikeeaaProg.lean LOADS. Nothing in Lean hashes anything: it is a label: what it is worth is what the hold of that sum in a sandbox is worth. -/
noncomputable def Try.pinned : Pinned := { name := "ytcgeioingikeeaa", sum := "b89f0c98f6186c987c498d2b8f8dff7e8097bad9a00db2259d021290c2c5102f", checked := Try.checked }
namespace Rows
def none {H : Type} : Left H := { results := [], args := [] }

/-- 'gambrellaw17.FilesDo': WHATEVER THE INPUT: true; the input reads as it did. -/
def filesDoSpec : ChangeSpec := { name := "filesDo", fn := fun _ => fun
  | [d1, d2, d3] => { results := [.lit (.bool true)], args := [d1, d2, d3] }
  | _ => none }
def filesDoRow : OpenClaim := { program := "ytcgeioingikeeaa", sum := "b89f0c98f6186c987c498d2b8f8dff7e8097bad9a00db2259d021290c2c5102f", func := "gambrel/gambrellaw17.FilesDo", spec := "filesDo", inPlace := ["slices.overlaps[gambrel/api.File]"], unfollowed := true, recurses := true, apart := false }
def FilesDoSaid : Prop := filesDoRow.holds Try.pinned (OpenSpec.ofChange filesDoSpec)

/-- ITS FALSE NEIGHBOUR: 'it returns false'. Refute it at one input. -/
def filesDoWrong : ChangeSpec := { name := "filesDo", fn := fun _ => fun
  | [d1, d2, d3] => { results := [.lit (.bool false)], args := [d1, d2, d3] }
  | _ => none }
def FilesDoWrongFalsely : Prop := filesDoRow.holds Try.pinned (OpenSpec.ofChange filesDoWrong)

/-- 'gambrellaw17.FilesPut': WHATEVER THE INPUT: true; the input reads as it did. -/
def filesPutSpec : ChangeSpec := { name := "filesPut", fn := fun _ => fun
  | [d1, d2, d3] => { results := [.lit (.bool true)], args := [d1, d2, d3] }
  | _ => none }
def filesPutRow : OpenClaim := { program := "ytcgeioingikeeaa", sum := "b89f0c98f6186c987c498d2b8f8dff7e8097bad9a00db2259d021290c2c5102f", func := "gambrel/gambrellaw17.FilesPut", spec := "filesPut", inPlace := ["slices.overlaps[gambrel/api.File]"], unfollowed := true, recurses := true, apart := false }
def FilesPutSaid : Prop := filesPutRow.holds Try.pinned (OpenSpec.ofChange filesPutSpec)

/-- ITS FALSE NEIGHBOUR: 'it returns false'. Refute it at one input. -/
def filesPutWrong : ChangeSpec := { name := "filesPut", fn := fun _ => fun
  | [d1, d2, d3] => { results := [.lit (.bool false)], args := [d1, d2, d3] }
  | _ => none }
def FilesPutWrongFalsely : Prop := filesPutRow.holds Try.pinned (OpenSpec.ofChange filesPutWrong)

/-- 'gambrellaw17.FilesKeep': WHATEVER THE INPUT: true; the input reads as it did. -/
def filesKeepSpec : ChangeSpec := { name := "filesKeep", fn := fun _ => fun
  | [d1, d2, d3] => { results := [.lit (.bool true)], args := [d1, d2, d3] }
  | _ => none }
def filesKeepRow : OpenClaim := { program := "ytcgeioingikeeaa", sum := "b89f0c98f6186c987c498d2b8f8dff7e8097bad9a00db2259d021290c2c5102f", func := "gambrel/gambrellaw17.FilesKeep", spec := "filesKeep", inPlace := ["slices.overlaps[gambrel/api.File]"], unfollowed := true, recurses := true, apart := false }
def FilesKeepSaid : Prop := filesKeepRow.holds Try.pinned (OpenSpec.ofChange filesKeepSpec)

/-- ITS FALSE NEIGHBOUR: 'it returns false'. Refute it at one input. -/
def filesKeepWrong : ChangeSpec := { name := "filesKeep", fn := fun _ => fun
  | [d1, d2, d3] => { results := [.lit (.bool false)], args := [d1, d2, d3] }
  | _ => none }
def FilesKeepWrongFalsely : Prop := filesKeepRow.holds Try.pinned (OpenSpec.ofChange filesKeepWrong)

/-- 'gambrellaw17.FilesTell': WHATEVER THE INPUT: true; the input reads as it did. -/
def filesTellSpec : ChangeSpec := { name := "filesTell", fn := fun _ => fun
  | [d1, d2, d3] => { results := [.lit (.bool true)], args := [d1, d2, d3] }
  | _ => none }
def filesTellRow : OpenClaim := { program := "ytcgeioingikeeaa", sum := "b89f0c98f6186c987c498d2b8f8dff7e8097bad9a00db2259d021290c2c5102f", func := "gambrel/gambrellaw17.FilesTell", spec := "filesTell", inPlace := ["slices.overlaps[gambrel/api.File]"], unfollowed := true, recurses := true, apart := false }
def FilesTellSaid : Prop := filesTellRow.holds Try.pinned (OpenSpec.ofChange filesTellSpec)

/-- ITS FALSE NEIGHBOUR: 'it returns false'. Refute it at one input. -/
def filesTellWrong : ChangeSpec := { name := "filesTell", fn := fun _ => fun
  | [d1, d2, d3] => { results := [.lit (.bool false)], args := [d1, d2, d3] }
  | _ => none }
def FilesTellWrongFalsely : Prop := filesTellRow.holds Try.pinned (OpenSpec.ofChange filesTellWrong)

/-- 'gambrellaw17.FilesStay': WHATEVER THE INPUT: true; the input reads as it did. -/
def filesStaySpec : ChangeSpec := { name := "filesStay", fn := fun _ => fun
  | [d1, d2, d3] => { results := [.lit (.bool true)], args := [d1, d2, d3] }
  | _ => none }
def filesStayRow : OpenClaim := { program := "ytcgeioingikeeaa", sum := "b89f0c98f6186c987c498d2b8f8dff7e8097bad9a00db2259d021290c2c5102f", func := "gambrel/gambrellaw17.FilesStay", spec := "filesStay", inPlace := ["slices.overlaps[gambrel/api.File]"], unfollowed := true, recurses := true, apart := false }
def FilesStaySaid : Prop := filesStayRow.holds Try.pinned (OpenSpec.ofChange filesStaySpec)

/-- ITS FALSE NEIGHBOUR: 'it returns false'. Refute it at one input. -/
def filesStayWrong : ChangeSpec := { name := "filesStay", fn := fun _ => fun
  | [d1, d2, d3] => { results := [.lit (.bool false)], args := [d1, d2, d3] }
  | _ => none }
def FilesStayWrongFalsely : Prop := filesStayRow.holds Try.pinned (OpenSpec.ofChange filesStayWrong)

/-- 'gambrellaw17.FilesMove': WHATEVER THE INPUT: true; the input reads as it did. -/
def filesMoveSpec : ChangeSpec := { name := "filesMove", fn := fun _ => fun
  | [d1, d2, d3] => { results := [.lit (.bool true)], args := [d1, d2, d3] }
  | _ => none }
def filesMoveRow : OpenClaim := { program := "ytcgeioingikeeaa", sum := "b89f0c98f6186c987c498d2b8f8dff7e8097bad9a00db2259d021290c2c5102f", func := "gambrel/gambrellaw17.FilesMove", spec := "filesMove", inPlace := ["slices.overlaps[gambrel/api.File]"], unfollowed := true, recurses := true, apart := false }
def FilesMoveSaid : Prop := filesMoveRow.holds Try.pinned (OpenSpec.ofChange filesMoveSpec)

/-- ITS FALSE NEIGHBOUR: 'it returns false'. Refute it at one input. -/
def filesMoveWrong : ChangeSpec := { name := "filesMove", fn := fun _ => fun
  | [d1, d2, d3] => { results := [.lit (.bool false)], args := [d1, d2, d3] }
  | _ => none }
def FilesMoveWrongFalsely : Prop := filesMoveRow.holds Try.pinned (OpenSpec.ofChange filesMoveWrong)

/-- 'gambrellaw18.StoreMoves': WHATEVER THE INPUT: true; the input reads as it did. -/
def storeMovesSpec : ChangeSpec := { name := "storeMoves", fn := fun _ => fun
  | [d1, d2, d3] => { results := [.lit (.bool true)], args := [d1, d2, d3] }
  | _ => none }
def storeMovesRow : OpenClaim := { program := "ytcgeioingikeeaa", sum := "b89f0c98f6186c987c498d2b8f8dff7e8097bad9a00db2259d021290c2c5102f", func := "gambrel/gambrellaw18.StoreMoves", spec := "storeMoves", inPlace := ["slices.overlaps[gambrel/api.File]"], unfollowed := true, recurses := true, apart := false }
def StoreMovesSaid : Prop := storeMovesRow.holds Try.pinned (OpenSpec.ofChange storeMovesSpec)

/-- ITS FALSE NEIGHBOUR: 'it returns false'. Refute it at one input. -/
def storeMovesWrong : ChangeSpec := { name := "storeMoves", fn := fun _ => fun
  | [d1, d2, d3] => { results := [.lit (.bool false)], args := [d1, d2, d3] }
  | _ => none }
def StoreMovesWrongFalsely : Prop := storeMovesRow.holds Try.pinned (OpenSpec.ofChange storeMovesWrong)

/-- 'gambrellaw18.StoreSynced': WHATEVER THE INPUT: true; the input reads as it did. -/
def storeSyncedSpec : ChangeSpec := { name := "storeSynced", fn := fun _ => fun
  | [d1, d2, d3] => { results := [.lit (.bool true)], args := [d1, d2, d3] }
  | _ => none }
def storeSyncedRow : OpenClaim := { program := "ytcgeioingikeeaa", sum := "b89f0c98f6186c987c498d2b8f8dff7e8097bad9a00db2259d021290c2c5102f", func := "gambrel/gambrellaw18.StoreSynced", spec := "storeSynced", inPlace := ["slices.overlaps[gambrel/api.File]"], unfollowed := true, recurses := true, apart := false }
def StoreSyncedSaid : Prop := storeSyncedRow.holds Try.pinned (OpenSpec.ofChange storeSyncedSpec)

/-- ITS FALSE NEIGHBOUR: 'it returns false'. Refute it at one input. -/
def storeSyncedWrong : ChangeSpec := { name := "storeSynced", fn := fun _ => fun
  | [d1, d2, d3] => { results := [.lit (.bool false)], args := [d1, d2, d3] }
  | _ => none }
def StoreSyncedWrongFalsely : Prop := storeSyncedRow.holds Try.pinned (OpenSpec.ofChange storeSyncedWrong)

/-- 'gambrellaw18.StorePlays': WHATEVER THE INPUT: true; the input reads as it did. -/
def storePlaysSpec : ChangeSpec := { name := "storePlays", fn := fun _ => fun
  | [d1, d2] => { results := [.lit (.bool true)], args := [d1, d2] }
  | _ => none }
def storePlaysRow : OpenClaim := { program := "ytcgeioingikeeaa", sum := "b89f0c98f6186c987c498d2b8f8dff7e8097bad9a00db2259d021290c2c5102f", func := "gambrel/gambrellaw18.StorePlays", spec := "storePlays", inPlace := ["slices.overlaps[gambrel/api.File]"], unfollowed := true, recurses := true, apart := false }
def StorePlaysSaid : Prop := storePlaysRow.holds Try.pinned (OpenSpec.ofChange storePlaysSpec)

/-- ITS FALSE NEIGHBOUR: 'it returns false'. Refute it at one input. -/
def storePlaysWrong : ChangeSpec := { name := "storePlays", fn := fun _ => fun
  | [d1, d2] => { results := [.lit (.bool false)], args := [d1, d2] }
  | _ => none }
def StorePlaysWrongFalsely : Prop := storePlaysRow.holds Try.pinned (OpenSpec.ofChange storePlaysWrong)

/-- 'gambrellaw18.StoreFails': WHATEVER THE INPUT: true; the input reads as it did. -/
def storeFailsSpec : ChangeSpec := { name := "storeFails", fn := fun _ => fun
  | [d1, d2, d3] => { results := [.lit (.bool true)], args := [d1, d2, d3] }
  | _ => none }
def storeFailsRow : OpenClaim := { program := "ytcgeioingikeeaa", sum := "b89f0c98f6186c987c498d2b8f8dff7e8097bad9a00db2259d021290c2c5102f", func := "gambrel/gambrellaw18.StoreFails", spec := "storeFails", inPlace := ["slices.overlaps[gambrel/api.File]"], unfollowed := true, recurses := true, apart := false }
def StoreFailsSaid : Prop := storeFailsRow.holds Try.pinned (OpenSpec.ofChange storeFailsSpec)

/-- ITS FALSE NEIGHBOUR: 'it returns false'. Refute it at one input. -/
def storeFailsWrong : ChangeSpec := { name := "storeFails", fn := fun _ => fun
  | [d1, d2, d3] => { results := [.lit (.bool false)], args := [d1, d2, d3] }
  | _ => none }
def StoreFailsWrongFalsely : Prop := storeFailsRow.holds Try.pinned (OpenSpec.ofChange storeFailsWrong)

/-- 'gambrellaw18.StoreNobody': WHATEVER THE INPUT: true; the input reads as it did. -/
def storeNobodySpec : ChangeSpec := { name := "storeNobody", fn := fun _ => fun
  | [d1, d2] => { results := [.lit (.bool true)], args := [d1, d2] }
  | _ => none }
def storeNobodyRow : OpenClaim := { program := "ytcgeioingikeeaa", sum := "b89f0c98f6186c987c498d2b8f8dff7e8097bad9a00db2259d021290c2c5102f", func := "gambrel/gambrellaw18.StoreNobody", spec := "storeNobody", inPlace := ["slices.overlaps[gambrel/api.File]"], unfollowed := true, recurses := true, apart := false }
def StoreNobodySaid : Prop := storeNobodyRow.holds Try.pinned (OpenSpec.ofChange storeNobodySpec)

/-- ITS FALSE NEIGHBOUR: 'it returns false'. Refute it at one input. -/
def storeNobodyWrong : ChangeSpec := { name := "storeNobody", fn := fun _ => fun
  | [d1, d2] => { results := [.lit (.bool false)], args := [d1, d2] }
  | _ => none }
def StoreNobodyWrongFalsely : Prop := storeNobodyRow.holds Try.pinned (OpenSpec.ofChange storeNobodyWrong)

/-- 'gambrellaw18.StoreQuota': WHATEVER THE INPUT: true; the input reads as it did. -/
def storeQuotaSpec : ChangeSpec := { name := "storeQuota", fn := fun _ => fun
  | [d1, d2] => { results := [.lit (.bool true)], args := [d1, d2] }
  | _ => none }
def storeQuotaRow : OpenClaim := { program := "ytcgeioingikeeaa", sum := "b89f0c98f6186c987c498d2b8f8dff7e8097bad9a00db2259d021290c2c5102f", func := "gambrel/gambrellaw18.StoreQuota", spec := "storeQuota", inPlace := ["slices.overlaps[gambrel/api.File]"], unfollowed := true, recurses := true, apart := false }
def StoreQuotaSaid : Prop := storeQuotaRow.holds Try.pinned (OpenSpec.ofChange storeQuotaSpec)

/-- ITS FALSE NEIGHBOUR: 'it returns false'. Refute it at one input. -/
def storeQuotaWrong : ChangeSpec := { name := "storeQuota", fn := fun _ => fun
  | [d1, d2] => { results := [.lit (.bool false)], args := [d1, d2] }
  | _ => none }
def StoreQuotaWrongFalsely : Prop := storeQuotaRow.holds Try.pinned (OpenSpec.ofChange storeQuotaWrong)

/- THE SECOND FORM. 'bulk': how many values and letters a reading holds, each counted each time it is reached (what is shared counts as often as it is met; a slice's spare places count too). A statement '..UptoSaid' is the law's where the arguments, and the package variables that the reading takes, are together of bulk at most 1048576: NARROWER than '..Said'. Prove '..Said' where nothing that the law and all that it calls make is longer than what came in: it says more and counts as full. Else prove '..UptoSaid'. A law counts once. -/
mutual
def uptoBulk {H : Type} : DataW H → Nat
  | .lit (.string bytes) => bytes.length + 1
  | .lit _ => 1
  | .nil => 1
  | .ptr d => uptoBulk d + 1
  | .slice elems spare => uptoBulkAll elems + uptoBulkAll spare + 1
  | .agg parts => uptoBulkAll parts + 1
  | .iface _ d => uptoBulk d + 1
  | .map entries => uptoBulkEntries entries + 1
  | .held _ => 1
def uptoBulkAll {H : Type} : List (DataW H) → Nat
  | [] => 0
  | d :: r => uptoBulk d + uptoBulkAll r
def uptoBulkEntries {H : Type} : List (Lit × DataW H) → Nat
  | [] => 0
  | x :: r => uptoBulkEntry x + uptoBulkEntries r
def uptoBulkEntry {H : Type} : Lit × DataW H → Nat
  | (.string bytes, d) => bytes.length + uptoBulk d + 1
  | (_, d) => uptoBulk d + 1
 end
def uptoSmall : (H : Type) → List (DataW H) → Bool := fun _ ds => decide (uptoBulkAll ds ≤ 1048576)
def OpenSpec.upto (s : _root_.Go.ChangeSpec) : _root_.Go.OpenSpec := { _root_.Go.OpenSpec.ofChange s with cond := some uptoSmall }

/-- 'gambrellaw17.FilesDo', WHERE WHAT IT READS IS OF BULK AT MOST 1048576: true; the input reads as it did. -/
def filesDoUptoRow : OpenClaim := { program := "ytcgeioingikeeaa", sum := "b89f0c98f6186c987c498d2b8f8dff7e8097bad9a00db2259d021290c2c5102f", func := "gambrel/gambrellaw17.FilesDo", spec := "filesDo", inPlace := ["slices.overlaps[gambrel/api.File]"], unfollowed := true, recurses := true, apart := false, narrowed := true }
def FilesDoUptoSaid : Prop := filesDoUptoRow.holds Try.pinned (OpenSpec.upto filesDoSpec)

/-- 'gambrellaw17.FilesPut', WHERE WHAT IT READS IS OF BULK AT MOST 1048576: true; the input reads as it did. -/
def filesPutUptoRow : OpenClaim := { program := "ytcgeioingikeeaa", sum := "b89f0c98f6186c987c498d2b8f8dff7e8097bad9a00db2259d021290c2c5102f", func := "gambrel/gambrellaw17.FilesPut", spec := "filesPut", inPlace := ["slices.overlaps[gambrel/api.File]"], unfollowed := true, recurses := true, apart := false, narrowed := true }
def FilesPutUptoSaid : Prop := filesPutUptoRow.holds Try.pinned (OpenSpec.upto filesPutSpec)

/-- 'gambrellaw17.FilesKeep', WHERE WHAT IT READS IS OF BULK AT MOST 1048576: true; the input reads as it did. -/
def filesKeepUptoRow : OpenClaim := { program := "ytcgeioingikeeaa", sum := "b89f0c98f6186c987c498d2b8f8dff7e8097bad9a00db2259d021290c2c5102f", func := "gambrel/gambrellaw17.FilesKeep", spec := "filesKeep", inPlace := ["slices.overlaps[gambrel/api.File]"], unfollowed := true, recurses := true, apart := false, narrowed := true }
def FilesKeepUptoSaid : Prop := filesKeepUptoRow.holds Try.pinned (OpenSpec.upto filesKeepSpec)

/-- 'gambrellaw17.FilesTell', WHERE WHAT IT READS IS OF BULK AT MOST 1048576: true; the input reads as it did. -/
def filesTellUptoRow : OpenClaim := { program := "ytcgeioingikeeaa", sum := "b89f0c98f6186c987c498d2b8f8dff7e8097bad9a00db2259d021290c2c5102f", func := "gambrel/gambrellaw17.FilesTell", spec := "filesTell", inPlace := ["slices.overlaps[gambrel/api.File]"], unfollowed := true, recurses := true, apart := false, narrowed := true }
def FilesTellUptoSaid : Prop := filesTellUptoRow.holds Try.pinned (OpenSpec.upto filesTellSpec)

/-- 'gambrellaw17.FilesStay', WHERE WHAT IT READS IS OF BULK AT MOST 1048576: true; the input reads as it did. -/
def filesStayUptoRow : OpenClaim := { program := "ytcgeioingikeeaa", sum := "b89f0c98f6186c987c498d2b8f8dff7e8097bad9a00db2259d021290c2c5102f", func := "gambrel/gambrellaw17.FilesStay", spec := "filesStay", inPlace := ["slices.overlaps[gambrel/api.File]"], unfollowed := true, recurses := true, apart := false, narrowed := true }
def FilesStayUptoSaid : Prop := filesStayUptoRow.holds Try.pinned (OpenSpec.upto filesStaySpec)

/-- 'gambrellaw17.FilesMove', WHERE WHAT IT READS IS OF BULK AT MOST 1048576: true; the input reads as it did. -/
def filesMoveUptoRow : OpenClaim := { program := "ytcgeioingikeeaa", sum := "b89f0c98f6186c987c498d2b8f8dff7e8097bad9a00db2259d021290c2c5102f", func := "gambrel/gambrellaw17.FilesMove", spec := "filesMove", inPlace := ["slices.overlaps[gambrel/api.File]"], unfollowed := true, recurses := true, apart := false, narrowed := true }
def FilesMoveUptoSaid : Prop := filesMoveUptoRow.holds Try.pinned (OpenSpec.upto filesMoveSpec)

/-- 'gambrellaw18.StoreMoves', WHERE WHAT IT READS IS OF BULK AT MOST 1048576: true; the input reads as it did. -/
def storeMovesUptoRow : OpenClaim := { program := "ytcgeioingikeeaa", sum := "b89f0c98f6186c987c498d2b8f8dff7e8097bad9a00db2259d021290c2c5102f", func := "gambrel/gambrellaw18.StoreMoves", spec := "storeMoves", inPlace := ["slices.overlaps[gambrel/api.File]"], unfollowed := true, recurses := true, apart := false, narrowed := true }
def StoreMovesUptoSaid : Prop := storeMovesUptoRow.holds Try.pinned (OpenSpec.upto storeMovesSpec)

/-- 'gambrellaw18.StoreSynced', WHERE WHAT IT READS IS OF BULK AT MOST 1048576: true; the input reads as it did. -/
def storeSyncedUptoRow : OpenClaim := { program := "ytcgeioingikeeaa", sum := "b89f0c98f6186c987c498d2b8f8dff7e8097bad9a00db2259d021290c2c5102f", func := "gambrel/gambrellaw18.StoreSynced", spec := "storeSynced", inPlace := ["slices.overlaps[gambrel/api.File]"], unfollowed := true, recurses := true, apart := false, narrowed := true }
def StoreSyncedUptoSaid : Prop := storeSyncedUptoRow.holds Try.pinned (OpenSpec.upto storeSyncedSpec)

/-- 'gambrellaw18.StorePlays', WHERE WHAT IT READS IS OF BULK AT MOST 1048576: true; the input reads as it did. -/
def storePlaysUptoRow : OpenClaim := { program := "ytcgeioingikeeaa", sum := "b89f0c98f6186c987c498d2b8f8dff7e8097bad9a00db2259d021290c2c5102f", func := "gambrel/gambrellaw18.StorePlays", spec := "storePlays", inPlace := ["slices.overlaps[gambrel/api.File]"], unfollowed := true, recurses := true, apart := false, narrowed := true }
def StorePlaysUptoSaid : Prop := storePlaysUptoRow.holds Try.pinned (OpenSpec.upto storePlaysSpec)

/-- 'gambrellaw18.StoreFails', WHERE WHAT IT READS IS OF BULK AT MOST 1048576: true; the input reads as it did. -/
def storeFailsUptoRow : OpenClaim := { program := "ytcgeioingikeeaa", sum := "b89f0c98f6186c987c498d2b8f8dff7e8097bad9a00db2259d021290c2c5102f", func := "gambrel/gambrellaw18.StoreFails", spec := "storeFails", inPlace := ["slices.overlaps[gambrel/api.File]"], unfollowed := true, recurses := true, apart := false, narrowed := true }
def StoreFailsUptoSaid : Prop := storeFailsUptoRow.holds Try.pinned (OpenSpec.upto storeFailsSpec)

/-- 'gambrellaw18.StoreNobody', WHERE WHAT IT READS IS OF BULK AT MOST 1048576: true; the input reads as it did. -/
def storeNobodyUptoRow : OpenClaim := { program := "ytcgeioingikeeaa", sum := "b89f0c98f6186c987c498d2b8f8dff7e8097bad9a00db2259d021290c2c5102f", func := "gambrel/gambrellaw18.StoreNobody", spec := "storeNobody", inPlace := ["slices.overlaps[gambrel/api.File]"], unfollowed := true, recurses := true, apart := false, narrowed := true }
def StoreNobodyUptoSaid : Prop := storeNobodyUptoRow.holds Try.pinned (OpenSpec.upto storeNobodySpec)

/-- 'gambrellaw18.StoreQuota', WHERE WHAT IT READS IS OF BULK AT MOST 1048576: true; the input reads as it did. -/
def storeQuotaUptoRow : OpenClaim := { program := "ytcgeioingikeeaa", sum := "b89f0c98f6186c987c498d2b8f8dff7e8097bad9a00db2259d021290c2c5102f", func := "gambrel/gambrellaw18.StoreQuota", spec := "storeQuota", inPlace := ["slices.overlaps[gambrel/api.File]"], unfollowed := true, recurses := true, apart := false, narrowed := true }
def StoreQuotaUptoSaid : Prop := storeQuotaUptoRow.holds Try.pinned (OpenSpec.upto storeQuotaSpec)

end Rows
end Go.Proofs.Ytcgeioingikeeaa
