/-
  No cell of these rows narrows 'for every input' (looked for: loops, veiled, ifaces, maps, wideKeys, modest, calm, conditions, laid).
  DERIVED. THE GIVEN ROWS OF THIS SEAT. 16 by the template 'for every input the law returns true; each argument reads behind the call as it read before'; 0 by the template 'total and deterministic' (their statements: YtlcclaicodghcaaTotals.lean).
  GIVEN WITH THE SEED: the statements are not yours to turn. If you find one false, say at which input.
  Laid BY PROGRAM, IN A SANDBOX (cutbox-rows.mjs): the forced cells as the released guide's own fill.sh prints them over the translation eb15b0daa59a606c… (all of the seat's roots in one cut). By AI agents, Wed Nov 11 2026. No macro, syntax, notation, axiom, sorry.
-/
import Derived.Test.YtlcclaicodghcaaChecked
import GoSem.Claim
import GoSem.ClaimJoined
import GoSem.ClaimMapViews
import Derived.JoinedTies
import Derived.KernelRfl
namespace Go.Proofs.Ytlcclaicodghcaa
/- THE CELL 'sum', in the pinned program and in every row, IS THE sha256 OF THE DUMP (.gsa) THAT YtlcclaicodghcaaProg.lean LOADS. Nothing in Lean hashes anything: it is a label: what it is worth is what the hold of that sum in a sandbox is worth. -/
noncomputable def Try.pinned : Pinned := { name := "ytlcclaicodghcaa", sum := "eb15b0daa59a606c45ff3ade314faace1db1e26ad443c603413a0a70fc2caf87", checked := Try.checked }
namespace Rows
def none {H : Type} : Left H := { results := [], args := [] }

/-- 'pyxlaw01.BytNums': WHATEVER THE INPUT: true; the input reads as it did. -/
def bytNumsSpec : ChangeSpec := { name := "bytNums", fn := fun _ => fun
  | [d] => { results := [.lit (.bool true)], args := [d] }
  | _ => none }
def bytNumsRow : OpenClaim := { program := "ytlcclaicodghcaa", sum := "eb15b0daa59a606c45ff3ade314faace1db1e26ad443c603413a0a70fc2caf87", func := "pyx/pyxlaw01.BytNums", spec := "bytNums", inPlace := ["internal/abi.NoEscape"], apart := false }
def BytNumsSaid : Prop := bytNumsRow.holds Try.pinned (OpenSpec.ofChange bytNumsSpec)

/-- ITS FALSE NEIGHBOUR: 'it returns false'. Refute it at one input. -/
def bytNumsWrong : ChangeSpec := { name := "bytNums", fn := fun _ => fun
  | [d] => { results := [.lit (.bool false)], args := [d] }
  | _ => none }
def BytNumsWrongFalsely : Prop := bytNumsRow.holds Try.pinned (OpenSpec.ofChange bytNumsWrong)

/-- 'pyxlaw01.BytApart': WHATEVER THE INPUT: true; the input reads as it did. -/
def bytApartSpec : ChangeSpec := { name := "bytApart", fn := fun _ => fun
  | [d] => { results := [.lit (.bool true)], args := [d] }
  | _ => none }
def bytApartRow : OpenClaim := { program := "ytlcclaicodghcaa", sum := "eb15b0daa59a606c45ff3ade314faace1db1e26ad443c603413a0a70fc2caf87", func := "pyx/pyxlaw01.BytApart", spec := "bytApart", inPlace := ["internal/abi.NoEscape"], apart := false }
def BytApartSaid : Prop := bytApartRow.holds Try.pinned (OpenSpec.ofChange bytApartSpec)

/-- ITS FALSE NEIGHBOUR: 'it returns false'. Refute it at one input. -/
def bytApartWrong : ChangeSpec := { name := "bytApart", fn := fun _ => fun
  | [d] => { results := [.lit (.bool false)], args := [d] }
  | _ => none }
def BytApartWrongFalsely : Prop := bytApartRow.holds Try.pinned (OpenSpec.ofChange bytApartWrong)

/-- 'pyxlaw01.BytTexts': WHATEVER THE INPUT: true; the input reads as it did. -/
def bytTextsSpec : ChangeSpec := { name := "bytTexts", fn := fun _ => fun
  | [d1, d2] => { results := [.lit (.bool true)], args := [d1, d2] }
  | _ => none }
def bytTextsRow : OpenClaim := { program := "ytlcclaicodghcaa", sum := "eb15b0daa59a606c45ff3ade314faace1db1e26ad443c603413a0a70fc2caf87", func := "pyx/pyxlaw01.BytTexts", spec := "bytTexts", inPlace := ["internal/abi.NoEscape"], apart := false }
def BytTextsSaid : Prop := bytTextsRow.holds Try.pinned (OpenSpec.ofChange bytTextsSpec)

/-- ITS FALSE NEIGHBOUR: 'it returns false'. Refute it at one input. -/
def bytTextsWrong : ChangeSpec := { name := "bytTexts", fn := fun _ => fun
  | [d1, d2] => { results := [.lit (.bool false)], args := [d1, d2] }
  | _ => none }
def BytTextsWrongFalsely : Prop := bytTextsRow.holds Try.pinned (OpenSpec.ofChange bytTextsWrong)

/-- 'pyxlaw01.BytCuts': WHATEVER THE INPUT: true; the input reads as it did. -/
def bytCutsSpec : ChangeSpec := { name := "bytCuts", fn := fun _ => fun
  | [d] => { results := [.lit (.bool true)], args := [d] }
  | _ => none }
def bytCutsRow : OpenClaim := { program := "ytlcclaicodghcaa", sum := "eb15b0daa59a606c45ff3ade314faace1db1e26ad443c603413a0a70fc2caf87", func := "pyx/pyxlaw01.BytCuts", spec := "bytCuts", inPlace := ["internal/abi.NoEscape"], apart := false }
def BytCutsSaid : Prop := bytCutsRow.holds Try.pinned (OpenSpec.ofChange bytCutsSpec)

/-- ITS FALSE NEIGHBOUR: 'it returns false'. Refute it at one input. -/
def bytCutsWrong : ChangeSpec := { name := "bytCuts", fn := fun _ => fun
  | [d] => { results := [.lit (.bool false)], args := [d] }
  | _ => none }
def BytCutsWrongFalsely : Prop := bytCutsRow.holds Try.pinned (OpenSpec.ofChange bytCutsWrong)

/-- 'pyxlaw01.BytJoins': WHATEVER THE INPUT: true; the input reads as it did. -/
def bytJoinsSpec : ChangeSpec := { name := "bytJoins", fn := fun _ => fun
  | [d1, d2] => { results := [.lit (.bool true)], args := [d1, d2] }
  | _ => none }
def bytJoinsRow : OpenClaim := { program := "ytlcclaicodghcaa", sum := "eb15b0daa59a606c45ff3ade314faace1db1e26ad443c603413a0a70fc2caf87", func := "pyx/pyxlaw01.BytJoins", spec := "bytJoins", inPlace := ["internal/abi.NoEscape"], apart := false }
def BytJoinsSaid : Prop := bytJoinsRow.holds Try.pinned (OpenSpec.ofChange bytJoinsSpec)

/-- ITS FALSE NEIGHBOUR: 'it returns false'. Refute it at one input. -/
def bytJoinsWrong : ChangeSpec := { name := "bytJoins", fn := fun _ => fun
  | [d1, d2] => { results := [.lit (.bool false)], args := [d1, d2] }
  | _ => none }
def BytJoinsWrongFalsely : Prop := bytJoinsRow.holds Try.pinned (OpenSpec.ofChange bytJoinsWrong)

/-- 'pyxlaw01.BytBounds': WHATEVER THE INPUT: true; the input reads as it did. -/
def bytBoundsSpec : ChangeSpec := { name := "bytBounds", fn := fun _ => fun
  | [d1, d2] => { results := [.lit (.bool true)], args := [d1, d2] }
  | _ => none }
def bytBoundsRow : OpenClaim := { program := "ytlcclaicodghcaa", sum := "eb15b0daa59a606c45ff3ade314faace1db1e26ad443c603413a0a70fc2caf87", func := "pyx/pyxlaw01.BytBounds", spec := "bytBounds", inPlace := ["internal/abi.NoEscape"], apart := false }
def BytBoundsSaid : Prop := bytBoundsRow.holds Try.pinned (OpenSpec.ofChange bytBoundsSpec)

/-- ITS FALSE NEIGHBOUR: 'it returns false'. Refute it at one input. -/
def bytBoundsWrong : ChangeSpec := { name := "bytBounds", fn := fun _ => fun
  | [d1, d2] => { results := [.lit (.bool false)], args := [d1, d2] }
  | _ => none }
def BytBoundsWrongFalsely : Prop := bytBoundsRow.holds Try.pinned (OpenSpec.ofChange bytBoundsWrong)

/-- 'pyxlaw01.BytRows': WHATEVER THE INPUT: true; the input reads as it did. -/
def bytRowsSpec : ChangeSpec := { name := "bytRows", fn := fun _ => fun
  | [d] => { results := [.lit (.bool true)], args := [d] }
  | _ => none }
def bytRowsRow : OpenClaim := { program := "ytlcclaicodghcaa", sum := "eb15b0daa59a606c45ff3ade314faace1db1e26ad443c603413a0a70fc2caf87", func := "pyx/pyxlaw01.BytRows", spec := "bytRows", inPlace := ["internal/abi.NoEscape"], apart := false }
def BytRowsSaid : Prop := bytRowsRow.holds Try.pinned (OpenSpec.ofChange bytRowsSpec)

/-- ITS FALSE NEIGHBOUR: 'it returns false'. Refute it at one input. -/
def bytRowsWrong : ChangeSpec := { name := "bytRows", fn := fun _ => fun
  | [d] => { results := [.lit (.bool false)], args := [d] }
  | _ => none }
def BytRowsWrongFalsely : Prop := bytRowsRow.holds Try.pinned (OpenSpec.ofChange bytRowsWrong)

/-- 'pyxlaw01.BytBack': WHATEVER THE INPUT: true; the input reads as it did. -/
def bytBackSpec : ChangeSpec := { name := "bytBack", fn := fun _ => fun
  | [d] => { results := [.lit (.bool true)], args := [d] }
  | _ => none }
def bytBackRow : OpenClaim := { program := "ytlcclaicodghcaa", sum := "eb15b0daa59a606c45ff3ade314faace1db1e26ad443c603413a0a70fc2caf87", func := "pyx/pyxlaw01.BytBack", spec := "bytBack", inPlace := ["internal/abi.NoEscape"], apart := false }
def BytBackSaid : Prop := bytBackRow.holds Try.pinned (OpenSpec.ofChange bytBackSpec)

/-- ITS FALSE NEIGHBOUR: 'it returns false'. Refute it at one input. -/
def bytBackWrong : ChangeSpec := { name := "bytBack", fn := fun _ => fun
  | [d] => { results := [.lit (.bool false)], args := [d] }
  | _ => none }
def BytBackWrongFalsely : Prop := bytBackRow.holds Try.pinned (OpenSpec.ofChange bytBackWrong)

/-- 'pyxlaw17.ChunkTells': WHATEVER THE INPUT: true; the input reads as it did. -/
def chunkTellsSpec : ChangeSpec := { name := "chunkTells", fn := fun _ => fun
  | [d1, d2] => { results := [.lit (.bool true)], args := [d1, d2] }
  | _ => none }
def chunkTellsRow : OpenClaim := { program := "ytlcclaicodghcaa", sum := "eb15b0daa59a606c45ff3ade314faace1db1e26ad443c603413a0a70fc2caf87", func := "pyx/pyxlaw17.ChunkTells", spec := "chunkTells", inPlace := ["internal/bytealg.Compare"], unfollowed := true, recurses := true, apart := false }
def ChunkTellsSaid : Prop := chunkTellsRow.holds Try.pinned (OpenSpec.ofChange chunkTellsSpec)

/-- ITS FALSE NEIGHBOUR: 'it returns false'. Refute it at one input. -/
def chunkTellsWrong : ChangeSpec := { name := "chunkTells", fn := fun _ => fun
  | [d1, d2] => { results := [.lit (.bool false)], args := [d1, d2] }
  | _ => none }
def ChunkTellsWrongFalsely : Prop := chunkTellsRow.holds Try.pinned (OpenSpec.ofChange chunkTellsWrong)

/-- 'pyxlaw17.ChunkReads': WHATEVER THE INPUT: true; the input reads as it did. -/
def chunkReadsSpec : ChangeSpec := { name := "chunkReads", fn := fun _ => fun
  | [d] => { results := [.lit (.bool true)], args := [d] }
  | _ => none }
def chunkReadsRow : OpenClaim := { program := "ytlcclaicodghcaa", sum := "eb15b0daa59a606c45ff3ade314faace1db1e26ad443c603413a0a70fc2caf87", func := "pyx/pyxlaw17.ChunkReads", spec := "chunkReads", inPlace := ["internal/bytealg.Compare"], unfollowed := true, recurses := true, apart := false }
def ChunkReadsSaid : Prop := chunkReadsRow.holds Try.pinned (OpenSpec.ofChange chunkReadsSpec)

/-- ITS FALSE NEIGHBOUR: 'it returns false'. Refute it at one input. -/
def chunkReadsWrong : ChangeSpec := { name := "chunkReads", fn := fun _ => fun
  | [d] => { results := [.lit (.bool false)], args := [d] }
  | _ => none }
def ChunkReadsWrongFalsely : Prop := chunkReadsRow.holds Try.pinned (OpenSpec.ofChange chunkReadsWrong)

/-- 'pyxlaw17.ChunkPieces': WHATEVER THE INPUT: true; the input reads as it did. -/
def chunkPiecesSpec : ChangeSpec := { name := "chunkPieces", fn := fun _ => fun
  | [d1, d2, d3] => { results := [.lit (.bool true)], args := [d1, d2, d3] }
  | _ => none }
def chunkPiecesRow : OpenClaim := { program := "ytlcclaicodghcaa", sum := "eb15b0daa59a606c45ff3ade314faace1db1e26ad443c603413a0a70fc2caf87", func := "pyx/pyxlaw17.ChunkPieces", spec := "chunkPieces", inPlace := ["internal/bytealg.Compare"], unfollowed := true, recurses := true, apart := false }
def ChunkPiecesSaid : Prop := chunkPiecesRow.holds Try.pinned (OpenSpec.ofChange chunkPiecesSpec)

/-- ITS FALSE NEIGHBOUR: 'it returns false'. Refute it at one input. -/
def chunkPiecesWrong : ChangeSpec := { name := "chunkPieces", fn := fun _ => fun
  | [d1, d2, d3] => { results := [.lit (.bool false)], args := [d1, d2, d3] }
  | _ => none }
def ChunkPiecesWrongFalsely : Prop := chunkPiecesRow.holds Try.pinned (OpenSpec.ofChange chunkPiecesWrong)

/-- 'pyxlaw17.ChunkBack': WHATEVER THE INPUT: true; the input reads as it did. -/
def chunkBackSpec : ChangeSpec := { name := "chunkBack", fn := fun _ => fun
  | [d1, d2, d3] => { results := [.lit (.bool true)], args := [d1, d2, d3] }
  | _ => none }
def chunkBackRow : OpenClaim := { program := "ytlcclaicodghcaa", sum := "eb15b0daa59a606c45ff3ade314faace1db1e26ad443c603413a0a70fc2caf87", func := "pyx/pyxlaw17.ChunkBack", spec := "chunkBack", inPlace := ["internal/bytealg.Compare"], unfollowed := true, recurses := true, apart := false }
def ChunkBackSaid : Prop := chunkBackRow.holds Try.pinned (OpenSpec.ofChange chunkBackSpec)

/-- ITS FALSE NEIGHBOUR: 'it returns false'. Refute it at one input. -/
def chunkBackWrong : ChangeSpec := { name := "chunkBack", fn := fun _ => fun
  | [d1, d2, d3] => { results := [.lit (.bool false)], args := [d1, d2, d3] }
  | _ => none }
def ChunkBackWrongFalsely : Prop := chunkBackRow.holds Try.pinned (OpenSpec.ofChange chunkBackWrong)

/-- 'pyxlaw17.ChunkCovers': WHATEVER THE INPUT: true; the input reads as it did. -/
def chunkCoversSpec : ChangeSpec := { name := "chunkCovers", fn := fun _ => fun
  | [d] => { results := [.lit (.bool true)], args := [d] }
  | _ => none }
def chunkCoversRow : OpenClaim := { program := "ytlcclaicodghcaa", sum := "eb15b0daa59a606c45ff3ade314faace1db1e26ad443c603413a0a70fc2caf87", func := "pyx/pyxlaw17.ChunkCovers", spec := "chunkCovers", inPlace := ["internal/bytealg.Compare"], unfollowed := true, recurses := true, apart := false }
def ChunkCoversSaid : Prop := chunkCoversRow.holds Try.pinned (OpenSpec.ofChange chunkCoversSpec)

/-- ITS FALSE NEIGHBOUR: 'it returns false'. Refute it at one input. -/
def chunkCoversWrong : ChangeSpec := { name := "chunkCovers", fn := fun _ => fun
  | [d] => { results := [.lit (.bool false)], args := [d] }
  | _ => none }
def ChunkCoversWrongFalsely : Prop := chunkCoversRow.holds Try.pinned (OpenSpec.ofChange chunkCoversWrong)

/-- 'pyxlaw17.ChunkSplits': WHATEVER THE INPUT: true; the input reads as it did. -/
def chunkSplitsSpec : ChangeSpec := { name := "chunkSplits", fn := fun _ => fun
  | [d1, d2] => { results := [.lit (.bool true)], args := [d1, d2] }
  | _ => none }
def chunkSplitsRow : OpenClaim := { program := "ytlcclaicodghcaa", sum := "eb15b0daa59a606c45ff3ade314faace1db1e26ad443c603413a0a70fc2caf87", func := "pyx/pyxlaw17.ChunkSplits", spec := "chunkSplits", inPlace := ["internal/bytealg.Compare"], unfollowed := true, recurses := true, apart := false }
def ChunkSplitsSaid : Prop := chunkSplitsRow.holds Try.pinned (OpenSpec.ofChange chunkSplitsSpec)

/-- ITS FALSE NEIGHBOUR: 'it returns false'. Refute it at one input. -/
def chunkSplitsWrong : ChangeSpec := { name := "chunkSplits", fn := fun _ => fun
  | [d1, d2] => { results := [.lit (.bool false)], args := [d1, d2] }
  | _ => none }
def ChunkSplitsWrongFalsely : Prop := chunkSplitsRow.holds Try.pinned (OpenSpec.ofChange chunkSplitsWrong)

/-- 'pyxlaw17.ChunkHeads': WHATEVER THE INPUT: true; the input reads as it did. -/
def chunkHeadsSpec : ChangeSpec := { name := "chunkHeads", fn := fun _ => fun
  | [d1, d2] => { results := [.lit (.bool true)], args := [d1, d2] }
  | _ => none }
def chunkHeadsRow : OpenClaim := { program := "ytlcclaicodghcaa", sum := "eb15b0daa59a606c45ff3ade314faace1db1e26ad443c603413a0a70fc2caf87", func := "pyx/pyxlaw17.ChunkHeads", spec := "chunkHeads", inPlace := ["internal/bytealg.Compare"], unfollowed := true, recurses := true, apart := false }
def ChunkHeadsSaid : Prop := chunkHeadsRow.holds Try.pinned (OpenSpec.ofChange chunkHeadsSpec)

/-- ITS FALSE NEIGHBOUR: 'it returns false'. Refute it at one input. -/
def chunkHeadsWrong : ChangeSpec := { name := "chunkHeads", fn := fun _ => fun
  | [d1, d2] => { results := [.lit (.bool false)], args := [d1, d2] }
  | _ => none }
def ChunkHeadsWrongFalsely : Prop := chunkHeadsRow.holds Try.pinned (OpenSpec.ofChange chunkHeadsWrong)

/-- 'pyxlaw17.ChunkCuts': WHATEVER THE INPUT: true; the input reads as it did. -/
def chunkCutsSpec : ChangeSpec := { name := "chunkCuts", fn := fun _ => fun
  | [d] => { results := [.lit (.bool true)], args := [d] }
  | _ => none }
def chunkCutsRow : OpenClaim := { program := "ytlcclaicodghcaa", sum := "eb15b0daa59a606c45ff3ade314faace1db1e26ad443c603413a0a70fc2caf87", func := "pyx/pyxlaw17.ChunkCuts", spec := "chunkCuts", inPlace := ["internal/bytealg.Compare"], unfollowed := true, recurses := true, apart := false }
def ChunkCutsSaid : Prop := chunkCutsRow.holds Try.pinned (OpenSpec.ofChange chunkCutsSpec)

/-- ITS FALSE NEIGHBOUR: 'it returns false'. Refute it at one input. -/
def chunkCutsWrong : ChangeSpec := { name := "chunkCuts", fn := fun _ => fun
  | [d] => { results := [.lit (.bool false)], args := [d] }
  | _ => none }
def ChunkCutsWrongFalsely : Prop := chunkCutsRow.holds Try.pinned (OpenSpec.ofChange chunkCutsWrong)

/- THE SECOND FORM. 'bulk': how many values and letters a reading holds, each counted each time it is reached (what is shared counts as often as it is met; a slice's spare places count too). A statement '..UptoSaid' is the law's where the arguments, and the package variables that the reading takes, are together of bulk at most 1048576: NARROWER than '..Said'. Prove '..Said' where nothing that the law and all that it calls make is longer than what came in: it says more and counts as full. Else prove '..UptoSaid'. A law counts once. -/
mutual
def uptoBulk {H : Type} : DataW H → Nat
  | .lit (.string bytes) => bytes.length + 1
  | .lit _ => 1
  | .nil => 1
  | .ptr d => uptoBulk d + 1
  | .slice elems spare => uptoBulkAll elems + uptoBulkAll spare + 1
  | .agg parts => uptoBulkAll parts + 1
  | .iface _ d => uptoBulk d + 1
  | .map entries => uptoBulkEntries entries + 1
  | .held _ => 1
def uptoBulkAll {H : Type} : List (DataW H) → Nat
  | [] => 0
  | d :: r => uptoBulk d + uptoBulkAll r
def uptoBulkEntries {H : Type} : List (Lit × DataW H) → Nat
  | [] => 0
  | x :: r => uptoBulkEntry x + uptoBulkEntries r
def uptoBulkEntry {H : Type} : Lit × DataW H → Nat
  | (.string bytes, d) => bytes.length + uptoBulk d + 1
  | (_, d) => uptoBulk d + 1
 end
def uptoSmall : (H : Type) → List (DataW H) → Bool := fun _ ds => decide (uptoBulkAll ds ≤ 1048576)
def OpenSpec.upto (s : _root_.Go.ChangeSpec) : _root_.Go.OpenSpec := { _root_.Go.OpenSpec.ofChange s with cond := some uptoSmall }

/-- 'pyxlaw01.BytNums', WHERE WHAT IT READS IS OF BULK AT MOST 1048576: true; the input reads as it did. -/
def bytNumsUptoRow : OpenClaim := { program := "ytlcclaicodghcaa", sum := "eb15b0daa59a606c45ff3ade314faace1db1e26ad443c603413a0a70fc2caf87", func := "pyx/pyxlaw01.BytNums", spec := "bytNums", inPlace := ["internal/abi.NoEscape"], apart := false, narrowed := true }
def BytNumsUptoSaid : Prop := bytNumsUptoRow.holds Try.pinned (OpenSpec.upto bytNumsSpec)

/-- 'pyxlaw01.BytApart', WHERE WHAT IT READS IS OF BULK AT MOST 1048576: true; the input reads as it did. -/
def bytApartUptoRow : OpenClaim := { program := "ytlcclaicodghcaa", sum := "eb15b0daa59a606c45ff3ade314faace1db1e26ad443c603413a0a70fc2caf87", func := "pyx/pyxlaw01.BytApart", spec := "bytApart", inPlace := ["internal/abi.NoEscape"], apart := false, narrowed := true }
def BytApartUptoSaid : Prop := bytApartUptoRow.holds Try.pinned (OpenSpec.upto bytApartSpec)

/-- 'pyxlaw01.BytTexts', WHERE WHAT IT READS IS OF BULK AT MOST 1048576: true; the input reads as it did. -/
def bytTextsUptoRow : OpenClaim := { program := "ytlcclaicodghcaa", sum := "eb15b0daa59a606c45ff3ade314faace1db1e26ad443c603413a0a70fc2caf87", func := "pyx/pyxlaw01.BytTexts", spec := "bytTexts", inPlace := ["internal/abi.NoEscape"], apart := false, narrowed := true }
def BytTextsUptoSaid : Prop := bytTextsUptoRow.holds Try.pinned (OpenSpec.upto bytTextsSpec)

/-- 'pyxlaw01.BytCuts', WHERE WHAT IT READS IS OF BULK AT MOST 1048576: true; the input reads as it did. -/
def bytCutsUptoRow : OpenClaim := { program := "ytlcclaicodghcaa", sum := "eb15b0daa59a606c45ff3ade314faace1db1e26ad443c603413a0a70fc2caf87", func := "pyx/pyxlaw01.BytCuts", spec := "bytCuts", inPlace := ["internal/abi.NoEscape"], apart := false, narrowed := true }
def BytCutsUptoSaid : Prop := bytCutsUptoRow.holds Try.pinned (OpenSpec.upto bytCutsSpec)

/-- 'pyxlaw01.BytJoins', WHERE WHAT IT READS IS OF BULK AT MOST 1048576: true; the input reads as it did. -/
def bytJoinsUptoRow : OpenClaim := { program := "ytlcclaicodghcaa", sum := "eb15b0daa59a606c45ff3ade314faace1db1e26ad443c603413a0a70fc2caf87", func := "pyx/pyxlaw01.BytJoins", spec := "bytJoins", inPlace := ["internal/abi.NoEscape"], apart := false, narrowed := true }
def BytJoinsUptoSaid : Prop := bytJoinsUptoRow.holds Try.pinned (OpenSpec.upto bytJoinsSpec)

/-- 'pyxlaw01.BytBounds', WHERE WHAT IT READS IS OF BULK AT MOST 1048576: true; the input reads as it did. -/
def bytBoundsUptoRow : OpenClaim := { program := "ytlcclaicodghcaa", sum := "eb15b0daa59a606c45ff3ade314faace1db1e26ad443c603413a0a70fc2caf87", func := "pyx/pyxlaw01.BytBounds", spec := "bytBounds", inPlace := ["internal/abi.NoEscape"], apart := false, narrowed := true }
def BytBoundsUptoSaid : Prop := bytBoundsUptoRow.holds Try.pinned (OpenSpec.upto bytBoundsSpec)

/-- 'pyxlaw01.BytRows', WHERE WHAT IT READS IS OF BULK AT MOST 1048576: true; the input reads as it did. -/
def bytRowsUptoRow : OpenClaim := { program := "ytlcclaicodghcaa", sum := "eb15b0daa59a606c45ff3ade314faace1db1e26ad443c603413a0a70fc2caf87", func := "pyx/pyxlaw01.BytRows", spec := "bytRows", inPlace := ["internal/abi.NoEscape"], apart := false, narrowed := true }
def BytRowsUptoSaid : Prop := bytRowsUptoRow.holds Try.pinned (OpenSpec.upto bytRowsSpec)

/-- 'pyxlaw01.BytBack', WHERE WHAT IT READS IS OF BULK AT MOST 1048576: true; the input reads as it did. -/
def bytBackUptoRow : OpenClaim := { program := "ytlcclaicodghcaa", sum := "eb15b0daa59a606c45ff3ade314faace1db1e26ad443c603413a0a70fc2caf87", func := "pyx/pyxlaw01.BytBack", spec := "bytBack", inPlace := ["internal/abi.NoEscape"], apart := false, narrowed := true }
def BytBackUptoSaid : Prop := bytBackUptoRow.holds Try.pinned (OpenSpec.upto bytBackSpec)

/-- 'pyxlaw17.ChunkTells', WHERE WHAT IT READS IS OF BULK AT MOST 1048576: true; the input reads as it did. -/
def chunkTellsUptoRow : OpenClaim := { program := "ytlcclaicodghcaa", sum := "eb15b0daa59a606c45ff3ade314faace1db1e26ad443c603413a0a70fc2caf87", func := "pyx/pyxlaw17.ChunkTells", spec := "chunkTells", inPlace := ["internal/bytealg.Compare"], unfollowed := true, recurses := true, apart := false, narrowed := true }
def ChunkTellsUptoSaid : Prop := chunkTellsUptoRow.holds Try.pinned (OpenSpec.upto chunkTellsSpec)

/-- 'pyxlaw17.ChunkReads', WHERE WHAT IT READS IS OF BULK AT MOST 1048576: true; the input reads as it did. -/
def chunkReadsUptoRow : OpenClaim := { program := "ytlcclaicodghcaa", sum := "eb15b0daa59a606c45ff3ade314faace1db1e26ad443c603413a0a70fc2caf87", func := "pyx/pyxlaw17.ChunkReads", spec := "chunkReads", inPlace := ["internal/bytealg.Compare"], unfollowed := true, recurses := true, apart := false, narrowed := true }
def ChunkReadsUptoSaid : Prop := chunkReadsUptoRow.holds Try.pinned (OpenSpec.upto chunkReadsSpec)

/-- 'pyxlaw17.ChunkPieces', WHERE WHAT IT READS IS OF BULK AT MOST 1048576: true; the input reads as it did. -/
def chunkPiecesUptoRow : OpenClaim := { program := "ytlcclaicodghcaa", sum := "eb15b0daa59a606c45ff3ade314faace1db1e26ad443c603413a0a70fc2caf87", func := "pyx/pyxlaw17.ChunkPieces", spec := "chunkPieces", inPlace := ["internal/bytealg.Compare"], unfollowed := true, recurses := true, apart := false, narrowed := true }
def ChunkPiecesUptoSaid : Prop := chunkPiecesUptoRow.holds Try.pinned (OpenSpec.upto chunkPiecesSpec)

/-- 'pyxlaw17.ChunkBack', WHERE WHAT IT READS IS OF BULK AT MOST 1048576: true; the input reads as it did. -/
def chunkBackUptoRow : OpenClaim := { program := "ytlcclaicodghcaa", sum := "eb15b0daa59a606c45ff3ade314faace1db1e26ad443c603413a0a70fc2caf87", func := "pyx/pyxlaw17.ChunkBack", spec := "chunkBack", inPlace := ["internal/bytealg.Compare"], unfollowed := true, recurses := true, apart := false, narrowed := true }
def ChunkBackUptoSaid : Prop := chunkBackUptoRow.holds Try.pinned (OpenSpec.upto chunkBackSpec)

/-- 'pyxlaw17.ChunkCovers', WHERE WHAT IT READS IS OF BULK AT MOST 1048576: true; the input reads as it did. -/
def chunkCoversUptoRow : OpenClaim := { program := "ytlcclaicodghcaa", sum := "eb15b0daa59a606c45ff3ade314faace1db1e26ad443c603413a0a70fc2caf87", func := "pyx/pyxlaw17.ChunkCovers", spec := "chunkCovers", inPlace := ["internal/bytealg.Compare"], unfollowed := true, recurses := true, apart := false, narrowed := true }
def ChunkCoversUptoSaid : Prop := chunkCoversUptoRow.holds Try.pinned (OpenSpec.upto chunkCoversSpec)

/-- 'pyxlaw17.ChunkSplits', WHERE WHAT IT READS IS OF BULK AT MOST 1048576: true; the input reads as it did. -/
def chunkSplitsUptoRow : OpenClaim := { program := "ytlcclaicodghcaa", sum := "eb15b0daa59a606c45ff3ade314faace1db1e26ad443c603413a0a70fc2caf87", func := "pyx/pyxlaw17.ChunkSplits", spec := "chunkSplits", inPlace := ["internal/bytealg.Compare"], unfollowed := true, recurses := true, apart := false, narrowed := true }
def ChunkSplitsUptoSaid : Prop := chunkSplitsUptoRow.holds Try.pinned (OpenSpec.upto chunkSplitsSpec)

/-- 'pyxlaw17.ChunkHeads', WHERE WHAT IT READS IS OF BULK AT MOST 1048576: true; the input reads as it did. -/
def chunkHeadsUptoRow : OpenClaim := { program := "ytlcclaicodghcaa", sum := "eb15b0daa59a606c45ff3ade314faace1db1e26ad443c603413a0a70fc2caf87", func := "pyx/pyxlaw17.ChunkHeads", spec := "chunkHeads", inPlace := ["internal/bytealg.Compare"], unfollowed := true, recurses := true, apart := false, narrowed := true }
def ChunkHeadsUptoSaid : Prop := chunkHeadsUptoRow.holds Try.pinned (OpenSpec.upto chunkHeadsSpec)

/-- 'pyxlaw17.ChunkCuts', WHERE WHAT IT READS IS OF BULK AT MOST 1048576: true; the input reads as it did. -/
def chunkCutsUptoRow : OpenClaim := { program := "ytlcclaicodghcaa", sum := "eb15b0daa59a606c45ff3ade314faace1db1e26ad443c603413a0a70fc2caf87", func := "pyx/pyxlaw17.ChunkCuts", spec := "chunkCuts", inPlace := ["internal/bytealg.Compare"], unfollowed := true, recurses := true, apart := false, narrowed := true }
def ChunkCutsUptoSaid : Prop := chunkCutsUptoRow.holds Try.pinned (OpenSpec.upto chunkCutsSpec)

end Rows
end Go.Proofs.Ytlcclaicodghcaa
