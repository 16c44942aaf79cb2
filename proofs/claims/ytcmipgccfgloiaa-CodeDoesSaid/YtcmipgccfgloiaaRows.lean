/-
  No cell of these rows narrows 'for every input' (looked for: loops, veiled, ifaces, maps, wideKeys, modest, calm, conditions, laid).
  DERIVED. THE GIVEN ROWS OF THIS SEAT. 13 by the template 'for every input the law returns true; each argument reads behind the call as it read before'; 0 by the template 'total and deterministic' (their statements: YtcmipgccfgloiaaTotals.lean).
  GIVEN WITH THE SEED: the statements are not yours to turn. If you find one false, say at which input.
  Laid BY PROGRAM, IN A SANDBOX (cutbox-rows.mjs): the forced cells as the released guide's own fill.sh prints them over the translation c3ce126180d32ed0… (all of the seat's roots in one cut). By AI agents, Wed Nov 11 2026. No macro, syntax, notation, axiom, sorry.
-/
import Derived.Test.YtcmipgccfgloiaaChecked
import GoSem.Claim
import GoSem.ClaimJoined
import GoSem.ClaimMapViews
import Derived.JoinedTies
import Derived.KernelRfl
namespace Go.Proofs.Ytcmipgccfgloiaa
/- THE CELL 'sum', in the pinned program and in every row, IS THE sha256 OF THE DUMP (.gsa) THAT YtcmipgccfgloiaaProg.lean LOADS. Nothing in Lean hashes anything: it is a label: what it is worth is what the hold of that sum in a sandbox is worth. -/
noncomputable def Try.pinned : Pinned := { name := "ytcmipgccfgloiaa", sum := "c3ce126180d32ed08131fe2abf13e1b618d2ba4f29d284cc5f66c3d292c60593", checked := Try.checked }
namespace Rows
def none {H : Type} : Left H := { results := [], args := [] }

/-- 'brackenlaw13.VoteOrder': WHATEVER THE INPUT: true; the input reads as it did. -/
def voteOrderSpec : ChangeSpec := { name := "voteOrder", fn := fun _ => fun
  | [d1, d2, d3] => { results := [.lit (.bool true)], args := [d1, d2, d3] }
  | _ => none }
def voteOrderRow : OpenClaim := { program := "ytcmipgccfgloiaa", sum := "c3ce126180d32ed08131fe2abf13e1b618d2ba4f29d284cc5f66c3d292c60593", func := "bracken/brackenlaw13.VoteOrder", spec := "voteOrder", apart := false }
def VoteOrderSaid : Prop := voteOrderRow.holds Try.pinned (OpenSpec.ofChange voteOrderSpec)

/-- ITS FALSE NEIGHBOUR: 'it returns false'. Refute it at one input. -/
def voteOrderWrong : ChangeSpec := { name := "voteOrder", fn := fun _ => fun
  | [d1, d2, d3] => { results := [.lit (.bool false)], args := [d1, d2, d3] }
  | _ => none }
def VoteOrderWrongFalsely : Prop := voteOrderRow.holds Try.pinned (OpenSpec.ofChange voteOrderWrong)

/-- 'brackenlaw13.VoteTwo': WHATEVER THE INPUT: true; the input reads as it did. -/
def voteTwoSpec : ChangeSpec := { name := "voteTwo", fn := fun _ => fun
  | [d1, d2, d3] => { results := [.lit (.bool true)], args := [d1, d2, d3] }
  | _ => none }
def voteTwoRow : OpenClaim := { program := "ytcmipgccfgloiaa", sum := "c3ce126180d32ed08131fe2abf13e1b618d2ba4f29d284cc5f66c3d292c60593", func := "bracken/brackenlaw13.VoteTwo", spec := "voteTwo", apart := false }
def VoteTwoSaid : Prop := voteTwoRow.holds Try.pinned (OpenSpec.ofChange voteTwoSpec)

/-- ITS FALSE NEIGHBOUR: 'it returns false'. Refute it at one input. -/
def voteTwoWrong : ChangeSpec := { name := "voteTwo", fn := fun _ => fun
  | [d1, d2, d3] => { results := [.lit (.bool false)], args := [d1, d2, d3] }
  | _ => none }
def VoteTwoWrongFalsely : Prop := voteTwoRow.holds Try.pinned (OpenSpec.ofChange voteTwoWrong)

/-- 'brackenlaw13.VoteParts': WHATEVER THE INPUT: true; the input reads as it did. -/
def votePartsSpec : ChangeSpec := { name := "voteParts", fn := fun _ => fun
  | [d1, d2] => { results := [.lit (.bool true)], args := [d1, d2] }
  | _ => none }
def votePartsRow : OpenClaim := { program := "ytcmipgccfgloiaa", sum := "c3ce126180d32ed08131fe2abf13e1b618d2ba4f29d284cc5f66c3d292c60593", func := "bracken/brackenlaw13.VoteParts", spec := "voteParts", apart := false }
def VotePartsSaid : Prop := votePartsRow.holds Try.pinned (OpenSpec.ofChange votePartsSpec)

/-- ITS FALSE NEIGHBOUR: 'it returns false'. Refute it at one input. -/
def votePartsWrong : ChangeSpec := { name := "voteParts", fn := fun _ => fun
  | [d1, d2] => { results := [.lit (.bool false)], args := [d1, d2] }
  | _ => none }
def VotePartsWrongFalsely : Prop := votePartsRow.holds Try.pinned (OpenSpec.ofChange votePartsWrong)

/-- 'brackenlaw13.VoteDoes': WHATEVER THE INPUT: true; the input reads as it did. -/
def voteDoesSpec : ChangeSpec := { name := "voteDoes", fn := fun _ => fun
  | [d] => { results := [.lit (.bool true)], args := [d] }
  | _ => none }
def voteDoesRow : OpenClaim := { program := "ytcmipgccfgloiaa", sum := "c3ce126180d32ed08131fe2abf13e1b618d2ba4f29d284cc5f66c3d292c60593", func := "bracken/brackenlaw13.VoteDoes", spec := "voteDoes", apart := false }
def VoteDoesSaid : Prop := voteDoesRow.holds Try.pinned (OpenSpec.ofChange voteDoesSpec)

/-- ITS FALSE NEIGHBOUR: 'it returns false'. Refute it at one input. -/
def voteDoesWrong : ChangeSpec := { name := "voteDoes", fn := fun _ => fun
  | [d] => { results := [.lit (.bool false)], args := [d] }
  | _ => none }
def VoteDoesWrongFalsely : Prop := voteDoesRow.holds Try.pinned (OpenSpec.ofChange voteDoesWrong)

/-- 'brackenlaw13.VoteBack': WHATEVER THE INPUT: true; the input reads as it did. -/
def voteBackSpec : ChangeSpec := { name := "voteBack", fn := fun _ => fun
  | [d1, d2, d3] => { results := [.lit (.bool true)], args := [d1, d2, d3] }
  | _ => none }
def voteBackRow : OpenClaim := { program := "ytcmipgccfgloiaa", sum := "c3ce126180d32ed08131fe2abf13e1b618d2ba4f29d284cc5f66c3d292c60593", func := "bracken/brackenlaw13.VoteBack", spec := "voteBack", apart := false }
def VoteBackSaid : Prop := voteBackRow.holds Try.pinned (OpenSpec.ofChange voteBackSpec)

/-- ITS FALSE NEIGHBOUR: 'it returns false'. Refute it at one input. -/
def voteBackWrong : ChangeSpec := { name := "voteBack", fn := fun _ => fun
  | [d1, d2, d3] => { results := [.lit (.bool false)], args := [d1, d2, d3] }
  | _ => none }
def VoteBackWrongFalsely : Prop := voteBackRow.holds Try.pinned (OpenSpec.ofChange voteBackWrong)

/-- 'brackenlaw13.VoteAgain': WHATEVER THE INPUT: true; the input reads as it did. -/
def voteAgainSpec : ChangeSpec := { name := "voteAgain", fn := fun _ => fun
  | [d] => { results := [.lit (.bool true)], args := [d] }
  | _ => none }
def voteAgainRow : OpenClaim := { program := "ytcmipgccfgloiaa", sum := "c3ce126180d32ed08131fe2abf13e1b618d2ba4f29d284cc5f66c3d292c60593", func := "bracken/brackenlaw13.VoteAgain", spec := "voteAgain", apart := false }
def VoteAgainSaid : Prop := voteAgainRow.holds Try.pinned (OpenSpec.ofChange voteAgainSpec)

/-- ITS FALSE NEIGHBOUR: 'it returns false'. Refute it at one input. -/
def voteAgainWrong : ChangeSpec := { name := "voteAgain", fn := fun _ => fun
  | [d] => { results := [.lit (.bool false)], args := [d] }
  | _ => none }
def VoteAgainWrongFalsely : Prop := voteAgainRow.holds Try.pinned (OpenSpec.ofChange voteAgainWrong)

/-- 'brackenlaw14.CodeSums': WHATEVER THE INPUT: true; the input reads as it did. -/
def codeSumsSpec : ChangeSpec := { name := "codeSums", fn := fun _ => fun
  | [d1, d2, d3, d4, d5] => { results := [.lit (.bool true)], args := [d1, d2, d3, d4, d5] }
  | _ => none }
def codeSumsRow : OpenClaim := { program := "ytcmipgccfgloiaa", sum := "c3ce126180d32ed08131fe2abf13e1b618d2ba4f29d284cc5f66c3d292c60593", func := "bracken/brackenlaw14.CodeSums", spec := "codeSums", inPlace := ["math/bits.Add64", "math/bits.Sub64"], unfollowed := true, recurses := true, named := ["math/bits.divideError", "math/bits.overflowError"], apart := false }
def CodeSumsSaid : Prop := codeSumsRow.holds Try.pinned (OpenSpec.ofChange codeSumsSpec)

/-- ITS FALSE NEIGHBOUR: 'it returns false'. Refute it at one input. -/
def codeSumsWrong : ChangeSpec := { name := "codeSums", fn := fun _ => fun
  | [d1, d2, d3, d4, d5] => { results := [.lit (.bool false)], args := [d1, d2, d3, d4, d5] }
  | _ => none }
def CodeSumsWrongFalsely : Prop := codeSumsRow.holds Try.pinned (OpenSpec.ofChange codeSumsWrong)

/-- 'brackenlaw14.CodeCells': WHATEVER THE INPUT: true; the input reads as it did. -/
def codeCellsSpec : ChangeSpec := { name := "codeCells", fn := fun _ => fun
  | [d1, d2, d3, d4, d5, d6] => { results := [.lit (.bool true)], args := [d1, d2, d3, d4, d5, d6] }
  | _ => none }
def codeCellsRow : OpenClaim := { program := "ytcmipgccfgloiaa", sum := "c3ce126180d32ed08131fe2abf13e1b618d2ba4f29d284cc5f66c3d292c60593", func := "bracken/brackenlaw14.CodeCells", spec := "codeCells", inPlace := ["math/bits.Add64", "math/bits.Sub64"], unfollowed := true, recurses := true, named := ["math/bits.divideError", "math/bits.overflowError"], apart := false }
def CodeCellsSaid : Prop := codeCellsRow.holds Try.pinned (OpenSpec.ofChange codeCellsSpec)

/-- ITS FALSE NEIGHBOUR: 'it returns false'. Refute it at one input. -/
def codeCellsWrong : ChangeSpec := { name := "codeCells", fn := fun _ => fun
  | [d1, d2, d3, d4, d5, d6] => { results := [.lit (.bool false)], args := [d1, d2, d3, d4, d5, d6] }
  | _ => none }
def CodeCellsWrongFalsely : Prop := codeCellsRow.holds Try.pinned (OpenSpec.ofChange codeCellsWrong)

/-- 'brackenlaw14.CodeMakes': WHATEVER THE INPUT: true; the input reads as it did. -/
def codeMakesSpec : ChangeSpec := { name := "codeMakes", fn := fun _ => fun
  | [d1, d2] => { results := [.lit (.bool true)], args := [d1, d2] }
  | _ => none }
def codeMakesRow : OpenClaim := { program := "ytcmipgccfgloiaa", sum := "c3ce126180d32ed08131fe2abf13e1b618d2ba4f29d284cc5f66c3d292c60593", func := "bracken/brackenlaw14.CodeMakes", spec := "codeMakes", inPlace := ["math/bits.Add64", "math/bits.Sub64"], unfollowed := true, recurses := true, named := ["math/bits.divideError", "math/bits.overflowError"], apart := false }
def CodeMakesSaid : Prop := codeMakesRow.holds Try.pinned (OpenSpec.ofChange codeMakesSpec)

/-- ITS FALSE NEIGHBOUR: 'it returns false'. Refute it at one input. -/
def codeMakesWrong : ChangeSpec := { name := "codeMakes", fn := fun _ => fun
  | [d1, d2] => { results := [.lit (.bool false)], args := [d1, d2] }
  | _ => none }
def CodeMakesWrongFalsely : Prop := codeMakesRow.holds Try.pinned (OpenSpec.ofChange codeMakesWrong)

/-- 'brackenlaw14.CodeLook': WHATEVER THE INPUT: true; the input reads as it did. -/
def codeLookSpec : ChangeSpec := { name := "codeLook", fn := fun _ => fun
  | [d1, d2] => { results := [.lit (.bool true)], args := [d1, d2] }
  | _ => none }
def codeLookRow : OpenClaim := { program := "ytcmipgccfgloiaa", sum := "c3ce126180d32ed08131fe2abf13e1b618d2ba4f29d284cc5f66c3d292c60593", func := "bracken/brackenlaw14.CodeLook", spec := "codeLook", inPlace := ["math/bits.Add64", "math/bits.Sub64"], unfollowed := true, recurses := true, named := ["math/bits.divideError", "math/bits.overflowError"], apart := false }
def CodeLookSaid : Prop := codeLookRow.holds Try.pinned (OpenSpec.ofChange codeLookSpec)

/-- ITS FALSE NEIGHBOUR: 'it returns false'. Refute it at one input. -/
def codeLookWrong : ChangeSpec := { name := "codeLook", fn := fun _ => fun
  | [d1, d2] => { results := [.lit (.bool false)], args := [d1, d2] }
  | _ => none }
def CodeLookWrongFalsely : Prop := codeLookRow.holds Try.pinned (OpenSpec.ofChange codeLookWrong)

/-- 'brackenlaw14.CodeDoes': WHATEVER THE INPUT: true; the input reads as it did. -/
def codeDoesSpec : ChangeSpec := { name := "codeDoes", fn := fun _ => fun
  | [d1, d2] => { results := [.lit (.bool true)], args := [d1, d2] }
  | _ => none }
def codeDoesRow : OpenClaim := { program := "ytcmipgccfgloiaa", sum := "c3ce126180d32ed08131fe2abf13e1b618d2ba4f29d284cc5f66c3d292c60593", func := "bracken/brackenlaw14.CodeDoes", spec := "codeDoes", inPlace := ["math/bits.Add64", "math/bits.Sub64"], unfollowed := true, recurses := true, named := ["math/bits.divideError", "math/bits.overflowError"], apart := false }
def CodeDoesSaid : Prop := codeDoesRow.holds Try.pinned (OpenSpec.ofChange codeDoesSpec)

/-- ITS FALSE NEIGHBOUR: 'it returns false'. Refute it at one input. -/
def codeDoesWrong : ChangeSpec := { name := "codeDoes", fn := fun _ => fun
  | [d1, d2] => { results := [.lit (.bool false)], args := [d1, d2] }
  | _ => none }
def CodeDoesWrongFalsely : Prop := codeDoesRow.holds Try.pinned (OpenSpec.ofChange codeDoesWrong)

/-- 'brackenlaw14.CodeOne': WHATEVER THE INPUT: true; the input reads as it did. -/
def codeOneSpec : ChangeSpec := { name := "codeOne", fn := fun _ => fun
  | [d1, d2, d3, d4] => { results := [.lit (.bool true)], args := [d1, d2, d3, d4] }
  | _ => none }
def codeOneRow : OpenClaim := { program := "ytcmipgccfgloiaa", sum := "c3ce126180d32ed08131fe2abf13e1b618d2ba4f29d284cc5f66c3d292c60593", func := "bracken/brackenlaw14.CodeOne", spec := "codeOne", inPlace := ["math/bits.Add64", "math/bits.Sub64"], unfollowed := true, recurses := true, named := ["math/bits.divideError", "math/bits.overflowError"], apart := false }
def CodeOneSaid : Prop := codeOneRow.holds Try.pinned (OpenSpec.ofChange codeOneSpec)

/-- ITS FALSE NEIGHBOUR: 'it returns false'. Refute it at one input. -/
def codeOneWrong : ChangeSpec := { name := "codeOne", fn := fun _ => fun
  | [d1, d2, d3, d4] => { results := [.lit (.bool false)], args := [d1, d2, d3, d4] }
  | _ => none }
def CodeOneWrongFalsely : Prop := codeOneRow.holds Try.pinned (OpenSpec.ofChange codeOneWrong)

/-- 'brackenlaw14.CodeTwo': WHATEVER THE INPUT: true; the input reads as it did. -/
def codeTwoSpec : ChangeSpec := { name := "codeTwo", fn := fun _ => fun
  | [d1, d2, d3, d4, d5, d6] => { results := [.lit (.bool true)], args := [d1, d2, d3, d4, d5, d6] }
  | _ => none }
def codeTwoRow : OpenClaim := { program := "ytcmipgccfgloiaa", sum := "c3ce126180d32ed08131fe2abf13e1b618d2ba4f29d284cc5f66c3d292c60593", func := "bracken/brackenlaw14.CodeTwo", spec := "codeTwo", inPlace := ["math/bits.Add64", "math/bits.Sub64"], unfollowed := true, recurses := true, named := ["math/bits.divideError", "math/bits.overflowError"], apart := false }
def CodeTwoSaid : Prop := codeTwoRow.holds Try.pinned (OpenSpec.ofChange codeTwoSpec)

/-- ITS FALSE NEIGHBOUR: 'it returns false'. Refute it at one input. -/
def codeTwoWrong : ChangeSpec := { name := "codeTwo", fn := fun _ => fun
  | [d1, d2, d3, d4, d5, d6] => { results := [.lit (.bool false)], args := [d1, d2, d3, d4, d5, d6] }
  | _ => none }
def CodeTwoWrongFalsely : Prop := codeTwoRow.holds Try.pinned (OpenSpec.ofChange codeTwoWrong)

/- THE SECOND FORM. 'bulk': how many values and letters a reading holds, each counted each time it is reached (what is shared counts as often as it is met; a slice's spare places count too). A statement '..UptoSaid' is the law's where the arguments, and the package variables that the reading takes, are together of bulk at most 1048576: NARROWER than '..Said'. Prove '..Said' where nothing that the law and all that it calls make is longer than what came in: it says more and counts as full. Else prove '..UptoSaid'. A law counts once. -/
mutual
def uptoBulk {H : Type} : DataW H → Nat
  | .lit (.string bytes) => bytes.length + 1
  | .lit _ => 1
  | .nil => 1
  | .ptr d => uptoBulk d + 1
  | .slice elems spare => uptoBulkAll elems + uptoBulkAll spare + 1
  | .agg parts => uptoBulkAll parts + 1
  | .iface _ d => uptoBulk d + 1
  | .map entries => uptoBulkEntries entries + 1
  | .held _ => 1
def uptoBulkAll {H : Type} : List (DataW H) → Nat
  | [] => 0
  | d :: r => uptoBulk d + uptoBulkAll r
def uptoBulkEntries {H : Type} : List (Lit × DataW H) → Nat
  | [] => 0
  | x :: r => uptoBulkEntry x + uptoBulkEntries r
def uptoBulkEntry {H : Type} : Lit × DataW H → Nat
  | (.string bytes, d) => bytes.length + uptoBulk d + 1
  | (_, d) => uptoBulk d + 1
 end
def uptoSmall : (H : Type) → List (DataW H) → Bool := fun _ ds => decide (uptoBulkAll ds ≤ 1048576)
def OpenSpec.upto (s : _root_.Go.ChangeSpec) : _root_.Go.OpenSpec := { _root_.Go.OpenSpec.ofChange s with cond := some uptoSmall }

/-- 'brackenlaw13.VoteOrder', WHERE WHAT IT READS IS OF BULK AT MOST 1048576: true; the input reads as it did. -/
def voteOrderUptoRow : OpenClaim := { program := "ytcmipgccfgloiaa", sum := "c3ce126180d32ed08131fe2abf13e1b618d2ba4f29d284cc5f66c3d292c60593", func := "bracken/brackenlaw13.VoteOrder", spec := "voteOrder", apart := false, narrowed := true }
def VoteOrderUptoSaid : Prop := voteOrderUptoRow.holds Try.pinned (OpenSpec.upto voteOrderSpec)

/-- 'brackenlaw13.VoteTwo', WHERE WHAT IT READS IS OF BULK AT MOST 1048576: true; the input reads as it did. -/
def voteTwoUptoRow : OpenClaim := { program := "ytcmipgccfgloiaa", sum := "c3ce126180d32ed08131fe2abf13e1b618d2ba4f29d284cc5f66c3d292c60593", func := "bracken/brackenlaw13.VoteTwo", spec := "voteTwo", apart := false, narrowed := true }
def VoteTwoUptoSaid : Prop := voteTwoUptoRow.holds Try.pinned (OpenSpec.upto voteTwoSpec)

/-- 'brackenlaw13.VoteParts', WHERE WHAT IT READS IS OF BULK AT MOST 1048576: true; the input reads as it did. -/
def votePartsUptoRow : OpenClaim := { program := "ytcmipgccfgloiaa", sum := "c3ce126180d32ed08131fe2abf13e1b618d2ba4f29d284cc5f66c3d292c60593", func := "bracken/brackenlaw13.VoteParts", spec := "voteParts", apart := false, narrowed := true }
def VotePartsUptoSaid : Prop := votePartsUptoRow.holds Try.pinned (OpenSpec.upto votePartsSpec)

/-- 'brackenlaw13.VoteDoes', WHERE WHAT IT READS IS OF BULK AT MOST 1048576: true; the input reads as it did. -/
def voteDoesUptoRow : OpenClaim := { program := "ytcmipgccfgloiaa", sum := "c3ce126180d32ed08131fe2abf13e1b618d2ba4f29d284cc5f66c3d292c60593", func := "bracken/brackenlaw13.VoteDoes", spec := "voteDoes", apart := false, narrowed := true }
def VoteDoesUptoSaid : Prop := voteDoesUptoRow.holds Try.pinned (OpenSpec.upto voteDoesSpec)

/-- 'brackenlaw13.VoteBack', WHERE WHAT IT READS IS OF BULK AT MOST 1048576: true; the input reads as it did. -/
def voteBackUptoRow : OpenClaim := { program := "ytcmipgccfgloiaa", sum := "c3ce126180d32ed08131fe2abf13e1b618d2ba4f29d284cc5f66c3d292c60593", func := "bracken/brackenlaw13.VoteBack", spec := "voteBack", apart := false, narrowed := true }
def VoteBackUptoSaid : Prop := voteBackUptoRow.holds Try.pinned (OpenSpec.upto voteBackSpec)

/-- 'brackenlaw13.VoteAgain', WHERE WHAT IT READS IS OF BULK AT MOST 1048576: true; the input reads as it did. -/
def voteAgainUptoRow : OpenClaim := { program := "ytcmipgccfgloiaa", sum := "c3ce126180d32ed08131fe2abf13e1b618d2ba4f29d284cc5f66c3d292c60593", func := "bracken/brackenlaw13.VoteAgain", spec := "voteAgain", apart := false, narrowed := true }
def VoteAgainUptoSaid : Prop := voteAgainUptoRow.holds Try.pinned (OpenSpec.upto voteAgainSpec)

/-- 'brackenlaw14.CodeSums', WHERE WHAT IT READS IS OF BULK AT MOST 1048576: true; the input reads as it did. -/
def codeSumsUptoRow : OpenClaim := { program := "ytcmipgccfgloiaa", sum := "c3ce126180d32ed08131fe2abf13e1b618d2ba4f29d284cc5f66c3d292c60593", func := "bracken/brackenlaw14.CodeSums", spec := "codeSums", inPlace := ["math/bits.Add64", "math/bits.Sub64"], unfollowed := true, recurses := true, named := ["math/bits.divideError", "math/bits.overflowError"], apart := false, narrowed := true }
def CodeSumsUptoSaid : Prop := codeSumsUptoRow.holds Try.pinned (OpenSpec.upto codeSumsSpec)

/-- 'brackenlaw14.CodeCells', WHERE WHAT IT READS IS OF BULK AT MOST 1048576: true; the input reads as it did. -/
def codeCellsUptoRow : OpenClaim := { program := "ytcmipgccfgloiaa", sum := "c3ce126180d32ed08131fe2abf13e1b618d2ba4f29d284cc5f66c3d292c60593", func := "bracken/brackenlaw14.CodeCells", spec := "codeCells", inPlace := ["math/bits.Add64", "math/bits.Sub64"], unfollowed := true, recurses := true, named := ["math/bits.divideError", "math/bits.overflowError"], apart := false, narrowed := true }
def CodeCellsUptoSaid : Prop := codeCellsUptoRow.holds Try.pinned (OpenSpec.upto codeCellsSpec)

/-- 'brackenlaw14.CodeMakes', WHERE WHAT IT READS IS OF BULK AT MOST 1048576: true; the input reads as it did. -/
def codeMakesUptoRow : OpenClaim := { program := "ytcmipgccfgloiaa", sum := "c3ce126180d32ed08131fe2abf13e1b618d2ba4f29d284cc5f66c3d292c60593", func := "bracken/brackenlaw14.CodeMakes", spec := "codeMakes", inPlace := ["math/bits.Add64", "math/bits.Sub64"], unfollowed := true, recurses := true, named := ["math/bits.divideError", "math/bits.overflowError"], apart := false, narrowed := true }
def CodeMakesUptoSaid : Prop := codeMakesUptoRow.holds Try.pinned (OpenSpec.upto codeMakesSpec)

/-- 'brackenlaw14.CodeLook', WHERE WHAT IT READS IS OF BULK AT MOST 1048576: true; the input reads as it did. -/
def codeLookUptoRow : OpenClaim := { program := "ytcmipgccfgloiaa", sum := "c3ce126180d32ed08131fe2abf13e1b618d2ba4f29d284cc5f66c3d292c60593", func := "bracken/brackenlaw14.CodeLook", spec := "codeLook", inPlace := ["math/bits.Add64", "math/bits.Sub64"], unfollowed := true, recurses := true, named := ["math/bits.divideError", "math/bits.overflowError"], apart := false, narrowed := true }
def CodeLookUptoSaid : Prop := codeLookUptoRow.holds Try.pinned (OpenSpec.upto codeLookSpec)

/-- 'brackenlaw14.CodeDoes', WHERE WHAT IT READS IS OF BULK AT MOST 1048576: true; the input reads as it did. -/
def codeDoesUptoRow : OpenClaim := { program := "ytcmipgccfgloiaa", sum := "c3ce126180d32ed08131fe2abf13e1b618d2ba4f29d284cc5f66c3d292c60593", func := "bracken/brackenlaw14.CodeDoes", spec := "codeDoes", inPlace := ["math/bits.Add64", "math/bits.Sub64"], unfollowed := true, recurses := true, named := ["math/bits.divideError", "math/bits.overflowError"], apart := false, narrowed := true }
def CodeDoesUptoSaid : Prop := codeDoesUptoRow.holds Try.pinned (OpenSpec.upto codeDoesSpec)

/-- 'brackenlaw14.CodeOne', WHERE WHAT IT READS IS OF BULK AT MOST 1048576: true; the input reads as it did. -/
def codeOneUptoRow : OpenClaim := { program := "ytcmipgccfgloiaa", sum := "c3ce126180d32ed08131fe2abf13e1b618d2ba4f29d284cc5f66c3d292c60593", func := "bracken/brackenlaw14.CodeOne", spec := "codeOne", inPlace := ["math/bits.Add64", "math/bits.Sub64"], unfollowed := true, recurses := true, named := ["math/bits.divideError", "math/bits.overflowError"], apart := false, narrowed := true }
def CodeOneUptoSaid : Prop := codeOneUptoRow.holds Try.pinned (OpenSpec.upto codeOneSpec)

/-- 'brackenlaw14.CodeTwo', WHERE WHAT IT READS IS OF BULK AT MOST 1048576: true; the input reads as it did. -/
def codeTwoUptoRow : OpenClaim := { program := "ytcmipgccfgloiaa", sum := "c3ce126180d32ed08131fe2abf13e1b618d2ba4f29d284cc5f66c3d292c60593", func := "bracken/brackenlaw14.CodeTwo", spec := "codeTwo", inPlace := ["math/bits.Add64", "math/bits.Sub64"], unfollowed := true, recurses := true, named := ["math/bits.divideError", "math/bits.overflowError"], apart := false, narrowed := true }
def CodeTwoUptoSaid : Prop := codeTwoUptoRow.holds Try.pinned (OpenSpec.upto codeTwoSpec)

end Rows
end Go.Proofs.Ytcmipgccfgloiaa
