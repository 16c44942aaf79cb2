/-
  No cell of these rows narrows 'for every input' (looked for: loops, veiled, ifaces, maps, wideKeys, modest, calm, conditions, laid).
  DERIVED. THE GIVEN ROWS OF THIS SEAT. 13 by the template 'for every input the law returns true; each argument reads behind the call as it read before'; 0 by the template 'total and deterministic' (their statements: YtopmikcljekdiaaTotals.lean).
  GIVEN WITH THE SEED: the statements are not yours to turn. If you find one false, say at which input.
  Laid BY PROGRAM, IN A SANDBOX (cutbox-rows.mjs): the forced cells as the released guide's own fill.sh prints them over the translation 01050875fcd302af… (all of the seat's roots in one cut). By AI agents, Wed Nov 11 2026. No macro, syntax, notation, axiom, sorry.
-/
import Derived.Test.YtopmikcljekdiaaChecked
import GoSem.Claim
import GoSem.ClaimJoined
import GoSem.ClaimMapViews
import Derived.JoinedTies
import Derived.KernelRfl
namespace Go.Proofs.Ytopmikcljekdiaa
/- THE CELL 'sum', in the pinned program and in every row, IS THE sha256 OF THE DUMP (.gsa) THAT YtopmikcljekdiaaProg.lean LOADS. Nothing in Lean hashes anything: it is a label: what it is worth is what the hold of that sum in a sandbox is worth. -/
noncomputable def Try.pinned : Pinned := { name := "ytopmikcljekdiaa", sum := "01050875fcd302afaeb8ebcb721c0ec657f2279aa5c229a5556b0a2bd6c70df7", checked := Try.checked }
namespace Rows
def none {H : Type} : Left H := { results := [], args := [] }

/-- 'brackenlaw11.AgendaOrder': WHATEVER THE INPUT: true; the input reads as it did. -/
def agendaOrderSpec : ChangeSpec := { name := "agendaOrder", fn := fun _ => fun
  | [d] => { results := [.lit (.bool true)], args := [d] }
  | _ => none }
def agendaOrderRow : OpenClaim := { program := "ytopmikcljekdiaa", sum := "01050875fcd302afaeb8ebcb721c0ec657f2279aa5c229a5556b0a2bd6c70df7", func := "bracken/brackenlaw11.AgendaOrder", spec := "agendaOrder", unfollowed := true, recurses := true, apart := false }
def AgendaOrderSaid : Prop := agendaOrderRow.holds Try.pinned (OpenSpec.ofChange agendaOrderSpec)

/-- ITS FALSE NEIGHBOUR: 'it returns false'. Refute it at one input. -/
def agendaOrderWrong : ChangeSpec := { name := "agendaOrder", fn := fun _ => fun
  | [d] => { results := [.lit (.bool false)], args := [d] }
  | _ => none }
def AgendaOrderWrongFalsely : Prop := agendaOrderRow.holds Try.pinned (OpenSpec.ofChange agendaOrderWrong)

/-- 'brackenlaw11.AgendaFull': WHATEVER THE INPUT: true; the input reads as it did. -/
def agendaFullSpec : ChangeSpec := { name := "agendaFull", fn := fun _ => fun
  | [d1, d2] => { results := [.lit (.bool true)], args := [d1, d2] }
  | _ => none }
def agendaFullRow : OpenClaim := { program := "ytopmikcljekdiaa", sum := "01050875fcd302afaeb8ebcb721c0ec657f2279aa5c229a5556b0a2bd6c70df7", func := "bracken/brackenlaw11.AgendaFull", spec := "agendaFull", unfollowed := true, recurses := true, apart := false }
def AgendaFullSaid : Prop := agendaFullRow.holds Try.pinned (OpenSpec.ofChange agendaFullSpec)

/-- ITS FALSE NEIGHBOUR: 'it returns false'. Refute it at one input. -/
def agendaFullWrong : ChangeSpec := { name := "agendaFull", fn := fun _ => fun
  | [d1, d2] => { results := [.lit (.bool false)], args := [d1, d2] }
  | _ => none }
def AgendaFullWrongFalsely : Prop := agendaFullRow.holds Try.pinned (OpenSpec.ofChange agendaFullWrong)

/-- 'brackenlaw11.AgendaDoes': WHATEVER THE INPUT: true; the input reads as it did. -/
def agendaDoesSpec : ChangeSpec := { name := "agendaDoes", fn := fun _ => fun
  | [d1, d2, d3] => { results := [.lit (.bool true)], args := [d1, d2, d3] }
  | _ => none }
def agendaDoesRow : OpenClaim := { program := "ytopmikcljekdiaa", sum := "01050875fcd302afaeb8ebcb721c0ec657f2279aa5c229a5556b0a2bd6c70df7", func := "bracken/brackenlaw11.AgendaDoes", spec := "agendaDoes", unfollowed := true, recurses := true, apart := false }
def AgendaDoesSaid : Prop := agendaDoesRow.holds Try.pinned (OpenSpec.ofChange agendaDoesSpec)

/-- ITS FALSE NEIGHBOUR: 'it returns false'. Refute it at one input. -/
def agendaDoesWrong : ChangeSpec := { name := "agendaDoes", fn := fun _ => fun
  | [d1, d2, d3] => { results := [.lit (.bool false)], args := [d1, d2, d3] }
  | _ => none }
def AgendaDoesWrongFalsely : Prop := agendaDoesRow.holds Try.pinned (OpenSpec.ofChange agendaDoesWrong)

/-- 'brackenlaw11.AgendaAll': WHATEVER THE INPUT: true; the input reads as it did. -/
def agendaAllSpec : ChangeSpec := { name := "agendaAll", fn := fun _ => fun
  | [d1, d2] => { results := [.lit (.bool true)], args := [d1, d2] }
  | _ => none }
def agendaAllRow : OpenClaim := { program := "ytopmikcljekdiaa", sum := "01050875fcd302afaeb8ebcb721c0ec657f2279aa5c229a5556b0a2bd6c70df7", func := "bracken/brackenlaw11.AgendaAll", spec := "agendaAll", unfollowed := true, recurses := true, apart := false }
def AgendaAllSaid : Prop := agendaAllRow.holds Try.pinned (OpenSpec.ofChange agendaAllSpec)

/-- ITS FALSE NEIGHBOUR: 'it returns false'. Refute it at one input. -/
def agendaAllWrong : ChangeSpec := { name := "agendaAll", fn := fun _ => fun
  | [d1, d2] => { results := [.lit (.bool false)], args := [d1, d2] }
  | _ => none }
def AgendaAllWrongFalsely : Prop := agendaAllRow.holds Try.pinned (OpenSpec.ofChange agendaAllWrong)

/-- 'brackenlaw11.AgendaParts': WHATEVER THE INPUT: true; the input reads as it did. -/
def agendaPartsSpec : ChangeSpec := { name := "agendaParts", fn := fun _ => fun
  | [d1, d2, d3, d4] => { results := [.lit (.bool true)], args := [d1, d2, d3, d4] }
  | _ => none }
def agendaPartsRow : OpenClaim := { program := "ytopmikcljekdiaa", sum := "01050875fcd302afaeb8ebcb721c0ec657f2279aa5c229a5556b0a2bd6c70df7", func := "bracken/brackenlaw11.AgendaParts", spec := "agendaParts", unfollowed := true, recurses := true, apart := false }
def AgendaPartsSaid : Prop := agendaPartsRow.holds Try.pinned (OpenSpec.ofChange agendaPartsSpec)

/-- ITS FALSE NEIGHBOUR: 'it returns false'. Refute it at one input. -/
def agendaPartsWrong : ChangeSpec := { name := "agendaParts", fn := fun _ => fun
  | [d1, d2, d3, d4] => { results := [.lit (.bool false)], args := [d1, d2, d3, d4] }
  | _ => none }
def AgendaPartsWrongFalsely : Prop := agendaPartsRow.holds Try.pinned (OpenSpec.ofChange agendaPartsWrong)

/-- 'brackenlaw11.AgendaNone': WHATEVER THE INPUT: true; the input reads as it did. -/
def agendaNoneSpec : ChangeSpec := { name := "agendaNone", fn := fun _ => fun
  | [d1, d2] => { results := [.lit (.bool true)], args := [d1, d2] }
  | _ => none }
def agendaNoneRow : OpenClaim := { program := "ytopmikcljekdiaa", sum := "01050875fcd302afaeb8ebcb721c0ec657f2279aa5c229a5556b0a2bd6c70df7", func := "bracken/brackenlaw11.AgendaNone", spec := "agendaNone", unfollowed := true, recurses := true, apart := false }
def AgendaNoneSaid : Prop := agendaNoneRow.holds Try.pinned (OpenSpec.ofChange agendaNoneSpec)

/-- ITS FALSE NEIGHBOUR: 'it returns false'. Refute it at one input. -/
def agendaNoneWrong : ChangeSpec := { name := "agendaNone", fn := fun _ => fun
  | [d1, d2] => { results := [.lit (.bool false)], args := [d1, d2] }
  | _ => none }
def AgendaNoneWrongFalsely : Prop := agendaNoneRow.holds Try.pinned (OpenSpec.ofChange agendaNoneWrong)

/-- 'brackenlaw12.MemTick': WHATEVER THE INPUT: true; the input reads as it did. -/
def memTickSpec : ChangeSpec := { name := "memTick", fn := fun _ => fun
  | [d1, d2, d3, d4] => { results := [.lit (.bool true)], args := [d1, d2, d3, d4] }
  | _ => none }
def memTickRow : OpenClaim := { program := "ytopmikcljekdiaa", sum := "01050875fcd302afaeb8ebcb721c0ec657f2279aa5c229a5556b0a2bd6c70df7", func := "bracken/brackenlaw12.MemTick", spec := "memTick", unfollowed := true, recurses := true, apart := false }
def MemTickSaid : Prop := memTickRow.holds Try.pinned (OpenSpec.ofChange memTickSpec)

/-- ITS FALSE NEIGHBOUR: 'it returns false'. Refute it at one input. -/
def memTickWrong : ChangeSpec := { name := "memTick", fn := fun _ => fun
  | [d1, d2, d3, d4] => { results := [.lit (.bool false)], args := [d1, d2, d3, d4] }
  | _ => none }
def MemTickWrongFalsely : Prop := memTickRow.holds Try.pinned (OpenSpec.ofChange memTickWrong)

/-- 'brackenlaw12.MemKeeps': WHATEVER THE INPUT: true; the input reads as it did. -/
def memKeepsSpec : ChangeSpec := { name := "memKeeps", fn := fun _ => fun
  | [d1, d2] => { results := [.lit (.bool true)], args := [d1, d2] }
  | _ => none }
def memKeepsRow : OpenClaim := { program := "ytopmikcljekdiaa", sum := "01050875fcd302afaeb8ebcb721c0ec657f2279aa5c229a5556b0a2bd6c70df7", func := "bracken/brackenlaw12.MemKeeps", spec := "memKeeps", unfollowed := true, recurses := true, apart := false }
def MemKeepsSaid : Prop := memKeepsRow.holds Try.pinned (OpenSpec.ofChange memKeepsSpec)

/-- ITS FALSE NEIGHBOUR: 'it returns false'. Refute it at one input. -/
def memKeepsWrong : ChangeSpec := { name := "memKeeps", fn := fun _ => fun
  | [d1, d2] => { results := [.lit (.bool false)], args := [d1, d2] }
  | _ => none }
def MemKeepsWrongFalsely : Prop := memKeepsRow.holds Try.pinned (OpenSpec.ofChange memKeepsWrong)

/-- 'brackenlaw12.MemDoes': WHATEVER THE INPUT: true; the input reads as it did. -/
def memDoesSpec : ChangeSpec := { name := "memDoes", fn := fun _ => fun
  | [d1, d2, d3] => { results := [.lit (.bool true)], args := [d1, d2, d3] }
  | _ => none }
def memDoesRow : OpenClaim := { program := "ytopmikcljekdiaa", sum := "01050875fcd302afaeb8ebcb721c0ec657f2279aa5c229a5556b0a2bd6c70df7", func := "bracken/brackenlaw12.MemDoes", spec := "memDoes", unfollowed := true, recurses := true, apart := false }
def MemDoesSaid : Prop := memDoesRow.holds Try.pinned (OpenSpec.ofChange memDoesSpec)

/-- ITS FALSE NEIGHBOUR: 'it returns false'. Refute it at one input. -/
def memDoesWrong : ChangeSpec := { name := "memDoes", fn := fun _ => fun
  | [d1, d2, d3] => { results := [.lit (.bool false)], args := [d1, d2, d3] }
  | _ => none }
def MemDoesWrongFalsely : Prop := memDoesRow.holds Try.pinned (OpenSpec.ofChange memDoesWrong)

/-- 'brackenlaw12.MemApart': WHATEVER THE INPUT: true; the input reads as it did. -/
def memApartSpec : ChangeSpec := { name := "memApart", fn := fun _ => fun
  | [d1, d2, d3] => { results := [.lit (.bool true)], args := [d1, d2, d3] }
  | _ => none }
def memApartRow : OpenClaim := { program := "ytopmikcljekdiaa", sum := "01050875fcd302afaeb8ebcb721c0ec657f2279aa5c229a5556b0a2bd6c70df7", func := "bracken/brackenlaw12.MemApart", spec := "memApart", unfollowed := true, recurses := true, apart := false }
def MemApartSaid : Prop := memApartRow.holds Try.pinned (OpenSpec.ofChange memApartSpec)

/-- ITS FALSE NEIGHBOUR: 'it returns false'. Refute it at one input. -/
def memApartWrong : ChangeSpec := { name := "memApart", fn := fun _ => fun
  | [d1, d2, d3] => { results := [.lit (.bool false)], args := [d1, d2, d3] }
  | _ => none }
def MemApartWrongFalsely : Prop := memApartRow.holds Try.pinned (OpenSpec.ofChange memApartWrong)

/-- 'brackenlaw12.MemCounts': WHATEVER THE INPUT: true; the input reads as it did. -/
def memCountsSpec : ChangeSpec := { name := "memCounts", fn := fun _ => fun
  | [d1, d2, d3] => { results := [.lit (.bool true)], args := [d1, d2, d3] }
  | _ => none }
def memCountsRow : OpenClaim := { program := "ytopmikcljekdiaa", sum := "01050875fcd302afaeb8ebcb721c0ec657f2279aa5c229a5556b0a2bd6c70df7", func := "bracken/brackenlaw12.MemCounts", spec := "memCounts", unfollowed := true, recurses := true, apart := false }
def MemCountsSaid : Prop := memCountsRow.holds Try.pinned (OpenSpec.ofChange memCountsSpec)

/-- ITS FALSE NEIGHBOUR: 'it returns false'. Refute it at one input. -/
def memCountsWrong : ChangeSpec := { name := "memCounts", fn := fun _ => fun
  | [d1, d2, d3] => { results := [.lit (.bool false)], args := [d1, d2, d3] }
  | _ => none }
def MemCountsWrongFalsely : Prop := memCountsRow.holds Try.pinned (OpenSpec.ofChange memCountsWrong)

/-- 'brackenlaw12.MemOrder': WHATEVER THE INPUT: true; the input reads as it did. -/
def memOrderSpec : ChangeSpec := { name := "memOrder", fn := fun _ => fun
  | [d1, d2, d3] => { results := [.lit (.bool true)], args := [d1, d2, d3] }
  | _ => none }
def memOrderRow : OpenClaim := { program := "ytopmikcljekdiaa", sum := "01050875fcd302afaeb8ebcb721c0ec657f2279aa5c229a5556b0a2bd6c70df7", func := "bracken/brackenlaw12.MemOrder", spec := "memOrder", unfollowed := true, recurses := true, apart := false }
def MemOrderSaid : Prop := memOrderRow.holds Try.pinned (OpenSpec.ofChange memOrderSpec)

/-- ITS FALSE NEIGHBOUR: 'it returns false'. Refute it at one input. -/
def memOrderWrong : ChangeSpec := { name := "memOrder", fn := fun _ => fun
  | [d1, d2, d3] => { results := [.lit (.bool false)], args := [d1, d2, d3] }
  | _ => none }
def MemOrderWrongFalsely : Prop := memOrderRow.holds Try.pinned (OpenSpec.ofChange memOrderWrong)

/-- 'brackenlaw12.MemStrikes': WHATEVER THE INPUT: true; the input reads as it did. -/
def memStrikesSpec : ChangeSpec := { name := "memStrikes", fn := fun _ => fun
  | [d1, d2, d3] => { results := [.lit (.bool true)], args := [d1, d2, d3] }
  | _ => none }
def memStrikesRow : OpenClaim := { program := "ytopmikcljekdiaa", sum := "01050875fcd302afaeb8ebcb721c0ec657f2279aa5c229a5556b0a2bd6c70df7", func := "bracken/brackenlaw12.MemStrikes", spec := "memStrikes", unfollowed := true, recurses := true, apart := false }
def MemStrikesSaid : Prop := memStrikesRow.holds Try.pinned (OpenSpec.ofChange memStrikesSpec)

/-- ITS FALSE NEIGHBOUR: 'it returns false'. Refute it at one input. -/
def memStrikesWrong : ChangeSpec := { name := "memStrikes", fn := fun _ => fun
  | [d1, d2, d3] => { results := [.lit (.bool false)], args := [d1, d2, d3] }
  | _ => none }
def MemStrikesWrongFalsely : Prop := memStrikesRow.holds Try.pinned (OpenSpec.ofChange memStrikesWrong)

/- THE SECOND FORM. 'bulk': how many values and letters a reading holds, each counted each time it is reached (what is shared counts as often as it is met; a slice's spare places count too). A statement '..UptoSaid' is the law's where the arguments, and the package variables that the reading takes, are together of bulk at most 1048576: NARROWER than '..Said'. Prove '..Said' where nothing that the law and all that it calls make is longer than what came in: it says more and counts as full. Else prove '..UptoSaid'. A law counts once. -/
mutual
def uptoBulk {H : Type} : DataW H → Nat
  | .lit (.string bytes) => bytes.length + 1
  | .lit _ => 1
  | .nil => 1
  | .ptr d => uptoBulk d + 1
  | .slice elems spare => uptoBulkAll elems + uptoBulkAll spare + 1
  | .agg parts => uptoBulkAll parts + 1
  | .iface _ d => uptoBulk d + 1
  | .map entries => uptoBulkEntries entries + 1
  | .held _ => 1
def uptoBulkAll {H : Type} : List (DataW H) → Nat
  | [] => 0
  | d :: r => uptoBulk d + uptoBulkAll r
def uptoBulkEntries {H : Type} : List (Lit × DataW H) → Nat
  | [] => 0
  | x :: r => uptoBulkEntry x + uptoBulkEntries r
def uptoBulkEntry {H : Type} : Lit × DataW H → Nat
  | (.string bytes, d) => bytes.length + uptoBulk d + 1
  | (_, d) => uptoBulk d + 1
 end
def uptoSmall : (H : Type) → List (DataW H) → Bool := fun _ ds => decide (uptoBulkAll ds ≤ 1048576)
def OpenSpec.upto (s : _root_.Go.ChangeSpec) : _root_.Go.OpenSpec := { _root_.Go.OpenSpec.ofChange s with cond := some uptoSmall }

/-- 'brackenlaw11.AgendaOrder', WHERE WHAT IT READS IS OF BULK AT MOST 1048576: true; the input reads as it did. -/
def agendaOrderUptoRow : OpenClaim := { program := "ytopmikcljekdiaa", sum := "01050875fcd302afaeb8ebcb721c0ec657f2279aa5c229a5556b0a2bd6c70df7", func := "bracken/brackenlaw11.AgendaOrder", spec := "agendaOrder", unfollowed := true, recurses := true, apart := false, narrowed := true }
def AgendaOrderUptoSaid : Prop := agendaOrderUptoRow.holds Try.pinned (OpenSpec.upto agendaOrderSpec)

/-- 'brackenlaw11.AgendaFull', WHERE WHAT IT READS IS OF BULK AT MOST 1048576: true; the input reads as it did. -/
def agendaFullUptoRow : OpenClaim := { program := "ytopmikcljekdiaa", sum := "01050875fcd302afaeb8ebcb721c0ec657f2279aa5c229a5556b0a2bd6c70df7", func := "bracken/brackenlaw11.AgendaFull", spec := "agendaFull", unfollowed := true, recurses := true, apart := false, narrowed := true }
def AgendaFullUptoSaid : Prop := agendaFullUptoRow.holds Try.pinned (OpenSpec.upto agendaFullSpec)

/-- 'brackenlaw11.AgendaDoes', WHERE WHAT IT READS IS OF BULK AT MOST 1048576: true; the input reads as it did. -/
def agendaDoesUptoRow : OpenClaim := { program := "ytopmikcljekdiaa", sum := "01050875fcd302afaeb8ebcb721c0ec657f2279aa5c229a5556b0a2bd6c70df7", func := "bracken/brackenlaw11.AgendaDoes", spec := "agendaDoes", unfollowed := true, recurses := true, apart := false, narrowed := true }
def AgendaDoesUptoSaid : Prop := agendaDoesUptoRow.holds Try.pinned (OpenSpec.upto agendaDoesSpec)

/-- 'brackenlaw11.AgendaAll', WHERE WHAT IT READS IS OF BULK AT MOST 1048576: true; the input reads as it did. -/
def agendaAllUptoRow : OpenClaim := { program := "ytopmikcljekdiaa", sum := "01050875fcd302afaeb8ebcb721c0ec657f2279aa5c229a5556b0a2bd6c70df7", func := "bracken/brackenlaw11.AgendaAll", spec := "agendaAll", unfollowed := true, recurses := true, apart := false, narrowed := true }
def AgendaAllUptoSaid : Prop := agendaAllUptoRow.holds Try.pinned (OpenSpec.upto agendaAllSpec)

/-- 'brackenlaw11.AgendaParts', WHERE WHAT IT READS IS OF BULK AT MOST 1048576: true; the input reads as it did. -/
def agendaPartsUptoRow : OpenClaim := { program := "ytopmikcljekdiaa", sum := "01050875fcd302afaeb8ebcb721c0ec657f2279aa5c229a5556b0a2bd6c70df7", func := "bracken/brackenlaw11.AgendaParts", spec := "agendaParts", unfollowed := true, recurses := true, apart := false, narrowed := true }
def AgendaPartsUptoSaid : Prop := agendaPartsUptoRow.holds Try.pinned (OpenSpec.upto agendaPartsSpec)

/-- 'brackenlaw11.AgendaNone', WHERE WHAT IT READS IS OF BULK AT MOST 1048576: true; the input reads as it did. -/
def agendaNoneUptoRow : OpenClaim := { program := "ytopmikcljekdiaa", sum := "01050875fcd302afaeb8ebcb721c0ec657f2279aa5c229a5556b0a2bd6c70df7", func := "bracken/brackenlaw11.AgendaNone", spec := "agendaNone", unfollowed := true, recurses := true, apart := false, narrowed := true }
def AgendaNoneUptoSaid : Prop := agendaNoneUptoRow.holds Try.pinned (OpenSpec.upto agendaNoneSpec)

/-- 'brackenlaw12.MemTick', WHERE WHAT IT READS IS OF BULK AT MOST 1048576: true; the input reads as it did. -/
def memTickUptoRow : OpenClaim := { program := "ytopmikcljekdiaa", sum := "01050875fcd302afaeb8ebcb721c0ec657f2279aa5c229a5556b0a2bd6c70df7", func := "bracken/brackenlaw12.MemTick", spec := "memTick", unfollowed := true, recurses := true, apart := false, narrowed := true }
def MemTickUptoSaid : Prop := memTickUptoRow.holds Try.pinned (OpenSpec.upto memTickSpec)

/-- 'brackenlaw12.MemKeeps', WHERE WHAT IT READS IS OF BULK AT MOST 1048576: true; the input reads as it did. -/
def memKeepsUptoRow : OpenClaim := { program := "ytopmikcljekdiaa", sum := "01050875fcd302afaeb8ebcb721c0ec657f2279aa5c229a5556b0a2bd6c70df7", func := "bracken/brackenlaw12.MemKeeps", spec := "memKeeps", unfollowed := true, recurses := true, apart := false, narrowed := true }
def MemKeepsUptoSaid : Prop := memKeepsUptoRow.holds Try.pinned (OpenSpec.upto memKeepsSpec)

/-- 'brackenlaw12.MemDoes', WHERE WHAT IT READS IS OF BULK AT MOST 1048576: true; the input reads as it did. -/
def memDoesUptoRow : OpenClaim := { program := "ytopmikcljekdiaa", sum := "01050875fcd302afaeb8ebcb721c0ec657f2279aa5c229a5556b0a2bd6c70df7", func := "bracken/brackenlaw12.MemDoes", spec := "memDoes", unfollowed := true, recurses := true, apart := false, narrowed := true }
def MemDoesUptoSaid : Prop := memDoesUptoRow.holds Try.pinned (OpenSpec.upto memDoesSpec)

/-- 'brackenlaw12.MemApart', WHERE WHAT IT READS IS OF BULK AT MOST 1048576: true; the input reads as it did. -/
def memApartUptoRow : OpenClaim := { program := "ytopmikcljekdiaa", sum := "01050875fcd302afaeb8ebcb721c0ec657f2279aa5c229a5556b0a2bd6c70df7", func := "bracken/brackenlaw12.MemApart", spec := "memApart", unfollowed := true, recurses := true, apart := false, narrowed := true }
def MemApartUptoSaid : Prop := memApartUptoRow.holds Try.pinned (OpenSpec.upto memApartSpec)

/-- 'brackenlaw12.MemCounts', WHERE WHAT IT READS IS OF BULK AT MOST 1048576: true; the input reads as it did. -/
def memCountsUptoRow : OpenClaim := { program := "ytopmikcljekdiaa", sum := "01050875fcd302afaeb8ebcb721c0ec657f2279aa5c229a5556b0a2bd6c70df7", func := "bracken/brackenlaw12.MemCounts", spec := "memCounts", unfollowed := true, recurses := true, apart := false, narrowed := true }
def MemCountsUptoSaid : Prop := memCountsUptoRow.holds Try.pinned (OpenSpec.upto memCountsSpec)

/-- 'brackenlaw12.MemOrder', WHERE WHAT IT READS IS OF BULK AT MOST 1048576: true; the input reads as it did. -/
def memOrderUptoRow : OpenClaim := { program := "ytopmikcljekdiaa", sum := "01050875fcd302afaeb8ebcb721c0ec657f2279aa5c229a5556b0a2bd6c70df7", func := "bracken/brackenlaw12.MemOrder", spec := "memOrder", unfollowed := true, recurses := true, apart := false, narrowed := true }
def MemOrderUptoSaid : Prop := memOrderUptoRow.holds Try.pinned (OpenSpec.upto memOrderSpec)

/-- 'brackenlaw12.MemStrikes', WHERE WHAT IT READS IS OF BULK AT MOST 1048576: true; the input reads as it did. -/
def memStrikesUptoRow : OpenClaim := { program := "ytopmikcljekdiaa", sum := "01050875fcd302afaeb8ebcb721c0ec657f2279aa5c229a5556b0a2bd6c70df7", func := "bracken/brackenlaw12.MemStrikes", spec := "memStrikes", unfollowed := true, recurses := true, apart := false, narrowed := true }
def MemStrikesUptoSaid : Prop := memStrikesUptoRow.holds Try.pinned (OpenSpec.upto memStrikesSpec)

end Rows
end Go.Proofs.Ytopmikcljekdiaa
