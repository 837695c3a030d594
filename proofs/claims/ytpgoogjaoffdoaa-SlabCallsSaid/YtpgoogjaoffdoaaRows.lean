/-
  No cell of these rows narrows 'for every input' (looked for: loops, veiled, ifaces, maps, wideKeys, modest, calm, conditions, laid).
  DERIVED. THE GIVEN ROWS OF THIS SEAT. 5 by the template 'for every input the law returns true; each argument reads behind the call as it read before'; 0 by the template 'total and deterministic' (their statements: YtpgoogjaoffdoaaTotals.lean).
  GIVEN WITH THE SEED: the statements are not yours to turn. If you find one false, say at which input.
  Laid BY PROGRAM, IN A SANDBOX (cutbox-rows.mjs): the forced cells as the released guide's own fill.sh prints them over the translation 05ba9d2fe450b0e7… (all of the seat's roots in one cut). By AI agents, Wed Nov 11 2026. No macro, syntax, notation, axiom, sorry.
-/
import Derived.Test.YtpgoogjaoffdoaaChecked
import GoSem.Claim
import GoSem.ClaimJoined
import GoSem.ClaimMapViews
import Derived.JoinedTies
import Derived.KernelRfl
namespace Go.Proofs.Ytpgoogjaoffdoaa
/- THE CELL 'sum', in the pinned program and in every row, IS THE sha256 OF THE DUMP (.gsa) THAT YtpgoogjaoffdoaaProg.lean LOADS. Nothing in Lean hashes anything: it is a label: what it is worth is what the hold of that sum in a sandbox is worth. -/
noncomputable def Try.pinned : Pinned := { name := "ytpgoogjaoffdoaa", sum := "05ba9d2fe450b0e78dda5b64ff950694662d38cd2ea8b84bfbb5eede6d2f3a71", checked := Try.checked }
namespace Rows
def none {H : Type} : Left H := { results := [], args := [] }

/-- 'droguelaw01.SlabCalls': WHATEVER THE INPUT: true; the input reads as it did. -/
def slabCallsSpec : ChangeSpec := { name := "slabCalls", fn := fun _ => fun
  | [d1, d2, d3] => { results := [.lit (.bool true)], args := [d1, d2, d3] }
  | _ => none }
def slabCallsRow : OpenClaim := { program := "ytpgoogjaoffdoaa", sum := "05ba9d2fe450b0e78dda5b64ff950694662d38cd2ea8b84bfbb5eede6d2f3a71", func := "drogue/droguelaw01.SlabCalls", spec := "slabCalls", unfollowed := true, recurses := true, apart := false }
def SlabCallsSaid : Prop := slabCallsRow.holds Try.pinned (OpenSpec.ofChange slabCallsSpec)

/-- ITS FALSE NEIGHBOUR: 'it returns false'. Refute it at one input. -/
def slabCallsWrong : ChangeSpec := { name := "slabCalls", fn := fun _ => fun
  | [d1, d2, d3] => { results := [.lit (.bool false)], args := [d1, d2, d3] }
  | _ => none }
def SlabCallsWrongFalsely : Prop := slabCallsRow.holds Try.pinned (OpenSpec.ofChange slabCallsWrong)

/-- 'droguelaw01.SlabOnce': WHATEVER THE INPUT: true; the input reads as it did. -/
def slabOnceSpec : ChangeSpec := { name := "slabOnce", fn := fun _ => fun
  | [d1, d2, d3] => { results := [.lit (.bool true)], args := [d1, d2, d3] }
  | _ => none }
def slabOnceRow : OpenClaim := { program := "ytpgoogjaoffdoaa", sum := "05ba9d2fe450b0e78dda5b64ff950694662d38cd2ea8b84bfbb5eede6d2f3a71", func := "drogue/droguelaw01.SlabOnce", spec := "slabOnce", unfollowed := true, recurses := true, apart := false }
def SlabOnceSaid : Prop := slabOnceRow.holds Try.pinned (OpenSpec.ofChange slabOnceSpec)

/-- ITS FALSE NEIGHBOUR: 'it returns false'. Refute it at one input. -/
def slabOnceWrong : ChangeSpec := { name := "slabOnce", fn := fun _ => fun
  | [d1, d2, d3] => { results := [.lit (.bool false)], args := [d1, d2, d3] }
  | _ => none }
def SlabOnceWrongFalsely : Prop := slabOnceRow.holds Try.pinned (OpenSpec.ofChange slabOnceWrong)

/-- 'droguelaw01.SlabHolds': WHATEVER THE INPUT: true; the input reads as it did. -/
def slabHoldsSpec : ChangeSpec := { name := "slabHolds", fn := fun _ => fun
  | [d1, d2, d3] => { results := [.lit (.bool true)], args := [d1, d2, d3] }
  | _ => none }
def slabHoldsRow : OpenClaim := { program := "ytpgoogjaoffdoaa", sum := "05ba9d2fe450b0e78dda5b64ff950694662d38cd2ea8b84bfbb5eede6d2f3a71", func := "drogue/droguelaw01.SlabHolds", spec := "slabHolds", unfollowed := true, recurses := true, apart := false }
def SlabHoldsSaid : Prop := slabHoldsRow.holds Try.pinned (OpenSpec.ofChange slabHoldsSpec)

/-- ITS FALSE NEIGHBOUR: 'it returns false'. Refute it at one input. -/
def slabHoldsWrong : ChangeSpec := { name := "slabHolds", fn := fun _ => fun
  | [d1, d2, d3] => { results := [.lit (.bool false)], args := [d1, d2, d3] }
  | _ => none }
def SlabHoldsWrongFalsely : Prop := slabHoldsRow.holds Try.pinned (OpenSpec.ofChange slabHoldsWrong)

/-- 'droguelaw01.SlabRoom': WHATEVER THE INPUT: true; the input reads as it did. -/
def slabRoomSpec : ChangeSpec := { name := "slabRoom", fn := fun _ => fun
  | [d1, d2, d3] => { results := [.lit (.bool true)], args := [d1, d2, d3] }
  | _ => none }
def slabRoomRow : OpenClaim := { program := "ytpgoogjaoffdoaa", sum := "05ba9d2fe450b0e78dda5b64ff950694662d38cd2ea8b84bfbb5eede6d2f3a71", func := "drogue/droguelaw01.SlabRoom", spec := "slabRoom", unfollowed := true, recurses := true, apart := false }
def SlabRoomSaid : Prop := slabRoomRow.holds Try.pinned (OpenSpec.ofChange slabRoomSpec)

/-- ITS FALSE NEIGHBOUR: 'it returns false'. Refute it at one input. -/
def slabRoomWrong : ChangeSpec := { name := "slabRoom", fn := fun _ => fun
  | [d1, d2, d3] => { results := [.lit (.bool false)], args := [d1, d2, d3] }
  | _ => none }
def SlabRoomWrongFalsely : Prop := slabRoomRow.holds Try.pinned (OpenSpec.ofChange slabRoomWrong)

/-- 'droguelaw01.SlabOffs': WHATEVER THE INPUT: true; the input reads as it did. -/
def slabOffsSpec : ChangeSpec := { name := "slabOffs", fn := fun _ => fun
  | [d1, d2, d3, d4] => { results := [.lit (.bool true)], args := [d1, d2, d3, d4] }
  | _ => none }
def slabOffsRow : OpenClaim := { program := "ytpgoogjaoffdoaa", sum := "05ba9d2fe450b0e78dda5b64ff950694662d38cd2ea8b84bfbb5eede6d2f3a71", func := "drogue/droguelaw01.SlabOffs", spec := "slabOffs", unfollowed := true, recurses := true, apart := false }
def SlabOffsSaid : Prop := slabOffsRow.holds Try.pinned (OpenSpec.ofChange slabOffsSpec)

/-- ITS FALSE NEIGHBOUR: 'it returns false'. Refute it at one input. -/
def slabOffsWrong : ChangeSpec := { name := "slabOffs", fn := fun _ => fun
  | [d1, d2, d3, d4] => { results := [.lit (.bool false)], args := [d1, d2, d3, d4] }
  | _ => none }
def SlabOffsWrongFalsely : Prop := slabOffsRow.holds Try.pinned (OpenSpec.ofChange slabOffsWrong)

/- THE SECOND FORM. 'bulk': how many values and letters a reading holds, each counted each time it is reached (what is shared counts as often as it is met; a slice's spare places count too). A statement '..UptoSaid' is the law's where the arguments, and the package variables that the reading takes, are together of bulk at most 1048576: NARROWER than '..Said'. Prove '..Said' where nothing that the law and all that it calls make is longer than what came in: it says more and counts as full. Else prove '..UptoSaid'. A law counts once. -/
mutual
def uptoBulk {H : Type} : DataW H → Nat
  | .lit (.string bytes) => bytes.length + 1
  | .lit _ => 1
  | .nil => 1
  | .ptr d => uptoBulk d + 1
  | .slice elems spare => uptoBulkAll elems + uptoBulkAll spare + 1
  | .agg parts => uptoBulkAll parts + 1
  | .iface _ d => uptoBulk d + 1
  | .map entries => uptoBulkEntries entries + 1
  | .held _ => 1
def uptoBulkAll {H : Type} : List (DataW H) → Nat
  | [] => 0
  | d :: r => uptoBulk d + uptoBulkAll r
def uptoBulkEntries {H : Type} : List (Lit × DataW H) → Nat
  | [] => 0
  | x :: r => uptoBulkEntry x + uptoBulkEntries r
def uptoBulkEntry {H : Type} : Lit × DataW H → Nat
  | (.string bytes, d) => bytes.length + uptoBulk d + 1
  | (_, d) => uptoBulk d + 1
 end
def uptoSmall : (H : Type) → List (DataW H) → Bool := fun _ ds => decide (uptoBulkAll ds ≤ 1048576)
def OpenSpec.upto (s : _root_.Go.ChangeSpec) : _root_.Go.OpenSpec := { _root_.Go.OpenSpec.ofChange s with cond := some uptoSmall }

/-- 'droguelaw01.SlabCalls', WHERE WHAT IT READS IS OF BULK AT MOST 1048576: true; the input reads as it did. -/
def slabCallsUptoRow : OpenClaim := { program := "ytpgoogjaoffdoaa", sum := "05ba9d2fe450b0e78dda5b64ff950694662d38cd2ea8b84bfbb5eede6d2f3a71", func := "drogue/droguelaw01.SlabCalls", spec := "slabCalls", unfollowed := true, recurses := true, apart := false, narrowed := true }
def SlabCallsUptoSaid : Prop := slabCallsUptoRow.holds Try.pinned (OpenSpec.upto slabCallsSpec)

/-- 'droguelaw01.SlabOnce', WHERE WHAT IT READS IS OF BULK AT MOST 1048576: true; the input reads as it did. -/
def slabOnceUptoRow : OpenClaim := { program := "ytpgoogjaoffdoaa", sum := "05ba9d2fe450b0e78dda5b64ff950694662d38cd2ea8b84bfbb5eede6d2f3a71", func := "drogue/droguelaw01.SlabOnce", spec := "slabOnce", unfollowed := true, recurses := true, apart := false, narrowed := true }
def SlabOnceUptoSaid : Prop := slabOnceUptoRow.holds Try.pinned (OpenSpec.upto slabOnceSpec)

/-- 'droguelaw01.SlabHolds', WHERE WHAT IT READS IS OF BULK AT MOST 1048576: true; the input reads as it did. -/
def slabHoldsUptoRow : OpenClaim := { program := "ytpgoogjaoffdoaa", sum := "05ba9d2fe450b0e78dda5b64ff950694662d38cd2ea8b84bfbb5eede6d2f3a71", func := "drogue/droguelaw01.SlabHolds", spec := "slabHolds", unfollowed := true, recurses := true, apart := false, narrowed := true }
def SlabHoldsUptoSaid : Prop := slabHoldsUptoRow.holds Try.pinned (OpenSpec.upto slabHoldsSpec)

/-- 'droguelaw01.SlabRoom', WHERE WHAT IT READS IS OF BULK AT MOST 1048576: true; the input reads as it did. -/
def slabRoomUptoRow : OpenClaim := { program := "ytpgoogjaoffdoaa", sum := "05ba9d2fe450b0e78dda5b64ff950694662d38cd2ea8b84bfbb5eede6d2f3a71", func := "drogue/droguelaw01.SlabRoom", spec := "slabRoom", unfollowed := true, recurses := true, apart := false, narrowed := true }
def SlabRoomUptoSaid : Prop := slabRoomUptoRow.holds Try.pinned (OpenSpec.upto slabRoomSpec)

/-- 'droguelaw01.SlabOffs', WHERE WHAT IT READS IS OF BULK AT MOST 1048576: true; the input reads as it did. -/
def slabOffsUptoRow : OpenClaim := { program := "ytpgoogjaoffdoaa", sum := "05ba9d2fe450b0e78dda5b64ff950694662d38cd2ea8b84bfbb5eede6d2f3a71", func := "drogue/droguelaw01.SlabOffs", spec := "slabOffs", unfollowed := true, recurses := true, apart := false, narrowed := true }
def SlabOffsUptoSaid : Prop := slabOffsUptoRow.holds Try.pinned (OpenSpec.upto slabOffsSpec)

end Rows
end Go.Proofs.Ytpgoogjaoffdoaa
