/-
  No cell of these rows narrows 'for every input' (looked for: loops, veiled, ifaces, maps, wideKeys, modest, calm, conditions, laid).
  DERIVED. THE GIVEN ROWS OF THIS SEAT. 6 by the template 'for every input the law returns true; each argument reads behind the call as it read before'; 0 by the template 'total and deterministic' (their statements: YtdadecjefafflaaTotals.lean).
  GIVEN WITH THE SEED: the statements are not yours to turn. If you find one false, say at which input.
  Laid BY PROGRAM, IN A SANDBOX (cutbox-rows.mjs): the forced cells as the released guide's own fill.sh prints them over the translation 160e9e3938ca7a91… (all of the seat's roots in one cut). By AI agents, Wed Nov 11 2026. No macro, syntax, notation, axiom, sorry.
-/
import Derived.Test.YtdadecjefafflaaChecked
import GoSem.Claim
import GoSem.ClaimJoined
import GoSem.ClaimMapViews
import Derived.JoinedTies
import Derived.KernelRfl
namespace Go.Proofs.Ytdadecjefafflaa
/- THE CELL 'sum', in the pinned program and in every row, IS THE sha256 OF THE DUMP (.gsa) THAT YtdadecjefafflaaProg.lean LOADS. Nothing in Lean hashes anything: it is a label: what it is worth is what the hold of that sum in a sandbox is worth. -/
noncomputable def Try.pinned : Pinned := { name := "ytdadecjefafflaa", sum := "160e9e3938ca7a91e22269a9dea41a835d113b816ebbdb8086f3ea48ce29dc30", checked := Try.checked }
namespace Rows
def none {H : Type} : Left H := { results := [], args := [] }

/-- 'culetlaw55.ScheduleBound': WHATEVER THE INPUT: true; the input reads as it did. -/
def scheduleBoundSpec : ChangeSpec := { name := "scheduleBound", fn := fun _ => fun
  | [d1, d2, d3] => { results := [.lit (.bool true)], args := [d1, d2, d3] }
  | _ => none }
def scheduleBoundRow : OpenClaim := { program := "ytdadecjefafflaa", sum := "160e9e3938ca7a91e22269a9dea41a835d113b816ebbdb8086f3ea48ce29dc30", func := "culet/culetlaw55.ScheduleBound", spec := "scheduleBound", unfollowed := true, recurses := true, apart := false }
def ScheduleBoundSaid : Prop := scheduleBoundRow.holds Try.pinned (OpenSpec.ofChange scheduleBoundSpec)

/-- ITS FALSE NEIGHBOUR: 'it returns false'. Refute it at one input. -/
def scheduleBoundWrong : ChangeSpec := { name := "scheduleBound", fn := fun _ => fun
  | [d1, d2, d3] => { results := [.lit (.bool false)], args := [d1, d2, d3] }
  | _ => none }
def ScheduleBoundWrongFalsely : Prop := scheduleBoundRow.holds Try.pinned (OpenSpec.ofChange scheduleBoundWrong)

/-- 'culetlaw55.ScheduleOne': WHATEVER THE INPUT: true; the input reads as it did. -/
def scheduleOneSpec : ChangeSpec := { name := "scheduleOne", fn := fun _ => fun
  | [d1, d2] => { results := [.lit (.bool true)], args := [d1, d2] }
  | _ => none }
def scheduleOneRow : OpenClaim := { program := "ytdadecjefafflaa", sum := "160e9e3938ca7a91e22269a9dea41a835d113b816ebbdb8086f3ea48ce29dc30", func := "culet/culetlaw55.ScheduleOne", spec := "scheduleOne", unfollowed := true, recurses := true, apart := false }
def ScheduleOneSaid : Prop := scheduleOneRow.holds Try.pinned (OpenSpec.ofChange scheduleOneSpec)

/-- ITS FALSE NEIGHBOUR: 'it returns false'. Refute it at one input. -/
def scheduleOneWrong : ChangeSpec := { name := "scheduleOne", fn := fun _ => fun
  | [d1, d2] => { results := [.lit (.bool false)], args := [d1, d2] }
  | _ => none }
def ScheduleOneWrongFalsely : Prop := scheduleOneRow.holds Try.pinned (OpenSpec.ofChange scheduleOneWrong)

/-- 'culetlaw55.ScheduleBest': WHATEVER THE INPUT: true; the input reads as it did. -/
def scheduleBestSpec : ChangeSpec := { name := "scheduleBest", fn := fun _ => fun
  | [d1, d2] => { results := [.lit (.bool true)], args := [d1, d2] }
  | _ => none }
def scheduleBestRow : OpenClaim := { program := "ytdadecjefafflaa", sum := "160e9e3938ca7a91e22269a9dea41a835d113b816ebbdb8086f3ea48ce29dc30", func := "culet/culetlaw55.ScheduleBest", spec := "scheduleBest", unfollowed := true, recurses := true, apart := false }
def ScheduleBestSaid : Prop := scheduleBestRow.holds Try.pinned (OpenSpec.ofChange scheduleBestSpec)

/-- ITS FALSE NEIGHBOUR: 'it returns false'. Refute it at one input. -/
def scheduleBestWrong : ChangeSpec := { name := "scheduleBest", fn := fun _ => fun
  | [d1, d2] => { results := [.lit (.bool false)], args := [d1, d2] }
  | _ => none }
def ScheduleBestWrongFalsely : Prop := scheduleBestRow.holds Try.pinned (OpenSpec.ofChange scheduleBestWrong)

/-- 'culetlaw55.ScheduleDelay': WHATEVER THE INPUT: true; the input reads as it did. -/
def scheduleDelaySpec : ChangeSpec := { name := "scheduleDelay", fn := fun _ => fun
  | [d1, d2, d3] => { results := [.lit (.bool true)], args := [d1, d2, d3] }
  | _ => none }
def scheduleDelayRow : OpenClaim := { program := "ytdadecjefafflaa", sum := "160e9e3938ca7a91e22269a9dea41a835d113b816ebbdb8086f3ea48ce29dc30", func := "culet/culetlaw55.ScheduleDelay", spec := "scheduleDelay", unfollowed := true, recurses := true, apart := false }
def ScheduleDelaySaid : Prop := scheduleDelayRow.holds Try.pinned (OpenSpec.ofChange scheduleDelaySpec)

/-- ITS FALSE NEIGHBOUR: 'it returns false'. Refute it at one input. -/
def scheduleDelayWrong : ChangeSpec := { name := "scheduleDelay", fn := fun _ => fun
  | [d1, d2, d3] => { results := [.lit (.bool false)], args := [d1, d2, d3] }
  | _ => none }
def ScheduleDelayWrongFalsely : Prop := scheduleDelayRow.holds Try.pinned (OpenSpec.ofChange scheduleDelayWrong)

/-- 'culetlaw55.ScheduleList': WHATEVER THE INPUT: true; the input reads as it did. -/
def scheduleListSpec : ChangeSpec := { name := "scheduleList", fn := fun _ => fun
  | [d1, d2] => { results := [.lit (.bool true)], args := [d1, d2] }
  | _ => none }
def scheduleListRow : OpenClaim := { program := "ytdadecjefafflaa", sum := "160e9e3938ca7a91e22269a9dea41a835d113b816ebbdb8086f3ea48ce29dc30", func := "culet/culetlaw55.ScheduleList", spec := "scheduleList", unfollowed := true, recurses := true, apart := false }
def ScheduleListSaid : Prop := scheduleListRow.holds Try.pinned (OpenSpec.ofChange scheduleListSpec)

/-- ITS FALSE NEIGHBOUR: 'it returns false'. Refute it at one input. -/
def scheduleListWrong : ChangeSpec := { name := "scheduleList", fn := fun _ => fun
  | [d1, d2] => { results := [.lit (.bool false)], args := [d1, d2] }
  | _ => none }
def ScheduleListWrongFalsely : Prop := scheduleListRow.holds Try.pinned (OpenSpec.ofChange scheduleListWrong)

/-- 'culetlaw55.ScheduleDue': WHATEVER THE INPUT: true; the input reads as it did. -/
def scheduleDueSpec : ChangeSpec := { name := "scheduleDue", fn := fun _ => fun
  | [d1, d2] => { results := [.lit (.bool true)], args := [d1, d2] }
  | _ => none }
def scheduleDueRow : OpenClaim := { program := "ytdadecjefafflaa", sum := "160e9e3938ca7a91e22269a9dea41a835d113b816ebbdb8086f3ea48ce29dc30", func := "culet/culetlaw55.ScheduleDue", spec := "scheduleDue", unfollowed := true, recurses := true, apart := false }
def ScheduleDueSaid : Prop := scheduleDueRow.holds Try.pinned (OpenSpec.ofChange scheduleDueSpec)

/-- ITS FALSE NEIGHBOUR: 'it returns false'. Refute it at one input. -/
def scheduleDueWrong : ChangeSpec := { name := "scheduleDue", fn := fun _ => fun
  | [d1, d2] => { results := [.lit (.bool false)], args := [d1, d2] }
  | _ => none }
def ScheduleDueWrongFalsely : Prop := scheduleDueRow.holds Try.pinned (OpenSpec.ofChange scheduleDueWrong)

/- THE SECOND FORM. 'bulk': how many values and letters a reading holds, each counted each time it is reached (what is shared counts as often as it is met; a slice's spare places count too). A statement '..UptoSaid' is the law's where the arguments, and the package variables that the reading takes, are together of bulk at most 1048576: NARROWER than '..Said'. Prove '..Said' where nothing that the law and all that it calls make is longer than what came in: it says more and counts as full. Else prove '..UptoSaid'. A law counts once. -/
mutual
def uptoBulk {H : Type} : DataW H → Nat
  | .lit (.string bytes) => bytes.length + 1
  | .lit _ => 1
  | .nil => 1
  | .ptr d => uptoBulk d + 1
  | .slice elems spare => uptoBulkAll elems + uptoBulkAll spare + 1
  | .agg parts => uptoBulkAll parts + 1
  | .iface _ d => uptoBulk d + 1
  | .map entries => uptoBulkEntries entries + 1
  | .held _ => 1
def uptoBulkAll {H : Type} : List (DataW H) → Nat
  | [] => 0
  | d :: r => uptoBulk d + uptoBulkAll r
def uptoBulkEntries {H : Type} : List (Lit × DataW H) → Nat
  | [] => 0
  | x :: r => uptoBulkEntry x + uptoBulkEntries r
def uptoBulkEntry {H : Type} : Lit × DataW H → Nat
  | (.string bytes, d) => bytes.length + uptoBulk d + 1
  | (_, d) => uptoBulk d + 1
 end
def uptoSmall : (H : Type) → List (DataW H) → Bool := fun _ ds => decide (uptoBulkAll ds ≤ 1048576)
def OpenSpec.upto (s : _root_.Go.ChangeSpec) : _root_.Go.OpenSpec := { _root_.Go.OpenSpec.ofChange s with cond := some uptoSmall }

/-- 'culetlaw55.ScheduleBound', WHERE WHAT IT READS IS OF BULK AT MOST 1048576: true; the input reads as it did. -/
def scheduleBoundUptoRow : OpenClaim := { program := "ytdadecjefafflaa", sum := "160e9e3938ca7a91e22269a9dea41a835d113b816ebbdb8086f3ea48ce29dc30", func := "culet/culetlaw55.ScheduleBound", spec := "scheduleBound", unfollowed := true, recurses := true, apart := false, narrowed := true }
def ScheduleBoundUptoSaid : Prop := scheduleBoundUptoRow.holds Try.pinned (OpenSpec.upto scheduleBoundSpec)

/-- 'culetlaw55.ScheduleOne', WHERE WHAT IT READS IS OF BULK AT MOST 1048576: true; the input reads as it did. -/
def scheduleOneUptoRow : OpenClaim := { program := "ytdadecjefafflaa", sum := "160e9e3938ca7a91e22269a9dea41a835d113b816ebbdb8086f3ea48ce29dc30", func := "culet/culetlaw55.ScheduleOne", spec := "scheduleOne", unfollowed := true, recurses := true, apart := false, narrowed := true }
def ScheduleOneUptoSaid : Prop := scheduleOneUptoRow.holds Try.pinned (OpenSpec.upto scheduleOneSpec)

/-- 'culetlaw55.ScheduleBest', WHERE WHAT IT READS IS OF BULK AT MOST 1048576: true; the input reads as it did. -/
def scheduleBestUptoRow : OpenClaim := { program := "ytdadecjefafflaa", sum := "160e9e3938ca7a91e22269a9dea41a835d113b816ebbdb8086f3ea48ce29dc30", func := "culet/culetlaw55.ScheduleBest", spec := "scheduleBest", unfollowed := true, recurses := true, apart := false, narrowed := true }
def ScheduleBestUptoSaid : Prop := scheduleBestUptoRow.holds Try.pinned (OpenSpec.upto scheduleBestSpec)

/-- 'culetlaw55.ScheduleDelay', WHERE WHAT IT READS IS OF BULK AT MOST 1048576: true; the input reads as it did. -/
def scheduleDelayUptoRow : OpenClaim := { program := "ytdadecjefafflaa", sum := "160e9e3938ca7a91e22269a9dea41a835d113b816ebbdb8086f3ea48ce29dc30", func := "culet/culetlaw55.ScheduleDelay", spec := "scheduleDelay", unfollowed := true, recurses := true, apart := false, narrowed := true }
def ScheduleDelayUptoSaid : Prop := scheduleDelayUptoRow.holds Try.pinned (OpenSpec.upto scheduleDelaySpec)

/-- 'culetlaw55.ScheduleList', WHERE WHAT IT READS IS OF BULK AT MOST 1048576: true; the input reads as it did. -/
def scheduleListUptoRow : OpenClaim := { program := "ytdadecjefafflaa", sum := "160e9e3938ca7a91e22269a9dea41a835d113b816ebbdb8086f3ea48ce29dc30", func := "culet/culetlaw55.ScheduleList", spec := "scheduleList", unfollowed := true, recurses := true, apart := false, narrowed := true }
def ScheduleListUptoSaid : Prop := scheduleListUptoRow.holds Try.pinned (OpenSpec.upto scheduleListSpec)

/-- 'culetlaw55.ScheduleDue', WHERE WHAT IT READS IS OF BULK AT MOST 1048576: true; the input reads as it did. -/
def scheduleDueUptoRow : OpenClaim := { program := "ytdadecjefafflaa", sum := "160e9e3938ca7a91e22269a9dea41a835d113b816ebbdb8086f3ea48ce29dc30", func := "culet/culetlaw55.ScheduleDue", spec := "scheduleDue", unfollowed := true, recurses := true, apart := false, narrowed := true }
def ScheduleDueUptoSaid : Prop := scheduleDueUptoRow.holds Try.pinned (OpenSpec.upto scheduleDueSpec)

end Rows
end Go.Proofs.Ytdadecjefafflaa
