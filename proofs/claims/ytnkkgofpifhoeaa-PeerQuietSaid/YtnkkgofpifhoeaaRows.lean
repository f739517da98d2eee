/-
  No cell of these rows narrows 'for every input' (looked for: loops, veiled, ifaces, maps, wideKeys, modest, calm, conditions, laid).
  DERIVED. THE GIVEN ROWS OF THIS SEAT. 12 by the template 'for every input the law returns true; each argument reads behind the call as it read before'; 0 by the template 'total and deterministic' (their statements: YtnkkgofpifhoeaaTotals.lean).
  GIVEN WITH THE SEED: the statements are not yours to turn. If you find one false, say at which input.
  Laid BY PROGRAM, IN A SANDBOX (cutbox-rows.mjs): the forced cells as the released guide's own fill.sh prints them over the translation 997140a296e91d0e… (all of the seat's roots in one cut). By AI agents, Wed Nov 11 2026. No macro, syntax, notation, axiom, sorry.
-/
import Derived.Test.YtnkkgofpifhoeaaChecked
import GoSem.Claim
import GoSem.ClaimJoined
import GoSem.ClaimMapViews
import Derived.JoinedTies
import Derived.KernelRfl
namespace Go.Proofs.Ytnkkgofpifhoeaa
/- THE CELL 'sum', in the pinned program and in every row, IS THE sha256 OF THE DUMP (.gsa) THAT YtnkkgofpifhoeaaProg.lean LOADS. Nothing in Lean hashes anything: it is a label: what it is worth is what the hold of that sum in a sandbox is worth. -/
noncomputable def Try.pinned : Pinned := { name := "ytnkkgofpifhoeaa", sum := "997140a296e91d0e46ef409b4cc31098860fe7e779673faafdf7902be6a8aca4", checked := Try.checked }
namespace Rows
def none {H : Type} : Left H := { results := [], args := [] }

/-- 'rookerylaw10.PackDecodes': WHATEVER THE INPUT: true; the input reads as it did. -/
def packDecodesSpec : ChangeSpec := { name := "packDecodes", fn := fun _ => fun
  | [d] => { results := [.lit (.bool true)], args := [d] }
  | _ => none }
def packDecodesRow : OpenClaim := { program := "ytnkkgofpifhoeaa", sum := "997140a296e91d0e46ef409b4cc31098860fe7e779673faafdf7902be6a8aca4", func := "rookery/rookerylaw10.PackDecodes", spec := "packDecodes", inPlace := ["math.Float64bits", "math.Float64frombits"], apart := false }
def PackDecodesSaid : Prop := packDecodesRow.holds Try.pinned (OpenSpec.ofChange packDecodesSpec)

/-- ITS FALSE NEIGHBOUR: 'it returns false'. Refute it at one input. -/
def packDecodesWrong : ChangeSpec := { name := "packDecodes", fn := fun _ => fun
  | [d] => { results := [.lit (.bool false)], args := [d] }
  | _ => none }
def PackDecodesWrongFalsely : Prop := packDecodesRow.holds Try.pinned (OpenSpec.ofChange packDecodesWrong)

/-- 'rookerylaw10.PackOne': WHATEVER THE INPUT: true; the input reads as it did. -/
def packOneSpec : ChangeSpec := { name := "packOne", fn := fun _ => fun
  | [d] => { results := [.lit (.bool true)], args := [d] }
  | _ => none }
def packOneRow : OpenClaim := { program := "ytnkkgofpifhoeaa", sum := "997140a296e91d0e46ef409b4cc31098860fe7e779673faafdf7902be6a8aca4", func := "rookery/rookerylaw10.PackOne", spec := "packOne", inPlace := ["math.Float64bits", "math.Float64frombits"], apart := false }
def PackOneSaid : Prop := packOneRow.holds Try.pinned (OpenSpec.ofChange packOneSpec)

/-- ITS FALSE NEIGHBOUR: 'it returns false'. Refute it at one input. -/
def packOneWrong : ChangeSpec := { name := "packOne", fn := fun _ => fun
  | [d] => { results := [.lit (.bool false)], args := [d] }
  | _ => none }
def PackOneWrongFalsely : Prop := packOneRow.holds Try.pinned (OpenSpec.ofChange packOneWrong)

/-- 'rookerylaw13.ChartStays': WHATEVER THE INPUT: true; the input reads as it did. -/
def chartStaysSpec : ChangeSpec := { name := "chartStays", fn := fun _ => fun
  | [d1, d2, d3, d4] => { results := [.lit (.bool true)], args := [d1, d2, d3, d4] }
  | _ => none }
def chartStaysRow : OpenClaim := { program := "ytnkkgofpifhoeaa", sum := "997140a296e91d0e46ef409b4cc31098860fe7e779673faafdf7902be6a8aca4", func := "rookery/rookerylaw13.ChartStays", spec := "chartStays", unfollowed := true, recurses := true, apart := false }
def ChartStaysSaid : Prop := chartStaysRow.holds Try.pinned (OpenSpec.ofChange chartStaysSpec)

/-- ITS FALSE NEIGHBOUR: 'it returns false'. Refute it at one input. -/
def chartStaysWrong : ChangeSpec := { name := "chartStays", fn := fun _ => fun
  | [d1, d2, d3, d4] => { results := [.lit (.bool false)], args := [d1, d2, d3, d4] }
  | _ => none }
def ChartStaysWrongFalsely : Prop := chartStaysRow.holds Try.pinned (OpenSpec.ofChange chartStaysWrong)

/-- 'rookerylaw11.LinkQueue': WHATEVER THE INPUT: true; the input reads as it did. -/
def linkQueueSpec : ChangeSpec := { name := "linkQueue", fn := fun _ => fun
  | [d1, d2] => { results := [.lit (.bool true)], args := [d1, d2] }
  | _ => none }
def linkQueueRow : OpenClaim := { program := "ytnkkgofpifhoeaa", sum := "997140a296e91d0e46ef409b4cc31098860fe7e779673faafdf7902be6a8aca4", func := "rookery/rookerylaw11.LinkQueue", spec := "linkQueue", unfollowed := true, recurses := true, apart := false }
def LinkQueueSaid : Prop := linkQueueRow.holds Try.pinned (OpenSpec.ofChange linkQueueSpec)

/-- ITS FALSE NEIGHBOUR: 'it returns false'. Refute it at one input. -/
def linkQueueWrong : ChangeSpec := { name := "linkQueue", fn := fun _ => fun
  | [d1, d2] => { results := [.lit (.bool false)], args := [d1, d2] }
  | _ => none }
def LinkQueueWrongFalsely : Prop := linkQueueRow.holds Try.pinned (OpenSpec.ofChange linkQueueWrong)

/-- 'rookerylaw12.PairOrder': WHATEVER THE INPUT: true; the input reads as it did. -/
def pairOrderSpec : ChangeSpec := { name := "pairOrder", fn := fun _ => fun
  | [d] => { results := [.lit (.bool true)], args := [d] }
  | _ => none }
def pairOrderRow : OpenClaim := { program := "ytnkkgofpifhoeaa", sum := "997140a296e91d0e46ef409b4cc31098860fe7e779673faafdf7902be6a8aca4", func := "rookery/rookerylaw12.PairOrder", spec := "pairOrder", unfollowed := true, recurses := true, apart := false }
def PairOrderSaid : Prop := pairOrderRow.holds Try.pinned (OpenSpec.ofChange pairOrderSpec)

/-- ITS FALSE NEIGHBOUR: 'it returns false'. Refute it at one input. -/
def pairOrderWrong : ChangeSpec := { name := "pairOrder", fn := fun _ => fun
  | [d] => { results := [.lit (.bool false)], args := [d] }
  | _ => none }
def PairOrderWrongFalsely : Prop := pairOrderRow.holds Try.pinned (OpenSpec.ofChange pairOrderWrong)

/-- 'rookerylaw12.PairEpochs': WHATEVER THE INPUT: true; the input reads as it did. -/
def pairEpochsSpec : ChangeSpec := { name := "pairEpochs", fn := fun _ => fun
  | [d] => { results := [.lit (.bool true)], args := [d] }
  | _ => none }
def pairEpochsRow : OpenClaim := { program := "ytnkkgofpifhoeaa", sum := "997140a296e91d0e46ef409b4cc31098860fe7e779673faafdf7902be6a8aca4", func := "rookery/rookerylaw12.PairEpochs", spec := "pairEpochs", unfollowed := true, recurses := true, apart := false }
def PairEpochsSaid : Prop := pairEpochsRow.holds Try.pinned (OpenSpec.ofChange pairEpochsSpec)

/-- ITS FALSE NEIGHBOUR: 'it returns false'. Refute it at one input. -/
def pairEpochsWrong : ChangeSpec := { name := "pairEpochs", fn := fun _ => fun
  | [d] => { results := [.lit (.bool false)], args := [d] }
  | _ => none }
def PairEpochsWrongFalsely : Prop := pairEpochsRow.holds Try.pinned (OpenSpec.ofChange pairEpochsWrong)

/-- 'rookerylaw12.PairAll': WHATEVER THE INPUT: true; the input reads as it did. -/
def pairAllSpec : ChangeSpec := { name := "pairAll", fn := fun _ => fun
  | [d1, d2, d3] => { results := [.lit (.bool true)], args := [d1, d2, d3] }
  | _ => none }
def pairAllRow : OpenClaim := { program := "ytnkkgofpifhoeaa", sum := "997140a296e91d0e46ef409b4cc31098860fe7e779673faafdf7902be6a8aca4", func := "rookery/rookerylaw12.PairAll", spec := "pairAll", unfollowed := true, recurses := true, apart := false }
def PairAllSaid : Prop := pairAllRow.holds Try.pinned (OpenSpec.ofChange pairAllSpec)

/-- ITS FALSE NEIGHBOUR: 'it returns false'. Refute it at one input. -/
def pairAllWrong : ChangeSpec := { name := "pairAll", fn := fun _ => fun
  | [d1, d2, d3] => { results := [.lit (.bool false)], args := [d1, d2, d3] }
  | _ => none }
def PairAllWrongFalsely : Prop := pairAllRow.holds Try.pinned (OpenSpec.ofChange pairAllWrong)

/-- 'rookerylaw12.PairPlays': WHATEVER THE INPUT: true; the input reads as it did. -/
def pairPlaysSpec : ChangeSpec := { name := "pairPlays", fn := fun _ => fun
  | [d] => { results := [.lit (.bool true)], args := [d] }
  | _ => none }
def pairPlaysRow : OpenClaim := { program := "ytnkkgofpifhoeaa", sum := "997140a296e91d0e46ef409b4cc31098860fe7e779673faafdf7902be6a8aca4", func := "rookery/rookerylaw12.PairPlays", spec := "pairPlays", unfollowed := true, recurses := true, apart := false }
def PairPlaysSaid : Prop := pairPlaysRow.holds Try.pinned (OpenSpec.ofChange pairPlaysSpec)

/-- ITS FALSE NEIGHBOUR: 'it returns false'. Refute it at one input. -/
def pairPlaysWrong : ChangeSpec := { name := "pairPlays", fn := fun _ => fun
  | [d] => { results := [.lit (.bool false)], args := [d] }
  | _ => none }
def PairPlaysWrongFalsely : Prop := pairPlaysRow.holds Try.pinned (OpenSpec.ofChange pairPlaysWrong)

/-- 'rookerylaw12.PairSettles': WHATEVER THE INPUT: true; the input reads as it did. -/
def pairSettlesSpec : ChangeSpec := { name := "pairSettles", fn := fun _ => fun
  | [d] => { results := [.lit (.bool true)], args := [d] }
  | _ => none }
def pairSettlesRow : OpenClaim := { program := "ytnkkgofpifhoeaa", sum := "997140a296e91d0e46ef409b4cc31098860fe7e779673faafdf7902be6a8aca4", func := "rookery/rookerylaw12.PairSettles", spec := "pairSettles", unfollowed := true, recurses := true, apart := false }
def PairSettlesSaid : Prop := pairSettlesRow.holds Try.pinned (OpenSpec.ofChange pairSettlesSpec)

/-- ITS FALSE NEIGHBOUR: 'it returns false'. Refute it at one input. -/
def pairSettlesWrong : ChangeSpec := { name := "pairSettles", fn := fun _ => fun
  | [d] => { results := [.lit (.bool false)], args := [d] }
  | _ => none }
def PairSettlesWrongFalsely : Prop := pairSettlesRow.holds Try.pinned (OpenSpec.ofChange pairSettlesWrong)

/-- 'rookerylaw12.PairNil': WHATEVER THE INPUT: true; the input reads as it did. -/
def pairNilSpec : ChangeSpec := { name := "pairNil", fn := fun _ => fun
  | [d] => { results := [.lit (.bool true)], args := [d] }
  | _ => none }
def pairNilRow : OpenClaim := { program := "ytnkkgofpifhoeaa", sum := "997140a296e91d0e46ef409b4cc31098860fe7e779673faafdf7902be6a8aca4", func := "rookery/rookerylaw12.PairNil", spec := "pairNil", unfollowed := true, recurses := true, apart := false }
def PairNilSaid : Prop := pairNilRow.holds Try.pinned (OpenSpec.ofChange pairNilSpec)

/-- ITS FALSE NEIGHBOUR: 'it returns false'. Refute it at one input. -/
def pairNilWrong : ChangeSpec := { name := "pairNil", fn := fun _ => fun
  | [d] => { results := [.lit (.bool false)], args := [d] }
  | _ => none }
def PairNilWrongFalsely : Prop := pairNilRow.holds Try.pinned (OpenSpec.ofChange pairNilWrong)

/-- 'rookerylaw14.PeerSends': WHATEVER THE INPUT: true; the input reads as it did. -/
def peerSendsSpec : ChangeSpec := { name := "peerSends", fn := fun _ => fun
  | [d] => { results := [.lit (.bool true)], args := [d] }
  | _ => none }
def peerSendsRow : OpenClaim := { program := "ytnkkgofpifhoeaa", sum := "997140a296e91d0e46ef409b4cc31098860fe7e779673faafdf7902be6a8aca4", func := "rookery/rookerylaw14.PeerSends", spec := "peerSends", inPlace := ["math.Float64bits", "math.Float64frombits"], unfollowed := true, recurses := true, apart := false }
def PeerSendsSaid : Prop := peerSendsRow.holds Try.pinned (OpenSpec.ofChange peerSendsSpec)

/-- ITS FALSE NEIGHBOUR: 'it returns false'. Refute it at one input. -/
def peerSendsWrong : ChangeSpec := { name := "peerSends", fn := fun _ => fun
  | [d] => { results := [.lit (.bool false)], args := [d] }
  | _ => none }
def PeerSendsWrongFalsely : Prop := peerSendsRow.holds Try.pinned (OpenSpec.ofChange peerSendsWrong)

/-- 'rookerylaw14.PeerQuiet': WHATEVER THE INPUT: true; the input reads as it did. -/
def peerQuietSpec : ChangeSpec := { name := "peerQuiet", fn := fun _ => fun
  | [d1, d2, d3] => { results := [.lit (.bool true)], args := [d1, d2, d3] }
  | _ => none }
def peerQuietRow : OpenClaim := { program := "ytnkkgofpifhoeaa", sum := "997140a296e91d0e46ef409b4cc31098860fe7e779673faafdf7902be6a8aca4", func := "rookery/rookerylaw14.PeerQuiet", spec := "peerQuiet", inPlace := ["math.Float64bits", "math.Float64frombits"], unfollowed := true, recurses := true, apart := false }
def PeerQuietSaid : Prop := peerQuietRow.holds Try.pinned (OpenSpec.ofChange peerQuietSpec)

/-- ITS FALSE NEIGHBOUR: 'it returns false'. Refute it at one input. -/
def peerQuietWrong : ChangeSpec := { name := "peerQuiet", fn := fun _ => fun
  | [d1, d2, d3] => { results := [.lit (.bool false)], args := [d1, d2, d3] }
  | _ => none }
def PeerQuietWrongFalsely : Prop := peerQuietRow.holds Try.pinned (OpenSpec.ofChange peerQuietWrong)

/- THE SECOND FORM. 'bulk': how many values and letters a reading holds, each counted each time it is reached (what is shared counts as often as it is met; a slice's spare places count too). A statement '..UptoSaid' is the law's where the arguments, and the package variables that the reading takes, are together of bulk at most 1048576: NARROWER than '..Said'. Prove '..Said' where nothing that the law and all that it calls make is longer than what came in: it says more and counts as full. Else prove '..UptoSaid'. A law counts once. -/
mutual
def uptoBulk {H : Type} : DataW H → Nat
  | .lit (.string bytes) => bytes.length + 1
  | .lit _ => 1
  | .nil => 1
  | .ptr d => uptoBulk d + 1
  | .slice elems spare => uptoBulkAll elems + uptoBulkAll spare + 1
  | .agg parts => uptoBulkAll parts + 1
  | .iface _ d => uptoBulk d + 1
  | .map entries => uptoBulkEntries entries + 1
  | .held _ => 1
def uptoBulkAll {H : Type} : List (DataW H) → Nat
  | [] => 0
  | d :: r => uptoBulk d + uptoBulkAll r
def uptoBulkEntries {H : Type} : List (Lit × DataW H) → Nat
  | [] => 0
  | x :: r => uptoBulkEntry x + uptoBulkEntries r
def uptoBulkEntry {H : Type} : Lit × DataW H → Nat
  | (.string bytes, d) => bytes.length + uptoBulk d + 1
  | (_, d) => uptoBulk d + 1
 end
def uptoSmall : (H : Type) → List (DataW H) → Bool := fun _ ds => decide (uptoBulkAll ds ≤ 1048576)
def OpenSpec.upto (s : _root_.Go.ChangeSpec) : _root_.Go.OpenSpec := { _root_.Go.OpenSpec.ofChange s with cond := some uptoSmall }

/-- 'rookerylaw10.PackDecodes', WHERE WHAT IT READS IS OF BULK AT MOST 1048576: true; the input reads as it did. -/
def packDecodesUptoRow : OpenClaim := { program := "ytnkkgofpifhoeaa", sum := "997140a296e91d0e46ef409b4cc31098860fe7e779673faafdf7902be6a8aca4", func := "rookery/rookerylaw10.PackDecodes", spec := "packDecodes", inPlace := ["math.Float64bits", "math.Float64frombits"], apart := false, narrowed := true }
def PackDecodesUptoSaid : Prop := packDecodesUptoRow.holds Try.pinned (OpenSpec.upto packDecodesSpec)

/-- 'rookerylaw10.PackOne', WHERE WHAT IT READS IS OF BULK AT MOST 1048576: true; the input reads as it did. -/
def packOneUptoRow : OpenClaim := { program := "ytnkkgofpifhoeaa", sum := "997140a296e91d0e46ef409b4cc31098860fe7e779673faafdf7902be6a8aca4", func := "rookery/rookerylaw10.PackOne", spec := "packOne", inPlace := ["math.Float64bits", "math.Float64frombits"], apart := false, narrowed := true }
def PackOneUptoSaid : Prop := packOneUptoRow.holds Try.pinned (OpenSpec.upto packOneSpec)

/-- 'rookerylaw13.ChartStays', WHERE WHAT IT READS IS OF BULK AT MOST 1048576: true; the input reads as it did. -/
def chartStaysUptoRow : OpenClaim := { program := "ytnkkgofpifhoeaa", sum := "997140a296e91d0e46ef409b4cc31098860fe7e779673faafdf7902be6a8aca4", func := "rookery/rookerylaw13.ChartStays", spec := "chartStays", unfollowed := true, recurses := true, apart := false, narrowed := true }
def ChartStaysUptoSaid : Prop := chartStaysUptoRow.holds Try.pinned (OpenSpec.upto chartStaysSpec)

/-- 'rookerylaw11.LinkQueue', WHERE WHAT IT READS IS OF BULK AT MOST 1048576: true; the input reads as it did. -/
def linkQueueUptoRow : OpenClaim := { program := "ytnkkgofpifhoeaa", sum := "997140a296e91d0e46ef409b4cc31098860fe7e779673faafdf7902be6a8aca4", func := "rookery/rookerylaw11.LinkQueue", spec := "linkQueue", unfollowed := true, recurses := true, apart := false, narrowed := true }
def LinkQueueUptoSaid : Prop := linkQueueUptoRow.holds Try.pinned (OpenSpec.upto linkQueueSpec)

/-- 'rookerylaw12.PairOrder', WHERE WHAT IT READS IS OF BULK AT MOST 1048576: true; the input reads as it did. -/
def pairOrderUptoRow : OpenClaim := { program := "ytnkkgofpifhoeaa", sum := "997140a296e91d0e46ef409b4cc31098860fe7e779673faafdf7902be6a8aca4", func := "rookery/rookerylaw12.PairOrder", spec := "pairOrder", unfollowed := true, recurses := true, apart := false, narrowed := true }
def PairOrderUptoSaid : Prop := pairOrderUptoRow.holds Try.pinned (OpenSpec.upto pairOrderSpec)

/-- 'rookerylaw12.PairEpochs', WHERE WHAT IT READS IS OF BULK AT MOST 1048576: true; the input reads as it did. -/
def pairEpochsUptoRow : OpenClaim := { program := "ytnkkgofpifhoeaa", sum := "997140a296e91d0e46ef409b4cc31098860fe7e779673faafdf7902be6a8aca4", func := "rookery/rookerylaw12.PairEpochs", spec := "pairEpochs", unfollowed := true, recurses := true, apart := false, narrowed := true }
def PairEpochsUptoSaid : Prop := pairEpochsUptoRow.holds Try.pinned (OpenSpec.upto pairEpochsSpec)

/-- 'rookerylaw12.PairAll', WHERE WHAT IT READS IS OF BULK AT MOST 1048576: true; the input reads as it did. -/
def pairAllUptoRow : OpenClaim := { program := "ytnkkgofpifhoeaa", sum := "997140a296e91d0e46ef409b4cc31098860fe7e779673faafdf7902be6a8aca4", func := "rookery/rookerylaw12.PairAll", spec := "pairAll", unfollowed := true, recurses := true, apart := false, narrowed := true }
def PairAllUptoSaid : Prop := pairAllUptoRow.holds Try.pinned (OpenSpec.upto pairAllSpec)

/-- 'rookerylaw12.PairPlays', WHERE WHAT IT READS IS OF BULK AT MOST 1048576: true; the input reads as it did. -/
def pairPlaysUptoRow : OpenClaim := { program := "ytnkkgofpifhoeaa", sum := "997140a296e91d0e46ef409b4cc31098860fe7e779673faafdf7902be6a8aca4", func := "rookery/rookerylaw12.PairPlays", spec := "pairPlays", unfollowed := true, recurses := true, apart := false, narrowed := true }
def PairPlaysUptoSaid : Prop := pairPlaysUptoRow.holds Try.pinned (OpenSpec.upto pairPlaysSpec)

/-- 'rookerylaw12.PairSettles', WHERE WHAT IT READS IS OF BULK AT MOST 1048576: true; the input reads as it did. -/
def pairSettlesUptoRow : OpenClaim := { program := "ytnkkgofpifhoeaa", sum := "997140a296e91d0e46ef409b4cc31098860fe7e779673faafdf7902be6a8aca4", func := "rookery/rookerylaw12.PairSettles", spec := "pairSettles", unfollowed := true, recurses := true, apart := false, narrowed := true }
def PairSettlesUptoSaid : Prop := pairSettlesUptoRow.holds Try.pinned (OpenSpec.upto pairSettlesSpec)

/-- 'rookerylaw12.PairNil', WHERE WHAT IT READS IS OF BULK AT MOST 1048576: true; the input reads as it did. -/
def pairNilUptoRow : OpenClaim := { program := "ytnkkgofpifhoeaa", sum := "997140a296e91d0e46ef409b4cc31098860fe7e779673faafdf7902be6a8aca4", func := "rookery/rookerylaw12.PairNil", spec := "pairNil", unfollowed := true, recurses := true, apart := false, narrowed := true }
def PairNilUptoSaid : Prop := pairNilUptoRow.holds Try.pinned (OpenSpec.upto pairNilSpec)

/-- 'rookerylaw14.PeerSends', WHERE WHAT IT READS IS OF BULK AT MOST 1048576: true; the input reads as it did. -/
def peerSendsUptoRow : OpenClaim := { program := "ytnkkgofpifhoeaa", sum := "997140a296e91d0e46ef409b4cc31098860fe7e779673faafdf7902be6a8aca4", func := "rookery/rookerylaw14.PeerSends", spec := "peerSends", inPlace := ["math.Float64bits", "math.Float64frombits"], unfollowed := true, recurses := true, apart := false, narrowed := true }
def PeerSendsUptoSaid : Prop := peerSendsUptoRow.holds Try.pinned (OpenSpec.upto peerSendsSpec)

/-- 'rookerylaw14.PeerQuiet', WHERE WHAT IT READS IS OF BULK AT MOST 1048576: true; the input reads as it did. -/
def peerQuietUptoRow : OpenClaim := { program := "ytnkkgofpifhoeaa", sum := "997140a296e91d0e46ef409b4cc31098860fe7e779673faafdf7902be6a8aca4", func := "rookery/rookerylaw14.PeerQuiet", spec := "peerQuiet", inPlace := ["math.Float64bits", "math.Float64frombits"], unfollowed := true, recurses := true, apart := false, narrowed := true }
def PeerQuietUptoSaid : Prop := peerQuietUptoRow.holds Try.pinned (OpenSpec.upto peerQuietSpec)

end Rows
end Go.Proofs.Ytnkkgofpifhoeaa
