/- What the laws of a pair are proved with: links and pairs in memory, what their methods do, what a pair keeps to (part 1). -/
import Derived.WalkKit
import Derived.Below
import Derived.Deep.Draws
import Derived.Laws.Rows
import Derived.OrdersHeld
import Derived.Deep.RegionHeld3
import Derived.Laws.BitsLemmas
import Derived.RowKit
import Derived.Deep.AppendLies
import Derived.Maps.AppendAt
import Derived.OwnWalk
import Derived.Laws.BytesArg
import Derived.Laws.MakeOwn
import Derived.Laws.OwnMore
import Derived.Deep.OwnRows
import Derived.Tactics
import Derived.Lib.ConvBytes
import Derived.Laws.Slices
import Derived.KernelRfl
import Derived.RowKit3
import Derived.Deep.LoopGhost
import Derived.Deep.QuietTactic
import Derived.BigQuiet
import Derived.WideLaws
import Derived.Deep.DeepCutAuto
import Derived.Deep.CutBlock
import Derived.Lib.AppendStr
import Derived.ArgAppend
import Derived.Laws.IdiomCopy
import Derived.Laws.Tables
import Derived.Laws.ResultCell
import Derived.Test.YtnkkgofpifhoeaaChecked
import Derived.Lib.Hide
import GoSem.Core.Float
import Derived.Test.YtnkkgofpifhoeaaProg
import Derived.WalkLawsBesides
import Derived.Outline
set_option linter.unusedSimpArgs false
set_option linter.unusedVariables false
namespace Go.Proofs.Ytnkkgofpifhoeaa
abbrev J : Bool := true
abbrev I : Bool := false
abbrev M00 := #[J,J,J,J,J,J,J,J,J,J,J,J,J,I,I]
abbrev M01 := #[I,I,I,I,I,I,I,I,I,I,I,I,I,I,I]
abbrev M02 := #[J,I,I,I,I,I,I,I,I,I,I,I,I,I,I]
abbrev M03 := #[J,J,I,I,I,I,I,I,I,I,I,I,I,I,I]
abbrev M04 := #[J,J,J,I,I,I,I,I,I,I,I,I,I,I,I]
abbrev M05 := #[J,J,J,J,I,I,I,I,I,I,I,I,I,I,I]
abbrev M06 := #[J,J,J,J,J,I,I,I,I,I,I,I,I,I,I]
abbrev M07 := #[J,J,J,J,J,J,I,I,I,I,I,I,I,I,I]
abbrev M08 := #[J,J,J,J,J,J,J,I,I,I,I,I,I,I,I]
abbrev M09 := #[J,J,J,J,J,J,J,J,I,I,I,I,I,I,I]
abbrev M0a := #[J,J,J,J,J,J,J,J,J,I,I,I,I,I,I]
abbrev M0b := #[J,J,J,J,J,J,J,J,J,J,I,I,I,I,I]
abbrev M0c := #[J,J,J,J,J,J,J,J,J,J,J,I,I,I,I]
abbrev M0d := #[J,J,J,J,J,J,J,J,J,J,J,J,I,I,I]
abbrev M0e := #[J,J,J,J,J,J,J,J,J,J,J,J,J,J,I]
abbrev M0f := #[J,J,J,J,J,J,J,J,J,J,J,J,J,J,J]
abbrev M0g := #[I,I,I,I,I,I,I,I,I,I,I,I,I,I,I,I,I,I,I]
abbrev M0h := #[J,I,I,I,I,I,I,I,I,I,I,I,I,I,I,I,I,I,I]
abbrev M0i := #[J,J,I,I,I,I,I,I,I,I,I,I,I,I,I,I,I,I,I]
abbrev M0j := #[J,J,J,I,I,I,I,I,I,I,I,I,I,I,I,I,I,I,I]
abbrev M0k := #[J,J,J,J,I,I,I,I,I,I,I,I,I,I,I,I,I,I,I]
abbrev M0l := #[J,J,J,J,J,I,I,I,I,I,I,I,I,I,I,I,I,I,I]
abbrev M0m := #[J,J,J,J,J,J,I,I,I,I,I,I,I,I,I,I,I,I,I]
abbrev M0n := #[J,J,J,J,J,J,J,I,I,I,I,I,I,I,I,I,I,I,I]
abbrev M0o := #[J,J,J,J,J,J,J,J,I,I,I,I,I,I,I,I,I,I,I]
abbrev M0p := #[J,J,J,J,J,J,J,J,J,I,I,I,I,I,I,I,I,I,I]
abbrev M0q := #[J,J,J,J,J,J,J,J,J,J,I,I,I,I,I,I,I,I,I]
abbrev M0r := #[J,J,J,J,J,J,J,J,J,J,J,I,I,I,I,I,I,I,I]
abbrev M0s := #[J,J,J,J,J,J,J,J,J,J,J,J,I,I,I,I,I,I,I]
abbrev M0t := #[J,J,J,J,J,J,J,J,J,J,J,J,J,I,I,I,I,I,I]
abbrev M0u := #[J,J,J,J,J,J,J,J,J,J,J,J,J,J,I,I,I,I,I]
abbrev M0v := #[J,J,J,J,J,J,J,J,J,J,J,J,J,J,J,I,I,I,I]
abbrev M0w := #[J,J,J,J,J,J,J,J,J,J,J,J,J,J,J,J,I,I,I]
abbrev M0x := #[J,J,J,J,J,J,J,J,J,J,J,J,J,J,J,J,J,I,I]
abbrev M0y := #[J,J,J,J,J,J,J,J,J,J,J,J,J,J,J,J,J,J,I]
abbrev M0z := #[J,J,J,J,J,J,J,J,J,J,J,J,J,J,J,J,J,J,J]
abbrev M0A := #[J,J,J,J,J,J,J,J,I,I,I,I,J,I,I]
abbrev M0B := #[J,J,J,J,J,J,J,J,J,I,I,I,J,I,I]
abbrev M0C := #[J,J,J,J,J,J,J,J,J,J,I,I,J,I,I]
abbrev M0D := #[J,J,J,J,J,J,J,J,J,J,J,I,J,I,I]
abbrev M0E := #[I,I,I,I,I,I,I,I,I,I,I,I,I]
abbrev M0F := #[J,I,I,I,I,I,I,I,I,I,I,I,I]
abbrev M0G := #[J,J,I,I,I,I,I,I,I,I,I,I,I]
abbrev M0H := #[J,J,J,I,I,I,I,I,I,I,I,I,I]
abbrev M0I := #[J,J,J,J,I,I,I,I,I,I,I,I,I]
abbrev M0J := #[J,J,J,J,J,I,I,I,I,I,I,I,I]
abbrev M0K := #[J,J,J,J,J,J,I,I,I,I,I,I,I]
abbrev M0L := #[I,I,I,I,I,I,I,I,I]
abbrev M0M := #[J,J,J,J,J,J,J,I,I,I,I,I,I]
abbrev M0N := #[J,J,J,J,J,J,J,J,I,I,I,I,I]
abbrev M0O := #[J,J,J,J,J,J,J,J,J,I,I,I,I]
abbrev M0P := #[J,J,J,J,J,J,J,J,J,J,I,I,I]
abbrev M0Q := #[J,J,J,I,I,I,I,I,I]
abbrev M0R := #[J,J,J,J,J,J,J,J,J,J,J,I,I]
abbrev M0S := #[J,J,J,J,I,I,I,I,I]
abbrev M0T := #[J,J,J,J,J,J,J,J,J,J,J,J,I]
abbrev M0U := #[J,J,J,J,J,J,J,J,J,J,J,J,J]
abbrev M0V := #[J,J,J,J,J,I,I,I,I]
abbrev M0W := #[I,I,I,I,I,I,I,I,I,I,I]
abbrev M0X := #[J,J,J,J,J,J,I,I,I]
abbrev M0Y := #[J,I,I,I,I,I,I,I,I,I,I]
abbrev M0Z := #[J,J,I,I,I,I,I,I,I,I,I]
abbrev M10 := #[J,J,J,J,J,J,J,I,I]
abbrev M11 := #[J,J,J,J,J,J,J,J,I]
abbrev M12 := #[J,J,J,J,J,J,J,J,J]
abbrev M13 := #[J,J,J,J,J,J,J,J,I,I,I]
abbrev M14 := #[J,J,J,J,J,J,J,J,J,I,I]
abbrev M15 := #[J,J,J,J,J,J,J,J,J,J,I]
abbrev M16 := #[J,J,J,J,J,J,J,J,J,J,J]
abbrev M17 := #[I,J,I,I,I,I,I,I,I]
abbrev M18 := #[I,J,J,I,I,I,I,I,I]
abbrev M19 := #[J,J,J,I,I,I,I,I,I,I,I]
abbrev M1a := #[J,J,J,J,I,I,I,I,I,I,I]
abbrev M1b := #[J,J,J,J,J,I,I,I,I,I,I]
abbrev M1c := #[J,J,J,J,J,J,I,I,I,I,I]
abbrev M1d := #[J,J,J,J,J,J,J,I,I,I,I]
abbrev M1e := #[I,I,I,I,I,I,I,I,I,I,I,I]
abbrev M1f := #[J,I,I,I,I,I,I,I,I,I,I,I]
abbrev M1g := #[J,J,I,I,I,I,I,I,I,I,I,I]
abbrev M1h := #[J,J,J,I,I,I,I,I,I,I,I,I]
abbrev M1i := #[J,J,J,J,I,I,I,I,I,I,I,I]
abbrev M1j := #[J,J,J,J,J,I,I,I,I,I,I,I]
abbrev M1k := #[I,I,I,I,I,I,I,I,I,I,I,I,I,I,I,I,I,I,I,I,I,I,I,I,I,I,I,I,I,I,I,I,I,I]
abbrev M1l := #[J,I,I,I,I,I,I,I,I,I,I,I,I,I,I,I,I,I,I,I,I,I,I,I,I,I,I,I,I,I,I,I,I,I]
abbrev M1m := #[J,J,J,J,J,J,I,I,I,I,I,I]
abbrev M1n := #[J,J,I,I,I,I,I,I,I,I,I,I,I,I,I,I,I,I,I,I,I,I,I,I,I,I,I,I,I,I,I,I,I,I]
abbrev M1o := #[J,J,J,I,I,I,I,I,I,I,I,I,I,I,I,I,I,I,I,I,I,I,I,I,I,I,I,I,I,I,I,I,I,I]
abbrev M1p := #[J,J,J,J,I,I,I,I,I,I,I,I,I,I,I,I,I,I,I,I,I,I,I,I,I,I,I,I,I,I,I,I,I,I]
abbrev M1q := #[J,J,J,J,J,J,J,I,I,I,I,I]
abbrev M1r := #[J,J,J,J,J,I,I,I,I,I,I,I,I,I,I,I,I,I,I,I,I,I,I,I,I,I,I,I,I,I,I,I,I,I]
abbrev M1s := #[J,J,J,J,J,J,I,I,I,I,I,I,I,I,I,I,I,I,I,I,I,I,I,I,I,I,I,I,I,I,I,I,I,I]
abbrev M1t := #[J,J,J,J,J,J,J,I,I,I,I,I,I,I,I,I,I,I,I,I,I,I,I,I,I,I,I,I,I,I,I,I,I,I]
abbrev M1u := #[J,J,J,J,J,J,J,J,I,I,I,I]
abbrev M1v := #[J,J,J,J,J,J,J,J,I,I,I,I,I,I,I,I,I,I,I,I,I,I,I,I,I,I,I,I,I,I,I,I,I,I]
abbrev M1w := #[J,J,J,J,J,J,J,J,J,I,I,I,I,I,I,I,I,I,I,I,I,I,I,I,I,I,I,I,I,I,I,I,I,I]
abbrev M1x := #[J,J,J,J,J,J,J,J,J,J,I,I,I,I,I,I,I,I,I,I,I,I,I,I,I,I,I,I,I,I,I,I,I,I]
abbrev M1y := #[J,J,J,J,J,J,J,J,J,I,I,I]
abbrev M1z := #[J,J,J,J,J,J,J,J,J,J,J,I,I,I,I,I,I,I,I,I,I,I,I,I,I,I,I,I,I,I,I,I,I,I]
abbrev M1A := #[I,I,I,I,I,I,I,I]
abbrev M1B := #[J,J,J,J,J,J,J,J,J,J,J,J,I,I,I,I,I,I,I,I,I,I,I,I,I,I,I,I,I,I,I,I,I,I]
abbrev M1C := #[J,J,J,J,J,J,J,J,J,J,J,J,J,I,I,I,I,I,I,I,I,I,I,I,I,I,I,I,I,I,I,I,I,I]
abbrev M1D := #[J,J,J,J,J,J,J,J,J,J,I,I]
abbrev M1E := #[J,J,J,J,J,J,J,J,J,J,J,J,J,J,I,I,I,I,I,I,I,I,I,I,I,I,I,I,I,I,I,I,I,I]
abbrev M1F := #[J,J,J,J,J,J,J,J,J,J,J,J,J,J,J,I,I,I,I,I,I,I,I,I,I,I,I,I,I,I,I,I,I,I]
abbrev M1G := #[J,I,I,I,I,I,I,I]
abbrev M1H := #[J,J,J,J,J,J,J,J,J,J,J,J,J,J,J,J,I,I,I,I,I,I,I,I,I,I,I,I,I,I,I,I,I,I]
abbrev M1I := #[J,J,J,J,J,J,J,J,J,J,J,I]
abbrev M1J := #[J,J,J,J,J,J,J,J,J,J,J,J,J,J,J,J,J,I,I,I,I,I,I,I,I,I,I,I,I,I,I,I,I,I]
abbrev M1K := #[J,J,J,J,J,J,J,J,J,J,J,J,J,J,J,J,J,J,I,I,I,I,I,I,I,I,I,I,I,I,I,I,I,I]
abbrev M1L := #[J,J,J,J,J,J,J,J,J,J,J,J,J,J,J,J,J,J,J,I,I,I,I,I,I,I,I,I,I,I,I,I,I,I]
abbrev M1M := #[J,J,I,I,I,I,I,I]
abbrev M1N := #[J,J,J,J,J,J,J,J,J,J,J,J]
abbrev M1O := #[J,J,J,J,J,J,J,J,J,J,J,J,J,J,J,J,J,J,J,J,I,I,I,I,I,I,I,I,I,I,I,I,I,I]
abbrev M1P := #[J,J,J,J,J,J,J,J,J,J,J,J,J,J,J,J,J,J,J,J,J,I,I,I,I,I,I,I,I,I,I,I,I,I]
abbrev M1Q := #[J,J,J,J,J,J,J,J,J,J,J,J,J,J,J,J,J,J,J,J,J,J,I,I,I,I,I,I,I,I,I,I,I,I]
abbrev M1R := #[J,J,J,J,J,J,J,J,J,J,J,J,J,J,J,J,J,J,J,J,J,J,J,I,I,I,I,I,I,I,I,I,I,I]
abbrev M1S := #[J,J,J,I,I,I,I,I]
abbrev M1T := #[J,J,J,J,J,J,J,J,J,J,J,J,J,J,J,J,J,J,J,J,J,J,J,J,I,I,I,I,I,I,I,I,I,I]
abbrev M1U := #[J,J,J,J,J,J,J,J,J,J,J,J,J,J,J,J,J,J,J,J,J,J,J,J,J,I,I,I,I,I,I,I,I,I]
abbrev M1V := #[J,J,J,J,J,J,J,J,J,J,J,J,J,J,J,J,J,J,J,J,J,J,J,J,J,J,I,I,I,I,I,I,I,I]
abbrev M1W := #[I,I,I,I,I,I,I,I,I,I]
abbrev M1X := #[J,J,J,J,J,J,J,J,J,J,J,J,J,J,J,J,J,J,J,J,J,J,J,J,J,J,J,I,I,I,I,I,I,I]
abbrev M1Y := #[J,J,J,J,I,I,I,I]
abbrev M1Z := #[J,J,J,J,J,J,J,J,J,J,J,J,J,J,J,J,J,J,J,J,J,J,J,J,J,J,J,J,I,I,I,I,I,I]
abbrev M20 := #[J,J,J,J,J,J,J,J,J,J,J,J,J,J,J,J,J,J,J,J,J,J,J,J,J,J,J,J,J,I,I,I,I,I]
abbrev M21 := #[J,I,I,I,I,I,I,I,I,I]
abbrev M22 := #[J,J,J,J,J,J,J,J,J,J,J,J,J,J,J,J,J,J,J,J,J,J,J,J,J,J,J,J,J,J,I,I,I,I]
abbrev M23 := #[J,J,J,J,J,J,J,J,J,J,J,J,J,J,J,J,J,J,J,J,J,J,J,J,J,J,J,J,J,J,J,I,I,I]
abbrev M24 := #[J,J,J,J,J,I,I,I]
abbrev M25 := #[J,J,J,J,J,J,J,J,J,J,J,J,J,J,J,J,J,J,J,J,J,J,J,J,J,J,J,J,J,J,J,J,I,I]
abbrev M26 := #[J,J,I,I,I,I,I,I,I,I]
abbrev M27 := #[J,J,J,J,J,J,J,J,J,J,J,J,J,J,J,J,J,J,J,J,J,J,J,J,J,J,J,J,J,J,J,J,J,I]
abbrev M28 := #[J,J,J,J,J,J,J,J,J,J,J,J,J,J,J,J,J,J,J,J,J,J,J,J,J,J,J,J,J,J,J,J,J,J]
abbrev M29 := #[J,J,J,I,I,I,I,I,I,I]
abbrev M2a := #[J,J,J,J,J,J,I,I]
abbrev M2b := #[J,J,J,J,I,I,I,I,I,I]
abbrev M2c := #[I,I,I,I,I,I,I]
abbrev M2d := #[J,J,J,J,J,J,J,I]
abbrev M2e := #[J,J,J,J,J,I,I,I,I,I]
abbrev M2f := #[I,I,I,I,I,I,I,I,I,I,I,I,I,I]
abbrev M2g := #[J,I,I,I,I,I,I]
abbrev M2h := #[J,J,J,J,J,J,J,J]
abbrev M2i := #[J,I,I,I,I,I,I,I,I,I,I,I,I,I]
abbrev M2j := #[J,J,J,J,J,J,I,I,I,I]
abbrev M2k := #[J,J,I,I,I,I,I,I,I,I,I,I,I,I]
abbrev M2l := #[J,I,J,I,I,I,I]
abbrev M2m := #[J,J,J,J,J,J,J,I,I,I]
abbrev M2n := #[J,J,J,I,I,I,I,I,I,I,I,I,I,I]
abbrev M2o := #[J,J,J,J,I,I,I,I,I,I,I,I,I,I]
abbrev M2p := #[J,J,J,J,J,J,J,J,I,I]
abbrev M2q := #[J,I,J,J,I,I,I]
abbrev M2r := #[J,J,J,J,J,I,I,I,I,I,I,I,I,I]
abbrev M2s := #[J,J,J,J,J,J,J,J,J,I]
abbrev M2t := #[J,J,J,J,J,J,I,I,I,I,I,I,I,I]
abbrev M2u := #[J,J,J,J,I,I,I]
abbrev M2v := #[J,J,J,J,J,J,J,I,I,I,I,I,I,I]
abbrev M2w := #[J,J,J,J,J,J,J,J,J,J]
abbrev M2x := #[J,J,J,J,J,J,J,J,I,I,I,I,I,I]
abbrev M2y := #[J,J,J,J,J,I,I]
abbrev M2z := #[J,J,J,J,J,J,J,J,J,I,I,I,I,I]
abbrev M2A := #[J,J,J,J,J,J,J,J,J,J,I,I,I,I]
abbrev M2B := #[J,J,J,J,J,J,I]
abbrev M2C := #[J,J,J,J,J,J,J,J,J,J,J,I,I,I]
abbrev M2D := #[J,J,J,J,J,J,J,J,J,J,J,J,I,I]
abbrev M2E := #[J,J,J,J,J,J,J]
abbrev M2F := #[J,J,J,J,J,J,J,J,J,J,J,J,J,I]
abbrev M2G := #[J,J,J,J,J,J,J,J,J,J,J,J,J,J]
abbrev M2H := #[J,J,I,I,I,I,J,I,I,I,I]
abbrev M2I := #[J,J,I,I,I,I,J,J,I,I,I]
abbrev M2J := #[J,J,J,I,I,I,J,J,I,I,I]
abbrev M2K := #[J,J,J,J,I,I,J,J,I,I,I]
abbrev M2L := #[J,J,J,J,J,I,J,J,I,I,I]
abbrev M2M := #[J,I,I,I,I,I,I,I,I]
abbrev M2N := #[J,J,I,I,I,I,I,I,I]
theorem sA {a : Type _} (l : List a) (i : Nat) (x : a) : l.toArray.setIfInBounds i x = (l.set i x).toArray := List.setIfInBounds_toArray l i x
theorem sZ {a : Type _} {x : a} {l : List a} {y : a} : (x :: l).set 0 y = y :: l := List.set_cons_zero
theorem sS {a : Type _} {x : a} {l : List a} {i : Nat} {y : a} : (x :: l).set (i + 1) y = x :: l.set i y := List.set_cons_succ
end Go.Proofs.Ytnkkgofpifhoeaa
section
namespace Go.Proofs.Ytnkkgofpifhoeaa.Base
open Go.RowKit
theorem ret_bool {a b:Bool} (h:a = b):Ending.returned (.bool a) = .returned (.bool b):=by rw [h]
section
variable {P:Program} {w:World} (a:Addr) (m:Mode)
@[go_sem] theorem run_store_complex (k:FloatKind) (x y:Nat):(store a (.complex k x y) m).run P w = stored P w a (.complex k x y) m:=run_store P w a _ m rfl
@[go_sem] theorem run_store_float (k:FloatKind) (x:Nat):(store a (.float k x) m).run P w = stored P w a (.float k x) m:=run_store P w a _ m rfl
end
section
variable {B:Nat} {a w:World}
theorem bl_drewN (h:Below B a w) (n:Nat):Below B a (w.drewN n):=⟨h.os,h.tape,h.output,h.size,h.block⟩
theorem bl_drew (h:Below B a w):Below B a w.drew:=⟨h.os,h.tape,h.output,h.size,h.block⟩
end
theorem bcell {W w1:World} (hb:Below W.heap.size W w1):(∀ b o,b < W.heap.size → w1.cell? ⟨b,o,none⟩ = W.cell? ⟨b,o,none⟩) ∧ (∀ b o,b < W.heap.size → w1.frozen? ⟨b,o,none⟩ = W.frozen? ⟨b,o,none⟩) :=
 ⟨fun b o h => hb.cell (p:=⟨b,o,none⟩) h,fun b o h => hb.frozen (p:=⟨b,o,none⟩) h⟩
end Go.Proofs.Ytnkkgofpifhoeaa.Base
end
section
namespace Go.Proofs.YtnkkgofpifhoeaaW.PrintLast
section
variable {P:Program} {ops:Array Oper} {Q:Exit → Act → World → Prop} {md:Region.Mode} {S:World → Prop} {ds:List Nat}
def Region.reachB (md:Region.Mode) (ops:Array Oper) (i:Nat):Nat → Nat → Bool
 | 0,_ => false
 | fuel + 1,d => match ops[d]? with
  | some o => o.after.any fun e => Region.binds md e && (e.on == i || Region.reachB md ops i fuel e.on)
  | none => false
def Region.closedB (md:Region.Mode) (ops:Array Oper) (listed:Array Bool):Bool :=
 (List.range ops.size).all fun j => !listed.getD j false || match ops[j]? with
  | some o => o.after.all fun e => !Region.binds md e || listed.getD e.on false
  | none => true
def Region.lastB (md:Region.Mode) (ops:Array Oper) (listed:Array Bool) (ds:List Nat) (i:Nat):Bool :=
 ds.all fun d => listed.getD d true || Region.reachB md ops i ops.size d
def ListedClosed (md:Region.Mode) (ops:Array Oper) (listed:Array Bool):Prop :=
 ∀ j oj,ops[j]? = some oj → listed.getD j false = true → ∀ e ∈ oj.after,Region.binds md e = true → listed.getD e.on false = true
theorem Region.closedB_spec {listed:Array Bool} (h:Region.closedB md ops listed = true):ListedClosed md ops listed:=by
 intro j oj hj hl e he hb
 have hlt:j < ops.size:=(Array.getElem?_eq_some_iff.1 hj).1
 have h1:=List.all_eq_true.1 h j (List.mem_range.2 hlt)
 simp only [hl,hj,Bool.not_true,Bool.false_or] at h1
 have h2:=Array.all_eq_true_iff_forall_mem.1 h1 e he
 simpa [hb] using h2
theorem ListedClosed.set {listed:Array Bool} {i:Nat} (h:ListedClosed md ops listed) (hi:i ∈ Region.ready md ops listed):ListedClosed md ops (listed.setIfInBounds i true):=by
 obtain ⟨_,oi,hoi,hall⟩:=mem_ready.1 hi
 intro j oj hj hl e he hb
 by_cases hij:i = j
 ·subst hij
  have:oj = oi:=Option.some.inj (hj.symm.trans hoi)
  subst this
  exact getD_set_true (hall e he hb)
 ·rw [getD_set_ne false hij] at hl
  exact getD_set_true (h j oj hj hl e he hb)
theorem Region.reach_listed {listed:Array Bool} {i:Nat} (hc:ListedClosed md ops listed):∀ (fuel d:Nat),Region.reachB md ops i fuel d = true → listed.getD d false = true → listed.getD i false = true
 | 0,_,h,_ => by simp [Region.reachB] at h
 | fuel + 1,d,h,hl => by
  unfold Region.reachB at h
  cases ho:ops[d]? with
  | none => rw [ho] at h; simp at h
  | some o =>
   rw [ho] at h
   obtain ⟨e,he,h1⟩:=Array.any_eq_true'.1 h
   simp only [Bool.and_eq_true,Bool.or_eq_true,beq_iff_eq] at h1
   have hle:=hc d o ho hl e he h1.1
   rcases h1.2 with h2 | h2
   ·rw [← h2]; exact hle
   ·exact Region.reach_listed hc fuel e.on h2 hle
theorem Region.reach_not_ready {listed:Array Bool} {i d fuel:Nat} (hc:ListedClosed md ops listed) (hr:Region.reachB md ops i fuel d = true) (hun:listed.getD i true = false):d ∉ Region.ready md ops listed:=by
 intro hd
 obtain ⟨_,o,ho,hall⟩:=mem_ready.1 hd
 have hi:listed.getD i false = true:=by
  cases fuel with
  | zero => simp [Region.reachB] at hr
  | succ n =>
   unfold Region.reachB at hr
   rw [ho] at hr
   obtain ⟨e,he,h1⟩:=Array.any_eq_true'.1 hr
   simp only [Bool.and_eq_true,Bool.or_eq_true,beq_iff_eq] at h1
   have hle:=hall e he h1.1
   rcases h1.2 with h2 | h2
   ·rw [← h2]; exact hle
   ·exact Region.reach_listed hc n e.on h2 hle
 rcases Nat.lt_or_ge i listed.size with h' | h'
 ·simp [h'] at hun hi
  rw [hun] at hi
  cases hi
 ·simp [Array.getElem?_eq_none h'] at hun
def wpAnyLast (P:Program) (md:Region.Mode) (ops:Array Oper) (Q:Exit → Act → World → Prop) (S:World → Prop) (ds:List Nat):Nat → Array Bool → Act → World → Prop
 | 0,listed,a,w => Region.ready md ops listed = [] ∧ Q .normal a w
 | fuel + 1,listed,a,w =>
  (Region.ready md ops listed = [] → Q .normal a w) ∧
  ∀ i ∈ Region.ready md ops listed,wpOp P ops Q i (fun a' w' => (i ∉ ds → S w → S w') ∧ wpAnyLast P md ops Q S ds fuel (listed.setIfInBounds i true) a' w') a w
theorem wpAny_of_last:∀ (fuel:Nat) (listed:Array Bool) (a:Act) (w:World),wpAnyLast P md ops Q S ds fuel listed a w → wpAny P md ops Q fuel listed a w
 | 0,_,_,_,h => h
 | fuel + 1,_,_,_,h => ⟨h.1,fun i hi => wpOp_mono (fun a' w' h' => wpAny_of_last fuel _ a' w' h'.2) (h.2 i hi)⟩
theorem wpAnyLast_first {i:Nat} {oi:Oper} {v:Value} (hi:ops[i]? = some oi) (hsel:∀ (j:Nat) (o:Oper) cs b,ops[j]? = some o → o.op ≠ .select cs b)
  (hQ:∀ c a w,Q (.panic c) (a.put oi.dst v) w → Q (.panic c) a w) (n:Nat) :
  ∀ (fuel:Nat) (listed:Array Bool) (a:Act) (w:World),
   (∀ j oj,ops[j]? = some oj → j ≠ i → listed.getD j true = false → (∀ e ∈ oj.after,Region.binds md e = true → e.on ≠ i) → oi.apart ops oj = true) →
   ListedClosed md ops listed → (∀ d ∈ ds,listed.getD d true = false → Region.reachB md ops i n d = true) →
   i ∈ Region.ready md ops listed → YieldsIf P ops S oi v a → S w →
   wpAnyLast P md ops Q S ds fuel (listed.setIfInBounds i true) (a.put oi.dst v) w → wpAnyLast P md ops Q S ds (fuel + 1) listed a w:=by
 intro fuel
 induction fuel with
 | zero =>
  intro listed a w _ _ _ hr hy hS H
  refine ⟨fun h => (by rw [h] at hr; cases hr),fun j hj => ?_⟩
  by_cases hji:j = i
  ·subst hji; exact hy.wpOp hi hS ⟨fun _ h => h,H⟩
  ·have:=ready_mono hj hji
   rw [H.1] at this
   cases this
 | succ fuel ih =>
  intro listed a w hfree hc hd hr hy hS H
  refine ⟨fun h => (by rw [h] at hr; cases hr),fun j hj => ?_⟩
  by_cases hji:j = i
  ·subst hji; exact hy.wpOp hi hS ⟨fun _ h => h,H⟩
  ·have h1:=H.2 j (ready_mono hj hji)
   obtain ⟨hjun,oj,hoj,hall⟩:=mem_ready.1 hj
   have hiun:=(mem_ready.1 hr).1
   have hnot:∀ e ∈ oj.after,Region.binds md e = true → e.on ≠ i:=fun e he hb heq => by
    have h1:=hall e he hb
    rw [heq] at h1
    rcases Nat.lt_or_ge i listed.size with h' | h'
    ·simp [h'] at hiun h1; rw [hiun] at h1; cases h1
    ·simp [Array.getElem?_eq_none h'] at h1
   have hjd:j ∉ ds:=fun hm => Region.reach_not_ready hc (hd j hm hjun) hiun hj
   have h2:=wpOp_putIf hoj (hfree j oj hoj hji hjun hnot) (fun cs b => hsel i oi cs b hi) (fun cs b => hsel j oj cs b hoj) hQ hy h1
   have hfree':∀ k ok,ops[k]? = some ok → k ≠ i → (listed.setIfInBounds j true).getD k true = false →
     (∀ e ∈ ok.after,Region.binds md e = true → e.on ≠ i) → oi.apart ops ok = true:=fun k ok hk hki hun hno => by
    refine hfree k ok hk hki ?_ hno
    by_cases hjk:j = k
    ·subst hjk; exact hjun
    ·rw [getD_set_ne true hjk] at hun; exact hun
   have hd':∀ d ∈ ds,(listed.setIfInBounds j true).getD d true = false → Region.reachB md ops i n d = true:=fun d hm hun => by
    refine hd d hm ?_
    by_cases hjk:j = d
    ·subst hjk; exact hjun
    ·rw [getD_set_ne true hjk] at hun; exact hun
   refine wpOp_mono (fun a' w' h3 => ⟨h3.2.1,ih (listed.setIfInBounds j true) a' w' hfree' (hc.set hj) hd' (ready_mono hr (Ne.symm hji)) h3.1 (h3.2.1 hjd hS) ?_⟩) h2
   rw [Array.setIfInBounds_comm _ _ hji]
   exact h3.2.2
theorem wpAnyLast_any {i:Nat} {oi:Oper} {v:Value} (hi:ops[i]? = some oi) (hsel:∀ (j:Nat) (o:Oper) cs b,ops[j]? = some o → o.op ≠ .select cs b)
  (hQ:∀ c a w,Q (.panic c) (a.put oi.dst v) w → Q (.panic c) a w) :
  ∀ (fuel:Nat) (listed:Array Bool) (a:Act) (w:World),
   (∀ j oj,ops[j]? = some oj → j ≠ i → listed.getD j true = false → (∀ e ∈ oj.after,Region.binds md e = true → e.on ≠ i) → oi.apart ops oj = true) →
   i ∈ Region.ready md ops listed → Yields P ops oi v a →
   wpAnyLast P md ops Q S ds fuel (listed.setIfInBounds i true) (a.put oi.dst v) w → wpAnyLast P md ops Q S ds (fuel + 1) listed a w:=by
 intro fuel
 induction fuel with
 | zero =>
  intro listed a w _ hr hy H
  refine ⟨fun h => (by rw [h] at hr; cases hr),fun j hj => ?_⟩
  by_cases hji:j = i
  ·subst hji; exact (hy.yieldsIf (S:=fun _ => True)).wpOp hi trivial ⟨fun _ h => h,H⟩
  ·have:=ready_mono hj hji
   rw [H.1] at this
   cases this
 | succ fuel ih =>
  intro listed a w hfree hr hy H
  refine ⟨fun h => (by rw [h] at hr; cases hr),fun j hj => ?_⟩
  by_cases hji:j = i
  ·subst hji; exact (hy.yieldsIf (S:=fun _ => True)).wpOp hi trivial ⟨fun _ h => h,H⟩
  ·have h1:=H.2 j (ready_mono hj hji)
   obtain ⟨hjun,oj,hoj,hall⟩:=mem_ready.1 hj
   have hiun:=(mem_ready.1 hr).1
   have hnot:∀ e ∈ oj.after,Region.binds md e = true → e.on ≠ i:=fun e he hb heq => by
    have h1:=hall e he hb
    rw [heq] at h1
    rcases Nat.lt_or_ge i listed.size with h' | h'
    ·simp [h'] at hiun h1; rw [hiun] at h1; cases h1
    ·simp [Array.getElem?_eq_none h'] at h1
   have h2:=wpOp_put hoj (hfree j oj hoj hji hjun hnot) (fun cs b => hsel i oi cs b hi) (fun cs b => hsel j oj cs b hoj) hQ hy h1
   have hfree':∀ k ok,ops[k]? = some ok → k ≠ i → (listed.setIfInBounds j true).getD k true = false →
     (∀ e ∈ ok.after,Region.binds md e = true → e.on ≠ i) → oi.apart ops ok = true:=fun k ok hk hki hun hno => by
    refine hfree k ok hk hki ?_ hno
    by_cases hjk:j = k
    ·subst hjk; exact hjun
    ·rw [getD_set_ne true hjk] at hun; exact hun
   refine wpOp_mono (fun a' w' h3 => ⟨h3.2.1,ih (listed.setIfInBounds j true) a' w' hfree' (ready_mono hr (Ne.symm hji)) h3.1 ?_⟩) h2
   rw [Array.setIfInBounds_comm _ _ hji]
   exact h3.2.2
theorem wpAnyLast_take {i:Nat} {oi:Oper} {v:Value} {fuel:Nat} {listed:Array Bool} {a:Act} {w:World} (hi:ops[i]? = some oi)
  (hs:Region.noSelect ops = true) (hf:Region.free md ops listed i = true) (hr:(Region.ready md ops listed).contains i = true)
  (hc:Region.closedB md ops listed = true) (hl:Region.lastB md ops listed ds i = true)
  (hQ:∀ c a w,Q (.panic c) (a.put oi.dst v) w → Q (.panic c) a w) (hy:YieldsIf P ops S oi v a) (hS:S w)
  (h:wpAnyLast P md ops Q S ds fuel (listed.setIfInBounds i true) (a.put oi.dst v) w):wpAnyLast P md ops Q S ds (fuel + 1) listed a w :=
 wpAnyLast_first hi (Region.noSelect_spec hs) hQ ops.size fuel listed a w (Region.free_spec hi hf) (Region.closedB_spec hc)
  (fun d hm hun => by have:=List.all_eq_true.1 hl d hm; rw [hun] at this; simpa using this) (by simpa using hr) hy hS h
theorem wpAnyLast_all {rs:List Nat} {fuel:Nat} {listed:Array Bool} {a:Act} {w:World} (hr:Region.ready md ops listed = rs) (hne:rs ≠ [])
  (h:∀ i ∈ rs,wpOp P ops Q i (fun a' w' => (i ∉ ds → S w → S w') ∧ wpAnyLast P md ops Q S ds fuel (listed.setIfInBounds i true) a' w') a w):wpAnyLast P md ops Q S ds (fuel + 1) listed a w :=
 ⟨fun h0 => absurd (hr ▸ h0) hne,hr ▸ h⟩
theorem wpAnyLast_done {listed:Array Bool} {a:Act} {w:World} (hr:Region.ready md ops listed = []) (h:Q .normal a w) :
  ∀ fuel,wpAnyLast P md ops Q S ds fuel listed a w
 | 0 => ⟨hr,h⟩
 | _ + 1 => ⟨fun _ => h,by rw [hr]; simp⟩
theorem wp_region_last {id:Nat} {a:Act} {w:World} (hm:P.follows .mixedOrders = true)
  (h:wpAnyLast P .any ops Q S ds ops.size (Array.replicate ops.size false) a { w with drawn:=w.drawn + 1 }):(Code.region id ops true).wp P Q a w :=
 wp_region_any hm (wpAny_of_last _ _ _ _ h)
end
section
variable {P:Program} {ops:Array Oper} {Q:Exit → Act → World → Prop} {md:Region.Mode} {S:World → Prop} {ds:List Nat}
def AllReadyL (P:Program) (md:Region.Mode) (ops:Array Oper) (Q:Exit → Act → World → Prop) (S:World → Prop) (ds:List Nat) (fuel:Nat) (listed:Array Bool) (a:Act) (w:World) (rs:List Nat):Prop :=
 ∀ i ∈ rs,wpOp P ops Q i (fun a' w' => (i ∉ ds → S w → S w') ∧ wpAnyLast P md ops Q S ds fuel (listed.setIfInBounds i true) a' w') a w
theorem AllReadyL.nil {fuel:Nat} {listed:Array Bool} {a:Act} {w:World}:AllReadyL P md ops Q S ds fuel listed a w []:=fun _ h => by cases h
theorem AllReadyL.cons {fuel:Nat} {listed:Array Bool} {a:Act} {w:World} {i:Nat} {o:Oper} {rs:List Nat} (ho:ops[i]? = some o) (hd:i ∉ ds)
  (h:∀ K':Act → World → Prop,Shut (∀ a w,S w → (S w → wpAnyLast P md ops Q S ds fuel (listed.setIfInBounds i true) a w) → K' a w) → if Region.wanted o (yielded ops a.tmps) = true then Oper.wp P o a w K' Q else K' (a.put o.dst undef) w)
  (hs:AllReadyL P md ops Q S ds fuel listed a w rs):AllReadyL P md ops Q S ds fuel listed a w (i :: rs):=fun j hj => by
 rcases List.mem_cons.1 hj with rfl | hj
 ·exact wpOp_step ho (fun K' hK => h K' (fun a w hS hW => hK a w ⟨fun _ _ => hS,hW hS⟩))
 ·exact hs j hj
theorem AllReadyL.cons_last {fuel:Nat} {listed:Array Bool} {a:Act} {w:World} {i:Nat} {o:Oper} {rs:List Nat} (ho:ops[i]? = some o) (hd:i ∈ ds)
  (h:∀ K':Act → World → Prop,Shut (∀ a w,wpAnyLast P md ops Q S ds fuel (listed.setIfInBounds i true) a w → K' a w) → if Region.wanted o (yielded ops a.tmps) = true then Oper.wp P o a w K' Q else K' (a.put o.dst undef) w)
  (hs:AllReadyL P md ops Q S ds fuel listed a w rs):AllReadyL P md ops Q S ds fuel listed a w (i :: rs):=fun j hj => by
 rcases List.mem_cons.1 hj with rfl | hj
 ·exact wpOp_step ho (fun K' hK => h K' (fun a w hW => hK a w ⟨fun hn => absurd hd hn,hW⟩))
 ·exact hs j hj
theorem wpAnyLast_ready {rs:List Nat} {fuel:Nat} {listed:Array Bool} {a:Act} {w:World} (hr:Region.ready md ops listed = rs) (hne:rs ≠ [])
  (h:AllReadyL P md ops Q S ds fuel listed a w rs):wpAnyLast P md ops Q S ds (fuel + 1) listed a w:=wpAnyLast_all hr hne h
theorem start_ {id n:Nat} {a:Act} {w:World} (l:Array Bool) (hm:P.follows .mixedOrders = true) (hn:ops.size = n) (hl:Array.replicate n false = l) (hS:S w.drew)
  (h:S w.drew → wpAnyLast P .any ops Q S ds n l a w.drew):(Code.region id ops true).wp P Q a w:=by
 subst hn
 subst hl
 exact wp_region_last hm (h hS)
def takeB (md:Region.Mode) (ops:Array Oper) (ds:List Nat) (l l':Array Bool) (i:Nat):Bool :=
 Region.noSelect ops && Region.free md ops l i && (Region.ready md ops l).contains i && Region.closedB md ops l && Region.lastB md ops l ds i && (l.setIfInBounds i true == l')
theorem take_ {i:Nat} {N:Option Tmp} {oi:Oper} {v:Value} {fuel:Nat} {l:Array Bool} {a:Act} {w:World} (l':Array Bool) (hi:ops[i]? = some oi) (hN:oi.dst = N) (hc:takeB md ops ds l l' i = true)
  (hQ:∀ c a w,Q (.panic c) (a.put oi.dst v) w → Q (.panic c) a w) (hy:YieldsIf P ops S oi v a) (hS:S w) {a':Act} (ha:a.put N v = a')
  (h:wpAnyLast P md ops Q S ds fuel l' a' w):wpAnyLast P md ops Q S ds (fuel + 1) l a w:=by
 subst ha
 subst hN
 simp only [takeB,Bool.and_eq_true,beq_iff_eq] at hc
 obtain ⟨⟨⟨⟨⟨h1,h2⟩,h3⟩,h4⟩,h5⟩,h6⟩:=hc
 subst h6
 exact wpAnyLast_take hi h1 h2 h3 h4 h5 hQ hy hS h
def anyB (md:Region.Mode) (ops:Array Oper) (l l':Array Bool) (i:Nat):Bool :=
 Region.noSelect ops && Region.free md ops l i && (Region.ready md ops l).contains i && (l.setIfInBounds i true == l')
theorem pure_ {i:Nat} {N:Option Tmp} {oi:Oper} {v:Value} {fuel:Nat} {l:Array Bool} {a:Act} {w:World} (l':Array Bool) (hi:ops[i]? = some oi) (hN:oi.dst = N) (hc:anyB md ops l l' i = true)
  (hQ:∀ c a w,Q (.panic c) (a.put oi.dst v) w → Q (.panic c) a w) (hy:Yields P ops oi v a) {a':Act} (ha:a.put N v = a')
  (h:wpAnyLast P md ops Q S ds fuel l' a' w):wpAnyLast P md ops Q S ds (fuel + 1) l a w:=by
 subst ha
 subst hN
 simp only [anyB,Bool.and_eq_true,beq_iff_eq] at hc
 obtain ⟨⟨⟨h1,h2⟩,h3⟩,h6⟩:=hc
 subst h6
 exact wpAnyLast_any hi (Region.noSelect_spec h1) hQ fuel l a w (Region.free_spec hi h2) (by simpa using h3) hy h
def readyB (md:Region.Mode) (ops:Array Oper) (l l':Array Bool) (i:Nat):Bool:=(Region.ready md ops l == [i]) && (l.setIfInBounds i true == l')
theorem one_ {i:Nat} {N:Option Tmp} {oi:Oper} {fuel:Nat} {l:Array Bool} {a:Act} {w:World} (l':Array Bool) (hi:ops[i]? = some oi) (hN:oi.dst = N) (hc:readyB md ops l l' i = true) (hd:i ∉ ds)
  (h:∀ K:Act → World → Prop,Shut (∀ a' w',S w' → (S w' → wpAnyLast P md ops Q S ds fuel l' a' w') → K a' w') → if Region.wanted oi (yielded ops a.tmps) = true then Oper.wp P oi a w K Q else K (a.put N undef) w) :
  wpAnyLast P md ops Q S ds (fuel + 1) l a w:=by
 subst hN
 simp only [readyB,Bool.and_eq_true,beq_iff_eq] at hc
 obtain ⟨h1,h2⟩:=hc
 subst h2
 exact wpAnyLast_ready h1 (by simp) (AllReadyL.cons hi hd (fun K hK => h K hK) AllReadyL.nil)
theorem last_ {i:Nat} {N:Option Tmp} {oi:Oper} {fuel:Nat} {l:Array Bool} {a:Act} {w:World} (l':Array Bool) (hi:ops[i]? = some oi) (hN:oi.dst = N) (hc:readyB md ops l l' i = true) (hd:i ∈ ds)
  (h:∀ K:Act → World → Prop,Shut (∀ a' w',wpAnyLast P md ops Q S ds fuel l' a' w' → K a' w') → if Region.wanted oi (yielded ops a.tmps) = true then Oper.wp P oi a w K Q else K (a.put N undef) w) :
  wpAnyLast P md ops Q S ds (fuel + 1) l a w:=by
 subst hN
 simp only [readyB,Bool.and_eq_true,beq_iff_eq] at hc
 obtain ⟨h1,h2⟩:=hc
 subst h2
 exact wpAnyLast_ready h1 (by simp) (AllReadyL.cons_last hi hd (fun K hK => h K hK) AllReadyL.nil)
theorem done_ {l:Array Bool} {a:Act} {w:World} {n:Nat} (hr:(Region.ready md ops l == []) = true) (h:Q .normal a w):wpAnyLast P md ops Q S ds n l a w:=wpAnyLast_done (by simpa using hr) h n
theorem two_ {i j:Nat} {Ni Nj:Option Tmp} {oi oj:Oper} {fuel:Nat} {l:Array Bool} {a:Act} {w:World} (li lj:Array Bool) (hi:ops[i]? = some oi) (hj:ops[j]? = some oj) (hNi:oi.dst = Ni) (hNj:oj.dst = Nj)
  (hc:(Region.ready md ops l == [i,j] && l.setIfInBounds i true == li && l.setIfInBounds j true == lj) = true) (hdi:i ∉ ds) (hdj:j ∉ ds)
  (h1:∀ K:Act → World → Prop,Shut (∀ a' w',S w' → (S w' → wpAnyLast P md ops Q S ds fuel li a' w') → K a' w') → if Region.wanted oi (yielded ops a.tmps) = true then Oper.wp P oi a w K Q else K (a.put Ni undef) w)
  (h2:∀ K:Act → World → Prop,Shut (∀ a' w',S w' → (S w' → wpAnyLast P md ops Q S ds fuel lj a' w') → K a' w') → if Region.wanted oj (yielded ops a.tmps) = true then Oper.wp P oj a w K Q else K (a.put Nj undef) w) :
  wpAnyLast P md ops Q S ds (fuel + 1) l a w:=by
 subst hNi
 subst hNj
 simp only [Bool.and_eq_true,beq_iff_eq] at hc
 obtain ⟨⟨h3,h4⟩,h5⟩:=hc
 subst h4
 subst h5
 exact wpAnyLast_ready h3 (by simp) (AllReadyL.cons hi hdi (fun K hK => h1 K hK) (AllReadyL.cons hj hdj (fun K hK => h2 K hK) AllReadyL.nil))
def putAll:Act → List (Tmp × Value) → Act
 | a,[] => a
 | a,(n,v) :: r => putAll (a.put (some n) v) r
theorem join_ {σ:Type} {fuel:Nat} {l:Array Bool} {a:Act} {w:World} (fuel':Nat) (l':Array Bool) (ns:σ → List (Tmp × Value)) (F:σ → World → Prop)
  (hcont:∀ s w',F s w' → wpAnyLast P md ops Q S ds fuel' l' (putAll a (ns s)) w')
  (h:(∀ s w',F s w' → wpAnyLast P md ops Q S ds fuel' l' (putAll a (ns s)) w') → wpAnyLast P md ops Q S ds fuel l a w):wpAnyLast P md ops Q S ds fuel l a w:=h hcont
theorem norm_ {fuel:Nat} {l:Array Bool} {a a':Act} {w:World} (ha:a = a') (h:wpAnyLast P md ops Q S ds fuel l a' w):wpAnyLast P md ops Q S ds fuel l a w:=by
 subst ha
 exact h
theorem call_ {oi:Oper} {N:Option Tmp} {a:Act} {w:World} {K:Act → World → Prop} (f:FuncId) (args:Array Value) (hw:Region.wanted oi (yielded ops a.tmps) = true) (hN:oi.dst = N) (hrun:(execOp a.eval oi).run P w = .ok (.enter f args) w)
  (h:Calls P f args w fun e w' => ∃ v,e = .returned v ∧ K (a.put N v) w'):if Region.wanted oi (yielded ops a.tmps) = true then Oper.wp P oi a w K Q else K (a.put N undef) w:=by
 rw [if_pos hw]
 subst hN
 unfold Oper.wp
 rw [hrun,Oper.upon_enter]
 refine h.mono fun e w'' hh => ?_
 obtain ⟨v,rfl,hk⟩:=hh
 exact hk
theorem enters_ {f : FuncId} {fn : Func} (hf : P.funcs[f]? = some fn) (hname : (fn.name == "runtime.NumGoroutine") = false) (hb : fn.body.isSome = true) (args : Array Value) (w : World) : (callFunc f args).run P w = .ok (.enter f args) w := by
 have h1 : fn.name ≠ "runtime.NumGoroutine" := by simpa using hname
 obtain ⟨c,hc⟩:=Option.isSome_iff_exists.1 hb
 simp [callFunc,hf,h1,hc]
theorem goes_ {oi : Oper} {N : Option Tmp} {a : Act} {w : World} {K : Act → World → Prop} {f : FuncId} {fn : Func} {as_ : Array Operand} {ts : Array TypeId} (hf : P.funcs[f]? = some fn) (hname : (fn.name == "runtime.NumGoroutine") = false) (hb : fn.body.isSome = true) (args : Array Value)
  (hw:Region.wanted oi (yielded ops a.tmps) = true) (hN:oi.dst = N) (hop:oi.op = .call { callee:=.value (.func f),args:=as_,argTypes:=ts }) (hargs:as_.map a.eval = args)
  (h:Calls P f args w fun e w' => ∃ v,e = .returned v ∧ K (a.put N v) w'):if Region.wanted oi (yielded ops a.tmps) = true then Oper.wp P oi a w K Q else K (a.put N undef) w:=by
 refine call_ f args hw hN ?_ h
 have he:=enters_ hf hname hb args w
 unfold execOp
 simp [hop,resolve,Deferred.ofValue,invoke,Act.eval,hargs,he]
theorem value_ {oi:Oper} {N:Option Tmp} {a:Act} {w w1:World} {v:Value} {K:Act → World → Prop} (hw:Region.wanted oi (yielded ops a.tmps) = true) (hN:oi.dst = N) (hrun:(execOp a.eval oi).run P w = .ok (.value v) w1)
  (h:K (a.put N v) w1):if Region.wanted oi (yielded ops a.tmps) = true then Oper.wp P oi a w K Q else K (a.put N undef) w:=by
 rw [if_pos hw]
 subst hN
 unfold Oper.wp
 rw [hrun]
 exact h
theorem skip_ {oi:Oper} {a:Act} {w w1:World} {K:Act → World → Prop} (hw:Region.wanted oi (yielded ops a.tmps) = true) (hN:oi.dst = none) (hrun:(execOp a.eval oi).run P w = .ok .skip w1)
  (h:K a w1):if Region.wanted oi (yielded ops a.tmps) = true then Oper.wp P oi a w K Q else K (a.put none undef) w:=by
 rw [if_pos hw]
 unfold Oper.wp
 rw [hrun]
 show K (a.put oi.dst undef) w1
 rw [hN]
 exact h
end
end Go.Proofs.YtnkkgofpifhoeaaW.PrintLast
end
section
namespace Go.Proofs.YtnkkgofpifhoeaaW.PrintWords
open Go.RowKit
def rd (xs:List Int) (i:Int):Int:=xs.getD i.toNat 0
def nums (k:IntKind) (xs:List Int):List Value:=xs.map fun x => .int k x
theorem below_alloc {w W:World} (h:Below w.heap.size w W) (o:Obj):Below w.heap.size w (W.alloc o):=h.alloc h.size o
theorem pw_below_drewN {B:Nat} {w W:World} (h:Below B w W) (n:Nat):Below B w (W.drewN n):=⟨h.os,h.tape,h.output,h.size,h.block⟩
theorem pw_cell_below {w w1:World} (h:Below w.heap.size w w1) {a:Addr} {v:Value} (hc:w.cell? a = some v):w1.cell? a = some v:=(h.cell (World.block_lt_of_cell? w a hc)).trans hc
theorem add_plain (g j:Nat):(⟨g,0,none⟩:Addr).add j = ⟨g,j,none⟩:=by unfold Addr.add; split <;> simp_all
def ReadsInt (w:World) (k:IntKind) (A:Option Addr) (n:Nat) (xs:List Int):Prop :=
 xs.length = n ∧ n ≤ 9223372036854775807 ∧ (0 < n → ∃ ad,A = some ad ∧ ∀ j,j < n → w.cell? (ad.add j) = some (.int k (xs.getD j 0)))
theorem ReadsInt.at_ {w:World} {k:IntKind} {A:Option Addr} {n:Nat} {xs:List Int} (h:ReadsInt w k A n xs) (i:Int) (h0:0 ≤ i) (h1:i < n):∃ ad,A = some ad ∧ w.cell? (ad.add i.toNat) = some (.int k (rd xs i)):=by
 obtain ⟨ad,e,hc⟩:=h.2.2 (by omega)
 exact ⟨ad,e,hc _ (by omega)⟩
theorem own_nil (W:World) (base:Nat) (e:TypeId) (size:Nat):W.ownsRow base e size (.slice none 0 0) 0 []:=⟨by simp,.inl ⟨rfl,rfl⟩⟩
theorem own_base {w:World} {base:Nat} {e:TypeId} {size n:Nat} {v:Value} {xs:List Value} (h:w.ownsRow base e size v n xs) (k:Nat) (hk:v.ownBlock = some k):base ≤ k:=by
 rcases h.2 with ⟨rfl,_⟩ | ⟨g,cap,cur,rfl,hb,_⟩
 ·simp [Value.ownBlock] at hk
 ·have:g = k:=by simpa [Value.ownBlock] using hk
  omega
theorem own_lt {w:World} {base:Nat} {e:TypeId} {size n:Nat} {v:Value} {xs:List Value} (h:w.ownsRow base e size v n xs) (k:Nat) (hk:v.ownBlock = some k):k < w.heap.size:=by
 rcases h.2 with ⟨rfl,_⟩ | ⟨g,cap,cur,rfl,hb,hh,_⟩
 ·simp [Value.ownBlock] at hk
 ·have:g = k:=by simpa [Value.ownBlock] using hk
  subst this
  exact (Array.getElem?_eq_some_iff.1 hh).1
section
variable {P:Program} {ops:Array Oper} {rest:List Oper} {o:Oper} {a:Act} {Q:Exit → Act → World → Prop}
theorem print_append_row {w0 W:World} (base:Nat) (hgd:o.guard = none) (s x:Operand) (t e:TypeId) (k:IntKind) (bytes:Nat)
  (ho:o.op = .call { callee:=.builtin .append,args:=#[s,x],argTypes:=#[t,t] })
  (ht:P.underlying t = some (.slice e)) (hinfo:(P.info? e).map (fun i => (i.zero,i.size,i.bytes)) = some (some (.int k 0),1,bytes)) (hb0:0 < bytes)
  (v:Value) (xs ys:List Int) (A:Option Addr) (m c:Nat) (hs:a.eval s = v) (hx:a.eval x = .slice A m c)
  (HO:W.ownsRow base e 1 v xs.length (nums k xs)) (HR:ReadsInt W k A m ys) (HB:Below base w0 W) (hbase:base ≤ W.heap.size) (hl:(xs.length + m) * bytes ≤ 140737488355328)
  (h:∀ v1 w1,w1.ownsRow base e 1 v1 (xs ++ ys).length (nums k (xs ++ ys)) → Below base w0 w1 → W.grownBy w1 v.ownBlock → (v1.ownBlock = v.ownBlock ∨ ∃ b,v1.ownBlock = some b ∧ W.heap.size ≤ b) → wpList P ops Q rest (a.put o.dst v1) w1) :
  wpList P ops Q (o :: rest) a W:=by
 obtain ⟨i0,hi,hzz⟩:=Option.map_eq_some_iff.1 hinfo
 simp only [Prod.mk.injEq] at hzz
 obtain ⟨hz0,hz1,hz2⟩:=hzz
 have hm:ys.length = m:=HR.1
 have hlen:xs.length + m ≤ 140737488355328:=Nat.le_trans (Nat.le_mul_of_pos_right _ hb0) hl
 have hrun:∃ v1 w1,(Builtin.append_ #[t,t] o.type #[v,.slice A m c]).run P W = .ok v1 w1 ∧ w1.ownsRow base e 1 v1 (xs ++ ys).length (nums k (xs ++ ys)) ∧ W.grownBy w1 v.ownBlock ∧ (v1.ownBlock = v.ownBlock ∨ v1.ownBlock = some W.heap.size):=by
  rcases A with _ | ad
  ·have h0:m = 0:=by
    rcases Nat.eq_zero_or_pos m with h0 | h0
    ·exact h0
    ·obtain ⟨ad,h,_⟩:=HR.2.2 h0
     cases h
   subst h0
   obtain rfl:ys = []:=List.eq_nil_of_length_eq_zero hm
   refine ⟨v,W,?_,by simpa using HO,World.grownBy.refl W _,.inl rfl⟩
   rcases HO.2 with ⟨rfl,hn⟩ | ⟨g,cap,cur,rfl,_,_,hnc,_⟩
   ·simp [Builtin.append_,run_underlying ht,sizeOf,typeInfo,hi,Builtin.lenOf,Builtin.firstCells]
   ·simp [Builtin.append_,run_underlying ht,sizeOf,typeInfo,hi,Builtin.lenOf,Builtin.firstCells,hnc,storeCells]
  ·have hcells:∀ j u,(nums k ys)[j]? = some u → W.cell? (ad.add j) = some u:=by
    intro j u hu
    have hj:j < ys.length:=by
     rcases Nat.lt_or_ge j ys.length with h | h
     ·exact h
     ·simp [nums,List.getElem?_eq_none h] at hu
    obtain ⟨ad',h',hc⟩:=HR.2.2 (by omega)
    injection h' with h'
    subst h'
    have:=hc j (by omega)
    simp [nums,List.getElem?_eq_getElem hj] at hu
    subst hu
    rw [this]
    simp [List.getD_eq_getElem?_getD,List.getElem?_eq_getElem hj]
   obtain ⟨v1,w1,hr,h2,h3,_,h5⟩:=run_append_own_at (P:=P) W base t o.type e i0 (.int k 0) 1 bytes ht hi hz0 hz1 hz2 rfl (by omega) v xs.length (nums k xs) HO ad m c (nums k ys) (by simp [nums,hm]) hcells
    (by intro u hu; simp only [nums,List.mem_map] at hu; obtain ⟨q,_,rfl⟩:=hu; rfl) (by simp only [maxLen]; omega) hl hbase
   exact ⟨v1,w1,hr,by simpa [nums,hm] using h2,h3,h5⟩
 obtain ⟨v1,w1,hr,hown,hg,hat⟩:=hrun
 refine wpList_plain hgd fun K hK => ?_
 unfold Oper.wp execOp
 simp only [ho,resolve,invoke,builtin,Sem.run_bind,Sem.run_pure,Result.andThen_ok,List.map_toArray,List.map_cons,List.map_nil,hs,hx,hr]
 refine hK _ _ (h v1 w1 hown (HB.grown hg hbase (own_base HO)) hg ?_)
 rcases hat with hat | hat
 ·exact .inl hat
 ·exact .inr ⟨_,hat,Nat.le_refl _⟩
end
def Reps {α:Type} (R:α → List Value → Prop) (size:Nat) (ps:List α) (cs:List Value):Prop :=
 cs.length = ps.length * size ∧ ∀ j p,ps[j]? = some p → R p ((cs.drop (j * size)).take size)
theorem Reps.none {α:Type} (R:α → List Value → Prop) (size:Nat):Reps R size [] []:=⟨by simp,fun j p h => by simp at h⟩
theorem Reps.snoc {α:Type} {R:α → List Value → Prop} {size:Nat} {ps:List α} {cs c:List Value} {p:α} (h:Reps R size ps cs) (hp:R p c) (hc:c.length = size):Reps R size (ps ++ [p]) (cs ++ c):=by
 refine ⟨by rw [List.length_append,h.1,hc,List.length_append,List.length_singleton,Nat.add_mul,Nat.one_mul],fun j q hq => ?_⟩
 rcases Nat.lt_or_ge j ps.length with hj | hj
 ·rw [List.getElem?_append_left hj] at hq
  have h1:j * size + size ≤ cs.length:=by rw [h.1,← Nat.succ_mul]; exact Nat.mul_le_mul_right _ hj
  have h2:=h.2 j q hq
  rw [List.drop_append_of_le_length (by omega),List.take_append_of_le_length (by rw [List.length_drop]; omega)]
  exact h2
 ·have hj':j = ps.length:=by
   have:=(List.getElem?_eq_some_iff.1 hq).1
   rw [List.length_append,List.length_singleton] at this
   omega
  subst hj'
  have hq':p = q:=by simpa using hq
  subst hq'
  rw [← h.1,List.drop_left,← hc,List.take_length]
  exact hp
theorem Reps.imp_ {α:Type} {R R':α → List Value → Prop} {size:Nat} {ps:List α} {cs:List Value} (h:Reps R size ps cs) (hR:∀ p c,R p c → R' p c):Reps R' size ps cs:=⟨h.1,fun j p hj => hR _ _ (h.2 j p hj)⟩
def ReadsRow {α:Type} (R:α → List Value → Prop) (size:Nat) (w:World) (A:Option Addr) (n:Nat) (ps:List α):Prop :=
 ps.length = n ∧ n ≤ 9223372036854775807 ∧ (0 < n → ∃ ad,A = some ad ∧ ∀ j p,ps[j]? = some p → ∃ c,c.length = size ∧ R p c ∧ ∀ i u,c[i]? = some u → w.cell? (ad.add (j * size + i)) = some u)
theorem ReadsRow.get_ {α:Type} {R:α → List Value → Prop} {size:Nat} {w:World} {A:Option Addr} {n:Nat} {ps:List α} (h:ReadsRow R size w A n ps) (d:α) (i:Int) (h0:0 ≤ i) (h1:i < n) :
  ∃ ad c,A = some ad ∧ c.length = size ∧ R (ps.getD i.toNat d) c ∧ ∀ j u,c[j]? = some u → w.cell? (ad.add (i.toNat * size + j)) = some u:=by
 obtain ⟨ad,e,hc⟩:=h.2.2 (by omega)
 have hl:i.toNat < ps.length:=by have:=h.1; omega
 obtain ⟨c,hs,hr,hcell⟩:=hc i.toNat _ (List.getElem?_eq_getElem hl)
 refine ⟨ad,c,e,hs,?_,hcell⟩
 rw [List.getD_eq_getElem?_getD,List.getElem?_eq_getElem hl]
 exact hr
theorem ReadsRow.imp_ {α:Type} {R R':α → List Value → Prop} {size:Nat} {w w1:World} {A:Option Addr} {n:Nat} {ps:List α} (h:ReadsRow R size w A n ps) (hb:Below w.heap.size w w1) (hR:∀ p c,R p c → R' p c):ReadsRow R' size w1 A n ps :=
 ⟨h.1,h.2.1,fun hn => by
  obtain ⟨ad,e,hc⟩:=h.2.2 hn
  refine ⟨ad,e,fun j p hj => ?_⟩
  obtain ⟨c,hs,hr,hcell⟩:=hc j p hj
  exact ⟨c,hs,hR _ _ hr,fun i u hu => pw_cell_below hb (hcell i u hu)⟩⟩
theorem own_reads_row {α:Type} {R:α → List Value → Prop} {w:World} {base n size:Nat} {e:TypeId} {v:Value} {ps:List α} {cs:List Value} (h:w.ownsRow base e size v n cs) (hR:Reps R size ps cs) (hn:ps.length = n) :
  ∃ A c,v = .slice A n c ∧ ReadsRow R size w A n ps:=by
 rcases Nat.eq_zero_or_pos n with h0 | h0
 ·rcases h.2 with ⟨rfl,rfl⟩ | ⟨g,cap,cur,rfl,_⟩
  ·exact ⟨none,0,rfl,hn,by omega,fun hp => absurd hp (by omega)⟩
  ·exact ⟨_,cap,rfl,hn,by omega,fun hp => absurd hp (by omega)⟩
 ·obtain ⟨g,cap,rfl,_,_⟩:=h.form h0
  have hm:n ≤ 9223372036854775807:=by
   rcases h.2 with ⟨_,h1⟩ | ⟨g',cap',cur,he,_,_,h1,h2,_⟩
   ·omega
   ·simp only [maxLen] at h2
    omega
  refine ⟨_,cap,rfl,hn,hm,fun _ => ⟨_,rfl,fun j p hj => ⟨(cs.drop (j * size)).take size,?_,hR.2 j p hj,fun i u hu => ?_⟩⟩⟩
  ·have hjl:=(List.getElem?_eq_some_iff.1 hj).1
   have h1:j * size + size ≤ cs.length:=by rw [hR.1,← Nat.succ_mul]; exact Nat.mul_le_mul_right _ hjl
   rw [List.length_take,List.length_drop]
   omega
  ·refine h.cells (g:=g) rfl _ u ?_
   rw [List.getElem?_take] at hu
   split at hu
   ·rw [List.getElem?_drop] at hu
    exact hu
   ·cases hu
section
variable {P:Program} {ops:Array Oper} {rest:List Oper} {o:Oper} {a:Act} {Q:Exit → Act → World → Prop}
theorem print_append_cells {w0 W:World} (base:Nat) (hgd:o.guard = none) (s x:Operand) (t e:TypeId) (z:Value) (size bytes:Nat)
  (ho:o.op = .call { callee:=.builtin .append,args:=#[s,x],argTypes:=#[t,t] })
  (ht:P.underlying t = some (.slice e)) (hinfo:(P.info? e).map (fun i => (i.zero,i.size,i.bytes)) = some (some z,size,bytes)) (hz:z.cells.size = size) (hs0:0 < size) (hb0:0 < bytes)
  (v:Value) (n:Nat) (xs ys:List Value) (hs:a.eval s = v) (hx:a.eval x = .slice (some ⟨W.heap.size,0,none⟩) 1 1) (hys:ys.length = size) (h1:∀ u ∈ ys,u.oneCell' = true)
  (HO:W.ownsRow base e size v n xs) (HB:Below base w0 W) (hbase:base ≤ W.heap.size) (hl:(n + 1) * bytes ≤ 140737488355328)
  (h:∀ v1 w1,w1.ownsRow base e size v1 (n + 1) (xs ++ ys) → Below base w0 w1 → W.grownBy w1 v.ownBlock → (v1.ownBlock = v.ownBlock ∨ ∃ b,v1.ownBlock = some b ∧ W.heap.size ≤ b) → wpList P ops Q rest (a.put o.dst v1) w1) :
  wpList P ops Q (o :: rest) a (W.alloc (.cells ys.toArray e)):=by
 obtain ⟨i0,hi,hzz⟩:=Option.map_eq_some_iff.1 hinfo
 simp only [Prod.mk.injEq] at hzz
 obtain ⟨hz0,hz1,hz2⟩:=hzz
 have hlen:n + 1 ≤ 140737488355328:=Nat.le_trans (Nat.le_mul_of_pos_right _ hb0) hl
 refine wpList_append_own_at (W.alloc (.cells ys.toArray e)) hgd s x t ho base e i0 z size bytes ht hi hz0 hz1 hz2 hz hs0 v n xs hs (HO.alloc _) ⟨W.heap.size,0,none⟩ 1 1 ys hx (by rw [hys]; simp)
  (by simpa using World.news_of_block (cs:=ys.toArray) (t:=e) (fr:=(0,0)) (heap_alloc_new W (.cells ys.toArray e))) h1 (by simp only [maxLen]; omega) hl (by simp; omega) ?_
 intro v1 w1 hown hg _ hat
 refine h v1 w1 hown ((HB.alloc hbase _).grown hg (by simp; omega) (own_base HO)) (World.grownBy.trans (World.grownBy_alloc W _ _) hg) ?_
 rcases hat with hat | hat
 ·exact .inl hat
 ·exact .inr ⟨_,hat,by simp⟩
end
theorem blk_set {w:World} {g:Nat} {t:TypeId} {cs:Array Value} (h:w.heap[g]? = some (.cells cs t (0,0))) (i:Nat) (u:Value):(w.setCell ⟨g,i,none⟩ u).heap[g]? = some (.cells (cs.setIfInBounds i u) t (0,0)):=by
 simp [World.setCell,Array.getElem?_modify,h]
theorem blk_lt {w:World} {g:Nat} {o:Obj} (h:w.heap[g]? = some o):g < w.heap.size:=(Array.getElem?_eq_some_iff.1 h).1
theorem blk_cell {w:World} {g:Nat} {t:TypeId} {cs:Array Value} (h:w.heap[g]? = some (.cells cs t (0,0))) (i:Nat):w.cell? ⟨g,i,none⟩ = cs[i]?:=cell_of_row w g i cs t (0,0) h
theorem blk_frozen {w:World} {g:Nat} {t:TypeId} {cs:Array Value} (h:w.heap[g]? = some (.cells cs t (0,0))) (i:Nat):w.frozen? ⟨g,i,none⟩ = false:=by simp [World.frozen?,h]
def KeepBut (w w':World) (g:Nat) (row:Option Nat):Prop:=w.heap.size ≤ w'.heap.size ∧ ∀ i,i < w.heap.size → i ≠ g → some i ≠ row → w'.heap[i]? = w.heap[i]?
theorem KeepBut.trans {w w1 w2:World} {g:Nat} {row row1:Option Nat} (h:KeepBut w w1 g row) (k:KeepBut w1 w2 g row1) (hr:row1 = row ∨ ∃ b,row1 = some b ∧ w.heap.size ≤ b):KeepBut w w2 g row :=
 ⟨Nat.le_trans h.1 k.1,fun i hi hg hn => by
  refine (k.2 i (Nat.lt_of_lt_of_le hi h.1) hg ?_).trans (h.2 i hi hg hn)
  rcases hr with rfl | ⟨b,rfl,hb⟩
  ·exact hn
  ·intro e
   injection e with e
   omega⟩
section
variable {P:Program} {ops:Array Oper} {o:Oper} {a:Act} {Q:Exit → Act → World → Prop} {K:Act → World → Prop}
theorem step_append_cells {w0 W:World} (base:Nat) (hw:Region.wanted o (yielded ops a.tmps) = true) (s x:Operand) (t e:TypeId) (z:Value) (size bytes:Nat)
  (ho:o.op = .call { callee:=.builtin .append,args:=#[s,x],argTypes:=#[t,t] })
  (ht:P.underlying t = some (.slice e)) (hinfo:(P.info? e).map (fun i => (i.zero,i.size,i.bytes)) = some (some z,size,bytes)) (hz:z.cells.size = size) (hs0:0 < size) (hb0:0 < bytes)
  (v:Value) (n:Nat) (xs ys:List Value) (hs:a.eval s = v) (hx:a.eval x = .slice (some ⟨W.heap.size,0,none⟩) 1 1) (hys:ys.length = size) (h1:∀ u ∈ ys,u.oneCell' = true)
  (HO:W.ownsRow base e size v n xs) (HB:Below base w0 W) (hbase:base ≤ W.heap.size) (hl:(n + 1) * bytes ≤ 140737488355328)
  (h:∀ v1 w1,w1.ownsRow base e size v1 (n + 1) (xs ++ ys) → Below base w0 w1 → W.grownBy w1 v.ownBlock → (v1.ownBlock = v.ownBlock ∨ ∃ b,v1.ownBlock = some b ∧ W.heap.size ≤ b) → K (a.put o.dst v1) w1) :
  if Region.wanted o (yielded ops a.tmps) = true then Oper.wp P o a (W.alloc (.cells ys.toArray e)) K Q else K (a.put o.dst undef) (W.alloc (.cells ys.toArray e)):=by
 obtain ⟨i0,hi,hzz⟩:=Option.map_eq_some_iff.1 hinfo
 simp only [Prod.mk.injEq] at hzz
 obtain ⟨hz0,hz1,hz2⟩:=hzz
 have hlen:n + 1 ≤ 140737488355328:=Nat.le_trans (Nat.le_mul_of_pos_right _ hb0) hl
 rw [if_pos hw]
 obtain ⟨v1,w1,hr,hown,hg,_,hat⟩:=run_append_own_at (P:=P) (W.alloc (.cells ys.toArray e)) base t o.type e i0 z size bytes ht hi hz0 hz1 hz2 hz hs0 v n xs (HO.alloc _) ⟨W.heap.size,0,none⟩ 1 1 ys (by rw [hys]; simp)
  (by simpa using World.news_of_block (cs:=ys.toArray) (t:=e) (fr:=(0,0)) (heap_alloc_new W (.cells ys.toArray e))) h1 (by simp only [maxLen]; omega) hl (by simp; omega)
 unfold Oper.wp execOp
 simp only [ho,resolve,invoke,builtin,Sem.run_bind,Sem.run_pure,Result.andThen_ok,List.map_toArray,List.map_cons,List.map_nil,hs,hx,hr]
 refine h v1 w1 hown ((HB.alloc hbase _).grown hg (by simp; omega) (own_base HO)) (World.grownBy.trans (World.grownBy_alloc W _ _) hg) ?_
 rcases hat with hat | hat
 ·exact .inl hat
 ·exact .inr ⟨_,hat,by simp⟩
end
theorem own_weaken {w:World} {base base':Nat} {e:TypeId} {size n:Nat} {v:Value} {xs:List Value} (h:w.ownsRow base e size v n xs) (hb:base' ≤ base):w.ownsRow base' e size v n xs:=by
 obtain ⟨h1,h2⟩:=h
 refine ⟨h1,?_⟩
 rcases h2 with h2 | ⟨g,cap,cur,rfl,hg,r⟩
 ·exact .inl h2
 ·exact .inr ⟨g,cap,cur,rfl,Nat.le_trans hb hg,r⟩
section
variable {α:Type} {enc:α → Value} {d:α}
def encs (enc:α → Value) (xs:List α):List Value:=xs.map enc
theorem encs_length (xs:List α):(encs enc xs).length = xs.length:=by simp [encs]
theorem encs_get (xs:List α) (j:Nat) (h:j < xs.length):(encs enc xs)[j]? = some (enc (xs.getD j d)):=by
 simp [encs,List.getElem?_eq_getElem h,List.getD_eq_getElem?_getD]
def ReadsOf (enc:α → Value) (d:α) (w:World) (A:Option Addr) (n:Nat) (xs:List α):Prop :=
 xs.length = n ∧ n ≤ 9223372036854775807 ∧ (0 < n → ∃ ad,A = some ad ∧ ∀ j,j < n → w.cell? (ad.add j) = some (enc (xs.getD j d)))
end
section
variable {α:Type} {P:Program} {ops:Array Oper} {rest:List Oper} {o:Oper} {a:Act} {Q:Exit → Act → World → Prop}
theorem print_append_row_of {w0 W:World} (enc:α → Value) (d:α) (base:Nat) (hgd:o.guard = none) (s x:Operand) (t e:TypeId) (z:Value) (bytes:Nat)
  (ho:o.op = .call { callee:=.builtin .append,args:=#[s,x],argTypes:=#[t,t] })
  (ht:P.underlying t = some (.slice e)) (hinfo:(P.info? e).map (fun i => (i.zero,i.size,i.bytes)) = some (some z,1,bytes)) (hz:z.cells.size = 1) (hb0:0 < bytes) (h1:∀ x:α,(enc x).oneCell' = true)
  (v:Value) (xs ys:List α) (A:Option Addr) (m c:Nat) (hs:a.eval s = v) (hx:a.eval x = .slice A m c)
  (HO:W.ownsRow base e 1 v xs.length (encs enc xs)) (HR:ReadsOf enc d W A m ys) (HB:Below base w0 W) (hbase:base ≤ W.heap.size) (hl:(xs.length + m) * bytes ≤ 140737488355328)
  (h:∀ v1 w1,w1.ownsRow base e 1 v1 (xs ++ ys).length (encs enc (xs ++ ys)) → Below base w0 w1 → W.grownBy w1 v.ownBlock → (v1.ownBlock = v.ownBlock ∨ ∃ b,v1.ownBlock = some b ∧ W.heap.size ≤ b) → wpList P ops Q rest (a.put o.dst v1) w1) :
  wpList P ops Q (o :: rest) a W:=by
 obtain ⟨i0,hi,hzz⟩:=Option.map_eq_some_iff.1 hinfo
 simp only [Prod.mk.injEq] at hzz
 obtain ⟨hz0,hz1,hz2⟩:=hzz
 have hm:ys.length = m:=HR.1
 have hlen:xs.length + m ≤ 140737488355328:=Nat.le_trans (Nat.le_mul_of_pos_right _ hb0) hl
 have hrun:∃ v1 w1,(Builtin.append_ #[t,t] o.type #[v,.slice A m c]).run P W = .ok v1 w1 ∧ w1.ownsRow base e 1 v1 (xs ++ ys).length (encs enc (xs ++ ys)) ∧ W.grownBy w1 v.ownBlock ∧ (v1.ownBlock = v.ownBlock ∨ v1.ownBlock = some W.heap.size):=by
  rcases A with _ | ad
  ·have h0:m = 0:=by
    rcases Nat.eq_zero_or_pos m with h0 | h0
    ·exact h0
    ·obtain ⟨ad,h,_⟩:=HR.2.2 h0
     cases h
   subst h0
   obtain rfl:ys = []:=List.eq_nil_of_length_eq_zero hm
   refine ⟨v,W,?_,by simpa using HO,World.grownBy.refl W _,.inl rfl⟩
   rcases HO.2 with ⟨rfl,hn⟩ | ⟨g,cap,cur,rfl,_,_,hnc,_⟩
   ·simp [Builtin.append_,run_underlying ht,sizeOf,typeInfo,hi,Builtin.lenOf,Builtin.firstCells]
   ·simp [Builtin.append_,run_underlying ht,sizeOf,typeInfo,hi,Builtin.lenOf,Builtin.firstCells,hnc,storeCells]
  ·have hcells:∀ j u,(encs enc ys)[j]? = some u → W.cell? (ad.add j) = some u:=by
    intro j u hu
    have hj:j < ys.length:=by
     rcases Nat.lt_or_ge j ys.length with h | h
     ·exact h
     ·simp [encs,List.getElem?_eq_none h] at hu
    obtain ⟨ad',h',hc⟩:=HR.2.2 (by omega)
    injection h' with h'
    subst h'
    rw [encs_get (d:=d) ys j hj] at hu
    rw [← hu]
    exact hc j (by omega)
   obtain ⟨v1,w1,hr,h2,h3,_,h5⟩:=run_append_own_at (P:=P) W base t o.type e i0 z 1 bytes ht hi hz0 hz1 hz2 hz (by omega) v xs.length (encs enc xs) HO ad m c (encs enc ys) (by simp [encs,hm]) hcells
    (by intro u hu; simp only [encs,List.mem_map] at hu; obtain ⟨q,_,rfl⟩:=hu; exact h1 q) (by simp only [maxLen]; omega) hl hbase
   exact ⟨v1,w1,hr,by simpa [encs,hm] using h2,h3,h5⟩
 obtain ⟨v1,w1,hr,hown,hg,hat⟩:=hrun
 refine wpList_plain hgd fun K hK => ?_
 unfold Oper.wp execOp
 simp only [ho,resolve,invoke,builtin,Sem.run_bind,Sem.run_pure,Result.andThen_ok,List.map_toArray,List.map_cons,List.map_nil,hs,hx,hr]
 refine hK _ _ (h v1 w1 hown (HB.grown hg hbase (own_base HO)) hg ?_)
 rcases hat with hat | hat
 ·exact .inl hat
 ·exact .inr ⟨_,hat,Nat.le_refl _⟩
end
theorem blk_new (w:World) (o:Obj):(w.alloc o).heap[w.heap.size]? = some o:=heap_alloc_new w o
theorem own_le {w:World} {base n m c size:Nat} {e:TypeId} {A:Option Addr} {xs:List Value} (h:w.ownsRow base e size (.slice A m c) n xs):m ≤ c:=by
 rcases h.2 with ⟨he,_⟩ | ⟨g,cap,cur,he,_,_,hnc,_⟩
 ·injection he with _ h2 h3
  omega
 ·injection he with _ h2 h3
  omega
def OwnRow {α:Type} (R:α → List Value → Prop) (e:TypeId) (size:Nat) (w:World) (base:Nat) (v:Value) (ps:List α):Prop :=
 ∃ inner,w.ownsRow base e size v ps.length inner ∧ Reps R size ps inner
section
variable {α:Type} {R R':α → List Value → Prop} {e:TypeId} {size:Nat} {w w1:World} {base:Nat} {v:Value} {ps:List α}
theorem OwnRow.none_ (R:α → List Value → Prop) (e:TypeId) (size:Nat) (w:World) (base:Nat):OwnRow R e size w base (.slice none 0 0) []:=⟨[],own_nil _ _ _ _,Reps.none _ _⟩
theorem OwnRow.imp_ (h:OwnRow R e size w base v ps) (hR:∀ p c,R p c → R' p c):OwnRow R' e size w base v ps:=by
 obtain ⟨inner,ho,hr⟩:=h
 exact ⟨inner,ho,hr.imp_ hR⟩
theorem OwnRow.reads (h:OwnRow R e size w base v ps):∃ A c,v = .slice A ps.length c ∧ ps.length ≤ c ∧ ReadsRow R size w A ps.length ps:=by
 obtain ⟨inner,ho,hr⟩:=h
 obtain ⟨A,c,rfl,hrow⟩:=own_reads_row ho hr rfl
 exact ⟨A,c,rfl,own_le ho,hrow⟩
end
theorem ReadsRow.inner_ {α:Type} {R:α → List Value → Prop} {size:Nat} {w:World} {ad:Addr} {n:Nat} {ps:List α} (h:ReadsRow R size w (some ad) n ps) :
  ∃ inner,Reps R size ps inner ∧ ∀ j u,inner[j]? = some u → w.cell? (ad.add j) = some u:=by
 have key:∀ m,m ≤ ps.length → ∃ inner,Reps R size (ps.take m) inner ∧ ∀ j u,inner[j]? = some u → w.cell? (ad.add j) = some u:=by
  intro m
  induction m with
  | zero => exact fun _ => ⟨[],Reps.none _ _,fun j u hu => by simp at hu⟩
  | succ m ih =>
   intro hm
   obtain ⟨inner,hr,hc⟩:=ih (by omega)
   obtain ⟨ad',he,hcell⟩:=h.2.2 (by have:=h.1; omega)
   injection he with he
   subst he
   obtain ⟨c,hcl,hp,hcc⟩:=hcell m _ (List.getElem?_eq_getElem (show m < ps.length by omega))
   refine ⟨inner ++ c,?_,fun j u hu => ?_⟩
   ·rw [List.take_succ_eq_append_getElem (show m < ps.length by omega)]
    exact hr.snoc hp hcl
   ·have hil:inner.length = m * size:=by rw [hr.1,List.length_take,Nat.min_eq_left (by omega)]
    rcases Nat.lt_or_ge j inner.length with hj | hj
    ·rw [List.getElem?_append_left hj] at hu
     exact hc j u hu
    ·rw [List.getElem?_append_right hj] at hu
     have:=hcc (j - inner.length) u hu
     rwa [hil,Nat.add_sub_cancel' (by omega)] at this
 obtain ⟨inner,hr,hc⟩:=key ps.length (Nat.le_refl _)
 rw [List.take_length] at hr
 exact ⟨inner,hr,hc⟩
structure Kd (α:Type) where
 sz:Nat
 E:List Nat
 K:World → α → List Value → Prop
 M:World → Nat → (Nat → Prop) → α → List Value → Prop
 K_len:∀ {w x cs},K w x cs → cs.length = sz
 K_one:∀ {w x cs},K w x cs → ∀ u ∈ cs,u.oneCell' = true
 K_below:∀ {w w1:World} {x cs},Below w.heap.size w w1 → K w x cs → K w1 x cs
 K_of_M:∀ {w base ok x cs},M w base ok x cs → K w x cs
 M_mono:∀ {w base ok ok' x cs},(∀ k,ok k → ok' k) → M w base ok x cs → M w base ok' x cs
 M_bound:∀ {w:World} {base ok x cs},M w base ok x cs → M w base (fun k => ok k ∧ base ≤ k ∧ k < w.heap.size ∧ ∃ q,q ∈ E ∧ ∃ cells,w.heap[k]? = some (.cells cells q (0,0))) x cs
 M_move:∀ {w w1:World} {base ok x cs},(∀ k,ok k → w1.heap[k]? = w.heap[k]?) → M w base ok x cs → M w1 base ok x cs
 M_lower:∀ {w base base' ok x cs},base' ≤ base → M w base ok x cs → M w base' ok x cs
theorem own_move {w w1:World} {base:Nat} {e:TypeId} {size n:Nat} {v:Value} {xs:List Value} (h:w.ownsRow base e size v n xs) (hm:∀ k,v.ownBlock = some k → w1.heap[k]? = w.heap[k]?):w1.ownsRow base e size v n xs:=by
 obtain ⟨h1,h2⟩:=h
 refine ⟨h1,?_⟩
 rcases h2 with h2 | ⟨g,cap,cur,rfl,hg,hh,r⟩
 ·exact .inl h2
 ·exact .inr ⟨g,cap,cur,rfl,hg,(hm g (by simp [Value.ownBlock])).trans hh,r⟩
theorem own_typed {w:World} {base:Nat} {e:TypeId} {size n:Nat} {v:Value} {xs:List Value} (h:w.ownsRow base e size v n xs) (k:Nat) (hk:v.ownBlock = some k):∃ cells,w.heap[k]? = some (.cells cells e (0,0)):=by
 rcases h.2 with ⟨rfl,_⟩ | ⟨g,cap,cur,rfl,hg,hh,r⟩
 ·simp [Value.ownBlock] at hk
 ·have:g = k:=by simpa [Value.ownBlock] using hk
  subst this
  exact ⟨cur,hh⟩
namespace Kd
def C {α:Type} (d:Kd α) (w:World) (A:Option Addr) (n:Nat) (xs:List α):Prop:=ReadsRow (d.K w) d.sz w A n xs
def R {α:Type} (d:Kd α) (e:Nat) (w:World) (base:Nat) (ok:Nat → Prop) (v:Value) (xs:List α):Prop :=
 (∀ k,v.ownBlock = some k → ok k) ∧ OwnRow (d.M w base (fun k => ok k ∧ some k ≠ v.ownBlock)) e d.sz w base v xs
section
variable {α:Type} {d:Kd α} {e:Nat} {w w1:World} {base:Nat} {ok ok':Nat → Prop} {v:Value} {xs:List α}
theorem C_below {A:Option Addr} {n:Nat} (h:d.C w A n xs) (hb:Below w.heap.size w w1):d.C w1 A n xs:=ReadsRow.imp_ h hb (fun _ _ hp => d.K_below hb hp)
theorem R_nil (d:Kd α) (e:Nat) (w:World) (base:Nat) (ok:Nat → Prop):d.R e w base ok (.slice none 0 0) []:=⟨fun k hk => by simp [Value.ownBlock] at hk,OwnRow.none_ _ _ _ _ _⟩
theorem R_mono (h:d.R e w base ok v xs) (hok:∀ k,ok k → ok' k):d.R e w base ok' v xs:=⟨fun k hk => hok k (h.1 k hk),h.2.imp_ (fun _ _ hp => d.M_mono (fun k hk => ⟨hok k hk.1,hk.2⟩) hp)⟩
theorem R_bound (h:d.R e w base ok v xs):d.R e w base (fun k => ok k ∧ base ≤ k ∧ k < w.heap.size ∧ ∃ q,q ∈ e :: d.E ∧ ∃ cells,w.heap[k]? = some (.cells cells q (0,0))) v xs:=by
 obtain ⟨h0,inner,ho,hr⟩:=h
 refine ⟨fun k hk => ?_,inner,ho,hr.imp_ (fun _ _ hp => d.M_mono (fun k hk => ?_) (d.M_bound hp))⟩
 ·obtain ⟨cells,hc⟩:=own_typed ho k hk
  exact ⟨h0 k hk,own_base ho k hk,own_lt ho k hk,e,List.mem_cons_self,cells,hc⟩
 ·obtain ⟨⟨h1,h2⟩,h3,h4,q,hq,hc⟩:=hk
  exact ⟨⟨h1,h3,h4,q,List.mem_cons_of_mem _ hq,hc⟩,h2⟩
theorem R_move (h:d.R e w base ok v xs) (hm:∀ k,ok k → w1.heap[k]? = w.heap[k]?):d.R e w1 base ok v xs:=by
 obtain ⟨h0,inner,ho,hr⟩:=h
 exact ⟨h0,inner,own_move ho (fun k hk => hm k (h0 k hk)),hr.imp_ (fun _ _ hp => d.M_move (fun k hk => hm k hk.1) hp)⟩
theorem R_lower {base':Nat} (h:d.R e w base ok v xs) (hb:base' ≤ base):d.R e w base' ok v xs:=by
 obtain ⟨h0,inner,ho,hr⟩:=h
 exact ⟨h0,inner,own_weaken ho hb,hr.imp_ (fun _ _ hp => d.M_lower hb hp)⟩
theorem R_step (h:d.R e w base ok v xs) (hm:∀ k,ok k → k < w.heap.size → w1.heap[k]? = w.heap[k]?):d.R e w1 base ok v xs :=
 R_mono (R_move (R_bound h) (fun k hk => hm k hk.1 hk.2.2.1)) (fun _ hk => hk.1)
theorem M_step {x:α} {cs:List Value} (h:d.M w base ok x cs) (hm:∀ k,ok k → k < w.heap.size → w1.heap[k]? = w.heap[k]?):d.M w1 base ok x cs :=
 d.M_mono (fun _ hk => hk.1) (d.M_move (fun k hk => hm k hk.1 hk.2.2.1) (d.M_bound h))
theorem R_below (h:d.R e w base ok v xs) (hb:Below w.heap.size w w1):d.R e w1 base ok v xs:=R_step h (fun k _ hk => hb.block k hk)
theorem M_below {x:α} {cs:List Value} (h:d.M w base ok x cs) (hb:Below w.heap.size w w1):d.M w1 base ok x cs:=M_step h (fun k _ hk => hb.block k hk)
theorem R_reads (h:d.R e w base ok v xs):∃ A c,v = .slice A xs.length c ∧ xs.length ≤ c ∧ d.C w A xs.length xs:=by
 obtain ⟨A,c,he,hl,hr⟩:=OwnRow.reads h.2
 exact ⟨A,c,he,hl,hr.imp_ (Below.refl _ _) (fun _ _ hp => d.K_of_M hp)⟩
theorem R_slice (h:d.R e w base ok v xs):∃ A c,v = .slice A xs.length c:=by
 obtain ⟨A,c,he,_⟩:=R_reads h
 exact ⟨A,c,he⟩
theorem R_own (h:d.R e w base ok v xs):∃ inner,w.ownsRow base e d.sz v xs.length inner:=by
 obtain ⟨_,inner,ho,_⟩:=h
 exact ⟨inner,ho⟩
end
def scalar {α:Type} (enc:α → Value) (h1:∀ x,(enc x).oneCell' = true):Kd α where
 sz:=1
 E:=[]
 K:=fun _ x cs => cs = [enc x]
 M:=fun _ _ _ x cs => cs = [enc x]
 K_len:=fun h => by rw [h]; rfl
 K_one:=fun h u hu => by
  rw [h] at hu
  rw [List.mem_singleton.1 hu]
  exact h1 _
 K_below:=fun _ h => h
 K_of_M:=fun h => h
 M_mono:=fun _ h => h
 M_bound:=fun h => h
 M_move:=fun _ h => h
 M_lower:=fun _ h => h
def int (k:IntKind):Kd Int:=scalar (Value.int k) (fun _ => rfl)
def slice {α:Type} (e:Nat) (d:Kd α):Kd (List α) where
 sz:=1
 E:=e :: d.E
 K:=fun w xs cs => ∃ A c,cs = [.slice A xs.length c] ∧ xs.length ≤ c ∧ d.C w A xs.length xs
 M:=fun w base ok xs cs => ∃ v,cs = [v] ∧ d.R e w base ok v xs
 K_len:=by
  rintro w x cs ⟨A,c,rfl,_⟩
  rfl
 K_one:=by
  rintro w x cs ⟨A,c,rfl,_⟩ u hu
  rw [List.mem_singleton.1 hu]
  rfl
 K_below:=by
  rintro w w1 x cs hb ⟨A,c,rfl,hl,hr⟩
  exact ⟨A,c,rfl,hl,C_below hr hb⟩
 K_of_M:=by
  rintro w base ok x cs ⟨v,rfl,h⟩
  obtain ⟨A,c,rfl,hl,hr⟩:=R_reads h
  exact ⟨A,c,rfl,hl,hr⟩
 M_mono:=by
  rintro w base ok ok' x cs hok ⟨v,rfl,h⟩
  exact ⟨v,rfl,R_mono h hok⟩
 M_bound:=by
  rintro w base ok x cs ⟨v,rfl,h⟩
  exact ⟨v,rfl,R_bound h⟩
 M_move:=by
  rintro w w1 base ok x cs hm ⟨v,rfl,h⟩
  exact ⟨v,rfl,R_move h hm⟩
 M_lower:=by
  rintro w base base' ok x cs hb ⟨v,rfl,h⟩
  exact ⟨v,rfl,R_lower h hb⟩
def pair {α β:Type} (a:Kd α) (b:Kd β):Kd (α × β) where
 sz:=a.sz + b.sz
 E:=a.E ++ b.E
 K:=fun w x cs => ∃ c0 c1,cs = c0 ++ c1 ∧ a.K w x.1 c0 ∧ b.K w x.2 c1
 M:=fun w base ok x cs => ∃ c0 c1,cs = c0 ++ c1 ∧ a.M w base ok x.1 c0 ∧ b.M w base ok x.2 c1
 K_len:=by
  rintro w x cs ⟨c0,c1,rfl,h0,h1⟩
  rw [List.length_append,a.K_len h0,b.K_len h1]
 K_one:=by
  rintro w x cs ⟨c0,c1,rfl,h0,h1⟩ u hu
  rcases List.mem_append.1 hu with hu | hu
  ·exact a.K_one h0 u hu
  ·exact b.K_one h1 u hu
 K_below:=by
  rintro w w1 x cs hb ⟨c0,c1,rfl,h0,h1⟩
  exact ⟨c0,c1,rfl,a.K_below hb h0,b.K_below hb h1⟩
 K_of_M:=by
  rintro w base ok x cs ⟨c0,c1,rfl,h0,h1⟩
  exact ⟨c0,c1,rfl,a.K_of_M h0,b.K_of_M h1⟩
 M_mono:=by
  rintro w base ok ok' x cs hok ⟨c0,c1,rfl,h0,h1⟩
  exact ⟨c0,c1,rfl,a.M_mono hok h0,b.M_mono hok h1⟩
 M_bound:=by
  rintro w base ok x cs ⟨c0,c1,rfl,h0,h1⟩
  refine ⟨c0,c1,rfl,a.M_mono ?_ (a.M_bound h0),b.M_mono ?_ (b.M_bound h1)⟩
  ·rintro k ⟨h2,h3,h4,q,hq,hc⟩
   exact ⟨h2,h3,h4,q,List.mem_append_left _ hq,hc⟩
  ·rintro k ⟨h2,h3,h4,q,hq,hc⟩
   exact ⟨h2,h3,h4,q,List.mem_append_right _ hq,hc⟩
 M_move:=by
  rintro w w1 base ok x cs hm ⟨c0,c1,rfl,h0,h1⟩
  exact ⟨c0,c1,rfl,a.M_move hm h0,b.M_move hm h1⟩
 M_lower:=by
  rintro w base base' ok x cs hb ⟨c0,c1,rfl,h0,h1⟩
  exact ⟨c0,c1,rfl,a.M_lower hb h0,b.M_lower hb h1⟩
def iso {α β:Type} (d:Kd α) (f:β → α):Kd β where
 sz:=d.sz
 E:=d.E
 K:=fun w x cs => d.K w (f x) cs
 M:=fun w base ok x cs => d.M w base ok (f x) cs
 K_len:=d.K_len
 K_one:=d.K_one
 K_below:=d.K_below
 K_of_M:=d.K_of_M
 M_mono:=d.M_mono
 M_bound:=d.M_bound
 M_move:=d.M_move
 M_lower:=d.M_lower
theorem C_get {α:Type} {d:Kd α} {w:World} {A:Option Addr} {n:Nat} {xs:List α} (h:d.C w A n xs) (z:α) (i:Int) (h0:0 ≤ i) (h1:i < n) :
  ∃ ad c,A = some ad ∧ c.length = d.sz ∧ d.K w (xs.getD i.toNat z) c ∧ ∀ j u,c[j]? = some u → w.cell? (ad.add (i.toNat * d.sz + j)) = some u:=ReadsRow.get_ h z i h0 h1
theorem R_appended {α:Type} {d:Kd α} {e base:Nat} {ok okp:Nat → Prop} {W w1:World} {v v1:Value} {xs:List α} {p:α} {inner cs:List Value} (h0:∀ k,v.ownBlock = some k → ok k) (hr:Reps (d.M W base (fun k => ok k ∧ some k ≠ v.ownBlock)) d.sz xs inner) (hp:d.M W base okp p cs) (hokp:∀ k,okp k → ok k ∧ some k ≠ v.ownBlock) (hfresh:∀ k,W.heap.size ≤ k → ok k)
  (hown:w1.ownsRow base e d.sz v1 (xs.length + 1) (inner ++ cs)) (hg:W.grownBy w1 v.ownBlock) (hat:v1.ownBlock = v.ownBlock ∨ ∃ b,v1.ownBlock = some b ∧ W.heap.size ≤ b):d.R e w1 base ok v1 (xs ++ [p]):=by
 have hne:∀ k,some k ≠ v.ownBlock → k < W.heap.size → some k ≠ v1.ownBlock:=by
  intro k hk hlt
  rcases hat with hat | ⟨b,hb,hle⟩
  ·rw [hat]; exact hk
  ·rw [hb]
   intro he
   injection he with he
   omega
 have step:∀ {q:α} {c:List Value} {o:Nat → Prop},d.M W base o q c → (∀ k,o k → ok k ∧ some k ≠ v.ownBlock) → d.M w1 base (fun k => ok k ∧ some k ≠ v1.ownBlock) q c:=by
  intro q c o hq ho
  have h1:=d.M_move (w1:=w1) (fun k hk => hg.block k hk.2.2.1 (ho k hk.1).2) (d.M_bound hq)
  exact d.M_mono (fun k hk => ⟨(ho k hk.1).1,hne k (ho k hk.1).2 hk.2.2.1⟩) h1
 refine ⟨fun k hk => ?_,inner ++ cs,by rw [List.length_append,List.length_singleton]; exact hown,?_⟩
 ·rcases hat with hat | ⟨b,hb,hle⟩
  ·exact h0 k (hat ▸ hk)
  ·rw [hb] at hk
   injection hk with hk
   exact hfresh k (by omega)
 ·exact (hr.imp_ (fun _ _ hq => step hq (fun _ hk => hk))).snoc (step hp hokp) (d.K_len (d.K_of_M hp))
section
variable {P:Program} {ops:Array Oper} {o:Oper} {a:Act} {Q:Exit → Act → World → Prop} {Kc:Act → World → Prop} {α:Type}
theorem R_append_step (d:Kd α) {w0 W:World} (base:Nat) (hw:Region.wanted o (yielded ops a.tmps) = true) (s x:Operand) (t e:TypeId) (z:Value) (bytes:Nat)
  (ho:o.op = .call { callee:=.builtin .append,args:=#[s,x],argTypes:=#[t,t] })
  (ht:P.underlying t = some (.slice e)) (hinfo:(P.info? e).map (fun i => (i.zero,i.size,i.bytes)) = some (some z,d.sz,bytes)) (hz:z.cells.size = d.sz) (hs0:0 < d.sz) (hb0:0 < bytes)
  (v:Value) (xs:List α) (p:α) (cs:List Value) (ok okp:Nat → Prop) (hs:a.eval s = v) (hx:a.eval x = .slice (some ⟨W.heap.size,0,none⟩) 1 1) (hp:d.M W base okp p cs) (hokp:∀ k,okp k → ok k ∧ some k ≠ v.ownBlock) (hfresh:∀ k,W.heap.size ≤ k → ok k)
  (HO:d.R e W base ok v xs) (HB:Below base w0 W) (hbase:base ≤ W.heap.size) (hl:(xs.length + 1) * bytes ≤ 140737488355328)
  (h:∀ v1 w1,d.R e w1 base ok v1 (xs ++ [p]) → Below base w0 w1 → W.grownBy w1 v.ownBlock → (v1.ownBlock = v.ownBlock ∨ ∃ b,v1.ownBlock = some b ∧ W.heap.size ≤ b) → Kc (a.put o.dst v1) w1) :
  if Region.wanted o (yielded ops a.tmps) = true then Oper.wp P o a (W.alloc (.cells cs.toArray e)) Kc Q else Kc (a.put o.dst undef) (W.alloc (.cells cs.toArray e)):=by
 obtain ⟨h0,inner,hown,hr⟩:=HO
 refine step_append_cells base hw s x t e z d.sz bytes ho ht hinfo hz hs0 hb0 v xs.length inner cs hs hx (d.K_len (d.K_of_M hp)) (d.K_one (d.K_of_M hp)) hown HB hbase hl ?_
 intro v1 w1 hown1 hb1 hg1 hat1
 exact h v1 w1 (R_appended h0 hr hp hokp hfresh hown1 hg1 hat1) hb1 hg1 hat1
end
theorem reps_scalar {α:Type} {enc:α → Value} (xs:List α):Reps (fun (x:α) (cs:List Value) => cs = [enc x]) 1 xs (encs enc xs):=by
 refine ⟨by simp [encs],fun j p hj => ?_⟩
 obtain ⟨hl,hp⟩:=List.getElem?_eq_some_iff.1 hj
 have hl':j < (encs enc xs).length:=by rw [encs_length]; exact hl
 rw [Nat.mul_one,List.drop_eq_getElem_cons hl']
 simp [encs,hp]
theorem R_of_own {α:Type} {enc:α → Value} {h1:∀ x,(enc x).oneCell' = true} {e:Nat} {w:World} {base:Nat} {ok:Nat → Prop} {v:Value} {xs:List α} (ho:w.ownsRow base e 1 v xs.length (encs enc xs)) (hok:∀ k,v.ownBlock = some k → ok k):(scalar enc h1).R e w base ok v xs:=⟨hok,encs enc xs,ho,reps_scalar xs⟩
theorem own_of_R {α:Type} {enc:α → Value} {h1:∀ x,(enc x).oneCell' = true} {e:Nat} {w:World} {base:Nat} {ok:Nat → Prop} {v:Value} {xs:List α} (h:(scalar enc h1).R e w base ok v xs):w.ownsRow base e 1 v xs.length (encs enc xs):=by
 obtain ⟨_,inner,ho,hr⟩:=h
 have:inner = encs enc xs:=by
  apply List.ext_getElem?
  intro j
  rcases Nat.lt_or_ge j xs.length with hj | hj
  ·have h2:=hr.2 j _ (List.getElem?_eq_getElem hj)
   have hl:j < inner.length:=by have:=hr.1; simp [scalar] at this; omega
   have h3:(inner.drop (j * 1)).take 1 = [enc xs[j]]:=h2
   rw [Nat.mul_one,List.drop_eq_getElem_cons hl] at h3
   have h4:inner[j] = enc xs[j]:=by
    have h5:=congrArg List.head? h3
    rw [List.take_succ_cons] at h5
    exact Option.some.inj h5
   rw [List.getElem?_eq_getElem hl,h4]
   simp [encs,List.getElem?_eq_getElem hj]
  ·have h3:inner.length = xs.length:=by have:=hr.1; simp [scalar] at this; omega
   rw [List.getElem?_eq_none (by omega),List.getElem?_eq_none (by rw [encs_length]; omega)]
 rw [← this]
 exact ho
theorem C_of_reads {α:Type} {enc:α → Value} {d:α} {h1:∀ x,(enc x).oneCell' = true} {w:World} {A:Option Addr} {n:Nat} {xs:List α} (h:ReadsOf enc d w A n xs):(scalar enc h1).C w A n xs:=by
 refine ⟨h.1,h.2.1,fun hn => ?_⟩
 obtain ⟨ad,e,hc⟩:=h.2.2 hn
 refine ⟨ad,e,fun j p hj => ⟨[enc p],rfl,rfl,fun i u hu => ?_⟩⟩
 obtain ⟨hl,hp⟩:=List.getElem?_eq_some_iff.1 hj
 have h2:=hc j (by have:=h.1; omega)
 rw [List.getD_eq_getElem?_getD,hj] at h2
 cases i with
 | zero =>
  have:enc p = u:=by simpa using hu
  subst this
  simpa [scalar] using h2
 | succ i => simp at hu
theorem reads_of_C {α:Type} {enc:α → Value} {d:α} {h1:∀ x,(enc x).oneCell' = true} {w:World} {A:Option Addr} {n:Nat} {xs:List α} (h:(scalar enc h1).C w A n xs):ReadsOf enc d w A n xs:=by
 refine ⟨h.1,h.2.1,fun hn => ?_⟩
 obtain ⟨ad,e,hc⟩:=h.2.2 hn
 refine ⟨ad,e,fun j hj => ?_⟩
 have hl:j < xs.length:=by have:=h.1; omega
 obtain ⟨c,_,hK,hcell⟩:=hc j _ (List.getElem?_eq_getElem hl)
 have hK':c = [enc xs[j]]:=hK
 subst hK'
 have:=hcell 0 _ rfl
 simpa [scalar,List.getD_eq_getElem?_getD,List.getElem?_eq_getElem hl] using this
end Kd
namespace Kd
section
variable {α β:Type} {d:Kd α} {d':Kd β} {e e':Nat} {w w1 W:World} {base b b':Nat} {ok ok' okv oku:Nat → Prop} {v u:Value} {xs:List α} {ys:List β}
theorem C_drewN {A:Option Addr} {n:Nat} (h:d.C w A n xs) (m:Nat):d.C (w.drewN m) A n xs:=C_below h (pw_below_drewN (Below.refl _ _) m)
theorem R_reads' {A:Option Addr} {n c:Nat} (h:d.R e w base ok (.slice A n c) xs):n = xs.length ∧ n ≤ c ∧ d.C w A xs.length xs:=by
 obtain ⟨A',c',he,hl,hr⟩:=R_reads h
 injection he with h1 h2 h3
 subst h1
 exact ⟨h2,by omega,hr⟩
theorem R_lt (h:d.R e w base ok v xs):∀ k,v.ownBlock = some k → k < w.heap.size:=by
 obtain ⟨inner,ho⟩:=R_own h
 exact own_lt ho
theorem R_base (h:d.R e w base ok v xs):∀ k,v.ownBlock = some k → base ≤ k:=by
 obtain ⟨inner,ho⟩:=R_own h
 exact own_base ho
theorem R_form (h:d.R e w base ok v xs) (hp:0 < xs.length):∃ g cap,v = .slice (some ⟨g,0,none⟩) xs.length cap ∧ base ≤ g ∧ g < w.heap.size ∧ ∃ cells,w.heap[g]? = some (.cells cells e (0,0)):=by
 obtain ⟨inner,ho⟩:=R_own h
 obtain ⟨g,cap,he,hb,hl⟩:=ho.form hp
 obtain ⟨cells,hc⟩:=own_typed ho g (by rw [he]; simp [Value.ownBlock])
 exact ⟨g,cap,he,hb,hl,cells,hc⟩
end
section
variable {P:Program} {ops:Array Oper} {rest:List Oper} {o:Oper} {a:Act} {Q:Exit → Act → World → Prop}
theorem event_run {W w1:World} {v:Value} (hgd:o.guard = none) (hrun:(execOp a.eval o).run P W = .ok (.value v) w1) (h:wpList P ops Q rest (a.put o.dst v) w1):wpList P ops Q (o :: rest) a W:=by
 refine wpList_plain hgd fun K hK => ?_
 unfold Oper.wp
 rw [hrun]
 exact hK _ _ h
variable {α:Type}
theorem R_lit (d:Kd α) {w0 W:World} (base e:Nat) (hgd:o.guard = none) {N:Tmp} (_hd:o.dst = some N) {xs:List α} {inner:List Value} {ok okp:Nat → Prop}
  (hrun:(execOp a.eval o).run P W = .ok (.value (.slice (some ⟨W.heap.size,0,none⟩) xs.length xs.length)) (W.alloc (.cells inner.toArray e)))
  (hrep:Reps (d.M W base okp) d.sz xs inner) (hok:∀ k,okp k → ok k) (hfresh:ok W.heap.size) (HB:Below base w0 W) (hbase:base ≤ W.heap.size) (hm:xs.length ≤ 9223372036854775807)
  (h:∀ v1 w1,d.R e w1 base ok v1 xs → Below base w0 w1 → W.grownBy w1 none → (∃ b,v1.ownBlock = some b ∧ W.heap.size ≤ b) → wpList P ops Q rest (a.put o.dst v1) w1):wpList P ops Q (o :: rest) a W:=by
 refine event_run hgd hrun (h _ _ ⟨fun k hk => ?_,inner,?_,?_⟩ (HB.alloc hbase _) (World.grownBy_alloc W _ none) ⟨W.heap.size,by simp [Value.ownBlock],Nat.le_refl _⟩)
 ·have:W.heap.size = k:=by simpa [Value.ownBlock] using hk
  subst this
  exact hfresh
 ·have h2:=World.ownsRow_lit (base:=base) (e:=e) (size:=d.sz) W inner.toArray xs.length hbase (by simpa [maxLen] using hm) (by simpa using hrep.1)
  simpa using h2
 ·refine hrep.imp_ (fun p c hp => d.M_mono (fun k hk => ⟨hok k hk.1,fun he => ?_⟩) (M_below (d.M_bound hp) (below_alloc (Below.refl _ _) _)))
  have h3:k = W.heap.size:=by simpa [Value.ownBlock] using he
  have:=hk.2.2.1
  omega
end
end Kd
def QRow (w:World) (base:Nat) (e:TypeId) (size:Nat) (v:Value) (n:Nat) (xs:List Value):Prop :=
 xs.length = n * size ∧
 ((n = 0 ∧ ∃ A,v = .slice A 0 0 ∧ ∀ a,A = some a → base ≤ a.block ∧ ∃ cur,w.heap[a.block]? = some (.cells cur e (0,0))) ∨
  ∃ g off cap cur,v = .slice (some ⟨g,off * size,none⟩) n cap ∧ base ≤ g ∧ w.heap[g]? = some (.cells cur e (0,0)) ∧ n ≤ cap ∧ off + cap ≤ maxLen ∧ cur.size = (off + cap) * size ∧ (cur.toList.drop (off * size)).take (n * size) = xs)
section
variable {w w1:World} {base n size:Nat} {e:TypeId} {v:Value} {xs:List Value}
theorem q_of_own (h:w.ownsRow base e size v n xs):QRow w base e size v n xs:=by
 obtain ⟨h1,h2⟩:=h
 refine ⟨h1,?_⟩
 rcases h2 with ⟨rfl,h0⟩ | ⟨g,cap,cur,rfl,hb,hh,hnc,hcm,hcs,ht⟩
 ·exact .inl ⟨h0,none,rfl,fun a ha => by cases ha⟩
 ·exact .inr ⟨g,0,cap,cur,by rw [Nat.zero_mul],hb,hh,hnc,by rw [Nat.zero_add]; exact hcm,by rw [Nat.zero_add]; exact hcs,by rw [Nat.zero_mul,List.drop_zero]; exact ht⟩
theorem q_move (h:QRow w base e size v n xs) (hm:∀ k,v.ownBlock = some k → w1.heap[k]? = w.heap[k]?):QRow w1 base e size v n xs:=by
 obtain ⟨h1,h2⟩:=h
 refine ⟨h1,?_⟩
 rcases h2 with ⟨h0,A,rfl,hA⟩ | ⟨g,off,cap,cur,rfl,hg,hh,r⟩
 ·refine .inl ⟨h0,A,rfl,fun a ha => ?_⟩
  obtain ⟨hb,cur,hc⟩:=hA a ha
  subst ha
  exact ⟨hb,cur,(hm a.block (by simp [Value.ownBlock])).trans hc⟩
 ·exact .inr ⟨g,off,cap,cur,rfl,hg,(hm g (by simp [Value.ownBlock])).trans hh,r⟩
theorem q_typed (h:QRow w base e size v n xs) (k:Nat) (hk:v.ownBlock = some k):base ≤ k ∧ ∃ cells,w.heap[k]? = some (.cells cells e (0,0)):=by
 rcases h.2 with ⟨_,A,rfl,hA⟩ | ⟨g,off,cap,cur,rfl,hg,hh,r⟩
 ·cases A with
  | none => simp [Value.ownBlock] at hk
  | some a =>
   have:a.block = k:=by simpa [Value.ownBlock] using hk
   subst this
   exact hA a rfl
 ·have:g = k:=by simpa [Value.ownBlock] using hk
  subst this
  exact ⟨hg,cur,hh⟩
theorem q_lt (h:QRow w base e size v n xs) (k:Nat) (hk:v.ownBlock = some k):k < w.heap.size:=by
 obtain ⟨_,cells,hc⟩:=q_typed h k hk
 exact (Array.getElem?_eq_some_iff.1 hc).1
theorem q_lower {base':Nat} (h:QRow w base e size v n xs) (hb:base' ≤ base):QRow w base' e size v n xs:=by
 obtain ⟨h1,h2⟩:=h
 refine ⟨h1,?_⟩
 rcases h2 with ⟨h0,A,rfl,hA⟩ | ⟨g,off,cap,cur,rfl,hg,r⟩
 ·exact .inl ⟨h0,A,rfl,fun a ha => ⟨Nat.le_trans hb (hA a ha).1,(hA a ha).2⟩⟩
 ·exact .inr ⟨g,off,cap,cur,rfl,Nat.le_trans hb hg,r⟩
theorem q_slice (h:QRow w base e size v n xs):∃ A c,v = .slice A n c ∧ n ≤ c:=by
 rcases h.2 with ⟨h0,A,rfl,_⟩ | ⟨g,off,cap,cur,rfl,hg,hh,hnc,r⟩
 ·exact ⟨A,0,by rw [h0],by omega⟩
 ·exact ⟨_,cap,rfl,hnc⟩
theorem q_max (h:QRow w base e size v n xs):n ≤ 9223372036854775807:=by
 rcases h.2 with ⟨h0,_⟩ | ⟨g,off,cap,cur,rfl,hg,hh,hnc,hm,r⟩
 ·omega
 ·simp only [maxLen] at hm
  omega
theorem add_at (g o j:Nat):(⟨g,o,none⟩:Addr).add j = ⟨g,o + j,none⟩:=by unfold Addr.add; split <;> simp_all
theorem q_cells {A:Option Addr} {c:Nat} (h:QRow w base e size (.slice A n c) n xs) (hn:0 < n):∃ ad,A = some ad ∧ ∀ j u,xs[j]? = some u → w.cell? (ad.add j) = some u:=by
 rcases h.2 with ⟨h0,_⟩ | ⟨g,off,cap,cur,he,hg,hh,hnc,hm,hcs,ht⟩
 ·omega
 ·injection he with ha _ hc
  subst ha
  refine ⟨_,rfl,fun j u hu => ?_⟩
  rw [add_at,cell_of_row w g _ cur e (0,0) hh]
  rw [← ht,List.getElem?_take] at hu
  split at hu
  ·rw [List.getElem?_drop] at hu
   rw [← Array.getElem?_toList]
   exact hu
  ·cases hu
theorem q_take {A:Option Addr} {c m:Nat} (h:QRow w base e size (.slice A n c) n xs) (hm:m ≤ n):QRow w base e size (.slice A m c) m (xs.take (m * size)):=by
 obtain ⟨h1,h2⟩:=h
 refine ⟨by rw [List.length_take,h1]; exact Nat.min_eq_left (Nat.mul_le_mul_right _ hm),?_⟩
 rcases h2 with ⟨h0,A',he,hA⟩ | ⟨g,off,cap,cur,he,hb,hh,hnc,hcm,hcs,ht⟩
 ·injection he with ha hb hc
  subst ha; subst hc
  exact .inl ⟨by omega,A,by rw [show m = 0 by omega],hA⟩
 ·injection he with ha _ hc
  subst ha; subst hc
  refine .inr ⟨g,off,c,cur,rfl,hb,hh,by omega,hcm,hcs,?_⟩
  rw [← ht,List.take_take,Nat.min_eq_left (Nat.mul_le_mul_right _ hm)]
theorem q_drop {A:Option Addr} {c k:Nat} (h:QRow w base e size (.slice A n c) n xs) (hk:k ≤ n):QRow w base e size (.slice (if c = k then A else A.map (·.add (k * size))) (n - k) (c - k)) (n - k) (xs.drop (k * size)):=by
 obtain ⟨h1,h2⟩:=h
 refine ⟨by rw [List.length_drop,h1,Nat.sub_mul],?_⟩
 rcases h2 with ⟨h0,A',he,hA⟩ | ⟨g,off,cap,cur,he,hb,hh,hnc,hcm,hcs,ht⟩
 ·injection he with ha hb hc
  subst ha; subst hc
  have hk0:k = 0:=by omega
  subst hk0
  exact .inl ⟨by omega,A,by rw [if_pos rfl,h0],hA⟩
 ·injection he with ha _ hc
  subst ha; subst hc
  by_cases hck:c = k
  ·rw [if_pos hck]
   refine .inl ⟨by omega,some ⟨g,off * size,none⟩,?_,fun a ha => ?_⟩
   ·rw [show n - k = 0 by omega,show c - k = 0 by omega]
   ·injection ha with ha
    subst ha
    exact ⟨hb,cur,hh⟩
  ·rw [if_neg hck]
   refine .inr ⟨g,off + k,c - k,cur,?_,hb,hh,by omega,by omega,by rw [hcs]; congr 1; omega,?_⟩
   ·rw [Option.map_some,add_at,Nat.add_mul]
   ·rw [← ht,List.drop_take,List.drop_drop,Nat.add_mul,Nat.sub_mul]
theorem setCells_far {g:Nat}:∀ (vs:List Value) (o:Nat) {w:World} (k:Nat),k ≠ g → (w.setCells g o vs).heap[k]? = w.heap[k]?
 | [],_,_,_,_ => rfl
 | v :: r,o,w,k,hk => by
  rw [World.setCells,setCells_far r (o + 1) k hk]
  exact Below.heap_setCell w ⟨g,o,none⟩ v k hk
theorem setCells_same (g:Nat):∀ (vs:List Value) (o:Nat) (w:World),(w.setCells g o vs).os = w.os ∧ (w.setCells g o vs).tape = w.tape ∧ (w.setCells g o vs).output = w.output ∧ (w.setCells g o vs).heap.size = w.heap.size
 | [],_,_ => ⟨rfl,rfl,rfl,rfl⟩
 | v :: r,o,w => by
  obtain ⟨h1,h2,h3,h4⟩:=setCells_same g r (o + 1) (w.setCell ⟨g,o,none⟩ v)
  rw [World.setCells]
  exact ⟨h1,h2,h3,by rw [h4]; simp [World.setCell]⟩
theorem setCells_row {g:Nat} {e:TypeId}:∀ (vs:List Value) (o:Nat) (w:World) (cur:Array Value),w.heap[g]? = some (.cells cur e (0,0)) → o + vs.length ≤ cur.size →
  ∃ cur',(w.setCells g o vs).heap[g]? = some (.cells cur' e (0,0)) ∧ cur'.size = cur.size ∧ cur'.toList = cur.toList.take o ++ vs ++ cur.toList.drop (o + vs.length)
 | [],o,w,cur,h,_ => ⟨cur,h,rfl,by simp⟩
 | v :: r,o,w,cur,h,hl => by
  have h2:=blk_set h o v
  simp only [List.length_cons] at hl
  obtain ⟨cur',h3,h4,h5⟩:=setCells_row r (o + 1) (w.setCell ⟨g,o,none⟩ v) _ h2 (by simp; omega)
  refine ⟨cur',h3,by rw [h4]; simp,?_⟩
  rw [h5,Array.toList_setIfInBounds]
  have ho:o < cur.toList.length:=by rw [Array.length_toList]; omega
  rw [List.take_set,List.drop_set_of_lt (by omega)]
  simp only [List.length_cons]
  rw [show o + 1 + r.length = o + (r.length + 1) by omega]
  congr 1
  rw [List.take_succ_eq_append_getElem ho,List.set_append_right _ _ (by rw [List.length_take]; omega)]
  have ho':o < cur.size:=by omega
  simp [Nat.min_eq_left (Nat.le_of_lt ho')]
end
section
variable {P:Program}
theorem q_append (w:World) (base:Nat) (t ty e:TypeId) (i:TypeInfo) (z:Value) (size bytes:Nat) (ht:P.underlying t = some (.slice e)) (hi:P.info? e = some i) (hz:i.zero = some z)
  (hsize:i.size = size) (hby:i.bytes = bytes) (hzs:z.cells.size = size) (hsz:0 < size)
  (v:Value) (n:Nat) (xs:List Value) (hown:QRow w base e size v n xs)
  (a:Addr) (m c:Nat) (news:List Value) (hl:news.length = m * size) (hnews:∀ j u,news[j]? = some u → w.cell? (a.add j) = some u) (h1:∀ u ∈ news,u.oneCell' = true) (hm:0 < m)
  (h63:n + m ≤ maxLen) (hbytes:(n + m) * bytes ≤ 140737488355328) (hbase:base ≤ w.heap.size) :
  ∃ v' w',(Builtin.append_ #[t,t] ty #[v,.slice (some a) m c]).run P w = .ok v' w' ∧ QRow w' base e size v' (n + m) (xs ++ news) ∧ w.grownBy w' v.ownBlock ∧ (v'.ownBlock = v.ownBlock ∨ ∃ b,v'.ownBlock = some b ∧ w.heap.size ≤ b):=by
 have grows:∀ (b:Addr) (cap:Nat),cap < n + m → (∀ j u,xs[j]? = some u → w.cell? (b.add j) = some u) → v = .slice (some b) n cap →
   ∃ v' w',(Builtin.append_ #[t,t] ty #[v,.slice (some a) m c]).run P w = .ok v' w' ∧ QRow w' base e size v' (n + m) (xs ++ news) ∧ w.grownBy w' v.ownBlock ∧ (v'.ownBlock = v.ownBlock ∨ ∃ b,v'.ownBlock = some b ∧ w.heap.size ≤ b):=by
  intro b cap hcap hcells hv
  obtain ⟨v',w',hr,ho,hg⟩:=run_append_arg_grows (P:=P) (w:=w) t ty e i z size bytes ht hi hz hsize hby hzs hsz b n cap xs hown.1 hcells a m c news hl hnews hcap h63 hbytes
  refine ⟨v',w',by rw [hv]; exact hr,q_lower (q_of_own ho) hbase,⟨hg.os,hg.tape,hg.output,hg.size,fun k hk _ => hg.block k hk (by simp)⟩,?_⟩
  obtain ⟨g',cap',he,hb,_⟩:=ho.form (by omega)
  exact .inr ⟨g',by rw [he]; simp [Value.ownBlock],hb⟩
 rcases hown.2 with ⟨h0,A,hv,hA⟩ | ⟨g,off,cap,cur,hv,hbg,hg,hnc,hcm,hcs,htake⟩
 ·cases A with
  | none =>
   subst h0
   have ho:w.ownsRow base e size v 0 xs:=⟨hown.1,.inl ⟨hv,rfl⟩⟩
   obtain ⟨v',w',hr,ho',hg,_,hat⟩:=run_append_own_at (P:=P) w base t ty e i z size bytes ht hi hz hsize hby hzs hsz v 0 xs ho a m c news hl hnews h1 h63 hbytes hbase
   refine ⟨v',w',hr,q_of_own ho',hg,?_⟩
   rcases hat with hat | hat
   ·exact .inl hat
   ·exact .inr ⟨_,hat,Nat.le_refl _⟩
  | some b =>
   have hx:xs = []:=List.eq_nil_of_length_eq_zero (by rw [hown.1,h0,Nat.zero_mul])
   exact grows b 0 (by omega) (fun j u hu => by rw [hx] at hu; simp at hu) (by rw [hv,h0])
 ·by_cases hroom:n + m ≤ cap
  ·have hfit:off * size + n * size + news.length ≤ cur.size:=by
    rw [hl,hcs,← Nat.add_mul,← Nat.add_mul]
    exact Nat.mul_le_mul_right _ (by omega)
   subst hsize
   have hr:=run_append_room_cells (P:=P) (w:=w) t ty e i ht hi g (off * i.size) n cap a m c news hl hnews h1 hroom
    (fun j hj => by rw [cell_of_row w g _ cur e (0,0) hg]; simp; omega) (fun j _ => blk_frozen hg _)
   obtain ⟨cur',h3,h4,h5⟩:=setCells_row news (off * i.size + n * i.size) w cur hg hfit
   obtain ⟨s1,s2,s3,s4⟩:=setCells_same g news (off * i.size + n * i.size) w
   refine ⟨_,_,by rw [hv]; exact hr,⟨by rw [List.length_append,hown.1,hl,Nat.add_mul],.inr ⟨g,off,cap,cur',rfl,hbg,h3,hroom,hcm,by rw [h4,hcs],?_⟩⟩,
    ⟨s1,s2,s3,by rw [s4]; exact Nat.le_refl _,fun k _ hk => setCells_far news _ k (fun he => hk (by rw [hv,he]; simp [Value.ownBlock]))⟩,.inl (by rw [hv]; rfl)⟩
   rw [h5,List.append_assoc,List.drop_append_of_le_length (by rw [List.length_take,Array.length_toList]; omega),List.drop_take]
   rw [show off * i.size + n * i.size - off * i.size = n * i.size by omega,htake]
   rw [← List.append_assoc]
   exact List.take_left' (by rw [List.length_append,hown.1,hl,Nat.add_mul])
  ·refine grows ⟨g,off * size,none⟩ cap (by omega) (fun j u hu => ?_) hv
   rw [add_at,cell_of_row w g _ cur e (0,0) hg]
   rw [← htake,List.getElem?_take] at hu
   split at hu
   ·rw [List.getElem?_drop] at hu
    rw [← Array.getElem?_toList]
    exact hu
   ·cases hu
end
namespace Kd
theorem reps_drop {α:Type} {R:α → List Value → Prop} {size m:Nat} {ps:List α} {cs:List Value} (h:Reps R size ps cs):Reps R size (ps.drop m) (cs.drop (m * size)):=by
 refine ⟨by rw [List.length_drop,List.length_drop,h.1,Nat.sub_mul],fun j p hj => ?_⟩
 rw [List.getElem?_drop] at hj
 have:=h.2 (m + j) p hj
 rw [List.drop_drop,← Nat.add_mul]
 exact this
def Q {α:Type} (d:Kd α) (e:Nat) (w:World) (base:Nat) (ok:Nat → Prop) (v:Value) (xs:List α):Prop :=
 (∀ k,v.ownBlock = some k → ok k) ∧ ∃ inner,QRow w base e d.sz v xs.length inner ∧ Reps (d.M w base (fun k => ok k ∧ some k ≠ v.ownBlock)) d.sz xs inner
section
variable {α:Type} {d:Kd α} {e:Nat} {w w1 W:World} {base:Nat} {ok ok':Nat → Prop} {v:Value} {xs:List α}
theorem Q_of_R (h:d.R e w base ok v xs):d.Q e w base ok v xs:=by
 obtain ⟨h0,inner,ho,hr⟩:=h
 exact ⟨h0,inner,q_of_own ho,hr⟩
theorem Q_nil (d:Kd α) (e:Nat) (w:World) (base:Nat) (ok:Nat → Prop):d.Q e w base ok (.slice none 0 0) []:=Q_of_R (R_nil d e w base ok)
theorem Q_mono (h:d.Q e w base ok v xs) (hok:∀ k,ok k → ok' k):d.Q e w base ok' v xs:=by
 obtain ⟨h0,inner,ho,hr⟩:=h
 exact ⟨fun k hk => hok k (h0 k hk),inner,ho,hr.imp_ (fun _ _ hp => d.M_mono (fun k hk => ⟨hok k hk.1,hk.2⟩) hp)⟩
theorem Q_bound (h:d.Q e w base ok v xs):d.Q e w base (fun k => ok k ∧ base ≤ k ∧ k < w.heap.size ∧ ∃ q,q ∈ e :: d.E ∧ ∃ cells,w.heap[k]? = some (.cells cells q (0,0))) v xs:=by
 obtain ⟨h0,inner,ho,hr⟩:=h
 refine ⟨fun k hk => ?_,inner,ho,hr.imp_ (fun _ _ hp => d.M_mono (fun k hk => ?_) (d.M_bound hp))⟩
 ·obtain ⟨hb,cells,hc⟩:=q_typed ho k hk
  exact ⟨h0 k hk,hb,q_lt ho k hk,e,List.mem_cons_self,cells,hc⟩
 ·obtain ⟨⟨h1,h2⟩,h3,h4,q,hq,hc⟩:=hk
  exact ⟨⟨h1,h3,h4,q,List.mem_cons_of_mem _ hq,hc⟩,h2⟩
theorem Q_move (h:d.Q e w base ok v xs) (hm:∀ k,ok k → w1.heap[k]? = w.heap[k]?):d.Q e w1 base ok v xs:=by
 obtain ⟨h0,inner,ho,hr⟩:=h
 exact ⟨h0,inner,q_move ho (fun k hk => hm k (h0 k hk)),hr.imp_ (fun _ _ hp => d.M_move (fun k hk => hm k hk.1) hp)⟩
theorem Q_step (h:d.Q e w base ok v xs) (hm:∀ k,ok k → k < w.heap.size → w1.heap[k]? = w.heap[k]?):d.Q e w1 base ok v xs:=Q_mono (Q_move (Q_bound h) (fun k hk => hm k hk.1 hk.2.2.1)) (fun _ hk => hk.1)
theorem Q_below (h:d.Q e w base ok v xs) (hb:Below w.heap.size w w1):d.Q e w1 base ok v xs:=Q_step h (fun k _ hk => hb.block k hk)
theorem Q_slice (h:d.Q e w base ok v xs):∃ A c,v = .slice A xs.length c ∧ xs.length ≤ c:=by
 obtain ⟨_,inner,ho,_⟩:=h
 exact q_slice ho
theorem Q_reads' {A:Option Addr} {n c:Nat} (h:d.Q e w base ok (.slice A n c) xs):n = xs.length ∧ n ≤ c ∧ d.C w A xs.length xs:=by
 obtain ⟨_,inner,ho,hr⟩:=h
 obtain ⟨A',c',he,hl⟩:=q_slice ho
 injection he with h1 h2 h3
 subst h1; subst h2; subst h3
 refine ⟨rfl,hl,rfl,q_max ho,fun hp => ?_⟩
 obtain ⟨ad,ha,hc⟩:=q_cells ho hp
 refine ⟨ad,ha,fun j p hj => ⟨(inner.drop (j * d.sz)).take d.sz,?_,d.K_of_M (hr.2 j p hj),fun i u hu => ?_⟩⟩
 ·have hjl:=(List.getElem?_eq_some_iff.1 hj).1
  have h1:j * d.sz + d.sz ≤ inner.length:=by rw [hr.1,← Nat.succ_mul]; exact Nat.mul_le_mul_right _ hjl
  rw [List.length_take,List.length_drop]
  omega
 ·refine hc _ u ?_
  rw [List.getElem?_take] at hu
  split at hu
  ·rw [List.getElem?_drop] at hu
   exact hu
  ·cases hu
theorem Q_drop {A:Option Addr} {k n c:Nat} (h:d.Q e w base ok (.slice A n c) xs) (hk:k ≤ xs.length):d.Q e w base ok (.slice (if c = k then A else A.map (·.add (k * d.sz))) (n - k) (c - k)) (xs.drop k):=by
 have hn:n = xs.length:=(Q_reads' h).1
 subst hn
 obtain ⟨h0,inner,ho,hr⟩:=h
 have hb:(Value.slice (if c = k then A else A.map (·.add (k * d.sz))) (xs.length - k) (c - k)).ownBlock = (Value.slice A xs.length c).ownBlock:=by
  split
  ·cases A <;> rfl
  ·cases A with
   | none => rfl
   | some a => simp [Value.ownBlock]; unfold Addr.add; split <;> rfl
 refine ⟨fun j hj => h0 j (by rw [← hb]; exact hj),inner.drop (k * d.sz),?_,?_⟩
 ·rw [List.length_drop]
  exact q_drop ho hk
 ·rw [hb]
  exact reps_drop hr
theorem Q_appended {okp:Nat → Prop} {v1:Value} {p:α} {inner cs:List Value} (h0:∀ k,v.ownBlock = some k → ok k) (hr:Reps (d.M W base (fun k => ok k ∧ some k ≠ v.ownBlock)) d.sz xs inner) (hp:d.M W base okp p cs) (hokp:∀ k,okp k → ok k ∧ some k ≠ v.ownBlock) (hfresh:∀ k,W.heap.size ≤ k → ok k)
  (hown:QRow w1 base e d.sz v1 (xs.length + 1) (inner ++ cs)) (hg:W.grownBy w1 v.ownBlock) (hat:v1.ownBlock = v.ownBlock ∨ ∃ b,v1.ownBlock = some b ∧ W.heap.size ≤ b):d.Q e w1 base ok v1 (xs ++ [p]):=by
 have hne:∀ k,some k ≠ v.ownBlock → k < W.heap.size → some k ≠ v1.ownBlock:=by
  intro k hk hlt
  rcases hat with hat | ⟨b,hb,hle⟩
  ·rw [hat]; exact hk
  ·rw [hb]
   intro he
   injection he with he
   omega
 have step:∀ {q:α} {c:List Value} {o:Nat → Prop},d.M W base o q c → (∀ k,o k → ok k ∧ some k ≠ v.ownBlock) → d.M w1 base (fun k => ok k ∧ some k ≠ v1.ownBlock) q c:=by
  intro q c o hq ho
  have h1:=d.M_move (w1:=w1) (fun k hk => hg.block k hk.2.2.1 (ho k hk.1).2) (d.M_bound hq)
  exact d.M_mono (fun k hk => ⟨(ho k hk.1).1,hne k (ho k hk.1).2 hk.2.2.1⟩) h1
 refine ⟨fun k hk => ?_,inner ++ cs,by rw [List.length_append,List.length_singleton]; exact hown,?_⟩
 ·rcases hat with hat | ⟨b,hb,hle⟩
  ·exact h0 k (hat ▸ hk)
  ·rw [hb] at hk
   injection hk with hk
   exact hfresh k (by omega)
 ·exact (hr.imp_ (fun _ _ hq => step hq (fun _ hk => hk))).snoc (step hp hokp) (d.K_len (d.K_of_M hp))
end
section
variable {P:Program} {ops:Array Oper} {rest:List Oper} {o:Oper} {a:Act} {Q':Exit → Act → World → Prop} {Kc:Act → World → Prop} {α:Type}
theorem Q_run (d:Kd α) {w0 W:World} (base:Nat) (t ty e:TypeId) (z:Value) (bytes:Nat)
  (ht:P.underlying t = some (.slice e)) (hinfo:(P.info? e).map (fun i => (i.zero,i.size,i.bytes)) = some (some z,d.sz,bytes)) (hz:z.cells.size = d.sz) (hs0:0 < d.sz) (hb0:0 < bytes)
  (v:Value) (xs:List α) (p:α) (cs:List Value) (ok okp:Nat → Prop) (hp:d.M W base okp p cs) (hokp:∀ k,okp k → ok k ∧ some k ≠ v.ownBlock) (hfresh:∀ k,W.heap.size ≤ k → ok k)
  (HO:d.Q e W base ok v xs) (HB:Below base w0 W) (hbase:base ≤ W.heap.size) (hl:(xs.length + 1) * bytes ≤ 140737488355328) :
  ∃ v1 w1,(Builtin.append_ #[t,t] ty #[v,.slice (some ⟨W.heap.size,0,none⟩) 1 1]).run P (W.alloc (.cells cs.toArray e)) = .ok v1 w1 ∧ d.Q e w1 base ok v1 (xs ++ [p]) ∧ Below base w0 w1 ∧ W.grownBy w1 v.ownBlock ∧ (v1.ownBlock = v.ownBlock ∨ ∃ b,v1.ownBlock = some b ∧ W.heap.size ≤ b):=by
 obtain ⟨h0,inner,hown,hr⟩:=HO
 obtain ⟨i0,hi,hzz⟩:=Option.map_eq_some_iff.1 hinfo
 simp only [Prod.mk.injEq] at hzz
 obtain ⟨hz0,hz1,hz2⟩:=hzz
 have hlen:xs.length + 1 ≤ 140737488355328:=Nat.le_trans (Nat.le_mul_of_pos_right _ hb0) hl
 have hcl:=d.K_len (d.K_of_M hp)
 have hq:QRow (W.alloc (.cells cs.toArray e)) base e d.sz v xs.length inner:=q_move hown (fun k hk => Below.heap_alloc W _ k (q_lt hown k hk))
 obtain ⟨v1,w1,hrun,hq1,hg1,hat⟩:=q_append (P:=P) (W.alloc (.cells cs.toArray e)) base t ty e i0 z d.sz bytes ht hi hz0 hz1 hz2 hz hs0 v xs.length inner hq ⟨W.heap.size,0,none⟩ 1 1 cs (by rw [hcl,Nat.one_mul])
  (by simpa using World.news_of_block (cs:=cs.toArray) (t:=e) (fr:=(0,0)) (heap_alloc_new W (.cells cs.toArray e))) (d.K_one (d.K_of_M hp)) (by omega) (by simp only [maxLen]; omega) hl (by simp; omega)
 have hg:W.grownBy w1 v.ownBlock:=World.grownBy.trans (World.grownBy_alloc W _ _) hg1
 have hat':v1.ownBlock = v.ownBlock ∨ ∃ b,v1.ownBlock = some b ∧ W.heap.size ≤ b:=by
  rcases hat with hat | ⟨b,hb,hle⟩
  ·exact .inl hat
  ·exact .inr ⟨b,hb,by rw [World.size_alloc] at hle; omega⟩
 exact ⟨v1,w1,hrun,Q_appended h0 hr hp hokp hfresh hq1 hg hat',HB.grown hg hbase (fun k hk => (q_typed hown k hk).1),hg,hat'⟩
theorem Q_append_step (d:Kd α) {w0 W:World} (base:Nat) (hw:Region.wanted o (yielded ops a.tmps) = true) (s x:Operand) (t e:TypeId) (z:Value) (bytes:Nat)
  (ho:o.op = .call { callee:=.builtin .append,args:=#[s,x],argTypes:=#[t,t] })
  (ht:P.underlying t = some (.slice e)) (hinfo:(P.info? e).map (fun i => (i.zero,i.size,i.bytes)) = some (some z,d.sz,bytes)) (hz:z.cells.size = d.sz) (hs0:0 < d.sz) (hb0:0 < bytes)
  (v:Value) (xs:List α) (p:α) (cs:List Value) (ok okp:Nat → Prop) (hs:a.eval s = v) (hx:a.eval x = .slice (some ⟨W.heap.size,0,none⟩) 1 1) (hp:d.M W base okp p cs) (hokp:∀ k,okp k → ok k ∧ some k ≠ v.ownBlock) (hfresh:∀ k,W.heap.size ≤ k → ok k)
  (HO:d.Q e W base ok v xs) (HB:Below base w0 W) (hbase:base ≤ W.heap.size) (hl:(xs.length + 1) * bytes ≤ 140737488355328)
  (h:∀ v1 w1,d.Q e w1 base ok v1 (xs ++ [p]) → Below base w0 w1 → W.grownBy w1 v.ownBlock → (v1.ownBlock = v.ownBlock ∨ ∃ b,v1.ownBlock = some b ∧ W.heap.size ≤ b) → Kc (a.put o.dst v1) w1) :
  if Region.wanted o (yielded ops a.tmps) = true then Oper.wp P o a (W.alloc (.cells cs.toArray e)) Kc Q' else Kc (a.put o.dst undef) (W.alloc (.cells cs.toArray e)):=by
 obtain ⟨v1,w1,hr,h1,h2,h3,h4⟩:=Q_run (P:=P) d base t o.type e z bytes ht hinfo hz hs0 hb0 v xs p cs ok okp hp hokp hfresh HO HB hbase hl
 rw [if_pos hw]
 unfold Oper.wp execOp
 simp only [ho,resolve,invoke,builtin,Sem.run_bind,Sem.run_pure,Result.andThen_ok,List.map_toArray,List.map_cons,List.map_nil,hs,hx,hr]
 exact h v1 w1 h1 h2 h3 h4
end
end Kd
namespace Kd
section
variable {α:Type} {d:Kd α} {e e':Nat} {w w1 W:World} {base:Nat} {ok:Nat → Prop} {u v:Value} {xs:List α}
theorem Q_typed (h:d.Q e w base ok v xs):∀ k,v.ownBlock = some k → ∃ cells,w.heap[k]? = some (.cells cells e (0,0)):=by
 obtain ⟨_,inner,ho,_⟩:=h
 exact fun k hk => (q_typed ho k hk).2
end
end Kd
theorem seg_get {α:Type} (a seg:List α) (o:Nat) (h:o + seg.length ≤ a.length) (q:Nat) :
  (a.take o ++ seg ++ a.drop (o + seg.length))[q]? = if q < o then a[q]? else if q < o + seg.length then seg[q - o]? else a[q]?:=by
 have hl:(a.take o).length = o:=by rw [List.length_take]; omega
 rw [List.append_assoc]
 by_cases h1:q < o
 ·rw [if_pos h1,List.getElem?_append_left (by omega),List.getElem?_take,if_pos h1]
 ·rw [if_neg h1,List.getElem?_append_right (by omega),hl]
  by_cases h2:q < o + seg.length
  ·rw [if_pos h2,List.getElem?_append_left (by omega)]
  ·rw [if_neg h2,List.getElem?_append_right (by omega),List.getElem?_drop]
   congr 1
   omega
namespace Kd
section
variable {α:Type} {d:Kd α} {e base g n cap:Nat} {ok okp:Nat → Prop} {W:World} {xs:List α}
theorem R_elem (h:d.R e W base ok (.slice (some ⟨g,0,none⟩) n cap) xs) (z:α) (i:Int) (h0:0 ≤ i) (h1:i < n) :
  ∃ c,c.length = d.sz ∧ d.M W base (fun k => ok k ∧ k ≠ g) (xs.getD i.toNat z) c ∧ (∀ j u,c[j]? = some u → W.cell? ⟨g,i.toNat * d.sz + j,none⟩ = some u) ∧ ∀ j,W.frozen? ⟨g,i.toNat * d.sz + j,none⟩ = false:=by
 obtain ⟨hn,hnc,hC⟩:=R_reads' h
 obtain ⟨_,inner,ho,hr⟩:=h
 have hil:i.toNat < xs.length:=by omega
 have hseg:i.toNat * d.sz + d.sz ≤ inner.length:=by rw [hr.1,← Nat.succ_mul]; exact Nat.mul_le_mul_right _ hil
 have hM:=hr.2 i.toNat _ (List.getElem?_eq_getElem hil)
 refine ⟨(inner.drop (i.toNat * d.sz)).take d.sz,by rw [List.length_take,List.length_drop]; omega,?_,fun j u hu => ?_,fun j => ?_⟩
 ·rw [List.getD_eq_getElem?_getD,List.getElem?_eq_getElem hil]
  exact d.M_mono (fun k hk => ⟨hk.1,fun he => hk.2 (by rw [he]; simp [Value.ownBlock])⟩) hM
 ·rw [List.getElem?_take] at hu
  split at hu
  ·rw [List.getElem?_drop] at hu
   have:=ho.cells (g:=g) (by simp [Value.ownBlock]) _ u hu
   rwa [add_plain] at this
  ·cases hu
 ·obtain ⟨cells,hc⟩:=own_typed ho g (by simp [Value.ownBlock])
  exact blk_frozen hc _
theorem R_seg (h:d.R e W base ok (.slice (some ⟨g,0,none⟩) n cap) xs) (i:Int) (h0:0 ≤ i) (h1:i < n) {c seg:List Value} {j:Nat} (hcl:c.length = d.sz) (hcc:∀ j u,c[j]? = some u → W.cell? ⟨g,i.toNat * d.sz + j,none⟩ = some u)
  (hj:j + seg.length ≤ d.sz) {x':α} (hM:d.M W base okp x' (c.take j ++ seg ++ c.drop (j + seg.length))) (hokp:∀ k,okp k → ok k ∧ k ≠ g) :
  d.R e (W.setCells g (i.toNat * d.sz + j) seg) base ok (.slice (some ⟨g,0,none⟩) n cap) (xs.set i.toNat x') ∧ W.grownBy (W.setCells g (i.toNat * d.sz + j) seg) (some g):=by
 obtain ⟨hn,hnc,_⟩:=R_reads' h
 obtain ⟨hok,inner,ho,hr⟩:=h
 have hil:i.toNat < xs.length:=by omega
 have hseg:i.toNat * d.sz + d.sz ≤ inner.length:=by rw [hr.1,← Nat.succ_mul]; exact Nat.mul_le_mul_right _ hil
 have hin:inner.length = n * d.sz:=by rw [hr.1,hn]
 obtain ⟨ho1,ho2⟩:=ho
 rcases ho2 with ⟨hv,_⟩ | ⟨g',cap',cur,hv,hb,hh,hnc',hcm,hcs,ht⟩
 ·cases hv
 injection hv with ha _ hc
 injection ha with ha
 injection ha with hg
 subst hg; subst hc
 have hfit:i.toNat * d.sz + j + seg.length ≤ cur.size:=by
  have:n * d.sz ≤ cap * d.sz:=Nat.mul_le_mul_right _ hnc
  omega
 obtain ⟨cur',h3,h4,h5⟩:=setCells_row seg (i.toNat * d.sz + j) W cur hh hfit
 obtain ⟨s1,s2,s3,s4⟩:=setCells_same g seg (i.toNat * d.sz + j) W
 have hfar:∀ k,k ≠ g → (W.setCells g (i.toNat * d.sz + j) seg).heap[k]? = W.heap[k]?:=fun k hk => setCells_far seg _ k hk
 have hcin:∀ q,q < d.sz → c[q]? = inner[i.toNat * d.sz + q]?:=by
  intro q hq
  have hq':q < c.length:=by omega
  have h6:=hcc q _ (List.getElem?_eq_getElem hq')
  rw [cell_of_row W g _ cur e (0,0) hh] at h6
  rw [List.getElem?_eq_getElem hq',← h6,← ht,List.getElem?_take,if_pos (by rw [← hn]; omega),Array.getElem?_toList]
 refine ⟨⟨hok,inner.take (i.toNat * d.sz + j) ++ seg ++ inner.drop (i.toNat * d.sz + j + seg.length),⟨?_,.inr ⟨g,cap,cur',by rw [List.length_set,hn],hb,h3,by rw [List.length_set,← hn]; exact hnc,hcm,by rw [h4,hcs],?_⟩⟩,?_⟩,
  ⟨s1,s2,s3,by rw [s4]; exact Nat.le_refl _,fun k _ hk => hfar k (fun he => hk (by rw [he]))⟩⟩
 ·rw [List.length_set]
  simp only [List.length_append,List.length_take,List.length_drop]
  rw [hr.1] at hseg ⊢
  omega
 ·rw [List.length_set,← hn]
  apply List.ext_getElem?
  intro q
  rw [List.getElem?_take,h5]
  rw [seg_get cur.toList seg (i.toNat * d.sz + j) (by rw [Array.length_toList]; omega) q,seg_get inner seg (i.toNat * d.sz + j) (by omega) q]
  have hcur:∀ q,q < n * d.sz → cur.toList[q]? = inner[q]?:=by
   intro q hq
   rw [← ht,List.getElem?_take,if_pos (by rw [← hn]; exact hq)]
  by_cases hq:q < n * d.sz
  ·rw [if_pos hq,hcur q hq]
  ·rw [if_neg hq,if_neg (by omega),if_neg (by omega),List.getElem?_eq_none (by omega)]
 ·refine ⟨?_,fun m p hm => ?_⟩
  ·rw [List.length_set]
   simp only [List.length_append,List.length_take,List.length_drop]
   rw [hr.1] at hseg ⊢
   omega
  ·have hml:m < xs.length:=by
    have:=(List.getElem?_eq_some_iff.1 hm).1
    rwa [List.length_set] at this
   have hmfit:m * d.sz + d.sz ≤ inner.length:=by rw [hr.1,← Nat.succ_mul]; exact Nat.mul_le_mul_right _ hml
   have hgo:some g = (Value.slice (some ⟨g,0,none⟩) n cap).ownBlock:=by simp [Value.ownBlock]
   by_cases hmi:m = i.toNat
   ·subst hmi
    rw [List.getElem?_set_self (by omega)] at hm
    injection hm with hm
    subst hm
    have hcells:((inner.take (i.toNat * d.sz + j) ++ seg ++ inner.drop (i.toNat * d.sz + j + seg.length)).drop (i.toNat * d.sz)).take d.sz = c.take j ++ seg ++ c.drop (j + seg.length):=by
     apply List.ext_getElem?
     intro q
     rw [List.getElem?_take,List.getElem?_drop,seg_get inner seg _ (by omega),seg_get c seg j (by omega) q]
     by_cases hq:q < d.sz
     ·rw [if_pos hq,hcin q hq]
      by_cases hq1:q < j
      ·rw [if_pos (by omega),if_pos hq1]
      ·rw [if_neg (by omega),if_neg hq1]
       by_cases hq2:q < j + seg.length
       ·rw [if_pos (by omega),if_pos hq2]
        congr 1
        omega
       ·rw [if_neg (by omega),if_neg hq2]
     ·rw [if_neg hq,if_neg (by omega),if_neg (by omega),List.getElem?_eq_none (by omega)]
    rw [hcells]
    refine d.M_mono (fun k hk => ?_) (d.M_move (w1:=W.setCells g (i.toNat * d.sz + j) seg) (fun k hk => hfar k (hokp k hk).2) hM)
    exact ⟨(hokp k hk).1,fun he => (hokp k hk).2 (by rw [← hgo] at he; injection he)⟩
   ·rw [List.getElem?_set_ne (by omega)] at hm
    have hold:=hr.2 m p hm
    have hcells:((inner.take (i.toNat * d.sz + j) ++ seg ++ inner.drop (i.toNat * d.sz + j + seg.length)).drop (m * d.sz)).take d.sz = (inner.drop (m * d.sz)).take d.sz:=by
     apply List.ext_getElem?
     intro q
     rw [List.getElem?_take,List.getElem?_take,List.getElem?_drop,List.getElem?_drop,seg_get inner seg _ (by omega)]
     by_cases hq:q < d.sz
     ·rw [if_pos hq,if_pos hq]
      rcases Nat.lt_or_gt_of_ne hmi with hlt | hgt
      ·have:m * d.sz + d.sz ≤ i.toNat * d.sz:=by rw [← Nat.succ_mul]; exact Nat.mul_le_mul_right _ hlt
       rw [if_pos (by omega)]
      ·have:i.toNat * d.sz + d.sz ≤ m * d.sz:=by rw [← Nat.succ_mul]; exact Nat.mul_le_mul_right _ hgt
       rw [if_neg (by omega),if_neg (by omega)]
     ·rw [if_neg hq,if_neg hq]
    rw [hcells]
    refine d.M_move (fun k hk => hfar k (fun he => hk.2 (by rw [he]; exact hgo))) hold
end
end Kd
namespace Kd
theorem reps_append {α:Type} {R:α → List Value → Prop} {size:Nat} {ps qs:List α} {cs ds:List Value} (h:Reps R size ps cs) (h':Reps R size qs ds):Reps R size (ps ++ qs) (cs ++ ds):=by
 refine ⟨by rw [List.length_append,List.length_append,h.1,h'.1,Nat.add_mul],fun j p hj => ?_⟩
 rcases Nat.lt_or_ge j ps.length with hlt | hge
 ·rw [List.getElem?_append_left hlt] at hj
  have hle:j * size + size ≤ cs.length:=by rw [h.1,← Nat.succ_mul]; exact Nat.mul_le_mul_right _ hlt
  rw [List.drop_append_of_le_length (by omega),List.take_append_of_le_length (by rw [List.length_drop]; omega)]
  exact h.2 j p hj
 ·rw [List.getElem?_append_right hge] at hj
  have h2:=h'.2 (j - ps.length) p hj
  have hle:ps.length * size ≤ j * size:=Nat.mul_le_mul_right _ hge
  rw [List.drop_append,List.drop_eq_nil_of_le (by rw [h.1]; exact hle),List.nil_append,h.1,← Nat.sub_mul]
  exact h2
section
variable {P:Program} {ops:Array Oper} {rest:List Oper} {o:Oper} {a:Act} {Q:Exit → Act → World → Prop} {α:Type}
theorem R_append_rows (d:Kd α) {Rr:α → List Value → Prop} {w0 W:World} (base:Nat) (hgd:o.guard = none) (s x:Operand) (t e:TypeId) (z:Value) (bytes:Nat)
  (ho:o.op = .call { callee:=.builtin .append,args:=#[s,x],argTypes:=#[t,t] })
  (ht:P.underlying t = some (.slice e)) (hinfo:(P.info? e).map (fun i => (i.zero,i.size,i.bytes)) = some (some z,d.sz,bytes)) (hz:z.cells.size = d.sz) (hs0:0 < d.sz) (hb0:0 < bytes)
  (v:Value) (xs ys:List α) (A:Option Addr) (m c:Nat) (ok okp:Nat → Prop) (hs:a.eval s = v) (hx:a.eval x = .slice A m c)
  (HO:d.R e W base ok v xs) (HR:ReadsRow Rr d.sz W A m ys) (hKM:∀ x cs,Rr x cs → d.M W base okp x cs) (hokp:∀ k,okp k → ok k ∧ some k ≠ v.ownBlock) (hfresh:∀ k,W.heap.size ≤ k → ok k)
  (HB:Below base w0 W) (hbase:base ≤ W.heap.size) (hl:(xs.length + m) * bytes ≤ 140737488355328)
  (h:∀ v1 w1,d.R e w1 base ok v1 (xs ++ ys) → Below base w0 w1 → W.grownBy w1 v.ownBlock → (v1.ownBlock = v.ownBlock ∨ ∃ b,v1.ownBlock = some b ∧ W.heap.size ≤ b) → wpList P ops Q rest (a.put o.dst v1) w1) :
  wpList P ops Q (o :: rest) a W:=by
 obtain ⟨i0,hi,hzz⟩:=Option.map_eq_some_iff.1 hinfo
 simp only [Prod.mk.injEq] at hzz
 obtain ⟨hz0,hz1,hz2⟩:=hzz
 have hm:ys.length = m:=HR.1
 have hlen:xs.length + m ≤ 140737488355328:=Nat.le_trans (Nat.le_mul_of_pos_right _ hb0) hl
 obtain ⟨hok,inner,hown,hr⟩:=HO
 have hrun:∃ v1 w1,(Builtin.append_ #[t,t] o.type #[v,.slice A m c]).run P W = .ok v1 w1 ∧ d.R e w1 base ok v1 (xs ++ ys) ∧ W.grownBy w1 v.ownBlock ∧ (v1.ownBlock = v.ownBlock ∨ ∃ b,v1.ownBlock = some b ∧ W.heap.size ≤ b):=by
  rcases A with _ | ad
  ·have h0:m = 0:=by
    rcases Nat.eq_zero_or_pos m with h0 | h0
    ·exact h0
    ·obtain ⟨ad,h,_⟩:=HR.2.2 h0
     cases h
   subst h0
   obtain rfl:ys = []:=List.eq_nil_of_length_eq_zero hm
   refine ⟨v,W,?_,by rw [List.append_nil]; exact ⟨hok,inner,hown,hr⟩,World.grownBy.refl W _,.inl rfl⟩
   rcases hown.2 with ⟨rfl,hn⟩ | ⟨g,cap,cur,rfl,_,_,hnc,_⟩
   ·simp [Builtin.append_,run_underlying ht,sizeOf,typeInfo,hi,Builtin.lenOf,Builtin.firstCells]
   ·simp [Builtin.append_,run_underlying ht,sizeOf,typeInfo,hi,Builtin.lenOf,Builtin.firstCells,hnc,storeCells]
  ·obtain ⟨news,hnr,hnc⟩:=ReadsRow.inner_ HR
   have hnM:Reps (d.M W base okp) d.sz ys news:=hnr.imp_ (fun p c hp => hKM p c hp)
   have hone:∀ u ∈ news,u.oneCell' = true:=by
    intro u hu
    obtain ⟨q,hq,rfl⟩:=List.mem_iff_getElem.1 hu
    have hql:q / d.sz < ys.length:=by
     rw [Nat.div_lt_iff_lt_mul hs0]
     rw [← hnM.1]
     exact hq
    have hc:=hnM.2 (q / d.sz) _ (List.getElem?_eq_getElem hql)
    refine d.K_one (d.K_of_M hc) _ ?_
    rw [List.mem_iff_getElem?]
    refine ⟨q % d.sz,?_⟩
    rw [List.getElem?_take,if_pos (Nat.mod_lt _ hs0),List.getElem?_drop,Nat.mul_comm,Nat.div_add_mod,List.getElem?_eq_getElem hq]
   obtain ⟨v1,w1,hrun,h2,hg,_,hat⟩:=run_append_own_at (P:=P) W base t o.type e i0 z d.sz bytes ht hi hz0 hz1 hz2 hz hs0 v xs.length inner hown ad m c news (by rw [hnM.1,hm]) hnc hone (by simp only [maxLen]; omega) hl hbase
   have hat':v1.ownBlock = v.ownBlock ∨ ∃ b,v1.ownBlock = some b ∧ W.heap.size ≤ b:=by
    rcases hat with hat | hat
    ·exact .inl hat
    ·exact .inr ⟨_,hat,Nat.le_refl _⟩
   have hne:∀ k,some k ≠ v.ownBlock → k < W.heap.size → some k ≠ v1.ownBlock:=by
    intro k hk hlt
    rcases hat' with hat | ⟨b,hb,hle⟩
    ·rw [hat]; exact hk
    ·rw [hb]
     intro he
     injection he with he
     omega
   have step:∀ {q:α} {c:List Value} {o:Nat → Prop},d.M W base o q c → (∀ k,o k → ok k ∧ some k ≠ v.ownBlock) → d.M w1 base (fun k => ok k ∧ some k ≠ v1.ownBlock) q c:=by
    intro q c o hq ho
    have h1:=d.M_move (w1:=w1) (fun k hk => hg.block k hk.2.2.1 (ho k hk.1).2) (d.M_bound hq)
    exact d.M_mono (fun k hk => ⟨(ho k hk.1).1,hne k (ho k hk.1).2 hk.2.2.1⟩) h1
   refine ⟨v1,w1,hrun,⟨fun k hk => ?_,inner ++ news,by rw [List.length_append,hm]; exact h2,reps_append (hr.imp_ (fun _ _ hq => step hq (fun _ hk => hk))) (hnM.imp_ (fun _ _ hq => step hq hokp))⟩,hg,hat'⟩
   rcases hat' with hat | ⟨b,hb,hle⟩
   ·exact hok k (hat ▸ hk)
   ·rw [hb] at hk
    injection hk with hk
    exact hfresh k (by omega)
 obtain ⟨v1,w1,hr1,h1,hg,hat⟩:=hrun
 refine wpList_plain hgd fun K hK => ?_
 unfold Oper.wp execOp
 simp only [ho,resolve,invoke,builtin,Sem.run_bind,Sem.run_pure,Result.andThen_ok,List.map_toArray,List.map_cons,List.map_nil,hs,hx,hr1]
 exact hK _ _ (h v1 w1 h1 (HB.grown hg hbase (own_base hown)) hg hat)
end
end Kd
theorem run_store_run {P:Program} {w:World} {g o:Nat} {e:TypeId} {cur:Array Value} (t:TypeId) (u:Value) (seg:List Value) (hh:w.heap[g]? = some (.cells cur e (0,0))) (hu:u.cells.toList = seg) (ht:(P.info? t).map (·.size) = some seg.length)
  (hfit:o + seg.length ≤ cur.size) (h1:∀ q ∈ seg,q.oneCell' = true):(Instr.storeAt t (.pointer (some ⟨g,o,none⟩)) u).run P w = .ok () (w.setCells g o seg):=by
 obtain ⟨i,hi,hsz⟩:=Option.map_eq_some_iff.1 ht
 have hc:u.cells.size = i.size:=by rw [hsz,← hu,Array.length_toList]
 have hst:=run_storeCells_cells (P:=P) g o seg 0 w (fun j hj => by rw [cell_of_row w g _ cur e (0,0) hh]; simp; omega) (fun j _ => blk_frozen hh _) h1
 simp only [Nat.add_zero] at hst
 simp [Instr.storeAt,Instr.sureAddr,storeVar,sizeOf,typeInfo,hi,hc,hu,hst]
theorem gate_ {P:Program} {ops:Array Oper} {rest:List Oper} {o:Oper} {a:Act} {Q:Exit → Act → World → Prop} {W:World} (op:Op) (_ho:o.op = op) (h:wpList P ops Q (o :: rest) a W):wpList P ops Q (o :: rest) a W:=h
namespace Kd
section
variable {P:Program} {ops:Array Oper} {rest:List Oper} {o:Oper} {a:Act} {Q:Exit → Act → World → Prop} {α:Type}
theorem R_store (d:Kd α) {w0 W:World} (base:Nat) (hN:o.dst = none) (hgd:o.guard = none) (t:TypeId) (p x:Operand) (ho:o.op = .store t p x) (e:TypeId) {g n cap o':Nat} (i:Int) (j:Nat) (xs:List α) (x':α) (u:Value) (seg c:List Value) (ok okp:Nat → Prop)
  (haddr:a.eval p = .pointer (some ⟨g,o',none⟩)) (hoff:o' = i.toNat * d.sz + j) (hx:a.eval x = u) (hu:u.cells.toList = seg) (ht:(P.info? t).map (·.size) = some seg.length) (h1:∀ q ∈ seg,q.oneCell' = true)
  (HO:d.R e W base ok (.slice (some ⟨g,0,none⟩) n cap) xs) (h0:0 ≤ i) (hi:i < n) (hcl:c.length = d.sz) (hcc:∀ j u,c[j]? = some u → W.cell? ⟨g,i.toNat * d.sz + j,none⟩ = some u)
  (hj:j + seg.length ≤ d.sz) (hM:d.M W base okp x' (c.take j ++ seg ++ c.drop (j + seg.length))) (hokp:∀ k,okp k → ok k ∧ k ≠ g) (HB:Below base w0 W)
  (h:∀ w1,d.R e w1 base ok (.slice (some ⟨g,0,none⟩) n cap) (xs.set i.toNat x') → Below base w0 w1 → W.grownBy w1 (some g) → wpList P ops Q rest a w1):wpList P ops Q (o :: rest) a W:=by
 subst hoff
 obtain ⟨hrow,hg⟩:=R_seg HO i h0 hi hcl hcc hj hM hokp
 have hbg:base ≤ g:=R_base HO g (by simp [Value.ownBlock])
 have hnx:n = xs.length:=(R_reads' HO).1
 obtain ⟨_,inner,hown,hr⟩:=HO
 have hil:i.toNat < n:=by omega
 have hB:Below base w0 (W.setCells g (i.toNat * d.sz + j) seg):=HB.trans ⟨hg.os,hg.tape,hg.output,hg.size,fun k hk => by
  have hlt:k < W.heap.size ∨ W.heap.size ≤ k:=Nat.lt_or_ge _ _
  rcases hlt with hlt | hge
  ·exact hg.block k hlt (fun he => by injection he with he; omega)
  ·exact setCells_far seg _ k (by omega)⟩
 refine wpList_plain hgd fun K hK => ?_
 have hrun:(Instr.storeAt t (.pointer (some ⟨g,i.toNat * d.sz + j,none⟩)) u).run P W = .ok () (W.setCells g (i.toNat * d.sz + j) seg):=by
  rcases hown.2 with ⟨hv,_⟩ | ⟨g',cap',cur,hv,hb,hh,hnc,hcm,hcs,_⟩
  ·cases hv
  injection hv with ha _ hc
  injection ha with ha
  injection ha with hg'
  subst hg'; subst hc
  refine run_store_run t u seg hh hu ht ?_ h1
  have h2:i.toNat * d.sz + d.sz ≤ n * d.sz:=by rw [← Nat.succ_mul]; exact Nat.mul_le_mul_right _ hil
  have h3:n * d.sz ≤ cap * d.sz:=Nat.mul_le_mul_right _ (by omega)
  omega
 unfold Oper.wp execOp
 simp only [ho,haddr,hx,Sem.run_bind,Sem.run_pure,Result.andThen_ok,hrun]
 show K (a.put o.dst undef) _
 rw [hN]
 exact hK a _ (h _ hrow hB hg)
end
end Kd
theorem string_of_reads {P:Program} {w:World} {src dst e:TypeId} {A:Option Addr} {n c:Nat} {xs:List Int} (hs:P.underlying src = some (.slice e)) (he:P.underlying e = some (.int .u8)) (hd:P.underlying dst = some .string)
  (h:ReadsInt w .u8 A n xs):(convert src dst (.slice A n c)).run P w = .ok (.string (strOfNums xs)) w:=by
 have hn:xs.length = n:=h.1
 rcases A with _ | ad
 ·have h0:n = 0:=by
   rcases Nat.eq_zero_or_pos n with h0 | h0
   ·exact h0
   ·obtain ⟨ad,h',_⟩:=h.2.2 h0
    cases h'
  subst h0
  obtain rfl:xs = []:=List.eq_nil_of_length_eq_zero hn
  exact run_convert_bytes_nil w src e hs he 0 c dst hd
 ·have hl:(loadCells ad n).run P w = .ok (xs.map (Value.int .u8)).toArray w:=by
   have:=run_loadCells_list (P:=P) w ad (xs.map (Value.int .u8)) (fun j v hj => by
    have hjl:j < xs.length:=by
     rcases Nat.lt_or_ge j xs.length with h' | h'
     ·exact h'
     ·rw [List.getElem?_eq_none (by rw [List.length_map]; exact h')] at hj
      cases hj
    obtain ⟨ad',he',hc⟩:=h.2.2 (by omega)
    injection he' with he'
    subst he'
    rw [hc j (by omega)]
    rw [List.getElem?_map,List.getElem?_eq_getElem hjl] at hj
    simp at hj
    subst hj
    simp [List.getD_eq_getElem?_getD,List.getElem?_eq_getElem hjl])
   simpa [hn] using this
  rw [run_convert_bytes_string w src dst e _ n c hs he hd,run_bytesToString w ad n c xs hl,foldl_push_bytes]
  simp [strOfNums,ByteArray.empty,ByteArray.emptyWithCapacity]
  rfl
theorem Kd.C_string {P:Program} {w:World} {src dst e:TypeId} {A:Option Addr} {n c:Nat} {xs:List Int} (hs:P.underlying src = some (.slice e)) (he:P.underlying e = some (.int .u8)) (hd:P.underlying dst = some .string)
  (h:(Kd.int .u8).C w A n xs):(convert src dst (.slice A n c)).run P w = .ok (.string (strOfNums xs)) w :=
 string_of_reads hs he hd (Kd.reads_of_C (enc:=Value.int .u8) (d:=(0:Int)) (h1:=fun _ => rfl) h)
theorem blk_put {w:World} {g:Nat} {t:TypeId} {cs cs':Array Value} (h:w.heap[g]? = some (.cells cs t (0,0))) (i:Nat) (u:Value) (e:cs.setIfInBounds i u = cs'):(w.setCell ⟨g,i,none⟩ u).heap[g]? = some (.cells cs' t (0,0)):=e ▸ blk_set h i u
section
variable {P:Program} {ops:Array Oper} {rest:List Oper} {o:Oper} {a:Act} {Q:Exit → Act → World → Prop}
theorem Kd.R_append_row {α:Type} (enc:α → Value) (d:α) {h1:∀ x:α,(enc x).oneCell' = true} {w0 W:World} (base:Nat) (hgd:o.guard = none) (s x:Operand) (t e:TypeId) (z:Value) (bytes:Nat)
  (ho:o.op = .call { callee:=.builtin .append,args:=#[s,x],argTypes:=#[t,t] })
  (ht:P.underlying t = some (.slice e)) (hinfo:(P.info? e).map (fun i => (i.zero,i.size,i.bytes)) = some (some z,1,bytes)) (hz:z.cells.size = 1) (hb0:0 < bytes)
  (v:Value) (xs ys:List α) (A:Option Addr) (m c:Nat) (ok:Nat → Prop) (hs:a.eval s = v) (hx:a.eval x = .slice A m c) (hfresh:∀ k,W.heap.size ≤ k → ok k)
  (HO:(Kd.scalar enc h1).R e W base ok v xs) (HR:(Kd.scalar enc h1).C W A m ys) (HB:Below base w0 W) (hbase:base ≤ W.heap.size) (hl:(xs.length + m) * bytes ≤ 140737488355328)
  (h:∀ v1 w1,(Kd.scalar enc h1).R e w1 base ok v1 (xs ++ ys) → Below base w0 w1 → W.grownBy w1 v.ownBlock → (v1.ownBlock = v.ownBlock ∨ ∃ b,v1.ownBlock = some b ∧ W.heap.size ≤ b) → wpList P ops Q rest (a.put o.dst v1) w1) :
  wpList P ops Q (o :: rest) a W:=by
 refine print_append_row_of (w0:=w0) enc d base hgd s x t e z bytes ho ht hinfo hz hb0 h1 v xs ys A m c hs hx (Kd.own_of_R HO) (Kd.reads_of_C (d:=d) HR) HB hbase hl ?_
 intro v1 w1 hown hb hg hat
 refine h v1 w1 (Kd.R_of_own hown (fun k hk => ?_)) hb hg hat
 rcases hat with e1 | ⟨b,e1,hbb⟩
 ·exact HO.1 k (by rw [← e1]; exact hk)
 ·rw [e1] at hk
  injection hk with hk
  subst hk
  exact hfresh _ hbb
end
section
variable {P:Program} {ops:Array Oper} {rest:List Oper} {o:Oper} {a:Act} {Q:Exit → Act → World → Prop} {W:World}
theorem gate_dst {N:Tmp} (_hN:o.dst = some N) (h:wpList P ops Q (o :: rest) a W):wpList P ops Q (o :: rest) a W:=h
end
section
variable {P:Program} {ops:Array Oper} {o:Oper} {a:Act} {Q:Exit → Act → World → Prop} {Kc:Act → World → Prop}
theorem event_step {W w1:World} {v:Value} (hw:Region.wanted o (yielded ops a.tmps) = true) (hrun:(execOp a.eval o).run P W = .ok (.value v) w1) (h:Kc (a.put o.dst v) w1):if Region.wanted o (yielded ops a.tmps) = true then Oper.wp P o a W Kc Q else Kc (a.put o.dst undef) W:=by
 rw [if_pos hw]
 unfold Oper.wp
 rw [hrun]
 exact h
theorem box_step {W:World} (hw:Region.wanted o (yielded ops a.tmps) = true) {N:Tmp} (_hd:o.dst = some N) {cs:Array Value} {t:TypeId}
  (hrun:(execOp a.eval o).run P W = .ok (.value (.pointer (some ⟨W.heap.size,0,none⟩))) (W.alloc (.cells cs t (0,0))))
  (h:∀ g,g = W.heap.size → ∀ w1,w1.heap[g]? = some (.cells cs t (0,0)) → Below W.heap.size W w1 → Kc (a.put o.dst (.pointer (some ⟨g,0,none⟩))) w1):if Region.wanted o (yielded ops a.tmps) = true then Oper.wp P o a W Kc Q else Kc (a.put o.dst undef) W :=
 event_step hw hrun (h _ rfl _ (blk_new W _) (below_alloc (Below.refl _ _) _))
namespace Kd
variable {α:Type}
theorem R_append_rows_step (d:Kd α) {Rr:α → List Value → Prop} {w0 W:World} (base:Nat) (hw:Region.wanted o (yielded ops a.tmps) = true) (s x:Operand) (t e:TypeId) (z:Value) (bytes:Nat)
  (ho:o.op = .call { callee:=.builtin .append,args:=#[s,x],argTypes:=#[t,t] })
  (ht:P.underlying t = some (.slice e)) (hinfo:(P.info? e).map (fun i => (i.zero,i.size,i.bytes)) = some (some z,d.sz,bytes)) (hz:z.cells.size = d.sz) (hs0:0 < d.sz) (hb0:0 < bytes)
  (v:Value) (xs ys:List α) (A:Option Addr) (m c:Nat) (ok okp:Nat → Prop) (hs:a.eval s = v) (hx:a.eval x = .slice A m c)
  (HO:d.R e W base ok v xs) (HR:ReadsRow Rr d.sz W A m ys) (hKM:∀ x cs,Rr x cs → d.M W base okp x cs) (hokp:∀ k,okp k → ok k ∧ some k ≠ v.ownBlock) (hfresh:∀ k,W.heap.size ≤ k → ok k)
  (HB:Below base w0 W) (hbase:base ≤ W.heap.size) (hl:(xs.length + m) * bytes ≤ 140737488355328)
  (h:∀ v1 w1,d.R e w1 base ok v1 (xs ++ ys) → Below base w0 w1 → W.grownBy w1 v.ownBlock → (v1.ownBlock = v.ownBlock ∨ ∃ b,v1.ownBlock = some b ∧ W.heap.size ≤ b) → Kc (a.put o.dst v1) w1) :
  if Region.wanted o (yielded ops a.tmps) = true then Oper.wp P o a W Kc Q else Kc (a.put o.dst undef) W:=by
 obtain ⟨i0,hi,hzz⟩:=Option.map_eq_some_iff.1 hinfo
 simp only [Prod.mk.injEq] at hzz
 obtain ⟨hz0,hz1,hz2⟩:=hzz
 have hm:ys.length = m:=HR.1
 have hlen:xs.length + m ≤ 140737488355328:=Nat.le_trans (Nat.le_mul_of_pos_right _ hb0) hl
 obtain ⟨hok,inner,hown,hr⟩:=HO
 have hrun:∃ v1 w1,(Builtin.append_ #[t,t] o.type #[v,.slice A m c]).run P W = .ok v1 w1 ∧ d.R e w1 base ok v1 (xs ++ ys) ∧ W.grownBy w1 v.ownBlock ∧ (v1.ownBlock = v.ownBlock ∨ ∃ b,v1.ownBlock = some b ∧ W.heap.size ≤ b):=by
  rcases A with _ | ad
  ·have h0:m = 0:=by
    rcases Nat.eq_zero_or_pos m with h0 | h0
    ·exact h0
    ·obtain ⟨ad,h,_⟩:=HR.2.2 h0
     cases h
   subst h0
   obtain rfl:ys = []:=List.eq_nil_of_length_eq_zero hm
   refine ⟨v,W,?_,by rw [List.append_nil]; exact ⟨hok,inner,hown,hr⟩,World.grownBy.refl W _,.inl rfl⟩
   rcases hown.2 with ⟨rfl,hn⟩ | ⟨g,cap,cur,rfl,_,_,hnc,_⟩
   ·simp [Builtin.append_,run_underlying ht,sizeOf,typeInfo,hi,Builtin.lenOf,Builtin.firstCells]
   ·simp [Builtin.append_,run_underlying ht,sizeOf,typeInfo,hi,Builtin.lenOf,Builtin.firstCells,hnc,storeCells]
  ·obtain ⟨news,hnr,hnc⟩:=ReadsRow.inner_ HR
   have hnM:Reps (d.M W base okp) d.sz ys news:=hnr.imp_ (fun p c hp => hKM p c hp)
   have hone:∀ u ∈ news,u.oneCell' = true:=by
    intro u hu
    obtain ⟨q,hq,rfl⟩:=List.mem_iff_getElem.1 hu
    have hql:q / d.sz < ys.length:=by
     rw [Nat.div_lt_iff_lt_mul hs0]
     rw [← hnM.1]
     exact hq
    have hc:=hnM.2 (q / d.sz) _ (List.getElem?_eq_getElem hql)
    refine d.K_one (d.K_of_M hc) _ ?_
    rw [List.mem_iff_getElem?]
    refine ⟨q % d.sz,?_⟩
    rw [List.getElem?_take,if_pos (Nat.mod_lt _ hs0),List.getElem?_drop,Nat.mul_comm,Nat.div_add_mod,List.getElem?_eq_getElem hq]
   obtain ⟨v1,w1,hrun,h2,hg,_,hat⟩:=run_append_own_at (P:=P) W base t o.type e i0 z d.sz bytes ht hi hz0 hz1 hz2 hz hs0 v xs.length inner hown ad m c news (by rw [hnM.1,hm]) hnc hone (by simp only [maxLen]; omega) hl hbase
   have hat':v1.ownBlock = v.ownBlock ∨ ∃ b,v1.ownBlock = some b ∧ W.heap.size ≤ b:=by
    rcases hat with hat | hat
    ·exact .inl hat
    ·exact .inr ⟨_,hat,Nat.le_refl _⟩
   have hne:∀ k,some k ≠ v.ownBlock → k < W.heap.size → some k ≠ v1.ownBlock:=by
    intro k hk hlt
    rcases hat' with hat | ⟨b,hb,hle⟩
    ·rw [hat]; exact hk
    ·rw [hb]
     intro he
     injection he with he
     omega
   have step:∀ {q:α} {c:List Value} {o:Nat → Prop},d.M W base o q c → (∀ k,o k → ok k ∧ some k ≠ v.ownBlock) → d.M w1 base (fun k => ok k ∧ some k ≠ v1.ownBlock) q c:=by
    intro q c o hq ho
    have h1:=d.M_move (w1:=w1) (fun k hk => hg.block k hk.2.2.1 (ho k hk.1).2) (d.M_bound hq)
    exact d.M_mono (fun k hk => ⟨(ho k hk.1).1,hne k (ho k hk.1).2 hk.2.2.1⟩) h1
   refine ⟨v1,w1,hrun,⟨fun k hk => ?_,inner ++ news,by rw [List.length_append,hm]; exact h2,reps_append (hr.imp_ (fun _ _ hq => step hq (fun _ hk => hk))) (hnM.imp_ (fun _ _ hq => step hq hokp))⟩,hg,hat'⟩
   rcases hat' with hat | ⟨b,hb,hle⟩
   ·exact hok k (hat ▸ hk)
   ·rw [hb] at hk
    injection hk with hk
    exact hfresh k (by omega)
 obtain ⟨v1,w1,hr1,h1,hg,hat⟩:=hrun
 rw [if_pos hw]
 unfold Oper.wp execOp
 simp only [ho,resolve,invoke,builtin,Sem.run_bind,Sem.run_pure,Result.andThen_ok,List.map_toArray,List.map_cons,List.map_nil,hs,hx,hr1]
 exact h v1 w1 h1 (HB.grown hg hbase (own_base hown)) hg hat
end Kd
end
end Go.Proofs.YtnkkgofpifhoeaaW.PrintWords
end
section
namespace Go.Proofs.YtnkkgofpifhoeaaW.PrintWords
open Go.RowKit
namespace Kd
section
variable {α:Type} {d:Kd α} {e base g o n cap:Nat} {ok okp:Nat → Prop} {w W:World} {v:Value} {xs:List α}
theorem Q_form (h:d.Q e w base ok v xs) (hp:0 < xs.length):∃ g o cap,v = .slice (some ⟨g,o,none⟩) xs.length cap ∧ base ≤ g ∧ g < w.heap.size ∧ ∃ cells,w.heap[g]? = some (.cells cells e (0,0)):=by
 obtain ⟨h0,inner,hq,hr⟩:=h
 rcases hq.2 with ⟨h1,_⟩ | ⟨g,off,cap,cur,rfl,hb,hh,r⟩
 ·omega
 ·exact ⟨g,off * d.sz,cap,rfl,hb,blk_lt hh,cur,hh⟩
theorem Q_elem (h:d.Q e W base ok (.slice (some ⟨g,o,none⟩) n cap) xs) (z:α) (i:Int) (h0:0 ≤ i) (h1:i < n) :
  ∃ c,c.length = d.sz ∧ d.M W base (fun k => ok k ∧ k ≠ g) (xs.getD i.toNat z) c ∧ (∀ j u,c[j]? = some u → W.cell? ⟨g,o + i.toNat * d.sz + j,none⟩ = some u) ∧ ∀ j,W.frozen? ⟨g,o + i.toNat * d.sz + j,none⟩ = false:=by
 obtain ⟨hn,hnc,hC⟩:=Q_reads' h
 obtain ⟨_,inner,ho,hr⟩:=h
 have hil:i.toNat < xs.length:=by omega
 have hseg:i.toNat * d.sz + d.sz ≤ inner.length:=by rw [hr.1,← Nat.succ_mul]; exact Nat.mul_le_mul_right _ hil
 have hM:=hr.2 i.toNat _ (List.getElem?_eq_getElem hil)
 refine ⟨(inner.drop (i.toNat * d.sz)).take d.sz,by rw [List.length_take,List.length_drop]; omega,?_,fun j u hu => ?_,fun j => ?_⟩
 ·rw [List.getD_eq_getElem?_getD,List.getElem?_eq_getElem hil]
  exact d.M_mono (fun k hk => ⟨hk.1,fun he => hk.2 (by rw [he]; simp [Value.ownBlock])⟩) hM
 ·rw [List.getElem?_take] at hu
  split at hu
  ·rw [List.getElem?_drop] at hu
   subst hn
   obtain ⟨ad,he,hc⟩:=q_cells ho (by omega)
   injection he with he
   subst he
   have:=hc _ u hu
   rwa [add_at,← Nat.add_assoc] at this
  ·cases hu
 ·obtain ⟨_,cells,hc⟩:=q_typed ho g (by simp [Value.ownBlock])
  exact blk_frozen hc _
end
end Kd
end Go.Proofs.YtnkkgofpifhoeaaW.PrintWords
end
section
namespace Go.Proofs.YtnkkgofpifhoeaaW.PrintWords
open Go.RowKit
namespace Kd
theorem cell_heap {w w1:World} (hb:∀ k,k < w.heap.size → w1.heap[k]? = w.heap[k]?) {a:Addr} {v:Value} (h:w.cell? a = some v):w1.cell? a = some v:=by
 have:=hb a.block (World.block_lt_of_cell? w a h)
 simpa [World.cell?,this] using h
end Kd
end Go.Proofs.YtnkkgofpifhoeaaW.PrintWords
end
section
namespace Go.Proofs.YtnkkgofpifhoeaaW.PrintWords
open Go.RowKit
def Kept (w W:World) (S:Nat → Prop):Prop:=w.heap.size ≤ W.heap.size ∧ ∀ i,i < w.heap.size → ¬ S i → W.heap[i]? = w.heap[i]?
section
variable {w W W2:World} {S S2 S':Nat → Prop}
theorem Kept.refl (w:World) (S:Nat → Prop):Kept w w S:=⟨Nat.le_refl _,fun _ _ _ => rfl⟩
theorem Kept.of_below (h:Below w.heap.size w W) (S:Nat → Prop):Kept w W S:=⟨h.size,fun i hi _ => h.block i hi⟩
theorem Kept.mono (h:Kept w W S) (hs:∀ k,S k → S' k):Kept w W S':=⟨h.1,fun i hi hn => h.2 i hi (fun hk => hn (hs i hk))⟩
theorem Kept.then_ (h:Kept w W S) (k:Kept W W2 S2) (hs:∀ k,S2 k → S k ∨ w.heap.size ≤ k):Kept w W2 S :=
 ⟨Nat.le_trans h.1 k.1,fun i hi hn => (k.2 i (Nat.lt_of_lt_of_le hi h.1) (fun h2 => (hs i h2).elim hn (fun h3 => by omega))).trans (h.2 i hi hn)⟩
theorem Kept.of_grown {row:Option Nat} (hg:W.grownBy W2 row) (h:Kept w W S) (hr:∀ k,row = some k → S k ∨ w.heap.size ≤ k):Kept w W2 S :=
 h.then_ (S2:=fun k => row = some k) ⟨hg.size,fun i hi hn => hg.block i hi (fun he => hn he.symm)⟩ hr
theorem Kept.below (h:Kept w W S) (hb:Below W.heap.size W W2):Kept w W2 S:=h.then_ (Kept.of_below hb (fun _ => False)) (fun _ hk => hk.elim)
theorem Kept.setCell (h:Kept w W S) {p:Addr} (hp:S p.block ∨ w.heap.size ≤ p.block) (u:Value):Kept w (W.setCell p u) S :=
 h.then_ (S2:=fun k => k = p.block) ⟨by simp [World.setCell],fun i _ hn => Below.heap_setCell W p u i hn⟩ (fun k hk => by rw [hk]; exact hp)
theorem blk_kept {g:Nat} {o:Obj} (hb:W.heap[g]? = some o) (hk:Kept W W2 S) (hne:¬ S g):W2.heap[g]? = some o:=(hk.2 g (blk_lt hb) hne).trans hb
theorem cell_kept {a:Addr} {v:Value} (hc:W.cell? a = some v) (hk:Kept W W2 S) (hne:¬ S a.block):W2.cell? a = some v:=by
 have:=hk.2 a.block (World.block_lt_of_cell? W a hc) hne
 simpa [World.cell?,this] using hc
end
namespace Kd
section
variable {α:Type} {d:Kd α} {e base n c:Nat} {ok oki S S2:Nat → Prop} {w w0 W W1 W2:World} {v:Value} {A:Option Addr} {xs:List α} {i:Int} {cs:List Value}
theorem R_kept (h:d.R e W base ok v xs) (hk:Kept W W2 S) (hne:∀ k,ok k → ¬ S k):d.R e W2 base ok v xs:=R_step h (fun k ho hlt => hk.2 k hlt (hne k ho))
theorem Q_kept (h:d.Q e W base ok v xs) (hk:Kept W W2 S) (hne:∀ k,ok k → ¬ S k):d.Q e W2 base ok v xs:=Q_step h (fun k ho hlt => hk.2 k hlt (hne k ho))
theorem M_kept {x:α} (h:d.M W base ok x cs) (hk:Kept W W2 S) (hne:∀ k,ok k → ¬ S k):d.M W2 base ok x cs:=M_step h (fun k ho hlt => hk.2 k hlt (hne k ho))
end
end Kd
end Go.Proofs.YtnkkgofpifhoeaaW.PrintWords
end
section
namespace Go.Proofs.YtnkkgofpifhoeaaW.PrintWords
open Go.RowKit
namespace Kd
section
variable {α:Type} {d:Kd α} {e base b b' g N:Nat} {ok ok1:Nat → Prop} {W W2 w1:World} {u v:Value} {xs ys:List α} {S:Nat → Prop}
theorem Q_ok (h:d.Q e W base ok v xs):∀ k,v.ownBlock = some k → ok k:=h.1
end
end Kd
end Go.Proofs.YtnkkgofpifhoeaaW.PrintWords
end
section
namespace Go.Proofs.Ytnkkgofpifhoeaa.Steps
open Go.RowKit Go.Proofs.YtnkkgofpifhoeaaW.PrintWords Go.Proofs.YtnkkgofpifhoeaaW.PrintLast
structure At (g:Nat) (w w':World):Prop where
 os:w'.os = w.os
 tape:w'.tape = w.tape
 output:w'.output = w.output
 size:w'.heap.size = w.heap.size
 block:∀ k,k ≠ g → w'.heap[k]? = w.heap[k]?
theorem At.refl (g:Nat) (w:World):At g w w:=⟨rfl,rfl,rfl,rfl,fun _ _ => rfl⟩
theorem At.set {g:Nat} {w w':World} (h:At g w w') (i:Nat) (v:Value):At g w (w'.setCell ⟨g,i,none⟩ v) :=
 ⟨h.os,h.tape,h.output,by simp [World.setCell,h.size],fun k hk => (Below.heap_setCell _ _ _ _ hk).trans (h.block k hk)⟩
theorem At.drewN {g:Nat} {w w':World} (h:At g w w') (n:Nat):At g w (w'.drewN n):=⟨h.os,h.tape,h.output,h.size,h.block⟩
theorem At.below {g B:Nat} {a w w':World} (h:At g w w') (hb:Below B a w) (hg:B ≤ g):Below B a w' :=
 hb.trans ⟨h.os,h.tape,h.output,by rw [h.size]; exact Nat.le_refl _,fun k hk => h.block k (by omega)⟩
section
variable {P:Program} {ops:Array Oper} {Q:Exit → Act → World → Prop}
theorem skip_F (F:World → Prop) {oi:Oper} {a:Act} {w:World} {K:Act → World → Prop} (hw:Region.wanted oi (yielded ops a.tmps) = true) (hN:oi.dst = none)
  (h:∃ w1,(execOp a.eval oi).run P w = .ok .skip w1 ∧ F w1) (k:∀ w1,F w1 → K a w1):if Region.wanted oi (yielded ops a.tmps) = true then Oper.wp P oi a w K Q else K (a.put none undef) w:=by
 obtain ⟨w1,h1,h2⟩:=h
 exact skip_ hw hN h1 (k w1 h2)
variable {rest:List Oper} {o:Oper} {a:Act} {W:World}
theorem store_F (F:World → Prop) (hgd:o.guard = none) (hN:o.dst = none) (h:∃ w1,(execOp a.eval o).run P W = .ok .skip w1 ∧ F w1) (k:∀ w1,F w1 → wpList P ops Q rest a w1):wpList P ops Q (o :: rest) a W:=by
 obtain ⟨w1,h1,h2⟩:=h
 refine wpList_plain hgd fun K hK => ?_
 unfold Oper.wp
 rw [h1]
 show K (a.put o.dst undef) w1
 rw [hN]
 exact hK _ _ (k w1 h2)
theorem value_F (F:Value → World → Prop) (hgd:o.guard = none) (h:∃ v w1,(execOp a.eval o).run P W = .ok (.value v) w1 ∧ F v w1) (k:∀ v w1,F v w1 → wpList P ops Q rest (a.put o.dst v) w1):wpList P ops Q (o :: rest) a W:=by
 obtain ⟨v,w1,h1,h2⟩:=h
 exact Kd.event_run hgd h1 (k v w1 h2)
theorem setRow_get {w:World} {g:Nat} {old cs:Array Value} {t:TypeId} {fr:Nat × Nat} (h:w.heap[g]? = some (.cells old t fr)):(w.setRow g cs).heap[g]? = some (.cells cs t fr):=by
 unfold World.setRow
 simp only [Array.getElem?_modify,if_true,h,Option.map_some]
theorem at_setRow (g:Nat) (w:World) (cs:Array Value):At g w (w.setRow g cs) :=
 ⟨rfl,rfl,rfl,by simp [World.setRow],fun k hk => by
  have:g ≠ k:=fun e => hk e.symm
  simp [World.setRow,Array.getElem?_modify,this]⟩
theorem store_row_F (hgd:o.guard = none) (hN:o.dst = none) (ty:TypeId) (x y:Operand) (ho:o.op = .store ty x y) (g:Nat) (cells:Array Value) (hx:a.eval x = .pointer (some ⟨g,0,none⟩)) (hy:a.eval y = .agg cells)
  (t:TypeId) (old:Array Value) (hg:W.heap[g]? = some (.cells old t (0,0))) (hi:(P.info? ty).map (·.size) = some cells.size) (hold:old.size = cells.size) (h1:cells.all (·.oneCell') = true)
  (k:∀ w1,w1.heap[g]? = some (.cells cells t (0,0)) → At g W w1 → wpList P ops Q rest a w1):wpList P ops Q (o :: rest) a W :=
 wpList_store_row hgd ty x y ho g cells hx hy t old hg hi hold h1 (by
  rw [hN]
  exact k _ (setRow_get hg) (at_setRow g W cells))
end
theorem results_cell2 {P:Program} {fn:Func} {p u:Tmp} {ty:TypeId} {w:World} {v x:Value} (h:fn.results = #[.cell p ty,.tmp u]) (tmps:Array Value) (g:Nat) (hp:tmps.getD p undef = .pointer (some ⟨g,0,none⟩)) (hx:tmps.getD u undef = x)
  (hl:(loadVar ty ⟨g,0,none⟩).run P w = .ok v w):(results fn tmps).run P w = .ok (.tuple #[v,x]) w:=by
 rw [results_cell_tmp h,hp,hx]
 simp [asAddr,hl]
end Go.Proofs.Ytnkkgofpifhoeaa.Steps
end
section
namespace Go.Proofs.Ytnkkgofpifhoeaa.Lk
open Go.RowKit Go.Proofs.Ytnkkgofpifhoeaa.Steps Go.Proofs.YtnkkgofpifhoeaaW.PrintWords
structure Pkt where
 kind:Int
 mine:Int
 boot:Int
 yours:Int
 seq:Int
 ack:Int
 stamp:Int
 echo:Int
 zr:Nat
 zi:Nat
 body:List Int
def cx:Kd (Nat × Nat):=Kd.scalar (fun z => .complex .f64 z.1 z.2) (fun _ => rfl)
def u32s:Kd Int:=Kd.int .u32
def bytes:Kd (List Int):=Kd.slice 5 (Kd.int .u8)
def pkt:Kd Pkt:=Kd.iso (Kd.pair (Kd.int .i64) (Kd.pair u32s (Kd.pair u32s (Kd.pair u32s (Kd.pair u32s (Kd.pair u32s (Kd.pair u32s (Kd.pair u32s (Kd.pair cx bytes)))))))))
 (fun p => (p.kind,p.mine,p.boot,p.yours,p.seq,p.ack,p.stamp,p.echo,(p.zr,p.zi),p.body))
def cells (p:Pkt) (b:Value):List Value:=[.int .i64 p.kind,.int .u32 p.mine,.int .u32 p.boot,.int .u32 p.yours,.int .u32 p.seq,.int .u32 p.ack,.int .u32 p.stamp,.int .u32 p.echo,.complex .f64 p.zr p.zi,b]
theorem pkt_sz:pkt.sz = 10:=rfl
theorem pkt_E:pkt.E = [5]:=rfl
theorem pkt_M {w:World} {base:Nat} {ok:Nat → Prop} {p:Pkt} {cs:List Value}:pkt.M w base ok p cs ↔ ∃ b,cs = cells p b ∧ (Kd.int .u8).R 5 w base ok b p.body:=by
 constructor
 ·rintro ⟨_,_,rfl,rfl,_,_,rfl,rfl,_,_,rfl,rfl,_,_,rfl,rfl,_,_,rfl,rfl,_,_,rfl,rfl,_,_,rfl,rfl,_,_,rfl,rfl,_,_,rfl,rfl,b,rfl,h⟩
  exact ⟨b,rfl,h⟩
 ·rintro ⟨b,rfl,h⟩
  exact ⟨_,_,rfl,rfl,_,_,rfl,rfl,_,_,rfl,rfl,_,_,rfl,rfl,_,_,rfl,rfl,_,_,rfl,rfl,_,_,rfl,rfl,_,_,rfl,rfl,_,_,rfl,rfl,b,rfl,h⟩
structure Lk where
 own:Int
 phase:Int
 token:Int
 boot:Int
 yours:Int
 known:Bool
 queue:List (List Int)
 sent:Int
 base:Int
 expected:Int
 idle:Int
 out:List Pkt
structure Lk.Ok (L:Lk):Prop where
 own:0 ≤ L.own ∧ L.own < 4294967296
 phase:0 ≤ L.phase ∧ L.phase ≤ 2
 token:0 ≤ L.token ∧ L.token < 4294967296
 boot:0 ≤ L.boot ∧ L.boot < 4294967296
 yours:0 ≤ L.yours ∧ L.yours < 4294967296
 queue:L.queue.length ≤ 64
 rows:∀ r ∈ L.queue,r.length ≤ 1000
 sent:0 ≤ L.sent ∧ L.sent ≤ L.queue.length ∧ L.sent ≤ 8
 base:0 ≤ L.base ∧ L.base < 4294967296
 expected:0 ≤ L.expected ∧ L.expected < 4294967296
 idle:0 ≤ L.idle ∧ L.idle ≤ 1000
 out:L.out.length ≤ 1024
def row (L:Lk) (q o:Value):Array Value:=#[.int .u32 L.own,.int .i64 L.phase,.int .u32 L.token,.int .u32 L.boot,.int .u32 L.yours,.bool L.known,q,.int .i64 L.sent,.int .u32 L.base,.int .u32 L.expected,.int .i64 L.idle,o]
structure At (w:World) (B:Nat) (okq oko:Nat → Prop) (g:Nat) (L:Lk) (q o:Value):Prop where
 blk:w.heap[g]? = some (.cells (row L q o) 131 (0,0))
 queue:bytes.Q 22 w B okq q L.queue
 out:pkt.R 27 w B oko o L.out
 low:B ≤ g
 apart:∀ k,okq k → ¬ oko k
 old:∀ k,okq k ∨ oko k → k < w.heap.size ∧ k ≠ g
def holds (okq oko:Nat → Prop) (g:Nat):Nat → Prop:=fun k => okq k ∨ oko k ∨ k = g
theorem At.kept {w w1:World} {B g:Nat} {okq oko S:Nat → Prop} {L:Lk} {q o:Value} (h:At w B okq oko g L q o) (hk:Kept w w1 S) (hd:∀ k,holds okq oko g k → ¬ S k):At w1 B okq oko g L q o :=
 ⟨blk_kept h.blk hk (hd g (.inr (.inr rfl))),Kd.Q_kept h.queue hk (fun k ho => hd k (.inl ho)),Kd.R_kept h.out hk (fun k ho => hd k (.inr (.inl ho))),h.low,h.apart,fun k hk' => ⟨Nat.lt_of_lt_of_le (h.old k hk').1 hk.1,(h.old k hk').2⟩⟩
theorem At.below {w w1:World} {B g:Nat} {okq oko:Nat → Prop} {L:Lk} {q o:Value} (h:At w B okq oko g L q o) (hb:Below w.heap.size w w1):At w1 B okq oko g L q o:=h.kept (Kept.of_below hb (fun _ => False)) (fun _ _ hf => hf)
theorem At.put {w:World} {B g:Nat} {okq oko okq' oko':Nat → Prop} {L L':Lk} {q o q' o':Value} (h:At w B okq oko g L q o) (i:Nat) (u:Value) (e:(row L q o).setIfInBounds i u = row L' q' o')
  (hq:bytes.Q 22 w B okq' q' L'.queue) (hout:pkt.R 27 w B oko' o' L'.out) (hap:∀ k,okq' k → ¬ oko' k) (hold:∀ k,okq' k ∨ oko' k → k < w.heap.size ∧ k ≠ g):At (w.setCell ⟨g,i,none⟩ u) B okq' oko' g L' q' o':=by
 have hk:Kept w (w.setCell ⟨g,i,none⟩ u) (fun k => k = g):=Kept.setCell (S:=fun k => k = g) (Kept.refl w _) (p:=⟨g,i,none⟩) (.inl rfl) u
 exact ⟨blk_put h.blk i u e,Kd.Q_kept hq hk (fun k ho => (hold k (.inl ho)).2),Kd.R_kept hout hk (fun k ho => (hold k (.inr ho)).2),h.low,hap,fun k hk' => ⟨Nat.lt_of_lt_of_le (hold k hk').1 hk.1,(hold k hk').2⟩⟩
theorem At.put1 {w:World} {B g:Nat} {okq oko:Nat → Prop} {L L':Lk} {q o:Value} (h:At w B okq oko g L q o) (i:Nat) (u:Value) (e:(row L q o).setIfInBounds i u = row L' q o) (hq:L'.queue = L.queue) (ho:L'.out = L.out):At (w.setCell ⟨g,i,none⟩ u) B okq oko g L' q o :=
 h.put i u e (hq ▸ h.queue) (ho ▸ h.out) h.apart h.old
theorem At.noq {w:World} {B g:Nat} {okq oko:Nat → Prop} {L L':Lk} {q o:Value} (h:At w B okq oko g L q o) (e:(row L q o).setIfInBounds 6 (.slice none 0 0) = row L' (.slice none 0 0) o) (hq:L'.queue = []) (ho:L'.out = L.out):At (w.setCell ⟨g,6,none⟩ (.slice none 0 0)) B (fun _ => False) oko g L' (.slice none 0 0) o :=
 h.put 6 _ e (hq ▸ Kd.Q_nil _ _ _ _ _) (ho ▸ h.out) (fun _ hf => hf.elim) (fun k hk => h.old k (.inr (hk.elim (fun f => False.elim f) (fun x => x))))
end Go.Proofs.Ytnkkgofpifhoeaa.Lk
end
section
namespace Go.Proofs.Ytnkkgofpifhoeaa.Lk
open Go.RowKit Go.Proofs.Ytnkkgofpifhoeaa.Base Go.Proofs.Ytnkkgofpifhoeaa.Steps Go.Proofs.YtnkkgofpifhoeaaW.PrintWords Go.Proofs.YtnkkgofpifhoeaaW.PrintLast
theorem phase_of {w:World} {B g:Nat} {okq oko:Nat → Prop} {L:Lk} {q o:Value} (h:At w B okq oko g L q o):Calls Try.prog 29 #[.pointer (some ⟨g,0,none⟩)] w fun e w' => e = .returned (.int .i64 L.phase) ∧ w = w':=by
 have hc1:w.cell? ⟨g,1,none⟩ = some (.int .i64 L.phase):=(blk_cell h.blk 1).trans rfl
 clear h
 go_enter Try.func29,Try.ntmps29
 go_wp2
 all_goals (go_ret; exact ⟨rfl,rfl⟩)
def newL (own:Int):Lk:=⟨own,0,0,0,0,false,[],0,0,0,0,[]⟩
theorem newL_ok (own:Int) (ho:0 < own ∧ own < 4294967296):(newL own).Ok:=by constructor <;> simp [newL] <;> omega
theorem new_of (own:Int) (ho:0 < own ∧ own < 4294967296) (w:World) (B:Nat) (hB:B ≤ w.heap.size):Calls Try.prog 26 #[.int .u32 own] w fun e w' => e = .returned (.tuple #[.pointer (some ⟨w.heap.size,0,none⟩),.int .i64 0]) ∧ At w' B (fun _ => False) (fun _ => False) w.heap.size (newL own) (.slice none 0 0) (.slice none 0 0) ∧ Below w.heap.size w w':=by
 have ho1:¬ own = 0:=by omega
 go_enter Try.func26,Try.ntmps26
 go_wp2
 all_goals go_ret2
 exact ⟨rfl,⟨heap_alloc_new w _,Kd.Q_nil _ _ _ _ _,Kd.R_nil _ _ _ _ _,hB,fun _ h => h.elim,fun k hk => (hk.elim False.elim False.elim)⟩,(Below.refl _ _).alloc (Nat.le_refl _) _⟩
def begin_ (L:Lk):Lk:={ L with token:=L.token + 1,phase:=1,known:=false,queue:=[],sent:=0,base:=4294967293,expected:=4294967293,idle:=0 }
theorem begin_ok {L:Lk} (h:L.Ok) (ht:L.token < 4294967295):(begin_ L).Ok:=by
 have h1:=h.own; have h2:=h.token; have h3:=h.boot; have h4:=h.yours; have h5:=h.out
 constructor <;> simp [begin_] <;> omega
set_option maxHeartbeats 2000000 in
theorem begin_of {w:World} {B g:Nat} {okq oko:Nat → Prop} {L:Lk} {q o:Value} (h:At w B okq oko g L q o) (hok:L.Ok) (ht:L.token < 4294967295):Calls Try.prog 72 #[.pointer (some ⟨g,0,none⟩)] w fun e w' => e = .returned (.tuple #[]) ∧ At w' B (fun _ => False) oko g (begin_ L) (.slice none 0 0) o ∧ Go.Proofs.Ytnkkgofpifhoeaa.Steps.At g w w':=by
 have hc2:w.cell? ⟨g,2,none⟩ = some (.int .u32 L.token):=(blk_cell h.blk 2).trans rfl
 have ht1:=hok.token
 have K0:=Lib.hid (⟨h,Steps.At.refl g w⟩:At w B okq oko g L q o ∧ Go.Proofs.Ytnkkgofpifhoeaa.Steps.At g w w)
 clear h hok
 go_enter Try.func72,Try.ntmps72
 go_wp2_with (first | ((with_reducible refine gate_ (.store 24 (.tmp 8) (.tmp 6)) rfl ?_); (refine store_F (fun wz => At wz B okq oko g { L with token:=L.token + 1 } q o ∧ Go.Proofs.Ytnkkgofpifhoeaa.Steps.At g w wz) rfl rfl ⟨_,(by have hz1:World.cell? _ ⟨g,2,none⟩ = some _:=(blk_cell K0.out.1.blk 2).trans rfl; have hz2:=blk_frozen K0.out.1.blk 2; first | (go_simp; done) | (go_simp; rfl)),K0.out.1.put1 2 _ rfl rfl rfl,Steps.At.set K0.out.2 _ _⟩ (fun w_K1 hF => ?_)); (have K1:=Lib.hid hF); (clear hF)) | ((with_reducible refine gate_ (.store 3 (.tmp 11) (.const (.int .i64 1))) rfl ?_); (refine store_F (fun wz => At wz B okq oko g { L with token:=L.token + 1,phase:=1 } q o ∧ Go.Proofs.Ytnkkgofpifhoeaa.Steps.At g w wz) rfl rfl ⟨_,(by have hz1:World.cell? _ ⟨g,1,none⟩ = some _:=(blk_cell K1.out.1.blk 1).trans rfl; have hz2:=blk_frozen K1.out.1.blk 1; first | (go_simp; done) | (go_simp; rfl)),K1.out.1.put1 1 _ rfl rfl rfl,Steps.At.set K1.out.2 _ _⟩ (fun w_K2 hF => ?_)); (have K2:=Lib.hid hF); (clear hF)) | ((with_reducible refine gate_ (.store 4 (.tmp 14) (.const (.bool false))) rfl ?_); (refine store_F (fun wz => At wz B okq oko g { L with token:=L.token + 1,phase:=1,known:=false } q o ∧ Go.Proofs.Ytnkkgofpifhoeaa.Steps.At g w wz) rfl rfl ⟨_,(by have hz1:World.cell? _ ⟨g,5,none⟩ = some _:=(blk_cell K2.out.1.blk 5).trans rfl; have hz2:=blk_frozen K2.out.1.blk 5; first | (go_simp; done) | (go_simp; rfl)),K2.out.1.put1 5 _ rfl rfl rfl,Steps.At.set K2.out.2 _ _⟩ (fun w_K3 hF => ?_)); (have K3:=Lib.hid hF); (clear hF)) | ((with_reducible refine gate_ (.store 45 (.tmp 17) (.const (.slice none 0 0))) rfl ?_); (refine store_F (fun wz => At wz B (fun _ => False) oko g { L with token:=L.token + 1,phase:=1,known:=false,queue:=[] } (.slice none 0 0) o ∧ Go.Proofs.Ytnkkgofpifhoeaa.Steps.At g w wz) rfl rfl ⟨_,(by have hz1:World.cell? _ ⟨g,6,none⟩ = some _:=(blk_cell K3.out.1.blk 6).trans rfl; have hz2:=blk_frozen K3.out.1.blk 6; first | (go_simp; done) | (go_simp; rfl)),K3.out.1.noq rfl rfl rfl,Steps.At.set K3.out.2 _ _⟩ (fun w_K4 hF => ?_)); (have K4:=Lib.hid hF); (clear hF)) | ((with_reducible refine gate_ (.store 3 (.tmp 20) (.const (.int .i64 0))) rfl ?_); (refine store_F (fun wz => At wz B (fun _ => False) oko g { L with token:=L.token + 1,phase:=1,known:=false,queue:=[],sent:=0 } (.slice none 0 0) o ∧ Go.Proofs.Ytnkkgofpifhoeaa.Steps.At g w wz) rfl rfl ⟨_,(by have hz1:World.cell? _ ⟨g,7,none⟩ = some _:=(blk_cell K4.out.1.blk 7).trans rfl; have hz2:=blk_frozen K4.out.1.blk 7; first | (go_simp; done) | (go_simp; rfl)),K4.out.1.put1 7 _ rfl rfl rfl,Steps.At.set K4.out.2 _ _⟩ (fun w_K5 hF => ?_)); (have K5:=Lib.hid hF); (clear hF)) | ((with_reducible refine gate_ (.store 24 (.tmp 24) (.const (.int .u32 4294967293))) rfl ?_); (refine store_F (fun wz => At wz B (fun _ => False) oko g { L with token:=L.token + 1,phase:=1,known:=false,queue:=[],sent:=0,base:=4294967293 } (.slice none 0 0) o ∧ Go.Proofs.Ytnkkgofpifhoeaa.Steps.At g w wz) rfl rfl ⟨_,(by have hz1:World.cell? _ ⟨g,8,none⟩ = some _:=(blk_cell K5.out.1.blk 8).trans rfl; have hz2:=blk_frozen K5.out.1.blk 8; first | (go_simp; done) | (go_simp; rfl)),K5.out.1.put1 8 _ rfl rfl rfl,Steps.At.set K5.out.2 _ _⟩ (fun w_K6 hF => ?_)); (have K6:=Lib.hid hF); (clear hF)) | ((with_reducible refine gate_ (.store 24 (.tmp 26) (.const (.int .u32 4294967293))) rfl ?_); (refine store_F (fun wz => At wz B (fun _ => False) oko g { L with token:=L.token + 1,phase:=1,known:=false,queue:=[],sent:=0,base:=4294967293,expected:=4294967293 } (.slice none 0 0) o ∧ Go.Proofs.Ytnkkgofpifhoeaa.Steps.At g w wz) rfl rfl ⟨_,(by have hz1:World.cell? _ ⟨g,9,none⟩ = some _:=(blk_cell K6.out.1.blk 9).trans rfl; have hz2:=blk_frozen K6.out.1.blk 9; first | (go_simp; done) | (go_simp; rfl)),K6.out.1.put1 9 _ rfl rfl rfl,Steps.At.set K6.out.2 _ _⟩ (fun w_K7 hF => ?_)); (have K7:=Lib.hid hF); (clear hF)) | ((with_reducible refine gate_ (.store 3 (.tmp 29) (.const (.int .i64 0))) rfl ?_); (refine store_F (fun wz => At wz B (fun _ => False) oko g { L with token:=L.token + 1,phase:=1,known:=false,queue:=[],sent:=0,base:=4294967293,expected:=4294967293,idle:=0 } (.slice none 0 0) o ∧ Go.Proofs.Ytnkkgofpifhoeaa.Steps.At g w wz) rfl rfl ⟨_,(by have hz1:World.cell? _ ⟨g,10,none⟩ = some _:=(blk_cell K7.out.1.blk 10).trans rfl; have hz2:=blk_frozen K7.out.1.blk 10; first | (go_simp; done) | (go_simp; rfl)),K7.out.1.put1 10 _ rfl rfl rfl,Steps.At.set K7.out.2 _ _⟩ (fun w_K8 hF => ?_)); (have K8:=Lib.hid hF); (clear hF)))
 refine bodyPost_end (results_none rfl _ _ _) rfl ?_
 exact ⟨rfl,K8.out.1,K8.out.2⟩
end Go.Proofs.Ytnkkgofpifhoeaa.Lk
end
section
namespace Go.Proofs.Ytnkkgofpifhoeaa.Lk
open Go.RowKit Go.Proofs.Ytnkkgofpifhoeaa.Base Go.Proofs.Ytnkkgofpifhoeaa.Steps Go.Proofs.YtnkkgofpifhoeaaW.PrintWords Go.Proofs.YtnkkgofpifhoeaaW.PrintLast
def emit_ (L:Lk) (p:Pkt):Lk:=if L.out.length < 1024 then { L with out:=L.out ++ [p] } else L
theorem emit_ok {L:Lk} (h:L.Ok) (p:Pkt):(emit_ L p).Ok:=by
 unfold emit_
 split
 ·exact ⟨h.own,h.phase,h.token,h.boot,h.yours,h.queue,h.rows,h.sent,h.base,h.expected,h.idle,by simp; omega⟩
 ·exact h
def Emits (w:World) (B:Nat) (okq oko:Nat → Prop) (g:Nat) (L:Lk) (q:Value) (w':World):Prop :=
 ∃ o,At w' B okq (fun k => oko k ∨ w.heap.size ≤ k ∧ k < w'.heap.size) g L q o ∧ Kept w w' (fun k => oko k ∨ k = g) ∧ Below B w w'
theorem info27:(Try.prog.info? 27).map (fun i => (i.zero,i.size,i.bytes)) = some (some (.agg #[.int .i64 0,.int .u32 0,.int .u32 0,.int .u32 0,.int .u32 0,.int .u32 0,.int .u32 0,.int .u32 0,.complex .f64 0 0,.slice none 0 0]),10,80):=by kernel_rfl
theorem pkt_free {w:World} {B:Nat} {okp ok:Nat → Prop} {p:Pkt} {cs:List Value} {o:Value} {ps:List Pkt} (hM:pkt.M w B okp p cs) (ho:pkt.R 27 w B ok o ps):pkt.M w B (fun k => okp k ∧ some k ≠ o.ownBlock) p cs:=by
 refine pkt.M_mono (fun k hk => ?_) (pkt.M_bound hM)
 obtain ⟨h1,_,_,t,ht,c,hc⟩:=hk
 refine ⟨h1,fun he => ?_⟩
 obtain ⟨_,inner,ho2,_⟩:=ho
 obtain ⟨c2,hc2⟩:=own_typed ho2 k he.symm
 rw [hc] at hc2
 injection hc2 with hc2
 injection hc2 with _ hc2 _
 subst hc2
 rw [pkt_E] at ht
 exact absurd ht (by decide)
theorem At.put' {w:World} {B g:Nat} {okq' oko':Nat → Prop} {L':Lk} {q' o':Value} {cs:Array Value} (hb:w.heap[g]? = some (.cells cs 131 (0,0))) (i:Nat) (u:Value) (e:cs.setIfInBounds i u = row L' q' o')
  (hq:bytes.Q 22 w B okq' q' L'.queue) (hout:pkt.R 27 w B oko' o' L'.out) (low:B ≤ g) (hap:∀ k,okq' k → ¬ oko' k) (hold:∀ k,okq' k ∨ oko' k → k < w.heap.size ∧ k ≠ g):At (w.setCell ⟨g,i,none⟩ u) B okq' oko' g L' q' o':=by
 have hk:Kept w (w.setCell ⟨g,i,none⟩ u) (fun k => k = g):=Kept.setCell (S:=fun k => k = g) (Kept.refl w _) (p:=⟨g,i,none⟩) (.inl rfl) u
 exact ⟨blk_put hb i u e,Kd.Q_kept hq hk (fun k ho => (hold k (.inl ho)).2),Kd.R_kept hout hk (fun k ho => (hold k (.inr ho)).2),low,hap,fun k hk' => ⟨Nat.lt_of_lt_of_le (hold k hk').1 hk.1,(hold k hk').2⟩⟩
set_option maxRecDepth 100000 in
set_option maxHeartbeats 1000000 in
theorem emit_of {w:World} {B g:Nat} {okq oko okp:Nat → Prop} {L:Lk} {q o:Value} (p:Pkt) (b:Value) (h:At w B okq oko g L q o) (hok:L.Ok) (hB:B ≤ w.heap.size) (hM:pkt.M w B okp p (cells p b)) (hokp:∀ k,okp k → oko k) :
  Calls Try.prog 80 #[.pointer (some ⟨g,0,none⟩),.agg #[.int .i64 p.kind,.int .u32 p.mine,.int .u32 p.boot,.int .u32 p.yours,.int .u32 p.seq,.int .u32 p.ack,.int .u32 p.stamp,.int .u32 p.echo,.complex .f64 p.zr p.zi,b]] w fun e w' => e = .returned (.tuple #[]) ∧ Emits w B okq oko g (emit_ L p) q w':=by
 obtain ⟨A,c,ho⟩:=Kd.R_slice h.out
 subst ho
 have hol:=hok.out
 have hb0:Below w.heap.size w (w.alloc (.cells #[.int .i64 p.kind,.int .u32 p.mine,.int .u32 p.boot,.int .u32 p.yours,.int .u32 p.seq,.int .u32 p.ack,.int .u32 p.stamp,.int .u32 p.echo,.complex .f64 p.zr p.zi,b] 27)):=(Below.refl _ _).alloc (Nat.le_refl _) _
 have H1:=Lib.hid (h.below hb0)
 have H0:=Lib.hid h
 have HM:=Lib.hid (pkt_free hM h.out)
 have HP:=Lib.hid hokp
 have hc11:(w.alloc (.cells #[.int .i64 p.kind,.int .u32 p.mine,.int .u32 p.boot,.int .u32 p.yours,.int .u32 p.seq,.int .u32 p.ack,.int .u32 p.stamp,.int .u32 p.echo,.complex .f64 p.zr p.zi,b] 27)).cell? ⟨g,11,none⟩ = some (.slice A L.out.length c):=(blk_cell H1.out.blk 11).trans rfl
 have hcb:=heap_alloc_new w (.cells #[.int .i64 p.kind,.int .u32 p.mine,.int .u32 p.boot,.int .u32 p.yours,.int .u32 p.seq,.int .u32 p.ack,.int .u32 p.stamp,.int .u32 p.echo,.complex .f64 p.zr p.zi,b] 27)
 have HB0:=Lib.hid hb0
 have HCB:=Lib.hid hcb
 clear h hb0 hM hokp hok hcb
 go_enter Try.func80,Try.ntmps80
 go_wp2_with fail
 rotate_left
 ·go_end0
  have hL:emit_ L p = L:=by unfold emit_; rw [if_neg (by omega)]
  rw [hL]
  refine ⟨rfl,.slice A L.out.length c,⟨H1.out.blk,H1.out.queue,Kd.R_mono H1.out.out (fun _ hk => .inl hk),H1.out.low,fun k hk ho => ho.elim (H1.out.apart k hk) (fun hn => by have:=(H0.out.old k (.inl hk)).1; omega),fun k hk => ?_⟩,Kept.of_below HB0.out _,HB0.out.mono hB⟩
  have hgl:g < w.heap.size:=blk_lt H0.out.blk
  rcases hk with hk | hk | hk
  ·exact H1.out.old k (.inl hk)
  ·exact H1.out.old k (.inr hk)
  ·exact ⟨hk.2,by omega⟩
 have hL:emit_ L p = { L with out:=L.out ++ [p] }:=by unfold emit_; rw [if_pos (by omega)]
 have hbd:Below w.heap.size w (w.alloc (.cells #[.int .i64 p.kind,.int .u32 p.mine,.int .u32 p.boot,.int .u32 p.yours,.int .u32 p.seq,.int .u32 p.ack,.int .u32 p.stamp,.int .u32 p.echo,.complex .f64 p.zr p.zi,b] 27)).drew:=bl_drew HB0.out
 have hSS:(w.alloc (.cells #[.int .i64 p.kind,.int .u32 p.mine,.int .u32 p.boot,.int .u32 p.yours,.int .u32 p.seq,.int .u32 p.ack,.int .u32 p.stamp,.int .u32 p.echo,.complex .f64 p.zr p.zi,b] 27)).drew.heap[g]? = some (.cells (row L q (.slice A L.out.length c)) 131 (0,0)) ∧ (w.alloc (.cells #[.int .i64 p.kind,.int .u32 p.mine,.int .u32 p.boot,.int .u32 p.yours,.int .u32 p.seq,.int .u32 p.ack,.int .u32 p.stamp,.int .u32 p.echo,.complex .f64 p.zr p.zi,b] 27)).drew.heap[w.heap.size]? = some (.cells #[.int .i64 p.kind,.int .u32 p.mine,.int .u32 p.boot,.int .u32 p.yours,.int .u32 p.seq,.int .u32 p.ack,.int .u32 p.stamp,.int .u32 p.echo,.complex .f64 p.zr p.zi,b] 27 (0,0)):=⟨H1.out.blk,HCB.out⟩
 have hsz0:(w.alloc (.cells #[.int .i64 p.kind,.int .u32 p.mine,.int .u32 p.boot,.int .u32 p.yours,.int .u32 p.seq,.int .u32 p.ack,.int .u32 p.stamp,.int .u32 p.echo,.complex .f64 p.zr p.zi,b] 27)).drew.heap.size = w.heap.size + 1:=by simp [World.drew]
 clear H1 HB0 HCB hc11
 refine start_ (n:=11) (S:=fun w' => w'.heap[g]? = some (.cells (row L q (.slice A L.out.length c)) 131 (0,0)) ∧ w'.heap[w.heap.size]? = some (.cells #[.int .i64 p.kind,.int .u32 p.mine,.int .u32 p.boot,.int .u32 p.yours,.int .u32 p.seq,.int .u32 p.ack,.int .u32 p.stamp,.int .u32 p.echo,.complex .f64 p.zr p.zi,b] 27 (0,0))) (ds:=[10]) M0W (by kernel_rfl) rfl rfl (hSS) (fun hHeld => ?_)
 generalize (w.alloc (.cells #[.int .i64 p.kind,.int .u32 p.mine,.int .u32 p.boot,.int .u32 p.yours,.int .u32 p.seq,.int .u32 p.ack,.int .u32 p.stamp,.int .u32 p.echo,.complex .f64 p.zr p.zi,b] 27)).drew = w2 at hbd hsz0 hHeld ⊢
 have HBD:=Lib.hid hbd
 have HSZ:=Lib.hid hsz0
 clear hbd hsz0
 refine pure_ (i:=0) (N:=some 10) (v:=?_) (a':=?_) M0Y rfl rfl (by kernel_rfl) (fun _ _ _ h => h) (Or.inl ⟨by rfl,?_⟩) ?_ ?_
 rotate_left
 ·intro w'
  go_simp
  with_reducible rfl
 rotate_left
 ·simp only [Act.put,sA,sZ,sS]
  rfl
 refine pure_ (i:=1) (N:=some 11) (v:=?_) (a':=?_) M0Z rfl rfl (by kernel_rfl) (fun _ _ _ h => h) (Or.inl ⟨by rfl,?_⟩) ?_ ?_
 rotate_left
 ·intro w'
  go_simp
  with_reducible rfl
 rotate_left
 ·simp only [Act.put,sA,sZ,sS]
  rfl
 refine pure_ (i:=2) (N:=some 12) (v:=?_) (a':=?_) M19 rfl rfl (by kernel_rfl) (fun _ _ _ h => h) (Or.inl ⟨by rfl,?_⟩) ?_ ?_
 rotate_left
 ·intro w'
  go_simp
  with_reducible rfl
 rotate_left
 ·simp only [Act.put,sA,sZ,sS]
  rfl
 refine pure_ (i:=3) (N:=some 13) (v:=?_) (a':=?_) M1a rfl rfl (by kernel_rfl) (fun _ _ _ h => h) (Or.inl ⟨by rfl,?_⟩) ?_ ?_
 rotate_left
 ·intro w'
  go_simp
  with_reducible rfl
 rotate_left
 ·simp only [Act.put,sA,sZ,sS]
  rfl
 refine take_ (i:=4) (N:=some 14) (v:=?_) (a':=?_) M1b rfl rfl (by kernel_rfl) (fun _ _ _ h => h) (Or.inl ⟨by rfl,?_⟩) hHeld ?_ ?_
 rotate_left
 ·intro w' s0
  have hc11:w'.cell? ⟨g,11,none⟩ = some (.slice A L.out.length c):=(blk_cell s0.1 11).trans rfl
  clear s0
  go_simp
  with_reducible rfl
 rotate_left
 ·simp only [Act.put,sA,sZ,sS]
  rfl
 refine take_ (i:=5) (N:=some 15) (v:=?_) (a':=?_) M1c rfl rfl (by kernel_rfl) (fun _ _ _ h => h) (Or.inl ⟨by rfl,?_⟩) hHeld ?_ ?_
 rotate_left
 ·intro w' s0
  have hu27:=Try.underlying27
  have hc0:w'.cell? ⟨w.heap.size,0,none⟩ = some (.int .i64 p.kind):=(blk_cell s0.2 0).trans rfl
  have hc1:w'.cell? ⟨w.heap.size,1,none⟩ = some (.int .u32 p.mine):=(blk_cell s0.2 1).trans rfl
  have hc2:w'.cell? ⟨w.heap.size,2,none⟩ = some (.int .u32 p.boot):=(blk_cell s0.2 2).trans rfl
  have hc3:w'.cell? ⟨w.heap.size,3,none⟩ = some (.int .u32 p.yours):=(blk_cell s0.2 3).trans rfl
  have hc4:w'.cell? ⟨w.heap.size,4,none⟩ = some (.int .u32 p.seq):=(blk_cell s0.2 4).trans rfl
  have hc5:w'.cell? ⟨w.heap.size,5,none⟩ = some (.int .u32 p.ack):=(blk_cell s0.2 5).trans rfl
  have hc6:w'.cell? ⟨w.heap.size,6,none⟩ = some (.int .u32 p.stamp):=(blk_cell s0.2 6).trans rfl
  have hc7:w'.cell? ⟨w.heap.size,7,none⟩ = some (.int .u32 p.echo):=(blk_cell s0.2 7).trans rfl
  have hc8:w'.cell? ⟨w.heap.size,8,none⟩ = some (.complex .f64 p.zr p.zi):=(blk_cell s0.2 8).trans rfl
  have hc9:w'.cell? ⟨w.heap.size,9,none⟩ = some (b):=(blk_cell s0.2 9).trans rfl
  clear s0
  go_simp
  try rfl
 rotate_left
 ·simp only [Act.put,sA,sZ,sS]
  rfl
 refine one_ (i:=6) (N:=some 16) M1d rfl rfl (by kernel_rfl) (by decide) (fun K hK => ?_)
 refine value_ (v:=.slice (some ⟨w2.heap.size,0,none⟩) 1 1) (by rfl) rfl (w1:=w2.alloc (.cells #[.int .i64 p.kind,.int .u32 p.mine,.int .u32 p.boot,.int .u32 p.yours,.int .u32 p.seq,.int .u32 p.ack,.int .u32 p.stamp,.int .u32 p.echo,.complex .f64 p.zr p.zi,b] 27)) ?_ ?_
 ·first | (go_simp; done) | (go_simp; rfl)
 have hb2:=(Below.refl w2.heap.size w2).alloc (Nat.le_refl _) (.cells #[.int .i64 p.kind,.int .u32 p.mine,.int .u32 p.boot,.int .u32 p.yours,.int .u32 p.seq,.int .u32 p.ack,.int .u32 p.stamp,.int .u32 p.echo,.complex .f64 p.zr p.zi,b] 27)
 have HS2:=Lib.hid hHeld
 refine hK.out _ _ ⟨(hb2.block g (blk_lt hHeld.1)).trans hHeld.1,(hb2.block w.heap.size (blk_lt hHeld.2)).trans hHeld.2⟩ (fun hHeld => ?_)
 clear hK K
 refine norm_ (a':=?_) ?_ ?_
 rotate_left
 ·show Act.put _ (some 16) _ = _
  simp only [Act.put,sA,sZ,sS]
  rfl
 refine one_ (i:=7) (N:=some 17) M13 rfl rfl (by kernel_rfl) (by decide) (fun K hK => ?_)
 have hQ2:=H0.out.below HBD.out
 have hM2:=Kd.M_kept HM.out (Kept.of_below HBD.out (fun _ => False)) (fun _ _ hf => hf)
 refine Kd.R_append_step pkt (w0:=w) B (by rfl) (.tmp 14) (.tmp 16) 53 27 (.agg #[.int .i64 0,.int .u32 0,.int .u32 0,.int .u32 0,.int .u32 0,.int .u32 0,.int .u32 0,.int .u32 0,.complex .f64 0 0,.slice none 0 0]) 80 rfl Try.underlying53 info27 rfl (by decide) (by decide) _ _ p (cells p b) (fun k => oko k ∨ w.heap.size ≤ k) (fun k => okp k ∧ some k ≠ (Value.slice A L.out.length c).ownBlock) rfl rfl hM2 (fun k hk => ⟨.inl (HP.out k hk.1),hk.2⟩) (fun k hk => .inr (by have:=HSZ.out; omega)) (Kd.R_mono hQ2.out (fun _ hk => .inl hk)) (HBD.out.mono hB) (by have:=HSZ.out; omega) (by omega) ?_
 intro o1 w3 hR hbl hg _
 obtain ⟨A1,c1,ho1⟩:=Kd.R_slice hR
 generalize (L.out ++ [p]).length = n1 at ho1
 subst ho1
 have hown:∀ k,(Value.slice A L.out.length c).ownBlock = some k → oko k:=H0.out.out.1
 have hK3:Kept w w3 oko:=Kept.of_grown hg (Kept.of_below HBD.out oko) (fun k hk => .inl (hown k hk))
 have hX3:w3.heap[g]? = some (.cells (row L q (.slice A L.out.length c)) 131 (0,0)):=blk_kept H0.out.blk hK3 (fun ho => (H0.out.old g (.inr ho)).2 rfl)
 have hY3:w3.heap[w.heap.size]? = some (.cells #[.int .i64 p.kind,.int .u32 p.mine,.int .u32 p.boot,.int .u32 p.yours,.int .u32 p.seq,.int .u32 p.ack,.int .u32 p.stamp,.int .u32 p.echo,.complex .f64 p.zr p.zi,b] 27 (0,0)):=(hg.block w.heap.size (blk_lt HS2.out.2) (fun he => by have:=(H0.out.old _ (.inr (hown _ he.symm))).1; omega)).trans HS2.out.2
 have HK3:=Lib.hid hK3
 have HX3:=Lib.hid hX3
 have HR3:=Lib.hid hR
 have HBL:=Lib.hid hbl
 have HG3:=Lib.hid hg.size
 clear hR hbl hg hown HS2 hQ2 hM2 hK3 HM HP hHeld
 refine hK.out _ _ ⟨hX3,hY3⟩ (fun hHeld => ?_)
 clear hK K hX3 hY3
 refine norm_ (a':=?_) ?_ ?_
 rotate_left
 ·show Act.put _ (some 17) _ = _
  simp only [Act.put,sA,sZ,sS]
  rfl
 refine pure_ (i:=8) (N:=some 18) (v:=?_) (a':=?_) M14 rfl rfl (by kernel_rfl) (fun _ _ _ h => h) (Or.inl ⟨by rfl,?_⟩) ?_ ?_
 rotate_left
 ·intro w'
  go_simp
  with_reducible rfl
 rotate_left
 ·simp only [Act.put,sA,sZ,sS]
  rfl
 refine pure_ (i:=9) (N:=some 19) (v:=?_) (a':=?_) M15 rfl rfl (by kernel_rfl) (fun _ _ _ h => h) (Or.inl ⟨by rfl,?_⟩) ?_ ?_
 rotate_left
 ·intro w'
  go_simp
  with_reducible rfl
 rotate_left
 ·simp only [Act.put,sA,sZ,sS]
  rfl
 refine last_ (i:=10) (N:=none) M16 rfl rfl (by kernel_rfl) (by decide) (fun K hK => ?_)
 have hz1:w3.cell? ⟨g,11,none⟩ = some (.slice A L.out.length c):=(blk_cell HX3.out 11).trans rfl
 have hz2:=blk_frozen HX3.out 11
 refine skip_F (fun wz => At wz B okq (fun k => oko k ∨ w.heap.size ≤ k ∧ k < w3.heap.size) g { L with out:=L.out ++ [p] } q (.slice A1 n1 c1) ∧ wz.heap.size = w3.heap.size ∧ Kept w wz (fun k => oko k ∨ k = g) ∧ Below B w wz ∧ wz.heap[w.heap.size]? = some (.cells #[.int .i64 p.kind,.int .u32 p.mine,.int .u32 p.boot,.int .u32 p.yours,.int .u32 p.seq,.int .u32 p.ack,.int .u32 p.stamp,.int .u32 p.echo,.complex .f64 p.zr p.zi,b] 27 (0,0))) (by rfl) rfl ⟨_,by first | (go_simp; done) | (go_simp; rfl),?_,?_,?_,?_,?_⟩ (fun w4 hF => ?_)
 ·have hsz:=HK3.out.1
  refine At.put' HX3.out 11 _ rfl (Kd.Q_kept H0.out.queue HK3.out (fun k ho => H0.out.apart k ho)) (Kd.R_mono (Kd.R_bound HR3.out) (fun k hk => hk.1.elim (fun h => .inl h) (fun h => .inr ⟨h,hk.2.2.1⟩))) H0.out.low (fun k hk ho => ho.elim (H0.out.apart k hk) (fun hn => by have:=(H0.out.old k (.inl hk)).1; omega)) (fun k hk => ?_)
  have hgl:g < w.heap.size:=blk_lt H0.out.blk
  rcases hk with hk | hk | hk
  ·have:=H0.out.old k (.inl hk); exact ⟨by omega,this.2⟩
  ·have:=H0.out.old k (.inr hk); exact ⟨by omega,this.2⟩
  ·exact ⟨hk.2,by omega⟩
 ·simp [World.setCell]
 ·exact (HK3.out.mono (fun k hk => .inl hk)).setCell (p:=⟨g,11,none⟩) (.inl (.inr rfl)) _
 ·exact HBL.out.setCell (p:=⟨g,11,none⟩) H0.out.low _
 ·exact (Below.heap_setCell w3 ⟨g,11,none⟩ _ w.heap.size (by have:=blk_lt H0.out.blk; show w.heap.size ≠ g; omega)).trans hHeld.2
 have HF:=Lib.hid hF
 clear hF hz1 hz2 hHeld
 refine hK.out _ _ ?_
 clear hK K
 refine done_ (by kernel_rfl) ?_
 go_wp2
 go_end0
 have hL:emit_ L p = { L with out:=L.out ++ [p] }:=by unfold emit_; rw [if_pos (by omega)]
 rw [hL]
 refine ⟨rfl,.slice A1 n1 c1,?_,HF.out.2.2.1,HF.out.2.2.2.1⟩
 rw [HF.out.2.1]
 exact HF.out.1
end Go.Proofs.Ytnkkgofpifhoeaa.Lk
end
section
namespace Go.Proofs.Ytnkkgofpifhoeaa.Lk
open Go.RowKit Go.Proofs.Ytnkkgofpifhoeaa.Base Go.Proofs.Ytnkkgofpifhoeaa.Steps Go.Proofs.YtnkkgofpifhoeaaW.PrintWords Go.Proofs.YtnkkgofpifhoeaaW.PrintLast
def helloP (L:Lk):Pkt:=⟨1,L.token,if L.known then L.boot else 0,if L.known then L.yours else 0,if L.phase = 2 then 1 else 0,0,0,0,0,0,[]⟩
def HB (w0:World) (g r:Nat) (L:Lk) (q o:Value) (mine boot yours seq:Int) (w:World):Prop :=
 w.heap[g]? = some (.cells (row L q o) 131 (0,0)) ∧ w.heap[r]? = some (.cells #[.int .i64 1,.int .u32 mine,.int .u32 boot,.int .u32 yours,.int .u32 seq,.int .u32 0,.int .u32 0,.int .u32 0,.complex .f64 0 0,.slice none 0 0] 27 (0,0)) ∧ Below w0.heap.size w0 w
theorem Emits.from_ {w w2 w':World} {B g:Nat} {okq oko:Nat → Prop} {L:Lk} {q:Value} (hq:∀ k,okq k → k < w.heap.size) (hg:g < w.heap.size) (hb:Below w.heap.size w w2) (hB:B ≤ w.heap.size) (h:Emits w2 B okq oko g L q w'):Emits w B okq oko g L q w':=by
 obtain ⟨o,h1,h2,h3⟩:=h
 have hs:=hb.size
 refine ⟨o,⟨h1.blk,h1.queue,Kd.R_mono h1.out (fun k hk => hk.elim (fun h => .inl h) (fun h => .inr ⟨by omega,h.2⟩)),h1.low,fun k hk ho => ?_,fun k hk => ?_⟩,(Kept.of_below hb _).then_ h2 (fun k hk => .inl hk),(hb.mono hB).trans h3⟩
 ·rcases ho with ho | ho
  ·exact h1.apart k hk (.inl ho)
  ·have:=hq k hk; omega
 ·rcases hk with hk | hk | hk
  ·exact h1.old k (.inl hk)
  ·exact h1.old k (.inr (.inl hk))
  ·exact ⟨hk.2,by omega⟩
set_option maxRecDepth 100000 in
set_option maxHeartbeats 1000000 in
theorem hello_no {w:World} {B g:Nat} {okq oko:Nat → Prop} {L:Lk} {q o:Value} (h:At w B okq oko g L q o) (hok:L.Ok) (hB:B ≤ w.heap.size) (hkn:L.known = false) (hph:¬ L.phase = 2) :
  Calls Try.prog 73 #[.pointer (some ⟨g,0,none⟩)] w fun e w' => e = .returned (.tuple #[]) ∧ Emits w B okq oko g (emit_ L (⟨1,L.token,0,0,0,0,0,0,0,0,[]⟩:Pkt)) q w':=by
 have hc2:w.cell? ⟨g,2,none⟩ = some (.int .u32 L.token):=(blk_cell h.blk 2).trans rfl
 have hgl:g < w.heap.size:=blk_lt h.blk
 have H0:=Lib.hid h
 have OK:=Lib.hid hok
 have HKN:=Lib.hid hkn
 have HPH:=Lib.hid hph
 clear h hok hkn
 go_enter Try.func73,Try.ntmps73
 go_wp2_with (first | ((with_reducible refine gate_ (.store 27 (.tmp 2) (.tmp 7)) rfl ?_); (refine store_row_F rfl rfl 27 (.tmp 2) (.tmp 7) rfl w.heap.size _ rfl rfl 27 _ (heap_alloc_new w _) (by kernel_rfl) rfl (by kernel_rfl) ?_); (intro w1 hb1 hat1); (have hbl:=hat1.below ((Below.refl w.heap.size w).alloc (Nat.le_refl _) _) (Nat.le_refl _)); (have HW:=Lib.hid (show HB w g w.heap.size L q o L.token 0 0 0 w1 from ⟨(hbl.block g hgl).trans H0.out.blk,hb1,hbl⟩)); (have hc5:w1.cell? ⟨g,5,none⟩ = some (.bool false):=(blk_cell HW.out.1 5).trans (by rw [← HKN.out]; rfl)); (clear hb1 hat1 hbl hc2); (have hc1:w1.cell? ⟨g,1,none⟩ = some (.int .i64 L.phase):=(blk_cell HW.out.1 1).trans rfl); (have hph:=HPH.out)) | ((with_reducible refine gate_ (.store 24 (.tmp 27) (.const (.int .u32 1))) rfl ?_); (refine store_F (fun wz => HB w g w.heap.size L q o L.token 0 0 1 wz) rfl rfl ⟨_,(by have hz1:World.cell? _ ⟨w.heap.size,4,none⟩ = some _:=(blk_cell HW.out.2.1 4).trans rfl; have hz2:=blk_frozen HW.out.2.1 4; first | (go_simp; done) | (go_simp; rfl)),(Below.heap_setCell _ ⟨w.heap.size,4,none⟩ _ g (by show g ≠ w.heap.size; omega)).trans HW.out.1,blk_put HW.out.2.1 4 _ rfl,HW.out.2.2.setCell (p:=⟨w.heap.size,4,none⟩) (Nat.le_refl _) _⟩ (fun w5 hF => ?_)); (have HW9:=Lib.hid hF); (clear hF HW hc1); (have HW:=HW9); (clear HW9)) | ((with_reducible refine gate_dst (N:=29) rfl ?_); (refine value_F (fun v wz => v = .agg #[.int .i64 1,.int .u32 L.token,.int .u32 0,.int .u32 0,.int .u32 0,.int .u32 0,.int .u32 0,.int .u32 0,.complex .f64 0 0,.slice none 0 0] ∧ HB w g w.heap.size L q o L.token 0 0 0 wz) rfl ⟨.agg #[.int .i64 1,.int .u32 L.token,.int .u32 0,.int .u32 0,.int .u32 0,.int .u32 0,.int .u32 0,.int .u32 0,.complex .f64 0 0,.slice none 0 0],_,(by have hu27:=Try.underlying27; have hd0:World.cell? _ ⟨w.heap.size,0,none⟩ = some (.int .i64 1):=(blk_cell HW.out.2.1 0).trans rfl; have hd1:World.cell? _ ⟨w.heap.size,1,none⟩ = some (.int .u32 L.token):=(blk_cell HW.out.2.1 1).trans rfl; have hd2:World.cell? _ ⟨w.heap.size,2,none⟩ = some (.int .u32 0):=(blk_cell HW.out.2.1 2).trans rfl; have hd3:World.cell? _ ⟨w.heap.size,3,none⟩ = some (.int .u32 0):=(blk_cell HW.out.2.1 3).trans rfl; have hd4:World.cell? _ ⟨w.heap.size,4,none⟩ = some (.int .u32 0):=(blk_cell HW.out.2.1 4).trans rfl; have hd5:World.cell? _ ⟨w.heap.size,5,none⟩ = some (.int .u32 0):=(blk_cell HW.out.2.1 5).trans rfl; have hd6:World.cell? _ ⟨w.heap.size,6,none⟩ = some (.int .u32 0):=(blk_cell HW.out.2.1 6).trans rfl; have hd7:World.cell? _ ⟨w.heap.size,7,none⟩ = some (.int .u32 0):=(blk_cell HW.out.2.1 7).trans rfl; have hd8:World.cell? _ ⟨w.heap.size,8,none⟩ = some (.complex .f64 0 0):=(blk_cell HW.out.2.1 8).trans rfl; have hd9:World.cell? _ ⟨w.heap.size,9,none⟩ = some (.slice none 0 0):=(blk_cell HW.out.2.1 9).trans rfl; first | (go_simp; done) | (go_simp; rfl)),rfl,HW.out⟩ (fun v9 w8 hF => ?_)); (obtain ⟨rfl,hF2⟩:=hF); (have HW9:=Lib.hid hF2); (clear hF2 HW); (have HW:=HW9); (clear HW9)) | (go_at_call 80; (refine (emit_of (⟨1,L.token,0,0,0,0,0,0,0,0,[]⟩:Pkt) (.slice none 0 0) (H0.out.below HW.out.2.2) OK.out (Nat.le_trans hB HW.out.2.2.size) (okp:=fun _ => False) (pkt_M.2 ⟨_,rfl,Kd.R_nil _ _ _ _ _⟩) (fun _ hk => hk.elim)).mono ?_); (rintro e w9 ⟨rfl,hE⟩); (have HE:=Lib.hid (Emits.from_ (fun k hk => (H0.out.old k (.inl hk)).1) hgl HW.out.2.2 hB hE)); (clear hE HW)))
 all_goals (go_end0; exact ⟨rfl,HE.out⟩)
set_option maxRecDepth 100000 in
set_option maxHeartbeats 1000000 in
theorem hello_nu {w:World} {B g:Nat} {okq oko:Nat → Prop} {L:Lk} {q o:Value} (h:At w B okq oko g L q o) (hok:L.Ok) (hB:B ≤ w.heap.size) (hkn:L.known = false) (hph:L.phase = 2) :
  Calls Try.prog 73 #[.pointer (some ⟨g,0,none⟩)] w fun e w' => e = .returned (.tuple #[]) ∧ Emits w B okq oko g (emit_ L (⟨1,L.token,0,0,1,0,0,0,0,0,[]⟩:Pkt)) q w':=by
 have hc2:w.cell? ⟨g,2,none⟩ = some (.int .u32 L.token):=(blk_cell h.blk 2).trans rfl
 have hgl:g < w.heap.size:=blk_lt h.blk
 have H0:=Lib.hid h
 have OK:=Lib.hid hok
 have HKN:=Lib.hid hkn
 have HPH:=Lib.hid hph
 clear h hok hkn
 go_enter Try.func73,Try.ntmps73
 go_wp2_with (first | ((with_reducible refine gate_ (.store 27 (.tmp 2) (.tmp 7)) rfl ?_); (refine store_row_F rfl rfl 27 (.tmp 2) (.tmp 7) rfl w.heap.size _ rfl rfl 27 _ (heap_alloc_new w _) (by kernel_rfl) rfl (by kernel_rfl) ?_); (intro w1 hb1 hat1); (have hbl:=hat1.below ((Below.refl w.heap.size w).alloc (Nat.le_refl _) _) (Nat.le_refl _)); (have HW:=Lib.hid (show HB w g w.heap.size L q o L.token 0 0 0 w1 from ⟨(hbl.block g hgl).trans H0.out.blk,hb1,hbl⟩)); (have hc5:w1.cell? ⟨g,5,none⟩ = some (.bool false):=(blk_cell HW.out.1 5).trans (by rw [← HKN.out]; rfl)); (clear hb1 hat1 hbl hc2); (have hc1:w1.cell? ⟨g,1,none⟩ = some (.int .i64 L.phase):=(blk_cell HW.out.1 1).trans rfl); (have hph:=HPH.out)) | ((with_reducible refine gate_ (.store 24 (.tmp 27) (.const (.int .u32 1))) rfl ?_); (refine store_F (fun wz => HB w g w.heap.size L q o L.token 0 0 1 wz) rfl rfl ⟨_,(by have hz1:World.cell? _ ⟨w.heap.size,4,none⟩ = some _:=(blk_cell HW.out.2.1 4).trans rfl; have hz2:=blk_frozen HW.out.2.1 4; first | (go_simp; done) | (go_simp; rfl)),(Below.heap_setCell _ ⟨w.heap.size,4,none⟩ _ g (by show g ≠ w.heap.size; omega)).trans HW.out.1,blk_put HW.out.2.1 4 _ rfl,HW.out.2.2.setCell (p:=⟨w.heap.size,4,none⟩) (Nat.le_refl _) _⟩ (fun w5 hF => ?_)); (have HW9:=Lib.hid hF); (clear hF HW hc1); (have HW:=HW9); (clear HW9)) | ((with_reducible refine gate_dst (N:=29) rfl ?_); (refine value_F (fun v wz => v = .agg #[.int .i64 1,.int .u32 L.token,.int .u32 0,.int .u32 0,.int .u32 1,.int .u32 0,.int .u32 0,.int .u32 0,.complex .f64 0 0,.slice none 0 0] ∧ HB w g w.heap.size L q o L.token 0 0 1 wz) rfl ⟨.agg #[.int .i64 1,.int .u32 L.token,.int .u32 0,.int .u32 0,.int .u32 1,.int .u32 0,.int .u32 0,.int .u32 0,.complex .f64 0 0,.slice none 0 0],_,(by have hu27:=Try.underlying27; have hd0:World.cell? _ ⟨w.heap.size,0,none⟩ = some (.int .i64 1):=(blk_cell HW.out.2.1 0).trans rfl; have hd1:World.cell? _ ⟨w.heap.size,1,none⟩ = some (.int .u32 L.token):=(blk_cell HW.out.2.1 1).trans rfl; have hd2:World.cell? _ ⟨w.heap.size,2,none⟩ = some (.int .u32 0):=(blk_cell HW.out.2.1 2).trans rfl; have hd3:World.cell? _ ⟨w.heap.size,3,none⟩ = some (.int .u32 0):=(blk_cell HW.out.2.1 3).trans rfl; have hd4:World.cell? _ ⟨w.heap.size,4,none⟩ = some (.int .u32 1):=(blk_cell HW.out.2.1 4).trans rfl; have hd5:World.cell? _ ⟨w.heap.size,5,none⟩ = some (.int .u32 0):=(blk_cell HW.out.2.1 5).trans rfl; have hd6:World.cell? _ ⟨w.heap.size,6,none⟩ = some (.int .u32 0):=(blk_cell HW.out.2.1 6).trans rfl; have hd7:World.cell? _ ⟨w.heap.size,7,none⟩ = some (.int .u32 0):=(blk_cell HW.out.2.1 7).trans rfl; have hd8:World.cell? _ ⟨w.heap.size,8,none⟩ = some (.complex .f64 0 0):=(blk_cell HW.out.2.1 8).trans rfl; have hd9:World.cell? _ ⟨w.heap.size,9,none⟩ = some (.slice none 0 0):=(blk_cell HW.out.2.1 9).trans rfl; first | (go_simp; done) | (go_simp; rfl)),rfl,HW.out⟩ (fun v9 w8 hF => ?_)); (obtain ⟨rfl,hF2⟩:=hF); (have HW9:=Lib.hid hF2); (clear hF2 HW); (have HW:=HW9); (clear HW9)) | (go_at_call 80; (refine (emit_of (⟨1,L.token,0,0,1,0,0,0,0,0,[]⟩:Pkt) (.slice none 0 0) (H0.out.below HW.out.2.2) OK.out (Nat.le_trans hB HW.out.2.2.size) (okp:=fun _ => False) (pkt_M.2 ⟨_,rfl,Kd.R_nil _ _ _ _ _⟩) (fun _ hk => hk.elim)).mono ?_); (rintro e w9 ⟨rfl,hE⟩); (have HE:=Lib.hid (Emits.from_ (fun k hk => (H0.out.old k (.inl hk)).1) hgl HW.out.2.2 hB hE)); (clear hE HW)))
 all_goals (go_end0; exact ⟨rfl,HE.out⟩)
set_option maxRecDepth 100000 in
set_option maxHeartbeats 1000000 in
theorem hello_ko {w:World} {B g:Nat} {okq oko:Nat → Prop} {L:Lk} {q o:Value} (h:At w B okq oko g L q o) (hok:L.Ok) (hB:B ≤ w.heap.size) (hkn:L.known = true) (hph:¬ L.phase = 2) :
  Calls Try.prog 73 #[.pointer (some ⟨g,0,none⟩)] w fun e w' => e = .returned (.tuple #[]) ∧ Emits w B okq oko g (emit_ L (⟨1,L.token,L.boot,L.yours,0,0,0,0,0,0,[]⟩:Pkt)) q w':=by
 have hc2:w.cell? ⟨g,2,none⟩ = some (.int .u32 L.token):=(blk_cell h.blk 2).trans rfl
 have hgl:g < w.heap.size:=blk_lt h.blk
 have H0:=Lib.hid h
 have OK:=Lib.hid hok
 have HKN:=Lib.hid hkn
 have HPH:=Lib.hid hph
 clear h hok hkn
 go_enter Try.func73,Try.ntmps73
 go_wp2_with (first | ((with_reducible refine gate_ (.store 27 (.tmp 2) (.tmp 7)) rfl ?_); (refine store_row_F rfl rfl 27 (.tmp 2) (.tmp 7) rfl w.heap.size _ rfl rfl 27 _ (heap_alloc_new w _) (by kernel_rfl) rfl (by kernel_rfl) ?_); (intro w1 hb1 hat1); (have hbl:=hat1.below ((Below.refl w.heap.size w).alloc (Nat.le_refl _) _) (Nat.le_refl _)); (have HW:=Lib.hid (show HB w g w.heap.size L q o L.token 0 0 0 w1 from ⟨(hbl.block g hgl).trans H0.out.blk,hb1,hbl⟩)); (have hc5:w1.cell? ⟨g,5,none⟩ = some (.bool true):=(blk_cell HW.out.1 5).trans (by rw [← HKN.out]; rfl)); (clear hb1 hat1 hbl hc2)))
 have hSS:w1.drew.heap[g]? = some (.cells (row L q o) 131 (0,0)):=HW.out.1
 have hb9:HB w g w.heap.size L q o L.token 0 0 0 w1.drew:=⟨HW.out.1,HW.out.2.1,bl_drew HW.out.2.2⟩
 clear HW hc5
 refine start_ (n:=12) (S:=fun w' => w'.heap[g]? = some (.cells (row L q o) 131 (0,0))) (ds:=[]) M1e (by kernel_rfl) rfl rfl (hSS) (fun hHeld => ?_)
 generalize w1.drew = w2 at hb9 hHeld ⊢
 have HW:=Lib.hid hb9
 clear hb9
 refine pure_ (i:=0) (N:=some 12) (v:=?_) (a':=?_) M1f rfl rfl (by kernel_rfl) (fun _ _ _ h => h) (Or.inl ⟨by rfl,?_⟩) ?_ ?_
 rotate_left
 ·intro w'
  go_simp
  with_reducible rfl
 rotate_left
 ·simp only [Act.put,sA,sZ,sS]
  rfl
 refine pure_ (i:=1) (N:=some 13) (v:=?_) (a':=?_) M1g rfl rfl (by kernel_rfl) (fun _ _ _ h => h) (Or.inl ⟨by rfl,?_⟩) ?_ ?_
 rotate_left
 ·intro w'
  go_simp
  with_reducible rfl
 rotate_left
 ·simp only [Act.put,sA,sZ,sS]
  rfl
 refine pure_ (i:=2) (N:=some 14) (v:=?_) (a':=?_) M1h rfl rfl (by kernel_rfl) (fun _ _ _ h => h) (Or.inl ⟨by rfl,?_⟩) ?_ ?_
 rotate_left
 ·intro w'
  go_simp
  with_reducible rfl
 rotate_left
 ·simp only [Act.put,sA,sZ,sS]
  rfl
 refine take_ (i:=3) (N:=some 15) (v:=?_) (a':=?_) M1i rfl rfl (by kernel_rfl) (fun _ _ _ h => h) (Or.inl ⟨by rfl,?_⟩) hHeld ?_ ?_
 rotate_left
 ·intro w' s0
  have hc3:w'.cell? ⟨g,3,none⟩ = some (.int .u32 L.boot):=(blk_cell s0 3).trans rfl
  clear s0
  go_simp
  with_reducible rfl
 rotate_left
 ·simp only [Act.put,sA,sZ,sS]
  rfl
 refine pure_ (i:=4) (N:=some 16) (v:=?_) (a':=?_) M1j rfl rfl (by kernel_rfl) (fun _ _ _ h => h) (Or.inl ⟨by rfl,?_⟩) ?_ ?_
 rotate_left
 ·intro w'
  go_simp
  with_reducible rfl
 rotate_left
 ·simp only [Act.put,sA,sZ,sS]
  rfl
 refine pure_ (i:=5) (N:=some 17) (v:=?_) (a':=?_) M1m rfl rfl (by kernel_rfl) (fun _ _ _ h => h) (Or.inl ⟨by rfl,?_⟩) ?_ ?_
 rotate_left
 ·intro w'
  go_simp
  with_reducible rfl
 rotate_left
 ·simp only [Act.put,sA,sZ,sS]
  rfl
 refine pure_ (i:=6) (N:=some 18) (v:=?_) (a':=?_) M1q rfl rfl (by kernel_rfl) (fun _ _ _ h => h) (Or.inl ⟨by rfl,?_⟩) ?_ ?_
 rotate_left
 ·intro w'
  go_simp
  with_reducible rfl
 rotate_left
 ·simp only [Act.put,sA,sZ,sS]
  rfl
 refine take_ (i:=7) (N:=some 19) (v:=?_) (a':=?_) M1u rfl rfl (by kernel_rfl) (fun _ _ _ h => h) (Or.inl ⟨by rfl,?_⟩) hHeld ?_ ?_
 rotate_left
 ·intro w' s0
  have hc4:w'.cell? ⟨g,4,none⟩ = some (.int .u32 L.yours):=(blk_cell s0 4).trans rfl
  clear s0
  go_simp
  with_reducible rfl
 rotate_left
 ·simp only [Act.put,sA,sZ,sS]
  rfl
 refine pure_ (i:=8) (N:=some 20) (v:=?_) (a':=?_) M1y rfl rfl (by kernel_rfl) (fun _ _ _ h => h) (Or.inl ⟨by rfl,?_⟩) ?_ ?_
 rotate_left
 ·intro w'
  go_simp
  with_reducible rfl
 rotate_left
 ·simp only [Act.put,sA,sZ,sS]
  rfl
 refine one_ (i:=9) (N:=none) M1D rfl rfl (by kernel_rfl) (by decide) (fun K hK => ?_)
 have hz1:w2.cell? ⟨w.heap.size,2,none⟩ = some _:=(blk_cell HW.out.2.1 2).trans rfl
 have hz2:=blk_frozen HW.out.2.1 2
 refine skip_F (fun wz => HB w g w.heap.size L q o L.token L.boot 0 0 wz) (by rfl) rfl ⟨_,by first | (go_simp; done) | (go_simp; rfl),(Below.heap_setCell _ ⟨w.heap.size,2,none⟩ _ g (by show g ≠ w.heap.size; omega)).trans HW.out.1,blk_put HW.out.2.1 2 _ rfl,HW.out.2.2.setCell (p:=⟨w.heap.size,2,none⟩) (Nat.le_refl _) _⟩ (fun w3 hF => ?_)
 have HW9:=Lib.hid hF
 clear hF hz1 hz2 HW hHeld
 have HW:=HW9
 clear HW9
 refine hK.out _ _ HW.out.1 (fun hHeld => ?_)
 clear hK K
 refine pure_ (i:=10) (N:=some 21) (v:=?_) (a':=?_) M1I rfl rfl (by kernel_rfl) (fun _ _ _ h => h) (Or.inl ⟨by rfl,?_⟩) ?_ ?_
 rotate_left
 ·intro w'
  go_simp
  with_reducible rfl
 rotate_left
 ·simp only [Act.put,sA,sZ,sS]
  rfl
 refine one_ (i:=11) (N:=none) M1N rfl rfl (by kernel_rfl) (by decide) (fun K hK => ?_)
 have hz1:w3.cell? ⟨w.heap.size,3,none⟩ = some _:=(blk_cell HW.out.2.1 3).trans rfl
 have hz2:=blk_frozen HW.out.2.1 3
 refine skip_F (fun wz => HB w g w.heap.size L q o L.token L.boot L.yours 0 wz) (by rfl) rfl ⟨_,by first | (go_simp; done) | (go_simp; rfl),(Below.heap_setCell _ ⟨w.heap.size,3,none⟩ _ g (by show g ≠ w.heap.size; omega)).trans HW.out.1,blk_put HW.out.2.1 3 _ rfl,HW.out.2.2.setCell (p:=⟨w.heap.size,3,none⟩) (Nat.le_refl _) _⟩ (fun w4 hF => ?_)
 have HW9:=Lib.hid hF
 clear hF hz1 hz2 HW hHeld
 have HW:=HW9
 clear HW9
 refine hK.out _ _ HW.out.1 (fun hHeld => ?_)
 clear hK K
 refine done_ (by kernel_rfl) ?_
 clear hHeld
 have hc1:w4.cell? ⟨g,1,none⟩ = some (.int .i64 L.phase):=(blk_cell HW.out.1 1).trans rfl
 have hph:=HPH.out
 go_wp2_with (first | ((with_reducible refine gate_ (.store 24 (.tmp 27) (.const (.int .u32 1))) rfl ?_); (refine store_F (fun wz => HB w g w.heap.size L q o L.token L.boot L.yours 1 wz) rfl rfl ⟨_,(by have hz1:World.cell? _ ⟨w.heap.size,4,none⟩ = some _:=(blk_cell HW.out.2.1 4).trans rfl; have hz2:=blk_frozen HW.out.2.1 4; first | (go_simp; done) | (go_simp; rfl)),(Below.heap_setCell _ ⟨w.heap.size,4,none⟩ _ g (by show g ≠ w.heap.size; omega)).trans HW.out.1,blk_put HW.out.2.1 4 _ rfl,HW.out.2.2.setCell (p:=⟨w.heap.size,4,none⟩) (Nat.le_refl _) _⟩ (fun w5 hF => ?_)); (have HW9:=Lib.hid hF); (clear hF HW hc1); (have HW:=HW9); (clear HW9)) | ((with_reducible refine gate_dst (N:=29) rfl ?_); (refine value_F (fun v wz => v = .agg #[.int .i64 1,.int .u32 L.token,.int .u32 L.boot,.int .u32 L.yours,.int .u32 0,.int .u32 0,.int .u32 0,.int .u32 0,.complex .f64 0 0,.slice none 0 0] ∧ HB w g w.heap.size L q o L.token L.boot L.yours 0 wz) rfl ⟨.agg #[.int .i64 1,.int .u32 L.token,.int .u32 L.boot,.int .u32 L.yours,.int .u32 0,.int .u32 0,.int .u32 0,.int .u32 0,.complex .f64 0 0,.slice none 0 0],_,(by have hu27:=Try.underlying27; have hd0:World.cell? _ ⟨w.heap.size,0,none⟩ = some (.int .i64 1):=(blk_cell HW.out.2.1 0).trans rfl; have hd1:World.cell? _ ⟨w.heap.size,1,none⟩ = some (.int .u32 L.token):=(blk_cell HW.out.2.1 1).trans rfl; have hd2:World.cell? _ ⟨w.heap.size,2,none⟩ = some (.int .u32 L.boot):=(blk_cell HW.out.2.1 2).trans rfl; have hd3:World.cell? _ ⟨w.heap.size,3,none⟩ = some (.int .u32 L.yours):=(blk_cell HW.out.2.1 3).trans rfl; have hd4:World.cell? _ ⟨w.heap.size,4,none⟩ = some (.int .u32 0):=(blk_cell HW.out.2.1 4).trans rfl; have hd5:World.cell? _ ⟨w.heap.size,5,none⟩ = some (.int .u32 0):=(blk_cell HW.out.2.1 5).trans rfl; have hd6:World.cell? _ ⟨w.heap.size,6,none⟩ = some (.int .u32 0):=(blk_cell HW.out.2.1 6).trans rfl; have hd7:World.cell? _ ⟨w.heap.size,7,none⟩ = some (.int .u32 0):=(blk_cell HW.out.2.1 7).trans rfl; have hd8:World.cell? _ ⟨w.heap.size,8,none⟩ = some (.complex .f64 0 0):=(blk_cell HW.out.2.1 8).trans rfl; have hd9:World.cell? _ ⟨w.heap.size,9,none⟩ = some (.slice none 0 0):=(blk_cell HW.out.2.1 9).trans rfl; first | (go_simp; done) | (go_simp; rfl)),rfl,HW.out⟩ (fun v9 w8 hF => ?_)); (obtain ⟨rfl,hF2⟩:=hF); (have HW9:=Lib.hid hF2); (clear hF2 HW); (have HW:=HW9); (clear HW9)) | (go_at_call 80; (refine (emit_of (⟨1,L.token,L.boot,L.yours,0,0,0,0,0,0,[]⟩:Pkt) (.slice none 0 0) (H0.out.below HW.out.2.2) OK.out (Nat.le_trans hB HW.out.2.2.size) (okp:=fun _ => False) (pkt_M.2 ⟨_,rfl,Kd.R_nil _ _ _ _ _⟩) (fun _ hk => hk.elim)).mono ?_); (rintro e w9 ⟨rfl,hE⟩); (have HE:=Lib.hid (Emits.from_ (fun k hk => (H0.out.old k (.inl hk)).1) hgl HW.out.2.2 hB hE)); (clear hE HW)))
 all_goals (go_end0; exact ⟨rfl,HE.out⟩)
set_option maxRecDepth 100000 in
set_option maxHeartbeats 1000000 in
theorem hello_ku {w:World} {B g:Nat} {okq oko:Nat → Prop} {L:Lk} {q o:Value} (h:At w B okq oko g L q o) (hok:L.Ok) (hB:B ≤ w.heap.size) (hkn:L.known = true) (hph:L.phase = 2) :
  Calls Try.prog 73 #[.pointer (some ⟨g,0,none⟩)] w fun e w' => e = .returned (.tuple #[]) ∧ Emits w B okq oko g (emit_ L (⟨1,L.token,L.boot,L.yours,1,0,0,0,0,0,[]⟩:Pkt)) q w':=by
 have hc2:w.cell? ⟨g,2,none⟩ = some (.int .u32 L.token):=(blk_cell h.blk 2).trans rfl
 have hgl:g < w.heap.size:=blk_lt h.blk
 have H0:=Lib.hid h
 have OK:=Lib.hid hok
 have HKN:=Lib.hid hkn
 have HPH:=Lib.hid hph
 clear h hok hkn
 go_enter Try.func73,Try.ntmps73
 go_wp2_with (first | ((with_reducible refine gate_ (.store 27 (.tmp 2) (.tmp 7)) rfl ?_); (refine store_row_F rfl rfl 27 (.tmp 2) (.tmp 7) rfl w.heap.size _ rfl rfl 27 _ (heap_alloc_new w _) (by kernel_rfl) rfl (by kernel_rfl) ?_); (intro w1 hb1 hat1); (have hbl:=hat1.below ((Below.refl w.heap.size w).alloc (Nat.le_refl _) _) (Nat.le_refl _)); (have HW:=Lib.hid (show HB w g w.heap.size L q o L.token 0 0 0 w1 from ⟨(hbl.block g hgl).trans H0.out.blk,hb1,hbl⟩)); (have hc5:w1.cell? ⟨g,5,none⟩ = some (.bool true):=(blk_cell HW.out.1 5).trans (by rw [← HKN.out]; rfl)); (clear hb1 hat1 hbl hc2)))
 have hSS:w1.drew.heap[g]? = some (.cells (row L q o) 131 (0,0)):=HW.out.1
 have hb9:HB w g w.heap.size L q o L.token 0 0 0 w1.drew:=⟨HW.out.1,HW.out.2.1,bl_drew HW.out.2.2⟩
 clear HW hc5
 refine start_ (n:=12) (S:=fun w' => w'.heap[g]? = some (.cells (row L q o) 131 (0,0))) (ds:=[]) M1e (by kernel_rfl) rfl rfl (hSS) (fun hHeld => ?_)
 generalize w1.drew = w2 at hb9 hHeld ⊢
 have HW:=Lib.hid hb9
 clear hb9
 refine pure_ (i:=0) (N:=some 12) (v:=?_) (a':=?_) M1f rfl rfl (by kernel_rfl) (fun _ _ _ h => h) (Or.inl ⟨by rfl,?_⟩) ?_ ?_
 rotate_left
 ·intro w'
  go_simp
  with_reducible rfl
 rotate_left
 ·simp only [Act.put,sA,sZ,sS]
  rfl
 refine pure_ (i:=1) (N:=some 13) (v:=?_) (a':=?_) M1g rfl rfl (by kernel_rfl) (fun _ _ _ h => h) (Or.inl ⟨by rfl,?_⟩) ?_ ?_
 rotate_left
 ·intro w'
  go_simp
  with_reducible rfl
 rotate_left
 ·simp only [Act.put,sA,sZ,sS]
  rfl
 refine pure_ (i:=2) (N:=some 14) (v:=?_) (a':=?_) M1h rfl rfl (by kernel_rfl) (fun _ _ _ h => h) (Or.inl ⟨by rfl,?_⟩) ?_ ?_
 rotate_left
 ·intro w'
  go_simp
  with_reducible rfl
 rotate_left
 ·simp only [Act.put,sA,sZ,sS]
  rfl
 refine take_ (i:=3) (N:=some 15) (v:=?_) (a':=?_) M1i rfl rfl (by kernel_rfl) (fun _ _ _ h => h) (Or.inl ⟨by rfl,?_⟩) hHeld ?_ ?_
 rotate_left
 ·intro w' s0
  have hc3:w'.cell? ⟨g,3,none⟩ = some (.int .u32 L.boot):=(blk_cell s0 3).trans rfl
  clear s0
  go_simp
  with_reducible rfl
 rotate_left
 ·simp only [Act.put,sA,sZ,sS]
  rfl
 refine pure_ (i:=4) (N:=some 16) (v:=?_) (a':=?_) M1j rfl rfl (by kernel_rfl) (fun _ _ _ h => h) (Or.inl ⟨by rfl,?_⟩) ?_ ?_
 rotate_left
 ·intro w'
  go_simp
  with_reducible rfl
 rotate_left
 ·simp only [Act.put,sA,sZ,sS]
  rfl
 refine pure_ (i:=5) (N:=some 17) (v:=?_) (a':=?_) M1m rfl rfl (by kernel_rfl) (fun _ _ _ h => h) (Or.inl ⟨by rfl,?_⟩) ?_ ?_
 rotate_left
 ·intro w'
  go_simp
  with_reducible rfl
 rotate_left
 ·simp only [Act.put,sA,sZ,sS]
  rfl
 refine pure_ (i:=6) (N:=some 18) (v:=?_) (a':=?_) M1q rfl rfl (by kernel_rfl) (fun _ _ _ h => h) (Or.inl ⟨by rfl,?_⟩) ?_ ?_
 rotate_left
 ·intro w'
  go_simp
  with_reducible rfl
 rotate_left
 ·simp only [Act.put,sA,sZ,sS]
  rfl
 refine take_ (i:=7) (N:=some 19) (v:=?_) (a':=?_) M1u rfl rfl (by kernel_rfl) (fun _ _ _ h => h) (Or.inl ⟨by rfl,?_⟩) hHeld ?_ ?_
 rotate_left
 ·intro w' s0
  have hc4:w'.cell? ⟨g,4,none⟩ = some (.int .u32 L.yours):=(blk_cell s0 4).trans rfl
  clear s0
  go_simp
  with_reducible rfl
 rotate_left
 ·simp only [Act.put,sA,sZ,sS]
  rfl
 refine pure_ (i:=8) (N:=some 20) (v:=?_) (a':=?_) M1y rfl rfl (by kernel_rfl) (fun _ _ _ h => h) (Or.inl ⟨by rfl,?_⟩) ?_ ?_
 rotate_left
 ·intro w'
  go_simp
  with_reducible rfl
 rotate_left
 ·simp only [Act.put,sA,sZ,sS]
  rfl
 refine one_ (i:=9) (N:=none) M1D rfl rfl (by kernel_rfl) (by decide) (fun K hK => ?_)
 have hz1:w2.cell? ⟨w.heap.size,2,none⟩ = some _:=(blk_cell HW.out.2.1 2).trans rfl
 have hz2:=blk_frozen HW.out.2.1 2
 refine skip_F (fun wz => HB w g w.heap.size L q o L.token L.boot 0 0 wz) (by rfl) rfl ⟨_,by first | (go_simp; done) | (go_simp; rfl),(Below.heap_setCell _ ⟨w.heap.size,2,none⟩ _ g (by show g ≠ w.heap.size; omega)).trans HW.out.1,blk_put HW.out.2.1 2 _ rfl,HW.out.2.2.setCell (p:=⟨w.heap.size,2,none⟩) (Nat.le_refl _) _⟩ (fun w3 hF => ?_)
 have HW9:=Lib.hid hF
 clear hF hz1 hz2 HW hHeld
 have HW:=HW9
 clear HW9
 refine hK.out _ _ HW.out.1 (fun hHeld => ?_)
 clear hK K
 refine pure_ (i:=10) (N:=some 21) (v:=?_) (a':=?_) M1I rfl rfl (by kernel_rfl) (fun _ _ _ h => h) (Or.inl ⟨by rfl,?_⟩) ?_ ?_
 rotate_left
 ·intro w'
  go_simp
  with_reducible rfl
 rotate_left
 ·simp only [Act.put,sA,sZ,sS]
  rfl
 refine one_ (i:=11) (N:=none) M1N rfl rfl (by kernel_rfl) (by decide) (fun K hK => ?_)
 have hz1:w3.cell? ⟨w.heap.size,3,none⟩ = some _:=(blk_cell HW.out.2.1 3).trans rfl
 have hz2:=blk_frozen HW.out.2.1 3
 refine skip_F (fun wz => HB w g w.heap.size L q o L.token L.boot L.yours 0 wz) (by rfl) rfl ⟨_,by first | (go_simp; done) | (go_simp; rfl),(Below.heap_setCell _ ⟨w.heap.size,3,none⟩ _ g (by show g ≠ w.heap.size; omega)).trans HW.out.1,blk_put HW.out.2.1 3 _ rfl,HW.out.2.2.setCell (p:=⟨w.heap.size,3,none⟩) (Nat.le_refl _) _⟩ (fun w4 hF => ?_)
 have HW9:=Lib.hid hF
 clear hF hz1 hz2 HW hHeld
 have HW:=HW9
 clear HW9
 refine hK.out _ _ HW.out.1 (fun hHeld => ?_)
 clear hK K
 refine done_ (by kernel_rfl) ?_
 clear hHeld
 have hc1:w4.cell? ⟨g,1,none⟩ = some (.int .i64 L.phase):=(blk_cell HW.out.1 1).trans rfl
 have hph:=HPH.out
 go_wp2_with (first | ((with_reducible refine gate_ (.store 24 (.tmp 27) (.const (.int .u32 1))) rfl ?_); (refine store_F (fun wz => HB w g w.heap.size L q o L.token L.boot L.yours 1 wz) rfl rfl ⟨_,(by have hz1:World.cell? _ ⟨w.heap.size,4,none⟩ = some _:=(blk_cell HW.out.2.1 4).trans rfl; have hz2:=blk_frozen HW.out.2.1 4; first | (go_simp; done) | (go_simp; rfl)),(Below.heap_setCell _ ⟨w.heap.size,4,none⟩ _ g (by show g ≠ w.heap.size; omega)).trans HW.out.1,blk_put HW.out.2.1 4 _ rfl,HW.out.2.2.setCell (p:=⟨w.heap.size,4,none⟩) (Nat.le_refl _) _⟩ (fun w5 hF => ?_)); (have HW9:=Lib.hid hF); (clear hF HW hc1); (have HW:=HW9); (clear HW9)) | ((with_reducible refine gate_dst (N:=29) rfl ?_); (refine value_F (fun v wz => v = .agg #[.int .i64 1,.int .u32 L.token,.int .u32 L.boot,.int .u32 L.yours,.int .u32 1,.int .u32 0,.int .u32 0,.int .u32 0,.complex .f64 0 0,.slice none 0 0] ∧ HB w g w.heap.size L q o L.token L.boot L.yours 1 wz) rfl ⟨.agg #[.int .i64 1,.int .u32 L.token,.int .u32 L.boot,.int .u32 L.yours,.int .u32 1,.int .u32 0,.int .u32 0,.int .u32 0,.complex .f64 0 0,.slice none 0 0],_,(by have hu27:=Try.underlying27; have hd0:World.cell? _ ⟨w.heap.size,0,none⟩ = some (.int .i64 1):=(blk_cell HW.out.2.1 0).trans rfl; have hd1:World.cell? _ ⟨w.heap.size,1,none⟩ = some (.int .u32 L.token):=(blk_cell HW.out.2.1 1).trans rfl; have hd2:World.cell? _ ⟨w.heap.size,2,none⟩ = some (.int .u32 L.boot):=(blk_cell HW.out.2.1 2).trans rfl; have hd3:World.cell? _ ⟨w.heap.size,3,none⟩ = some (.int .u32 L.yours):=(blk_cell HW.out.2.1 3).trans rfl; have hd4:World.cell? _ ⟨w.heap.size,4,none⟩ = some (.int .u32 1):=(blk_cell HW.out.2.1 4).trans rfl; have hd5:World.cell? _ ⟨w.heap.size,5,none⟩ = some (.int .u32 0):=(blk_cell HW.out.2.1 5).trans rfl; have hd6:World.cell? _ ⟨w.heap.size,6,none⟩ = some (.int .u32 0):=(blk_cell HW.out.2.1 6).trans rfl; have hd7:World.cell? _ ⟨w.heap.size,7,none⟩ = some (.int .u32 0):=(blk_cell HW.out.2.1 7).trans rfl; have hd8:World.cell? _ ⟨w.heap.size,8,none⟩ = some (.complex .f64 0 0):=(blk_cell HW.out.2.1 8).trans rfl; have hd9:World.cell? _ ⟨w.heap.size,9,none⟩ = some (.slice none 0 0):=(blk_cell HW.out.2.1 9).trans rfl; first | (go_simp; done) | (go_simp; rfl)),rfl,HW.out⟩ (fun v9 w8 hF => ?_)); (obtain ⟨rfl,hF2⟩:=hF); (have HW9:=Lib.hid hF2); (clear hF2 HW); (have HW:=HW9); (clear HW9)) | (go_at_call 80; (refine (emit_of (⟨1,L.token,L.boot,L.yours,1,0,0,0,0,0,[]⟩:Pkt) (.slice none 0 0) (H0.out.below HW.out.2.2) OK.out (Nat.le_trans hB HW.out.2.2.size) (okp:=fun _ => False) (pkt_M.2 ⟨_,rfl,Kd.R_nil _ _ _ _ _⟩) (fun _ hk => hk.elim)).mono ?_); (rintro e w9 ⟨rfl,hE⟩); (have HE:=Lib.hid (Emits.from_ (fun k hk => (H0.out.old k (.inl hk)).1) hgl HW.out.2.2 hB hE)); (clear hE HW)))
 all_goals (go_end0; exact ⟨rfl,HE.out⟩)
theorem hello_of {w:World} {B g:Nat} {okq oko:Nat → Prop} {L:Lk} {q o:Value} (h:At w B okq oko g L q o) (hok:L.Ok) (hB:B ≤ w.heap.size) :
  Calls Try.prog 73 #[.pointer (some ⟨g,0,none⟩)] w fun e w' => e = .returned (.tuple #[]) ∧ Emits w B okq oko g (emit_ L (helloP L)) q w':=by
 by_cases hp:L.phase = 2 <;> cases hk:L.known
 ·have:=hello_nu h hok hB hk hp
  simpa [helloP,hk,hp] using this
 ·have:=hello_ku h hok hB hk hp
  simpa [helloP,hk,hp] using this
 ·have:=hello_no h hok hB hk hp
  simpa [helloP,hk,hp] using this
 ·have:=hello_ko h hok hB hk hp
  simpa [helloP,hk,hp] using this
end Go.Proofs.Ytnkkgofpifhoeaa.Lk
end
section
namespace Go.Proofs.Ytnkkgofpifhoeaa.Lk
open Go.RowKit Go.Proofs.Ytnkkgofpifhoeaa.Base Go.Proofs.Ytnkkgofpifhoeaa.Steps Go.Proofs.YtnkkgofpifhoeaaW.PrintWords Go.Proofs.YtnkkgofpifhoeaaW.PrintLast
def shut_ (L:Lk):Lk:={ L with phase:=0,queue:=[],sent:=0,known:=false }
theorem shut_ok {L:Lk} (h:L.Ok):(shut_ L).Ok:=by
 have h1:=h.own; have h2:=h.token; have h3:=h.boot; have h4:=h.yours; have h5:=h.out; have h6:=h.base; have h7:=h.expected; have h8:=h.idle
 constructor <;> simp [shut_] <;> omega
set_option maxHeartbeats 1000000 in
theorem shut_of {w:World} {B g:Nat} {okq oko:Nat → Prop} {L:Lk} {q o:Value} (h:At w B okq oko g L q o):Calls Try.prog 78 #[.pointer (some ⟨g,0,none⟩)] w fun e w' => e = .returned (.bool (decide (L.phase = 2))) ∧ At w' B (fun _ => False) oko g (shut_ L) (.slice none 0 0) o ∧ Go.Proofs.Ytnkkgofpifhoeaa.Steps.At g w w':=by
 have hc1:w.cell? ⟨g,1,none⟩ = some (.int .i64 L.phase):=(blk_cell h.blk 1).trans rfl
 have K0:=Lib.hid (⟨h,Steps.At.refl g w⟩:At w B okq oko g L q o ∧ Go.Proofs.Ytnkkgofpifhoeaa.Steps.At g w w)
 clear h
 go_enter Try.func78,Try.ntmps78
 go_wp2_with (first | ((with_reducible refine gate_ (.store 3 (.tmp 13) (.const (.int .i64 0))) rfl ?_); (refine store_F (fun wz => At wz B okq oko g { L with phase:=0 } q o ∧ Go.Proofs.Ytnkkgofpifhoeaa.Steps.At g w wz) rfl rfl ⟨_,(by have hz1:World.cell? _ ⟨g,1,none⟩ = some _:=(blk_cell K0.out.1.blk 1).trans rfl; have hz2:=blk_frozen K0.out.1.blk 1; first | (go_simp; done) | (go_simp; rfl)),K0.out.1.put1 1 _ rfl rfl rfl,Steps.At.set K0.out.2 _ _⟩ (fun w_K1 hF => ?_)); (have K1:=Lib.hid hF); (clear hF)) | ((with_reducible refine gate_ (.store 45 (.tmp 16) (.const (.slice none 0 0))) rfl ?_); (refine store_F (fun wz => At wz B (fun _ => False) oko g { L with phase:=0,queue:=[] } (.slice none 0 0) o ∧ Go.Proofs.Ytnkkgofpifhoeaa.Steps.At g w wz) rfl rfl ⟨_,(by have hz1:World.cell? _ ⟨g,6,none⟩ = some _:=(blk_cell K1.out.1.blk 6).trans rfl; have hz2:=blk_frozen K1.out.1.blk 6; first | (go_simp; done) | (go_simp; rfl)),K1.out.1.noq rfl rfl rfl,Steps.At.set K1.out.2 _ _⟩ (fun w_K2 hF => ?_)); (have K2:=Lib.hid hF); (clear hF)) | ((with_reducible refine gate_ (.store 3 (.tmp 19) (.const (.int .i64 0))) rfl ?_); (refine store_F (fun wz => At wz B (fun _ => False) oko g { L with phase:=0,queue:=[],sent:=0 } (.slice none 0 0) o ∧ Go.Proofs.Ytnkkgofpifhoeaa.Steps.At g w wz) rfl rfl ⟨_,(by have hz1:World.cell? _ ⟨g,7,none⟩ = some _:=(blk_cell K2.out.1.blk 7).trans rfl; have hz2:=blk_frozen K2.out.1.blk 7; first | (go_simp; done) | (go_simp; rfl)),K2.out.1.put1 7 _ rfl rfl rfl,Steps.At.set K2.out.2 _ _⟩ (fun w_K3 hF => ?_)); (have K3:=Lib.hid hF); (clear hF)) | ((with_reducible refine gate_ (.store 4 (.tmp 22) (.const (.bool false))) rfl ?_); (refine store_F (fun wz => At wz B (fun _ => False) oko g { L with phase:=0,queue:=[],sent:=0,known:=false } (.slice none 0 0) o ∧ Go.Proofs.Ytnkkgofpifhoeaa.Steps.At g w wz) rfl rfl ⟨_,(by have hz1:World.cell? _ ⟨g,5,none⟩ = some _:=(blk_cell K3.out.1.blk 5).trans rfl; have hz2:=blk_frozen K3.out.1.blk 5; first | (go_simp; done) | (go_simp; rfl)),K3.out.1.put1 5 _ rfl rfl rfl,Steps.At.set K3.out.2 _ _⟩ (fun w_K4 hF => ?_)); (have K4:=Lib.hid hF); (clear hF)))
 all_goals (go_ret; exact ⟨rfl,K4.out.1,K4.out.2⟩)
theorem kept_at' {w w1:World} {g:Nat} (h:Go.Proofs.Ytnkkgofpifhoeaa.Steps.At g w w1):Kept w w1 (fun k => k = g):=⟨Nat.le_of_eq h.size.symm,fun i _ hn => h.block i hn⟩
def Drops (w:World) (B:Nat) (okq oko:Nat → Prop) (g:Nat) (L:Lk) (w':World):Prop :=
 ∃ okq' q,(∀ k,okq' k → okq k) ∧ ∃ o,At w' B okq' (fun k => oko k ∨ w.heap.size ≤ k ∧ k < w'.heap.size) g L q o ∧ Kept w w' (fun k => oko k ∨ k = g) ∧ Below B w w'
theorem Drops.same {w:World} {B g:Nat} {okq oko:Nat → Prop} {L:Lk} {q o:Value} (h:At w B okq oko g L q o):Drops w B okq oko g L w :=
 ⟨okq,q,fun _ h => h,o,⟨h.blk,h.queue,Kd.R_mono h.out (fun _ hk => .inl hk),h.low,fun k hk ho => ho.elim (h.apart k hk) (fun hn => by omega),fun k hk => (hk.elim (fun x => h.old k (.inl x)) (fun x => x.elim (fun y => h.old k (.inr y)) (fun hn => by omega)))⟩,Kept.refl _ _,Below.refl _ _⟩
theorem Emits.drops {w w1 w':World} {B g:Nat} {okq oko:Nat → Prop} {L:Lk} {q:Value} (hat:Go.Proofs.Ytnkkgofpifhoeaa.Steps.At g w w1) (hB:B ≤ g) (h:Emits w1 B (fun _ => False) oko g L q w'):Drops w B okq oko g L w':=by
 obtain ⟨o,h1,h2,h3⟩:=h
 rw [hat.size] at h1
 exact ⟨fun _ => False,q,fun _ hf => hf.elim,o,h1,((kept_at' hat).mono (fun k hk => .inr hk)).then_ h2 (fun k hk => .inl hk),(hat.below (Below.refl _ _) hB).trans h3⟩
def openL (L:Lk):Lk:=if L.phase = 0 ∧ L.token ≠ 4294967295 then emit_ (begin_ L) (helloP (begin_ L)) else L
def openE (L:Lk):Int:=if L.phase = 0 then (if L.token = 4294967295 then 111 else 0) else 110
set_option maxHeartbeats 1000000 in
theorem open_of {w:World} {B g:Nat} {okq oko:Nat → Prop} {L:Lk} {q o:Value} (h:At w B okq oko g L q o) (hok:L.Ok) (hB:B ≤ w.heap.size):Calls Try.prog 27 #[.pointer (some ⟨g,0,none⟩)] w fun e w' => e = .returned (.int .i64 (openE L)) ∧ Drops w B okq oko g (openL L) w':=by
 have hc1:w.cell? ⟨g,1,none⟩ = some (.int .i64 L.phase):=(blk_cell h.blk 1).trans rfl
 have hc2:w.cell? ⟨g,2,none⟩ = some (.int .u32 L.token):=(blk_cell h.blk 2).trans rfl
 have ht:=hok.token
 have H:=Lib.hid h
 have OK:=Lib.hid hok
 clear h hok
 by_cases hp:L.phase = 0
 ·by_cases htk:L.token = 4294967295
  ·have hE:openE L = 111:=by simp [openE,hp,htk]
   have hL:openL L = L:=by simp [openL,hp,htk]
   rw [hE,hL]
   clear hE hL
   go_enter Try.func27,Try.ntmps27
   go_wp2
   all_goals (go_ret; exact ⟨rfl,Drops.same H.out⟩)
  ·have hE:openE L = 0:=by simp [openE,hp,htk]
   have hL:openL L = emit_ (begin_ L) (helloP (begin_ L)):=by simp [openL,hp,htk]
   rw [hE,hL]
   clear hE hL
   go_enter Try.func27,Try.ntmps27
   go_wp2_with (first | (go_at_call 72; (refine (begin_of H.out OK.out (by omega)).mono ?_); (rintro e w1 ⟨rfl,h1,hat⟩); (have H1:=Lib.hid h1); (have HAT:=Lib.hid hat); (clear h1 hat)) | (go_at_call 73; (refine (hello_of H1.out (begin_ok OK.out (by omega)) (by have:=HAT.out.size; omega)).mono ?_); (rintro e w2 ⟨rfl,hE⟩); (have HE:=Lib.hid (Emits.drops (okq:=okq) HAT.out H.out.low hE)); (clear hE)))
   all_goals (go_ret; exact ⟨rfl,HE.out⟩)
 ·have hE:openE L = 110:=by simp [openE,hp]
  have hL:openL L = L:=by simp [openL,hp]
  rw [hE,hL]
  clear hE hL
  go_enter Try.func27,Try.ntmps27
  go_wp2
  all_goals (go_ret; exact ⟨rfl,Drops.same H.out⟩)
end Go.Proofs.Ytnkkgofpifhoeaa.Lk
end
section
namespace Go.Proofs.Ytnkkgofpifhoeaa.Lk
open Go.RowKit Go.Proofs.Ytnkkgofpifhoeaa.Base Go.Proofs.Ytnkkgofpifhoeaa.Steps Go.Proofs.YtnkkgofpifhoeaaW.PrintWords Go.Proofs.YtnkkgofpifhoeaaW.PrintLast
theorem info5':(Try.prog.info? 5).map (fun i => (i.zero,i.size,i.bytes)) = some (some (.int .u8 0),1,1):=by kernel_rfl
theorem Emits.from2 {w w2 w':World} {B g:Nat} {okq oko:Nat → Prop} {L:Lk} {q:Value} (hq:∀ k,okq k → k < w.heap.size) (hg:g < w.heap.size) (hb:Below w.heap.size w w2) (hB:B ≤ w.heap.size) (h:Emits w2 B okq (fun k => oko k ∨ w.heap.size ≤ k ∧ k < w2.heap.size) g L q w'):Emits w B okq oko g L q w':=by
 obtain ⟨o,h1,h2,h3⟩:=h
 have hs:=hb.size
 have hs2:=h2.1
 refine ⟨o,⟨h1.blk,h1.queue,Kd.R_mono h1.out (fun k hk => ?_),h1.low,fun k hk ho => ?_,fun k hk => ?_⟩,(Kept.of_below hb _).then_ h2 (fun k hk => ?_),(hb.mono hB).trans h3⟩
 ·rcases hk with (hk | hk) | hk
  ·exact .inl hk
  ·exact .inr ⟨hk.1,by omega⟩
  ·exact .inr ⟨by omega,hk.2⟩
 ·rcases ho with ho | ho
  ·exact h1.apart k hk (.inl (.inl ho))
  ·have:=hq k hk; omega
 ·rcases hk with hk | hk | hk
  ·exact h1.old k (.inl hk)
  ·exact h1.old k (.inr (.inl (.inl hk)))
  ·exact ⟨hk.2,by omega⟩
 ·rcases hk with (hk | hk) | hk
  ·exact .inl (.inl hk)
  ·exact .inr hk.1
  ·exact .inl (.inr hk)
def dataP (L:Lk) (i:Int):Pkt:=⟨2,L.token,L.boot,L.yours,IntKind.u32.wrap (L.base + IntKind.u32.wrap i),L.expected,0,0,0,0,L.queue.getD i.toNat []⟩
set_option maxRecDepth 100000 in
set_option maxHeartbeats 1000000 in
theorem data_of {w:World} {B g:Nat} {okq oko:Nat → Prop} {L:Lk} {q o:Value} (h:At w B okq oko g L q o) (hok:L.Ok) (hB:B ≤ w.heap.size) (i:Int) (hi0:0 ≤ i) (hi1:i < L.queue.length) :
  Calls Try.prog 75 #[.pointer (some ⟨g,0,none⟩),.int .i64 i] w fun e w' => e = .returned (.tuple #[]) ∧ Emits w B okq oko g (emit_ L (dataP L i)) q w':=by
 obtain ⟨gq,oq,cq,hq,_⟩:=Kd.Q_form h.queue (by omega)
 have hql:=hok.queue
 have hQ:=h.queue
 rw [hq] at hQ
 obtain ⟨ce,hce1,hce2,hce3,_⟩:=Kd.Q_elem hQ [] i hi0 hi1
 obtain ⟨vb,rfl,hRb⟩:=hce2
 have hcb:w.cell? ⟨gq,oq + i.toNat,none⟩ = some vb:=by
  have:=hce3 0 _ rfl
  rwa [show Kd.sz bytes = 1 from rfl,Nat.mul_one,Nat.add_zero] at this
 generalize hbd:L.queue.getD i.toNat [] = body at hRb
 have hbl:body.length ≤ 1000:=by
  subst hbd
  rw [List.getD_eq_getElem?_getD,List.getElem?_eq_getElem (by omega)]
  exact hok.rows _ (List.getElem_mem _)
 obtain ⟨Ab,cb,hvb,hlb,hCb⟩:=Kd.R_reads hRb
 subst hvb
 have hgl:g < w.heap.size:=blk_lt h.blk
 have ht:=hok.base
 have H0:=Lib.hid h
 have OK:=Lib.hid hok
 have HCB:=Lib.hid hCb
 have HBL:=Lib.hid hbl
 have HBD:=Lib.hid hbd
 have HQ:=Lib.hid hq
 have hin:i ≤ 63:=by omega
 have HQL:=Lib.hid hql
 clear h hok hQ hCb hRb hlb hbl hbd hce1 hce3 hq hql
 generalize hnl:L.queue.length = nl at hi1
 have HNL:=Lib.hid hnl
 clear hnl
 go_enter Try.func75,Try.ntmps75
 have hSS:w.drew.heap[g]? = some (.cells (row L (.slice (some ⟨gq,oq,none⟩) nl cq) o) 131 (0,0)) ∧ w.drew.cell? ⟨gq,oq + i.toNat,none⟩ = some (.slice Ab body.length cb):=⟨H0.out.blk.trans (by rw [HQ.out,HNL.out]),hcb⟩
 have hbd:Below w.heap.size w w.drew:=bl_drew (Below.refl _ _)
 have hsz:w.drew.heap.size = w.heap.size:=rfl
 clear hcb
 refine start_ (n:=34) (S:=fun w' => w'.heap[g]? = some (.cells (row L (.slice (some ⟨gq,oq,none⟩) nl cq) o) 131 (0,0)) ∧ w'.cell? ⟨gq,oq + i.toNat,none⟩ = some (.slice Ab body.length cb)) (ds:=[33]) M1k (by kernel_rfl) rfl rfl (hSS) (fun hHeld => ?_)
 generalize w.drew = w2 at hbd hsz hHeld ⊢
 have HBW:=Lib.hid hbd
 have HSZ:=Lib.hid hsz
 clear hbd hsz
 refine pure_ (i:=0) (N:=some 4) (v:=?_) (a':=?_) M1l rfl rfl (by kernel_rfl) (fun _ _ _ h => h) (Or.inl ⟨by rfl,?_⟩) ?_ ?_
 rotate_left
 ·intro w'
  go_simp
  with_reducible rfl
 rotate_left
 ·simp only [Act.put,sA,sZ,sS]
  rfl
 refine pure_ (i:=1) (N:=some 5) (v:=?_) (a':=?_) M1n rfl rfl (by kernel_rfl) (fun _ _ _ h => h) (Or.inl ⟨by rfl,?_⟩) ?_ ?_
 rotate_left
 ·intro w'
  go_simp
  with_reducible rfl
 rotate_left
 ·simp only [Act.put,sA,sZ,sS]
  rfl
 refine pure_ (i:=2) (N:=some 6) (v:=?_) (a':=?_) M1o rfl rfl (by kernel_rfl) (fun _ _ _ h => h) (Or.inl ⟨by rfl,?_⟩) ?_ ?_
 rotate_left
 ·intro w'
  go_simp
  with_reducible rfl
 rotate_left
 ·simp only [Act.put,sA,sZ,sS]
  rfl
 refine pure_ (i:=3) (N:=some 7) (v:=?_) (a':=?_) M1p rfl rfl (by kernel_rfl) (fun _ _ _ h => h) (Or.inl ⟨by rfl,?_⟩) ?_ ?_
 rotate_left
 ·intro w'
  go_simp
  with_reducible rfl
 rotate_left
 ·simp only [Act.put,sA,sZ,sS]
  rfl
 refine take_ (i:=4) (N:=some 8) (v:=?_) (a':=?_) M1r rfl rfl (by kernel_rfl) (fun _ _ _ h => h) (Or.inl ⟨by rfl,?_⟩) hHeld ?_ ?_
 rotate_left
 ·intro w' s0
  have hc2:w'.cell? ⟨g,2,none⟩ = some (.int .u32 L.token):=(blk_cell s0.1 2).trans rfl
  clear s0
  go_simp
  with_reducible rfl
 rotate_left
 ·simp only [Act.put,sA,sZ,sS]
  rfl
 refine pure_ (i:=5) (N:=some 9) (v:=?_) (a':=?_) M1s rfl rfl (by kernel_rfl) (fun _ _ _ h => h) (Or.inl ⟨by rfl,?_⟩) ?_ ?_
 rotate_left
 ·intro w'
  go_simp
  with_reducible rfl
 rotate_left
 ·simp only [Act.put,sA,sZ,sS]
  rfl
 refine pure_ (i:=6) (N:=some 10) (v:=?_) (a':=?_) M1t rfl rfl (by kernel_rfl) (fun _ _ _ h => h) (Or.inl ⟨by rfl,?_⟩) ?_ ?_
 rotate_left
 ·intro w'
  go_simp
  with_reducible rfl
 rotate_left
 ·simp only [Act.put,sA,sZ,sS]
  rfl
 refine pure_ (i:=7) (N:=some 11) (v:=?_) (a':=?_) M1v rfl rfl (by kernel_rfl) (fun _ _ _ h => h) (Or.inl ⟨by rfl,?_⟩) ?_ ?_
 rotate_left
 ·intro w'
  go_simp
  with_reducible rfl
 rotate_left
 ·simp only [Act.put,sA,sZ,sS]
  rfl
 refine take_ (i:=8) (N:=some 12) (v:=?_) (a':=?_) M1w rfl rfl (by kernel_rfl) (fun _ _ _ h => h) (Or.inl ⟨by rfl,?_⟩) hHeld ?_ ?_
 rotate_left
 ·intro w' s0
  have hc3:w'.cell? ⟨g,3,none⟩ = some (.int .u32 L.boot):=(blk_cell s0.1 3).trans rfl
  clear s0
  go_simp
  with_reducible rfl
 rotate_left
 ·simp only [Act.put,sA,sZ,sS]
  rfl
 refine pure_ (i:=9) (N:=some 13) (v:=?_) (a':=?_) M1x rfl rfl (by kernel_rfl) (fun _ _ _ h => h) (Or.inl ⟨by rfl,?_⟩) ?_ ?_
 rotate_left
 ·intro w'
  go_simp
  with_reducible rfl
 rotate_left
 ·simp only [Act.put,sA,sZ,sS]
  rfl
 refine pure_ (i:=10) (N:=some 14) (v:=?_) (a':=?_) M1z rfl rfl (by kernel_rfl) (fun _ _ _ h => h) (Or.inl ⟨by rfl,?_⟩) ?_ ?_
 rotate_left
 ·intro w'
  go_simp
  with_reducible rfl
 rotate_left
 ·simp only [Act.put,sA,sZ,sS]
  rfl
 refine pure_ (i:=11) (N:=some 15) (v:=?_) (a':=?_) M1B rfl rfl (by kernel_rfl) (fun _ _ _ h => h) (Or.inl ⟨by rfl,?_⟩) ?_ ?_
 rotate_left
 ·intro w'
  go_simp
  with_reducible rfl
 rotate_left
 ·simp only [Act.put,sA,sZ,sS]
  rfl
 refine take_ (i:=12) (N:=some 16) (v:=?_) (a':=?_) M1C rfl rfl (by kernel_rfl) (fun _ _ _ h => h) (Or.inl ⟨by rfl,?_⟩) hHeld ?_ ?_
 rotate_left
 ·intro w' s0
  have hc4:w'.cell? ⟨g,4,none⟩ = some (.int .u32 L.yours):=(blk_cell s0.1 4).trans rfl
  clear s0
  go_simp
  with_reducible rfl
 rotate_left
 ·simp only [Act.put,sA,sZ,sS]
  rfl
 refine pure_ (i:=13) (N:=some 17) (v:=?_) (a':=?_) M1E rfl rfl (by kernel_rfl) (fun _ _ _ h => h) (Or.inl ⟨by rfl,?_⟩) ?_ ?_
 rotate_left
 ·intro w'
  go_simp
  with_reducible rfl
 rotate_left
 ·simp only [Act.put,sA,sZ,sS]
  rfl
 refine pure_ (i:=14) (N:=some 18) (v:=?_) (a':=?_) M1F rfl rfl (by kernel_rfl) (fun _ _ _ h => h) (Or.inl ⟨by rfl,?_⟩) ?_ ?_
 rotate_left
 ·intro w'
  go_simp
  with_reducible rfl
 rotate_left
 ·simp only [Act.put,sA,sZ,sS]
  rfl
 refine pure_ (i:=15) (N:=some 19) (v:=?_) (a':=?_) M1H rfl rfl (by kernel_rfl) (fun _ _ _ h => h) (Or.inl ⟨by rfl,?_⟩) ?_ ?_
 rotate_left
 ·intro w'
  go_simp
  with_reducible rfl
 rotate_left
 ·simp only [Act.put,sA,sZ,sS]
  rfl
 refine take_ (i:=16) (N:=some 20) (v:=?_) (a':=?_) M1J rfl rfl (by kernel_rfl) (fun _ _ _ h => h) (Or.inl ⟨by rfl,?_⟩) hHeld ?_ ?_
 rotate_left
 ·intro w' s0
  have hc8:w'.cell? ⟨g,8,none⟩ = some (.int .u32 L.base):=(blk_cell s0.1 8).trans rfl
  clear s0
  go_simp
  with_reducible rfl
 rotate_left
 ·simp only [Act.put,sA,sZ,sS]
  rfl
 refine pure_ (i:=17) (N:=some 21) (v:=?_) (a':=?_) M1K rfl rfl (by kernel_rfl) (fun _ _ _ h => h) (Or.inl ⟨by rfl,?_⟩) ?_ ?_
 rotate_left
 ·intro w'
  go_simp
  with_reducible rfl
 rotate_left
 ·simp only [Act.put,sA,sZ,sS]
  rfl
 refine pure_ (i:=18) (N:=some 22) (v:=?_) (a':=?_) M1L rfl rfl (by kernel_rfl) (fun _ _ _ h => h) (Or.inl ⟨by rfl,?_⟩) ?_ ?_
 rotate_left
 ·intro w'
  go_simp
  rfl
 rotate_left
 ·simp only [Act.put,sA,sZ,sS]
  rfl
 refine pure_ (i:=19) (N:=some 23) (v:=?_) (a':=?_) M1O rfl rfl (by kernel_rfl) (fun _ _ _ h => h) (Or.inl ⟨by rfl,?_⟩) ?_ ?_
 rotate_left
 ·intro w'
  go_simp
  rfl
 rotate_left
 ·simp only [Act.put,sA,sZ,sS]
  rfl
 refine pure_ (i:=20) (N:=some 24) (v:=?_) (a':=?_) M1P rfl rfl (by kernel_rfl) (fun _ _ _ h => h) (Or.inl ⟨by rfl,?_⟩) ?_ ?_
 rotate_left
 ·intro w'
  go_simp
  with_reducible rfl
 rotate_left
 ·simp only [Act.put,sA,sZ,sS]
  rfl
 refine pure_ (i:=21) (N:=some 25) (v:=?_) (a':=?_) M1Q rfl rfl (by kernel_rfl) (fun _ _ _ h => h) (Or.inl ⟨by rfl,?_⟩) ?_ ?_
 rotate_left
 ·intro w'
  go_simp
  with_reducible rfl
 rotate_left
 ·simp only [Act.put,sA,sZ,sS]
  rfl
 refine pure_ (i:=22) (N:=some 26) (v:=?_) (a':=?_) M1R rfl rfl (by kernel_rfl) (fun _ _ _ h => h) (Or.inl ⟨by rfl,?_⟩) ?_ ?_
 rotate_left
 ·intro w'
  go_simp
  with_reducible rfl
 rotate_left
 ·simp only [Act.put,sA,sZ,sS]
  rfl
 refine take_ (i:=23) (N:=some 27) (v:=?_) (a':=?_) M1T rfl rfl (by kernel_rfl) (fun _ _ _ h => h) (Or.inl ⟨by rfl,?_⟩) hHeld ?_ ?_
 rotate_left
 ·intro w' s0
  have hc9:w'.cell? ⟨g,9,none⟩ = some (.int .u32 L.expected):=(blk_cell s0.1 9).trans rfl
  clear s0
  go_simp
  with_reducible rfl
 rotate_left
 ·simp only [Act.put,sA,sZ,sS]
  rfl
 refine pure_ (i:=24) (N:=some 28) (v:=?_) (a':=?_) M1U rfl rfl (by kernel_rfl) (fun _ _ _ h => h) (Or.inl ⟨by rfl,?_⟩) ?_ ?_
 rotate_left
 ·intro w'
  go_simp
  with_reducible rfl
 rotate_left
 ·simp only [Act.put,sA,sZ,sS]
  rfl
 refine pure_ (i:=25) (N:=some 29) (v:=?_) (a':=?_) M1V rfl rfl (by kernel_rfl) (fun _ _ _ h => h) (Or.inl ⟨by rfl,?_⟩) ?_ ?_
 rotate_left
 ·intro w'
  go_simp
  with_reducible rfl
 rotate_left
 ·simp only [Act.put,sA,sZ,sS]
  rfl
 refine pure_ (i:=26) (N:=some 30) (v:=?_) (a':=?_) M1X rfl rfl (by kernel_rfl) (fun _ _ _ h => h) (Or.inl ⟨by rfl,?_⟩) ?_ ?_
 rotate_left
 ·intro w'
  go_simp
  with_reducible rfl
 rotate_left
 ·simp only [Act.put,sA,sZ,sS]
  rfl
 refine take_ (i:=27) (N:=some 31) (v:=?_) (a':=?_) M1Z rfl rfl (by kernel_rfl) (fun _ _ _ h => h) (Or.inl ⟨by rfl,?_⟩) hHeld ?_ ?_
 rotate_left
 ·intro w' s0
  have hc6:w'.cell? ⟨g,6,none⟩ = some (.slice (some ⟨gq,oq,none⟩) nl cq):=(blk_cell s0.1 6).trans rfl
  clear s0
  go_simp
  with_reducible rfl
 rotate_left
 ·simp only [Act.put,sA,sZ,sS]
  rfl
 refine pure_ (i:=28) (N:=some 32) (v:=?_) (a':=?_) M20 rfl rfl (by kernel_rfl) (fun _ _ _ h => h) (Or.inl ⟨by rfl,?_⟩) ?_ ?_
 rotate_left
 ·intro w'
  go_simp
  with_reducible rfl
 rotate_left
 ·simp only [Act.put,sA,sZ,sS]
  rfl
 refine pure_ (i:=29) (N:=some 33) (v:=?_) (a':=?_) M22 rfl rfl (by kernel_rfl) (fun _ _ _ h => h) (Or.inl ⟨by rfl,?_⟩) ?_ ?_
 rotate_left
 ·intro w'
  go_simp
  rfl
 rotate_left
 ·simp only [Act.put,sA,sZ,sS]
  rfl
 refine take_ (i:=30) (N:=some 34) (v:=?_) (a':=?_) M23 rfl rfl (by kernel_rfl) (fun _ _ _ h => h) (Or.inl ⟨by rfl,?_⟩) hHeld ?_ ?_
 rotate_left
 ·intro w' s0
  have hcb:=s0.2
  clear s0
  go_simp
  rfl
 rotate_left
 ·simp only [Act.put,sA,sZ,sS]
  rfl
 refine one_ (i:=31) (N:=some 35) M25 rfl rfl (by kernel_rfl) (by decide) (fun K hK => ?_)
 refine Kd.R_append_rows_step (Kd.int .u8) (Rr:=fun x cs => cs = [Value.int .u8 x]) (w0:=w) B (by rfl) (.const (.slice none 0 0)) (.tmp 34) 22 5 (.int .u8 0) 1 rfl Try.underlying22 info5' rfl (by decide) (by decide) (.slice none 0 0) [] body Ab body.length cb (fun k => w2.heap.size ≤ k) (fun _ => False) rfl rfl (Kd.R_nil _ _ _ _ _) (Kd.C_below HCB.out HBW.out) (fun _ _ hx => hx) (fun _ hf => hf.elim) (fun k hk => hk) (HBW.out.mono hB) (by have:=HSZ.out; omega) (by have:=HBL.out; simp; omega) ?_
 intro v1 w3 hR hbl hg _
 obtain ⟨A1,c1,hv1⟩:=Kd.R_slice hR
 subst hv1
 have hbg:Below w2.heap.size w2 w3:=⟨hg.os,hg.tape,hg.output,hg.size,fun k hk => hg.block k hk (by simp [Value.ownBlock])⟩
 have hb3:Below w.heap.size w w3:=HBW.out.trans (hbg.mono HBW.out.size)
 have HB3:=Lib.hid hb3
 have HR3:=Lib.hid (show (Kd.int .u8).R 5 w3 B (fun k => w2.heap.size ≤ k) _ body from hR)
 have hS3:=(⟨(hbg.block g (blk_lt hHeld.1)).trans hHeld.1,Kd.cell_heap hbg.block hHeld.2⟩:w3.heap[g]? = some (.cells (row L (.slice (some ⟨gq,oq,none⟩) nl cq) o) 131 (0,0)) ∧ w3.cell? ⟨gq,oq + i.toNat,none⟩ = some (.slice Ab body.length cb))
 clear hR hbl hg hbg hb3 hHeld
 refine hK.out _ _ hS3 (fun hHeld => ?_)
 clear hK K hS3
 refine norm_ (a':=?_) ?_ ?_
 rotate_left
 ·show Act.put _ (some 35) _ = _
  simp only [Act.put,sA,sZ,sS]
  rfl
 have h3:=H0.out.below HB3.out
 have h3':At w3 B okq (fun k => oko k ∨ w.heap.size ≤ k ∧ k < w3.heap.size) g L q o:=⟨h3.blk,h3.queue,Kd.R_mono h3.out (fun _ hk => .inl hk),h3.low,fun k hk ho => ho.elim (h3.apart k hk) (fun hn => by have:=(H0.out.old k (.inl hk)).1; omega),fun k hk => (hk.elim (fun x => h3.old k (.inl x)) (fun x => x.elim (fun y => h3.old k (.inr y)) (fun hn => ⟨hn.2,by omega⟩)))⟩
 have hRb:(Kd.int .u8).R 5 w3 B (fun k => w2.heap.size ≤ k ∧ k < w3.heap.size) (.slice A1 ([] ++ body).length c1) body:=Kd.R_mono (Kd.R_bound HR3.out) (fun k hk => ⟨hk.1,hk.2.2.1⟩)
 have hM9:pkt.M w3 B (fun k => w2.heap.size ≤ k ∧ k < w3.heap.size) (⟨2,L.token,L.boot,L.yours,IntKind.u32.wrap (L.base + IntKind.u32.wrap i),L.expected,0,0,0,0,body⟩:Pkt) (cells (⟨2,L.token,L.boot,L.yours,IntKind.u32.wrap (L.base + IntKind.u32.wrap i),L.expected,0,0,0,0,body⟩:Pkt) (.slice A1 ([] ++ body).length c1)):=pkt_M.2 ⟨_,rfl,hRb⟩
 have hop:∀ k,(w2.heap.size ≤ k ∧ k < w3.heap.size) → (oko k ∨ w.heap.size ≤ k ∧ k < w3.heap.size):=fun k hk => .inr ⟨HSZ.out ▸ hk.1,hk.2⟩
 have HC9:=Lib.hid (emit_of (⟨2,L.token,L.boot,L.yours,IntKind.u32.wrap (L.base + IntKind.u32.wrap i),L.expected,0,0,0,0,body⟩:Pkt) (.slice A1 ([] ++ body).length c1) h3' OK.out (Nat.le_trans hB HB3.out.size) hM9 hop)
 clear h3 h3' hRb hM9 hop
 refine pure_ (i:=32) (N:=some 36) (v:=?_) (a':=?_) M27 rfl rfl (by kernel_rfl) (fun _ _ _ h => h) (Or.inl ⟨by rfl,?_⟩) ?_ ?_
 rotate_left
 ·intro w'
  have hu27:=Try.underlying27
  go_simp
  rfl
 rotate_left
 ·simp only [Act.put,sA,sZ,sS]
  rfl
 refine last_ (i:=33) (N:=some 37) M28 rfl rfl (by kernel_rfl) (by decide) (fun K hK => ?_)
 refine goes_ Try.func80 (by kernel_rfl) rfl #[.pointer (some ⟨g,0,none⟩),.agg #[.int .i64 2,.int .u32 L.token,.int .u32 L.boot,.int .u32 L.yours,.int .u32 (IntKind.u32.wrap (L.base + IntKind.u32.wrap i)),.int .u32 L.expected,.int .u32 0,.int .u32 0,.complex .f64 0 0,.slice A1 ([] ++ body).length c1]] (by rfl) rfl rfl (by (try simp only [List.map_toArray,List.map_cons,List.map_nil]); first | done | rfl) ?_
 refine HC9.out.mono ?_
 rintro e w9 ⟨rfl,hE⟩
 have HE:=Lib.hid (Emits.from2 (fun k hk => (H0.out.old k (.inl hk)).1) hgl HB3.out hB hE)
 clear hE
 refine ⟨_,rfl,?_⟩
 refine hK.out _ _ ?_
 clear hK K
 refine done_ (by kernel_rfl) ?_
 go_wp2
 go_end0
 have hP:dataP L i = (⟨2,L.token,L.boot,L.yours,IntKind.u32.wrap (L.base + IntKind.u32.wrap i),L.expected,0,0,0,0,body⟩:Pkt):=by unfold dataP; rw [HBD.out]
 rw [hP]
 exact ⟨rfl,HE.out⟩
end Go.Proofs.Ytnkkgofpifhoeaa.Lk
end
section
namespace Go.Proofs.Ytnkkgofpifhoeaa.Lk
open Go.RowKit Go.Proofs.Ytnkkgofpifhoeaa.Base Go.Proofs.Ytnkkgofpifhoeaa.Steps Go.Proofs.YtnkkgofpifhoeaaW.PrintWords Go.Proofs.YtnkkgofpifhoeaaW.PrintLast
def sendOne (L:Lk):Lk:=emit_ { L with idle:=if L.sent = 0 then 0 else L.idle,sent:=L.sent + 1 } (dataP L L.sent)
def fillN:Nat → Lk → Lk
 | 0,L => L
 | n + 1,L => if L.sent < L.queue.length ∧ L.sent < 8 then fillN n (sendOne L) else L
def fill_ (L:Lk):Lk:=fillN ((8 - L.sent).toNat + 1) L
theorem Emits.same {w:World} {B g:Nat} {okq oko:Nat → Prop} {L:Lk} {q o:Value} (h:At w B okq oko g L q o):Emits w B okq oko g L q w :=
 ⟨o,⟨h.blk,h.queue,Kd.R_mono h.out (fun _ hk => .inl hk),h.low,fun k hk ho => ho.elim (h.apart k hk) (fun hn => by omega),fun k hk => (hk.elim (fun x => h.old k (.inl x)) (fun x => x.elim (fun y => h.old k (.inr y)) (fun hn => by omega)))⟩,Kept.refl _ _,Below.refl _ _⟩
theorem Emits.below {w w' w2:World} {B g:Nat} {okq oko:Nat → Prop} {L:Lk} {q:Value} (hB:B ≤ w.heap.size) (h:Emits w B okq oko g L q w') (hb:Below w'.heap.size w' w2):Emits w B okq oko g L q w2:=by
 obtain ⟨o,a,k1,b1⟩:=h
 have hs:=k1.1
 have hs2:=hb.size
 have a2:=a.below hb
 refine ⟨o,⟨a2.blk,a2.queue,Kd.R_mono a2.out (fun k hk => hk.elim (fun x => .inl x) (fun x => .inr ⟨x.1,by omega⟩)),a2.low,fun k hk ho => ?_,fun k hk => ?_⟩,k1.then_ (Kept.of_below hb (fun k => oko k ∨ k = g)) (fun k hk => .inl hk),b1.trans (hb.mono (by omega))⟩
 ·rcases ho with ho | ho
  ·exact a.apart k hk (.inl ho)
  ·by_cases hkw:k < w'.heap.size
   ·exact a.apart k hk (.inr ⟨ho.1,hkw⟩)
   ·exact hkw (a.old k (.inl hk)).1
 ·rcases hk with hk | hk | hk
  ·exact a2.old k (.inl hk)
  ·exact a2.old k (.inr (.inl hk))
  ·have:=blk_lt a.blk
   by_cases hkw:k < w'.heap.size
   ·exact ⟨hk.2,(a.old k (.inr (.inr ⟨hk.1,hkw⟩))).2⟩
   ·exact ⟨hk.2,by omega⟩
theorem Emits.chain {w wr wk w':World} {B g:Nat} {okq oko:Nat → Prop} {L:Lk} {q:Value} (hq:∀ k,okq k → k < w.heap.size) (hg:g < w.heap.size) (hBg:B ≤ g) (h2:Kept w wr (fun k => oko k ∨ k = g)) (h3:Below B w wr) (hat:Go.Proofs.Ytnkkgofpifhoeaa.Steps.At g wr wk) (h:Emits wk B okq (fun k => oko k ∨ w.heap.size ≤ k ∧ k < wr.heap.size) g L q w'):Emits w B okq oko g L q w':=by
 obtain ⟨o,a,k1,b1⟩:=h
 have hs:=h2.1
 have hs2:=k1.1
 rw [hat.size] at a hs2
 refine ⟨o,⟨a.blk,a.queue,Kd.R_mono a.out (fun k hk => ?_),a.low,fun k hk ho => ?_,fun k hk => ?_⟩,(h2.then_ (kept_at' hat) (fun k hk => .inl (.inr hk))).then_ k1 (fun k hk => ?_),h3.trans ((hat.below (Below.refl _ _) hBg).trans b1)⟩
 ·rcases hk with (hk | hk) | hk
  ·exact .inl hk
  ·exact .inr ⟨hk.1,by omega⟩
  ·exact .inr ⟨by omega,hk.2⟩
 ·rcases ho with ho | ho
  ·exact a.apart k hk (.inl (.inl ho))
  ·have:=hq k hk; omega
 ·rcases hk with hk | hk | hk
  ·exact a.old k (.inl hk)
  ·exact a.old k (.inr (.inl (.inl hk)))
  ·exact ⟨hk.2,by omega⟩
 ·rcases hk with (hk | hk) | hk
  ·exact .inl (.inl hk)
  ·exact .inr hk.1
  ·exact .inl (.inr hk)
theorem sent_ok {L:Lk} (h:L.Ok) (hd:L.sent < L.queue.length) (h8:L.sent < 8) (d:Int) (hdd:0 ≤ d ∧ d ≤ 1000):({ L with idle:=d,sent:=L.sent + 1 }:Lk).Ok:=by
 have:=h.sent
 exact ⟨h.own,h.phase,h.token,h.boot,h.yours,h.queue,h.rows,⟨by show 0 ≤ L.sent + 1; omega,by show L.sent + 1 ≤ (L.queue.length:Int); omega,by show L.sent + 1 ≤ 8; omega⟩,h.base,h.expected,hdd,h.out⟩
theorem sendOne_ok {L:Lk} (h:L.Ok) (hd:L.sent < L.queue.length) (h8:L.sent < 8):(sendOne L).Ok:=by
 refine emit_ok (sent_ok h hd h8 _ ?_) _
 split
 ·omega
 ·exact h.idle
theorem emit_sent (L:Lk) (p:Pkt):(emit_ L p).sent = L.sent:=by unfold emit_; split <;> rfl
theorem sendOne_sent (L:Lk):(sendOne L).sent = L.sent + 1:=emit_sent _ _
def FR (w:World) (B:Nat) (okq oko:Nat → Prop) (g:Nat) (L:Lk) (q:Value) (n:Nat) (wr:World):Prop:=∃ L':Lk,n = (8 - L'.sent).toNat ∧ fillN (n + 1) L' = fill_ L ∧ L'.Ok ∧ Emits w B okq oko g L' q wr
set_option maxRecDepth 100000 in
set_option maxHeartbeats 1000000 in
theorem fill_of {w:World} {B g:Nat} {okq oko:Nat → Prop} {L:Lk} {q o:Value} (h:At w B okq oko g L q o) (hok:L.Ok) (hB:B ≤ w.heap.size) :
  Calls Try.prog 74 #[.pointer (some ⟨g,0,none⟩)] w fun e w' => e = .returned (.tuple #[]) ∧ Emits w B okq oko g (fill_ L) q w':=by
 have H:=Lib.hid h
 have OK:=Lib.hid hok
 clear h hok
 go_enter Try.func74,Try.ntmps74
 go_wp2_with fail
 go_loopg [] ((8 - L.sent).toNat) (fun n wr => FR w B okq oko g L q n wr)
 case atStart => exact ⟨L,rfl,rfl,OK.out,Emits.same H.out⟩
 case round =>
  obtain ⟨L',hn,hf,hok',o',h1,h2,h3⟩:=hrel
  obtain ⟨A6,c6,hq6,hl6⟩:=Kd.Q_slice h1.queue
  have hc7:wr.cell? ⟨g,7,none⟩ = some (.int .i64 L'.sent):=(blk_cell h1.blk 7).trans rfl
  have hc6:wr.cell? ⟨g,6,none⟩ = some (.slice A6 L'.queue.length c6):=(blk_cell h1.blk 6).trans (by rw [hq6]; rfl)
  have hs:=hok'.sent
  have hql:=hok'.queue
  have H1:=Lib.hid h1
  have H2:=Lib.hid h2
  have H3:=Lib.hid h3
  have HF:=Lib.hid hf
  have HN:=Lib.hid hn
  have OK1:=Lib.hid hok'
  clear h1 h2 h3 hf hn hok' hq6 hl6
  generalize hse:L'.sent = se at *
  generalize hqn:L'.queue.length = qn at *
  have HSE:=Lib.hid hse
  have hc10:wr.cell? ⟨g,10,none⟩ = some (.int .i64 L'.idle):=(blk_cell H1.out.blk 10).trans rfl
  have hf10:=blk_frozen H1.out.blk 10
  have hf7:=blk_frozen H1.out.blk 7
  clear hse
  by_cases hg1:se < (qn:Int)
  ·have hd1:decide (se < (qn:Int)) = true:=by simp [hg1]
   by_cases hg2:se < 8
   ·skip
    by_cases hz:se = 0
    ·have hz9:(se == 0) = true:=by simp [hz]
     have HZ:=Lib.hid hz
     clear hz
     have OK2:=Lib.hid (sent_ok OK1.out (by rw [HSE.out]; omega) (by rw [HSE.out]; omega) 0 (by omega))
     have HI:=Lib.hid (⟨by omega,by omega⟩:0 ≤ se ∧ se < (L'.queue.length:Int))
     have hat0:Go.Proofs.Ytnkkgofpifhoeaa.Steps.At g wr wr:=Steps.At.refl _ _
     go_wp2_with fail
     go_quiet (fail)
     go_wp2_with (first | ((with_reducible refine gate_ (.store 3 (.tmp 29) (.const (.int .i64 0))) rfl ?_); (refine store_F (fun wz => At wz B okq (fun k => oko k ∨ w.heap.size ≤ k ∧ k < wr.heap.size) g { L' with idle:=0 } q o' ∧ Go.Proofs.Ytnkkgofpifhoeaa.Steps.At g wr wz) rfl rfl ⟨_,(by first | (go_simp; done) | (go_simp; rfl)),(H1.out.below (pw_below_drewN (Below.refl _ _) _)).put1 10 _ rfl rfl rfl,Steps.At.set (Steps.At.drewN (Steps.At.refl _ _) _) _ _⟩ (fun w_K1 hF => ?_)); (have K1:=Lib.hid hF); (clear hF); (have hk7:World.cell? _ ⟨g,7,none⟩ = some (.int .i64 se):=(blk_cell K1.out.1.blk 7).trans (by rw [← HSE.out]; rfl)); (have hkf7:=blk_frozen K1.out.1.blk 7)) | ((with_reducible refine gate_ (.store 3 (.tmp 36) (.tmp 34)) rfl ?_); (refine store_F (fun wz => At wz B okq (fun k => oko k ∨ w.heap.size ≤ k ∧ k < wr.heap.size) g { L' with idle:=0,sent:=L'.sent + 1 } q o' ∧ Go.Proofs.Ytnkkgofpifhoeaa.Steps.At g wr wz) rfl rfl ⟨_,(by have hz1:World.cell? _ ⟨g,7,none⟩ = some _:=(blk_cell K1.out.1.blk 7).trans rfl; have hz2:=blk_frozen K1.out.1.blk 7; first | (go_simp; done) | (go_simp; rfl)),K1.out.1.put1 7 _ (by rw [← HSE.out]; rfl) rfl rfl,Steps.At.set K1.out.2 _ _⟩ (fun w_K2 hF => ?_)); (have K2:=Lib.hid hF); (clear hF); (have hk7:World.cell? _ ⟨g,7,none⟩ = some (.int .i64 (se + 1)):=(blk_cell K2.out.1.blk 7).trans (by rw [← HSE.out]; rfl))) | (go_at_call 75; (refine (data_of (i:=se) K2.out.1 OK2.out (Nat.le_trans hB (by rw [K2.out.2.size]; exact H2.out.1)) HI.out.1 HI.out.2).mono ?_); (rintro e w9 ⟨rfl,hE⟩); (have HE:=Lib.hid (Emits.chain (fun k hk => (H.out.old k (.inl hk)).1) (blk_lt H.out.blk) H.out.low H2.out H3.out K2.out.2 hE)); (clear hE)))
     go_roundg (gk - 1)
     case measure => have:=HN.out; omega
     case rel =>
      refine ⟨sendOne L',by rw [sendOne_sent,HSE.out]; have:=HN.out; omega,?_,sendOne_ok OK1.out (by rw [HSE.out]; omega) (by rw [HSE.out]; omega),?_⟩
      ·rw [← HF.out,show gk = gk - 1 + 1 by have:=HN.out; omega]
       show fillN (gk - 1 + 1) (sendOne L') = if L'.sent < L'.queue.length ∧ L'.sent < 8 then fillN (gk - 1 + 1) (sendOne L') else L'
       rw [if_pos (by rw [HSE.out]; omega)]
      ·have e:=HE.out
       rw [show ({ L' with idle:=0,sent:=L'.sent + 1 }:Lk) = { L' with idle:=if L'.sent = 0 then 0 else L'.idle,sent:=L'.sent + 1 } by rw [if_pos (HSE.out.trans HZ.out)]] at e
       rw [← HSE.out] at e
       exact e
    ·have hz9:(se == 0) = false:=by simp [hz]
     have HZ:=Lib.hid hz
     clear hz
     have OK2:=Lib.hid (sent_ok OK1.out (by rw [HSE.out]; omega) (by rw [HSE.out]; omega) L'.idle OK1.out.idle)
     have HI:=Lib.hid (⟨by omega,by omega⟩:0 ≤ se ∧ se < (L'.queue.length:Int))
     have hat0:Go.Proofs.Ytnkkgofpifhoeaa.Steps.At g wr wr:=Steps.At.refl _ _
     go_wp2_with fail
     go_quiet (fail)
     go_wp2_with (first | ((with_reducible refine gate_ (.store 3 (.tmp 36) (.tmp 34)) rfl ?_); (refine store_F (fun wz => At wz B okq (fun k => oko k ∨ w.heap.size ≤ k ∧ k < wr.heap.size) g { L' with sent:=L'.sent + 1 } q o' ∧ Go.Proofs.Ytnkkgofpifhoeaa.Steps.At g wr wz) rfl rfl ⟨_,(by first | (go_simp; done) | (go_simp; rfl)),(H1.out.below (pw_below_drewN (Below.refl _ _) _)).put1 7 _ (by rw [← HSE.out]; rfl) rfl rfl,Steps.At.set (Steps.At.drewN (Steps.At.refl _ _) _) _ _⟩ (fun w_K2 hF => ?_)); (have K2:=Lib.hid hF); (clear hF); (have hk7:World.cell? _ ⟨g,7,none⟩ = some (.int .i64 (se + 1)):=(blk_cell K2.out.1.blk 7).trans (by rw [← HSE.out]; rfl))) | (go_at_call 75; (refine (data_of (i:=se) K2.out.1 OK2.out (Nat.le_trans hB (by rw [K2.out.2.size]; exact H2.out.1)) HI.out.1 HI.out.2).mono ?_); (rintro e w9 ⟨rfl,hE⟩); (have HE:=Lib.hid (Emits.chain (fun k hk => (H.out.old k (.inl hk)).1) (blk_lt H.out.blk) H.out.low H2.out H3.out K2.out.2 hE)); (clear hE)))
     go_roundg (gk - 1)
     case measure => have:=HN.out; omega
     case rel =>
      refine ⟨sendOne L',by rw [sendOne_sent,HSE.out]; have:=HN.out; omega,?_,sendOne_ok OK1.out (by rw [HSE.out]; omega) (by rw [HSE.out]; omega),?_⟩
      ·rw [← HF.out,show gk = gk - 1 + 1 by have:=HN.out; omega]
       show fillN (gk - 1 + 1) (sendOne L') = if L'.sent < L'.queue.length ∧ L'.sent < 8 then fillN (gk - 1 + 1) (sendOne L') else L'
       rw [if_pos (by rw [HSE.out]; omega)]
      ·have e:=HE.out
       rw [show ({ L' with sent:=L'.sent + 1 }:Lk) = { L' with idle:=if L'.sent = 0 then 0 else L'.idle,sent:=L'.sent + 1 } by rw [if_neg (fun h => HZ.out (HSE.out.symm.trans h))]] at e
       rw [← HSE.out] at e
       exact e
   ·have hd2:decide (se < 8) = false:=by simp [hg2]
    go_wp2_with fail
    go_quiet (fail)
    go_wp2_with fail
    all_goals (go_end0; (refine ⟨rfl,?_⟩); (have hL:fill_ L = L':=by rw [← HF.out]; show (if L'.sent < L'.queue.length ∧ L'.sent < 8 then fillN gk (sendOne L') else L') = L'; rw [if_neg (by rw [HSE.out]; omega)]); (rw [hL]); exact Emits.below hB ⟨o',H1.out,H2.out,H3.out⟩ (pw_below_drewN (Below.refl _ _) _))
  ·have hd1:decide (se < (qn:Int)) = false:=by simp [hg1]
   go_wp2_with fail
   go_quiet (fail)
   go_wp2_with fail
   all_goals (go_end0; (refine ⟨rfl,?_⟩); (have hL:fill_ L = L':=by rw [← HF.out]; show (if L'.sent < L'.queue.length ∧ L'.sent < 8 then fillN gk (sendOne L') else L') = L'; rw [if_neg (by rw [HSE.out]; omega)]); (rw [hL]); exact Emits.below hB ⟨o',H1.out,H2.out,H3.out⟩ (pw_below_drewN (Below.refl _ _) _))
end Go.Proofs.Ytnkkgofpifhoeaa.Lk
end
section
namespace Go.Proofs.Ytnkkgofpifhoeaa.Lk
open Go.RowKit Go.Proofs.Ytnkkgofpifhoeaa.Base Go.Proofs.Ytnkkgofpifhoeaa.Steps Go.Proofs.YtnkkgofpifhoeaaW.PrintWords Go.Proofs.YtnkkgofpifhoeaaW.PrintLast
def End (w:World) (B:Nat) (own:Nat → Prop) (g:Nat) (L:Lk):Prop:=∃ okq oko q o,At w B okq oko g L q o ∧ ∀ k,holds okq oko g k → own k
def Turns (w:World) (B:Nat) (own:Nat → Prop) (g:Nat) (L:Lk) (w':World):Prop :=
 End w' B (fun k => own k ∨ w.heap.size ≤ k ∧ k < w'.heap.size) g L ∧ Kept w w' own ∧ Below B w w'
theorem End.mono {w:World} {B g:Nat} {own own':Nat → Prop} {L:Lk} (h:End w B own g L) (hm:∀ k,own k → own' k):End w B own' g L:=by
 obtain ⟨a,b,q,o,h1,h2⟩:=h
 exact ⟨a,b,q,o,h1,fun k hk => hm k (h2 k hk)⟩
theorem End.kept {w w1:World} {B g:Nat} {own S:Nat → Prop} {L:Lk} (h:End w B own g L) (hk:Kept w w1 S) (hd:∀ k,own k → ¬ S k):End w1 B own g L:=by
 obtain ⟨a,b,q,o,h1,h2⟩:=h
 exact ⟨a,b,q,o,h1.kept hk (fun k hh => hd k (h2 k hh)),h2⟩
theorem Turns.same {w:World} {B g:Nat} {own:Nat → Prop} {L:Lk} (h:End w B own g L):Turns w B own g L w:=⟨h.mono (fun _ hk => .inl hk),Kept.refl _ _,Below.refl _ _⟩
theorem Turns.trans {w w1 w2:World} {B g:Nat} {own:Nat → Prop} {L L2:Lk} (h:Turns w B own g L w1) (h2:Turns w1 B (fun k => own k ∨ w.heap.size ≤ k ∧ k < w1.heap.size) g L2 w2):Turns w B own g L2 w2:=by
 obtain ⟨a,b,c⟩:=h
 obtain ⟨a2,b2,c2⟩:=h2
 have h1:=b.1
 have h3:=b2.1
 refine ⟨a2.mono (fun k hk => ?_),b.then_ b2 (fun k hk => ?_),c.trans c2⟩
 ·rcases hk with (hk | hk) | hk
  ·exact .inl hk
  ·exact .inr ⟨hk.1,by omega⟩
  ·exact .inr ⟨by omega,hk.2⟩
 ·rcases hk with hk | hk
  ·exact .inl hk
  ·exact .inr hk.1
theorem Turns.below {w w1 w2:World} {B g:Nat} {own:Nat → Prop} {L:Lk} (h:Turns w B own g L w1) (hB:B ≤ w.heap.size) (hb:Below w1.heap.size w1 w2):Turns w B own g L w2:=by
 have h1:=h.2.1.1
 refine h.trans ⟨(h.1.kept (Kept.of_below hb (fun _ => False)) (fun _ _ hf => hf)).mono (fun _ hk => .inl hk),Kept.of_below hb _,hb.mono (by omega)⟩
theorem Emits.turns {w w':World} {B g:Nat} {okq oko own:Nat → Prop} {L:Lk} {q:Value} (ho:∀ k,holds okq oko g k → own k) (h:Emits w B okq oko g L q w'):Turns w B own g L w':=by
 obtain ⟨o,a,k1,b1⟩:=h
 refine ⟨⟨_,_,q,o,a,fun k hk => ?_⟩,k1.mono (fun k hk => ho k (.inr hk)),b1⟩
 rcases hk with hk | (hk | hk) | hk
 ·exact .inl (ho k (.inl hk))
 ·exact .inl (ho k (.inr (.inl hk)))
 ·exact .inr hk
 ·exact .inl (ho k (.inr (.inr hk)))
theorem Drops.turns {w w':World} {B g:Nat} {okq oko own:Nat → Prop} {L:Lk} (ho:∀ k,holds okq oko g k → own k) (h:Drops w B okq oko g L w'):Turns w B own g L w':=by
 obtain ⟨okq',q,hqq,o,a,k1,b1⟩:=h
 refine ⟨⟨_,_,q,o,a,fun k hk => ?_⟩,k1.mono (fun k hk => ho k (.inr hk)),b1⟩
 rcases hk with hk | (hk | hk) | hk
 ·exact .inl (ho k (.inl (hqq k hk)))
 ·exact .inl (ho k (.inr (.inl hk)))
 ·exact .inr hk
 ·exact .inl (ho k (.inr (.inr hk)))
def sendE (L:Lk) (n:Nat):Int:=if L.phase = 2 then (if n = 0 ∨ 1000 < n then 112 else if 64 ≤ L.queue.length then 113 else 0) else 110
def sendL (L:Lk) (body:List Int):Lk:=if sendE L body.length = 0 then fill_ { L with queue:=L.queue ++ [body] } else L
theorem info22:(Try.prog.info? 22).map (fun i => (i.zero,i.size,i.bytes)) = some (some (.slice none 0 0),1,24):=by kernel_rfl
theorem sendq_ok {L:Lk} (h:L.Ok) {body:List Int} (hl:body.length ≤ 1000) (hq:L.queue.length < 64):({ L with queue:=L.queue ++ [body] }:Lk).Ok:=by
 have:=h.sent
 refine ⟨h.own,h.phase,h.token,h.boot,h.yours,by show (L.queue ++ [body]).length ≤ 64; simp; omega,fun r hr => ?_,⟨this.1,by show L.sent ≤ ((L.queue ++ [body]).length:Int); simp; omega,this.2.2⟩,h.base,h.expected,h.idle,h.out⟩
 rcases List.mem_append.1 hr with hr | hr
 ·exact h.rows r hr
 ·rw [List.mem_singleton.1 hr]; exact hl
theorem fillN_ok (n:Nat) {L:Lk} (h:L.Ok):(fillN n L).Ok:=by
 induction n generalizing L with
 | zero => exact h
 | succ n ih =>
  unfold fillN
  split
  ·rename_i hc; exact ih (sendOne_ok h hc.1 hc.2)
  ·exact h
theorem fill_ok {L:Lk} (h:L.Ok):(fill_ L).Ok:=fillN_ok _ h
set_option maxRecDepth 100000 in
set_option maxHeartbeats 1000000 in
theorem send_shut {w:World} {B g:Nat} {okq oko:Nat → Prop} {L:Lk} {q o:Value} (h:At w B okq oko g L q o) (hok:L.Ok) (hB:B ≤ w.heap.size) (body:List Int) (Ab:Option Addr) (cb:Nat) (hC:(Kd.int .u8).C w Ab body.length body) (hp:¬ L.phase = 2) :
  Calls Try.prog 30 #[.pointer (some ⟨g,0,none⟩),.slice Ab body.length cb] w fun e w' => e = .returned (.int .i64 110) ∧ w = w':=by
 have hc1:w.cell? ⟨g,1,none⟩ = some (.int .i64 L.phase):=(blk_cell h.blk 1).trans rfl
 clear h hok hC
 generalize L.phase = ph at *
 go_enter Try.func30,Try.ntmps30
 go_wp2
 all_goals (go_ret; exact ⟨rfl,rfl⟩)
set_option maxRecDepth 100000 in
set_option maxHeartbeats 1000000 in
theorem send_long {w:World} {B g:Nat} {okq oko:Nat → Prop} {L:Lk} {q o:Value} (h:At w B okq oko g L q o) (hok:L.Ok) (hB:B ≤ w.heap.size) (body:List Int) (Ab:Option Addr) (cb:Nat) (hC:(Kd.int .u8).C w Ab body.length body) (hp:L.phase = 2) (hl:body.length = 0 ∨ 1000 < body.length) :
  Calls Try.prog 30 #[.pointer (some ⟨g,0,none⟩),.slice Ab body.length cb] w fun e w' => e = .returned (.int .i64 112) ∧ ∃ m,w' = w.drewN m:=by
 have hc1:w.cell? ⟨g,1,none⟩ = some (.int .i64 2):=(blk_cell h.blk 1).trans (by rw [← hp]; rfl)
 clear h hok hC hp
 generalize body.length = n at *
 by_cases hz:n = 0
 ·subst hz
  clear hl
  go_enter Try.func30,Try.ntmps30
  go_wp2_with fail
  try go_quiet (fail)
  go_wp2
  all_goals (go_ret; first | exact ⟨rfl,0,rfl⟩ | exact ⟨rfl,_,rfl⟩)
 ·have hd:((n:Int) == 0) = false:=by simp; omega
  have hd2:decide ((1000:Int) < n) = true:=by simp; omega
  have hd3:decide ((n:Int) > 1000) = true:=by simp; omega
  go_enter Try.func30,Try.ntmps30
  go_wp2_with fail
  try go_quiet (fail)
  go_wp2
  all_goals (go_ret; first | exact ⟨rfl,0,rfl⟩ | exact ⟨rfl,_,rfl⟩)
set_option maxRecDepth 100000 in
set_option maxHeartbeats 1000000 in
theorem send_full {w:World} {B g:Nat} {okq oko:Nat → Prop} {L:Lk} {q o:Value} (h:At w B okq oko g L q o) (hok:L.Ok) (hB:B ≤ w.heap.size) (body:List Int) (Ab:Option Addr) (cb:Nat) (hC:(Kd.int .u8).C w Ab body.length body) (hp:L.phase = 2) (hl:¬ (body.length = 0 ∨ 1000 < body.length)) (hq:64 ≤ L.queue.length) :
  Calls Try.prog 30 #[.pointer (some ⟨g,0,none⟩),.slice Ab body.length cb] w fun e w' => e = .returned (.int .i64 113) ∧ ∃ m,w' = w.drewN m:=by
 have hc1:w.cell? ⟨g,1,none⟩ = some (.int .i64 2):=(blk_cell h.blk 1).trans (by rw [← hp]; rfl)
 obtain ⟨A6,c6,hq6,hl6⟩:=Kd.Q_slice h.queue
 have hc6:w.cell? ⟨g,6,none⟩ = some (.slice A6 L.queue.length c6):=(blk_cell h.blk 6).trans (by rw [hq6]; rfl)
 clear h hok hC hp hq6 hl6
 generalize body.length = n at *
 generalize L.queue.length = qn at *
 have hd:((n:Int) == 0) = false:=by simp; omega
 have hd2:decide ((1000:Int) < n) = false:=by simp; omega
 have hd3:decide ((n:Int) > 1000) = false:=by simp; omega
 have hd4:decide ((qn:Int) ≥ 64) = true:=by simp; omega
 have hd5:decide ((64:Int) ≤ qn) = true:=by simp; omega
 go_enter Try.func30,Try.ntmps30
 go_wp2_with fail
 try go_quiet (fail)
 go_wp2
 all_goals (go_ret; first | exact ⟨rfl,0,rfl⟩ | exact ⟨rfl,_,rfl⟩)
set_option maxRecDepth 100000 in
set_option maxHeartbeats 1000000 in
theorem send_ok {w:World} {B g:Nat} {okq oko:Nat → Prop} {L:Lk} {q o:Value} (h:At w B okq oko g L q o) (hok:L.Ok) (hB:B ≤ w.heap.size) (body:List Int) (Ab:Option Addr) (cb:Nat) (hC:(Kd.int .u8).C w Ab body.length body) (hp:L.phase = 2) (hl:¬ (body.length = 0 ∨ 1000 < body.length)) (hq:¬ 64 ≤ L.queue.length) {own:Nat → Prop} (ho:∀ k,holds okq oko g k → own k) :
  Calls Try.prog 30 #[.pointer (some ⟨g,0,none⟩),.slice Ab body.length cb] w fun e w' => e = .returned (.int .i64 0) ∧ Turns w B own g (fill_ { L with queue:=L.queue ++ [body] }) w':=by
 have hc1:w.cell? ⟨g,1,none⟩ = some (.int .i64 2):=(blk_cell h.blk 1).trans (by rw [← hp]; rfl)
 obtain ⟨A6,c6,hq6,hl6⟩:=Kd.Q_slice h.queue
 have hc6:w.cell? ⟨g,6,none⟩ = some (.slice A6 L.queue.length c6):=(blk_cell h.blk 6).trans (by rw [hq6]; rfl)
 have hgl:g < w.heap.size:=blk_lt h.blk
 subst hq6
 have H0:=Lib.hid h
 have OK:=Lib.hid hok
 have HCB:=Lib.hid hC
 have HBL:=Lib.hid hl
 have HQL:=Lib.hid hq
 have HOW:=Lib.hid ho
 clear h hok hC hp hl6 ho
 generalize hn:body.length = n at *
 generalize hqn:L.queue.length = qn at *
 have HN:=Lib.hid hn
 have HQN:=Lib.hid hqn
 clear hn hqn
 have hd:((n:Int) == 0) = false:=by simp; omega
 have hd3:decide ((n:Int) > 1000) = false:=by simp; omega
 have hd4:decide ((qn:Int) ≥ 64) = false:=by simp; omega
 go_enter Try.func30,Try.ntmps30
 go_wp2_with fail
 try go_quiet (fail)
 go_wp2_with fail
 have hSS:w.drew.heap[g]? = some (.cells (row L (.slice A6 qn c6) o) 131 (0,0)):=H0.out.blk
 have hbd:Below w.heap.size w w.drew:=bl_drew (Below.refl _ _)
 have hsz:w.drew.heap.size = w.heap.size:=rfl
 clear hc1 hc6 hd hd3 hd4 hl hq
 refine start_ (n:=12) (S:=fun w' => w'.heap[g]? = some (.cells (row L (.slice A6 qn c6) o) 131 (0,0))) (ds:=[11]) M1e (by kernel_rfl) rfl rfl (hSS) (fun hHeld => ?_)
 generalize w.drew = w2 at hbd hsz hHeld ⊢
 have HBW:=Lib.hid hbd
 have HSZ:=Lib.hid hsz
 clear hbd hsz
 refine pure_ (i:=0) (N:=some 30) (v:=?_) (a':=?_) M1f rfl rfl (by kernel_rfl) (fun _ _ _ h => h) (Or.inl ⟨by rfl,?_⟩) ?_ ?_
 rotate_left
 ·intro w'
  go_simp
  with_reducible rfl
 rotate_left
 ·simp only [Act.put,sA,sZ,sS]
  rfl
 refine pure_ (i:=1) (N:=some 31) (v:=?_) (a':=?_) M1g rfl rfl (by kernel_rfl) (fun _ _ _ h => h) (Or.inl ⟨by rfl,?_⟩) ?_ ?_
 rotate_left
 ·intro w'
  go_simp
  with_reducible rfl
 rotate_left
 ·simp only [Act.put,sA,sZ,sS]
  rfl
 refine pure_ (i:=2) (N:=some 32) (v:=?_) (a':=?_) M1h rfl rfl (by kernel_rfl) (fun _ _ _ h => h) (Or.inl ⟨by rfl,?_⟩) ?_ ?_
 rotate_left
 ·intro w'
  go_simp
  with_reducible rfl
 rotate_left
 ·simp only [Act.put,sA,sZ,sS]
  rfl
 refine pure_ (i:=3) (N:=some 33) (v:=?_) (a':=?_) M1i rfl rfl (by kernel_rfl) (fun _ _ _ h => h) (Or.inl ⟨by rfl,?_⟩) ?_ ?_
 rotate_left
 ·intro w'
  go_simp
  with_reducible rfl
 rotate_left
 ·simp only [Act.put,sA,sZ,sS]
  rfl
 refine take_ (i:=4) (N:=some 34) (v:=?_) (a':=?_) M1j rfl rfl (by kernel_rfl) (fun _ _ _ h => h) (Or.inl ⟨by rfl,?_⟩) hHeld ?_ ?_
 rotate_left
 ·intro w' s0
  have hc6:w'.cell? ⟨g,6,none⟩ = some (.slice A6 qn c6):=(blk_cell s0 6).trans rfl
  clear s0
  go_simp
  with_reducible rfl
 rotate_left
 ·simp only [Act.put,sA,sZ,sS]
  rfl
 refine pure_ (i:=5) (N:=some 35) (v:=?_) (a':=?_) M1m rfl rfl (by kernel_rfl) (fun _ _ _ h => h) (Or.inl ⟨by rfl,?_⟩) ?_ ?_
 rotate_left
 ·intro w'
  go_simp
  with_reducible rfl
 rotate_left
 ·simp only [Act.put,sA,sZ,sS]
  rfl
 refine one_ (i:=6) (N:=some 36) M1q rfl rfl (by kernel_rfl) (by decide) (fun K hK => ?_)
 refine Kd.R_append_rows_step (Kd.int .u8) (Rr:=fun x cs => cs = [Value.int .u8 x]) (w0:=w) B (by rfl) (.const (.slice none 0 0)) (.tmp 35) 22 5 (.int .u8 0) 1 rfl Try.underlying22 info5' rfl (by decide) (by decide) (.slice none 0 0) [] body Ab n cb (fun k => w2.heap.size ≤ k) (fun _ => False) rfl rfl (Kd.R_nil _ _ _ _ _) (Kd.C_below (by have:=HCB.out; rwa [← HN.out] at this ⊢) HBW.out) (fun _ _ hx => hx) (fun _ hf => hf.elim) (fun k hk => hk) (HBW.out.mono hB) (by have:=HSZ.out; omega) (by have:=HBL.out; have:=HN.out; simp; omega) ?_
 intro v1 w3 hR hbl hg _
 obtain ⟨A1,c1,hv1⟩:=Kd.R_slice hR
 subst hv1
 have hbg:Below w2.heap.size w2 w3:=⟨hg.os,hg.tape,hg.output,hg.size,fun k hk => hg.block k hk (by simp [Value.ownBlock])⟩
 have hb3:Below w.heap.size w w3:=HBW.out.trans (hbg.mono HBW.out.size)
 have HB3:=Lib.hid hb3
 have HR3:=Lib.hid (show (Kd.int .u8).R 5 w3 B (fun k => w2.heap.size ≤ k) _ body from hR)
 have hS3:w3.heap[g]? = some (.cells (row L (.slice A6 qn c6) o) 131 (0,0)):=(hbg.block g (blk_lt hHeld)).trans hHeld
 clear hR hbl hg hbg hb3 hHeld
 refine hK.out _ _ hS3 (fun hHeld => ?_)
 clear hK K hS3
 refine norm_ (a':=?_) ?_ ?_
 rotate_left
 ·show Act.put _ (some 36) _ = _
  simp only [Act.put,sA,sZ,sS]
  rfl
 refine one_ (i:=7) (N:=some 37) M1u rfl rfl (by kernel_rfl) (by decide) (fun K hK => ?_)
 refine value_ (v:=.slice (some ⟨w3.heap.size,0,none⟩) 1 1) (by rfl) rfl (w1:=w3.alloc (.cells #[.slice A1 ([] ++ body).length c1] 22)) ?_ ?_
 ·first | (go_simp; done) | (go_simp; rfl)
 have hb4:=(Below.refl w3.heap.size w3).alloc (Nat.le_refl _) (.cells #[.slice A1 ([] ++ body).length c1] 22)
 have HS3:=Lib.hid hHeld
 refine hK.out _ _ ((hb4.block g (blk_lt hHeld)).trans hHeld) (fun hHeld => ?_)
 clear hK K
 refine norm_ (a':=?_) ?_ ?_
 rotate_left
 ·show Act.put _ (some 37) _ = _
  simp only [Act.put,sA,sZ,sS]
  rfl
 refine one_ (i:=8) (N:=some 38) M1y rfl rfl (by kernel_rfl) (by decide) (fun K hK => ?_)
 have hq3:=Kd.Q_below H0.out.queue HB3.out
 have hown:∀ k,(Value.slice A6 qn c6).ownBlock = some k → okq k:=fun k hk => Kd.Q_ok H0.out.queue k hk
 have hR3:(Kd.int .u8).R 5 w3 B (fun k => w2.heap.size ≤ k ∧ k < w3.heap.size) (.slice A1 ([] ++ body).length c1) body:=Kd.R_mono (Kd.R_bound HR3.out) (fun k hk => ⟨hk.1,hk.2.2.1⟩)
 have hM3:bytes.M w3 B (fun k => w2.heap.size ≤ k ∧ k < w3.heap.size) body [.slice A1 ([] ++ body).length c1]:=⟨_,rfl,hR3⟩
 refine Kd.Q_append_step (W:=w3) (w0:=w) bytes B ?hw (.tmp 34) (.tmp 37) 45 22 (.slice none 0 0) 24 ?ho ?ht ?hi ?hz ?hs0 ?hb0 (.slice A6 qn c6) L.queue body [.slice A1 ([] ++ body).length c1] (fun k => okq k ∨ w.heap.size ≤ k) (fun k => w2.heap.size ≤ k ∧ k < w3.heap.size) ?hs ?hx ?hp ?hokp ?hf ?HO ?HB ?hb ?hl ?h
 case hw => rfl
 case ho => rfl
 case ht => exact Try.underlying45
 case hi => exact info22
 case hz => rfl
 case hs0 => decide
 case hb0 => decide
 case hs => rfl
 case hx => rfl
 case hp => exact hM3
 case hokp => exact fun k hk => ⟨.inr (by have:=HSZ.out; omega),fun he => by have:=(H0.out.old k (.inl (hown k he.symm))).1; have:=HSZ.out; omega⟩
 case hf => exact fun k hk => .inr (by have:=HB3.out.size; omega)
 case HO => exact Kd.Q_mono hq3 (fun _ hk => .inl hk)
 case HB => exact HB3.out.mono hB
 case hb => have:=HB3.out.size; omega
 case hl => have:=HQN.out; have:=HQL.out; omega
 intro o1 w4 hQ hbl hg _
 obtain ⟨A2,c2,ho1,hlo⟩:=Kd.Q_slice hQ
 generalize (L.queue ++ [body]).length = n1 at ho1
 subst ho1
 have hK4:Kept w w4 okq:=Kept.of_grown hg (Kept.of_below HB3.out okq) (fun k hk => .inl (hown k hk))
 have hX4:w4.heap[g]? = some (.cells (row L (.slice A6 qn c6) o) 131 (0,0)):=blk_kept H0.out.blk hK4 (fun ho => (H0.out.old g (.inl ho)).2 rfl)
 have HK4:=Lib.hid hK4
 have HX4:=Lib.hid hX4
 have HQ4:=Lib.hid hQ
 have HBL4:=Lib.hid hbl
 clear hbl hg hown HS3 hq3 hR3 hM3 hK4 hQ hlo hHeld
 refine hK.out _ _ hX4 (fun hHeld => ?_)
 clear hK K hX4
 refine norm_ (a':=?_) ?_ ?_
 rotate_left
 ·show Act.put _ (some 38) _ = _
  simp only [Act.put,sA,sZ,sS]
  rfl
 refine pure_ (i:=9) (N:=some 39) (v:=?_) (a':=?_) M1D rfl rfl (by kernel_rfl) (fun _ _ _ h => h) (Or.inl ⟨by rfl,?_⟩) ?_ ?_
 rotate_left
 ·intro w'
  go_simp
  with_reducible rfl
 rotate_left
 ·simp only [Act.put,sA,sZ,sS]
  rfl
 refine pure_ (i:=10) (N:=some 40) (v:=?_) (a':=?_) M1I rfl rfl (by kernel_rfl) (fun _ _ _ h => h) (Or.inl ⟨by rfl,?_⟩) ?_ ?_
 rotate_left
 ·intro w'
  go_simp
  with_reducible rfl
 rotate_left
 ·simp only [Act.put,sA,sZ,sS]
  rfl
 refine last_ (i:=11) (N:=none) M1N rfl rfl (by kernel_rfl) (by decide) (fun K hK => ?_)
 have hz1:w4.cell? ⟨g,6,none⟩ = some (.slice A6 qn c6):=(blk_cell HX4.out 6).trans rfl
 have hz2:=blk_frozen HX4.out 6
 refine skip_F (fun wz => At wz B (fun k => okq k ∨ w.heap.size ≤ k ∧ k < w4.heap.size) oko g { L with queue:=L.queue ++ [body] } (.slice A2 n1 c2) o ∧ wz.heap.size = w4.heap.size ∧ Kept w wz (fun k => okq k ∨ k = g) ∧ Below B w wz) (by rfl) rfl ⟨_,by first | (go_simp; done) | (go_simp; rfl),?_,?_,?_,?_⟩ (fun w5 hF => ?_)
 ·have hs4:=HK4.out.1
  have hgl:=hgl
  refine At.put' HX4.out 6 _ rfl (Kd.Q_mono (Kd.Q_bound HQ4.out) (fun k hk => hk.1.elim (fun h => .inl h) (fun h => .inr ⟨h,hk.2.2.1⟩))) (Kd.R_kept H0.out.out HK4.out (fun k ho hq => H0.out.apart k hq ho)) H0.out.low (fun k hk ho => hk.elim (fun h => H0.out.apart k h ho) (fun hn => by have:=(H0.out.old k (.inr ho)).1; omega)) (fun k hk => ?_)
  rcases hk with (hk | hk) | hk
  ·have:=H0.out.old k (.inl hk); exact ⟨by omega,this.2⟩
  ·exact ⟨hk.2,by omega⟩
  ·have:=H0.out.old k (.inr hk); exact ⟨by omega,this.2⟩
 ·simp [World.setCell]
 ·exact (HK4.out.mono (fun k hk => .inl hk)).setCell (p:=⟨g,6,none⟩) (.inl (.inr rfl)) _
 ·exact HBL4.out.setCell (p:=⟨g,6,none⟩) H0.out.low _
 have HF:=Lib.hid hF
 clear hF hz1 hz2 hHeld
 refine hK.out _ _ ?_
 clear hK K
 refine done_ (by kernel_rfl) ?_
 have OK5:=Lib.hid (sendq_ok OK.out (body:=body) (by have:=HBL.out; have:=HN.out; omega) (by have:=HQL.out; have:=HQN.out; omega))
 go_wp2_with (first | (go_at_call 74; (refine (fill_of HF.out.1 OK5.out (by rw [HF.out.2.1]; exact Nat.le_trans hB HK4.out.1)).mono ?_); (rintro e w9 ⟨rfl,hE⟩); (have HE:=Lib.hid hE); (clear hE)))
 all_goals (go_ret; refine ⟨rfl,?_⟩)
 refine Turns.trans (L:={ L with queue:=L.queue ++ [body] }) ⟨⟨_,_,_,_,HF.out.1,fun k hk => ?_⟩,HF.out.2.2.1.mono (fun k hk => HOW.out k (hk.elim .inl (fun h => .inr (.inr h)))),HF.out.2.2.2⟩ (Emits.turns (fun k hk => ?_) HE.out)
 ·rw [HF.out.2.1]
  rcases hk with (hk | hk) | hk | hk
  ·exact .inl (HOW.out k (.inl hk))
  ·exact .inr hk
  ·exact .inl (HOW.out k (.inr (.inl hk)))
  ·exact .inl (HOW.out k (.inr (.inr hk)))
 ·rw [HF.out.2.1]
  rcases hk with (hk | hk) | hk | hk
  ·exact .inl (HOW.out k (.inl hk))
  ·exact .inr hk
  ·exact .inl (HOW.out k (.inr (.inl hk)))
  ·exact .inl (HOW.out k (.inr (.inr hk)))
set_option maxRecDepth 100000 in
set_option maxHeartbeats 1000000 in
theorem send_of {w:World} {B g:Nat} {okq oko:Nat → Prop} {L:Lk} {q o:Value} (h:At w B okq oko g L q o) (hok:L.Ok) (hB:B ≤ w.heap.size) (body:List Int) (Ab:Option Addr) (cb:Nat) (hC:(Kd.int .u8).C w Ab body.length body) {own:Nat → Prop} (ho:∀ k,holds okq oko g k → own k) :
  Calls Try.prog 30 #[.pointer (some ⟨g,0,none⟩),.slice Ab body.length cb] w fun e w' => e = .returned (.int .i64 (sendE L body.length)) ∧ Turns w B own g (sendL L body) w':=by
 have same:∀ m,Turns w B own g L (w.drewN m):=fun m => (Turns.same ⟨okq,oko,q,o,h,ho⟩).below hB (pw_below_drewN (Below.refl _ _) m)
 by_cases hp:L.phase = 2
 ·by_cases hl:body.length = 0 ∨ 1000 < body.length
  ·have hE:sendE L body.length = 112:=by unfold sendE; rw [if_pos hp,if_pos hl]
   have hL:sendL L body = L:=by unfold sendL; rw [hE,if_neg (by decide)]
   rw [hE,hL]
   refine (send_long h hok hB body Ab cb hC hp hl).mono ?_
   rintro e w' ⟨rfl,m,rfl⟩
   exact ⟨rfl,same m⟩
  ·by_cases hq:64 ≤ L.queue.length
   ·have hE:sendE L body.length = 113:=by unfold sendE; rw [if_pos hp,if_neg hl,if_pos hq]
    have hL:sendL L body = L:=by unfold sendL; rw [hE,if_neg (by decide)]
    rw [hE,hL]
    refine (send_full h hok hB body Ab cb hC hp hl hq).mono ?_
    rintro e w' ⟨rfl,m,rfl⟩
    exact ⟨rfl,same m⟩
   ·have hE:sendE L body.length = 0:=by unfold sendE; rw [if_pos hp,if_neg hl,if_neg hq]
    have hL:sendL L body = fill_ { L with queue:=L.queue ++ [body] }:=by unfold sendL; rw [hE,if_pos rfl]
    rw [hE,hL]
    exact send_ok h hok hB body Ab cb hC hp hl hq ho
 ·have hE:sendE L body.length = 110:=by unfold sendE; rw [if_neg hp]
  have hL:sendL L body = L:=by unfold sendL; rw [hE,if_neg (by decide)]
  rw [hE,hL]
  refine (send_shut h hok hB body Ab cb hC hp).mono ?_
  rintro e w' ⟨rfl,rfl⟩
  exact ⟨rfl,Turns.same ⟨okq,oko,q,o,h,ho⟩⟩
end Go.Proofs.Ytnkkgofpifhoeaa.Lk
end
section
namespace Go.Proofs.Ytnkkgofpifhoeaa.Lk
open Go.RowKit Go.Proofs.Ytnkkgofpifhoeaa.Base Go.Proofs.Ytnkkgofpifhoeaa.Steps Go.Proofs.YtnkkgofpifhoeaaW.PrintWords Go.Proofs.YtnkkgofpifhoeaaW.PrintLast
theorem far_of (a b:Int) (w:World):Calls Try.prog 106 #[.int .u32 a,.int .u32 b] w fun e w' => e = .returned (.int .u32 (IntKind.u32.wrap (b - a))) ∧ w = w':=by
 go_enter Try.func106,Try.ntmps106
 go_wp2
 all_goals (go_ret; exact ⟨rfl,rfl⟩)
theorem ahead_of (a b:Int) (w:World):Calls Try.prog 79 #[.int .u32 a,.int .u32 b] w fun e w' => e = .returned (.int .u32 (IntKind.u32.wrap (b - a))) ∧ w = w':=by
 go_enter Try.func79,Try.ntmps79
 go_wp2_with (go_at_call 106; refine (far_of _ _ _).mono ?_; rintro e w1 ⟨rfl,rfl⟩)
 all_goals (go_ret; exact ⟨rfl,rfl⟩)
theorem token_of {w:World} {B g:Nat} {own:Nat → Prop} {L:Lk} (h:End w B own g L):Calls Try.prog 71 #[.pointer (some ⟨g,0,none⟩)] w fun e w' => e = .returned (.int .u32 L.token) ∧ w = w':=by
 obtain ⟨okq,oko,q,o,h,_⟩:=h
 have hc1:w.cell? ⟨g,2,none⟩ = some (.int .u32 L.token):=(blk_cell h.blk 2).trans rfl
 clear h
 go_enter Try.func71,Try.ntmps71
 go_wp2
 all_goals (go_ret; exact ⟨rfl,rfl⟩)
theorem peer_of {w:World} {B g:Nat} {own:Nat → Prop} {L:Lk} (h:End w B own g L):Calls Try.prog 129 #[.pointer (some ⟨g,0,none⟩)] w fun e w' => e = .returned (.tuple #[.int .u32 (if L.known then L.boot else 0),.int .u32 (if L.known then L.yours else 0)]) ∧ Below w.heap.size w w':=by
 obtain ⟨okq,oko,q,o,h,_⟩:=h
 have hc3:w.cell? ⟨g,3,none⟩ = some (.int .u32 L.boot):=(blk_cell h.blk 3).trans rfl
 have hc4:w.cell? ⟨g,4,none⟩ = some (.int .u32 L.yours):=(blk_cell h.blk 4).trans rfl
 have hc5:w.cell? ⟨g,5,none⟩ = some (.bool L.known):=(blk_cell h.blk 5).trans rfl
 clear h
 cases hk:L.known
 ·rw [hk] at hc5
  rw [if_neg (by decide),if_neg (by decide)]
  clear hk
  go_enter Try.func129,Try.ntmps129
  go_wp2_with fail
  try go_quiet (fail)
  go_wp2
  all_goals (go_ret2; refine ⟨rfl,?_⟩; first | exact Below.refl _ _ | exact bl_drew (Below.refl _ _) | exact pw_below_drewN (Below.refl _ _) _)
 ·rw [hk] at hc5
  rw [if_pos rfl,if_pos rfl]
  clear hk
  go_enter Try.func129,Try.ntmps129
  go_wp2_with fail
  try go_quiet (fail)
  go_wp2
  all_goals (go_ret2; refine ⟨rfl,?_⟩; first | exact Below.refl _ _ | exact bl_drew (Below.refl _ _) | exact pw_below_drewN (Below.refl _ _) _)
end Go.Proofs.Ytnkkgofpifhoeaa.Lk
end
section
namespace Go.Proofs.Ytnkkgofpifhoeaa.Lk
open Go.RowKit Go.Proofs.Ytnkkgofpifhoeaa.Base Go.Proofs.Ytnkkgofpifhoeaa.Steps Go.Proofs.YtnkkgofpifhoeaaW.PrintWords Go.Proofs.YtnkkgofpifhoeaaW.PrintLast
def meantF (L:Lk) (p:Pkt):Bool:=decide (p.boot = L.own ∧ p.yours = L.token)
set_option maxHeartbeats 1000000 in
theorem meant_of {w:World} {B g:Nat} {okq oko:Nat → Prop} {L:Lk} {q o:Value} (h:At w B okq oko g L q o) (p:Pkt) (b:Value):Calls Try.prog 77 #[.pointer (some ⟨g,0,none⟩),.agg #[.int .i64 p.kind,.int .u32 p.mine,.int .u32 p.boot,.int .u32 p.yours,.int .u32 p.seq,.int .u32 p.ack,.int .u32 p.stamp,.int .u32 p.echo,.complex .f64 p.zr p.zi,b]] w fun e w' => e = .returned (.bool (meantF L p)) ∧ Below w.heap.size w w':=by
 have hbl:=(Below.refl w.heap.size w).alloc (Nat.le_refl _) (.cells #[.int .i64 p.kind,.int .u32 p.mine,.int .u32 p.boot,.int .u32 p.yours,.int .u32 p.seq,.int .u32 p.ack,.int .u32 p.stamp,.int .u32 p.echo,.complex .f64 p.zr p.zi,b] 27)
 have h1:=h.below hbl
 generalize hw:w.alloc (.cells #[.int .i64 p.kind,.int .u32 p.mine,.int .u32 p.boot,.int .u32 p.yours,.int .u32 p.seq,.int .u32 p.ack,.int .u32 p.stamp,.int .u32 p.echo,.complex .f64 p.zr p.zi,b] 27) = w1 at *
 have hcb:=heap_alloc_new w (.cells #[.int .i64 p.kind,.int .u32 p.mine,.int .u32 p.boot,.int .u32 p.yours,.int .u32 p.seq,.int .u32 p.ack,.int .u32 p.stamp,.int .u32 p.echo,.complex .f64 p.zr p.zi,b] 27)
 rw [hw] at hcb
 have hk0:w1.cell? ⟨g,0,none⟩ = some (.int .u32 L.own):=(blk_cell h1.blk 0).trans rfl
 have hk2:w1.cell? ⟨g,2,none⟩ = some (.int .u32 L.token):=(blk_cell h1.blk 2).trans rfl
 have hp2:w1.cell? ⟨w.heap.size,2,none⟩ = some (.int .u32 p.boot):=(blk_cell hcb 2).trans rfl
 have hp3:w1.cell? ⟨w.heap.size,3,none⟩ = some (.int .u32 p.yours):=(blk_cell hcb 3).trans rfl
 have HB:=Lib.hid hbl
 clear h h1 hcb hbl
 unfold meantF
 generalize L.own = lo at *
 generalize L.token = lt at *
 by_cases h1:p.boot = lo
 ·have hd:decide (p.boot = lo) = true:=by simp [h1]
  have he:(p.boot == lo) = true:=by simp [h1]
  clear h1
  go_enter Try.func77,Try.ntmps77
  go_wp2_with fail
  go_quiet (fail)
  go_wp2
  go_ret
  have h1:p.boot = lo:=by simpa using hd
  refine ⟨?_,by first | exact HB.out | exact pw_below_drewN HB.out _ | exact bl_drew HB.out⟩
  simp only [h1,true_and]
  first | rfl | (congr 1; simp [h1]; done) | (congr 2; by_cases h2:p.yours = lt <;> simp [h2])
 ·have hd:decide (p.boot = lo) = false:=by simp [h1]
  have he:(p.boot == lo) = false:=by simp [h1]
  clear h1
  go_enter Try.func77,Try.ntmps77
  go_wp2_with fail
  go_quiet (fail)
  go_wp2
  go_ret
  have h1:¬ p.boot = lo:=by simpa using hd
  refine ⟨?_,by first | exact HB.out | exact pw_below_drewN HB.out _ | exact bl_drew HB.out⟩
  simp [h1]
end Go.Proofs.Ytnkkgofpifhoeaa.Lk
end
section
namespace Go.Proofs.Ytnkkgofpifhoeaa.Lk
open Go.RowKit Go.Proofs.Ytnkkgofpifhoeaa.Base Go.Proofs.Ytnkkgofpifhoeaa.Steps Go.Proofs.YtnkkgofpifhoeaaW.PrintWords Go.Proofs.YtnkkgofpifhoeaaW.PrintLast
def ageF (L:Lk) (boot mine:Int):Int:=if boot < L.boot then -1 else if boot = L.boot then (if mine < L.yours then -1 else if mine = L.yours then 0 else 1) else 1
set_option maxHeartbeats 1000000 in
theorem age_of {w:World} {B g:Nat} {okq oko:Nat → Prop} {L:Lk} {q o:Value} (h:At w B okq oko g L q o) (boot mine:Int):Calls Try.prog 76 #[.pointer (some ⟨g,0,none⟩),.int .u32 boot,.int .u32 mine] w fun e w' => e = .returned (.int .i64 (ageF L boot mine)) ∧ w = w':=by
 have hc3:w.cell? ⟨g,3,none⟩ = some (.int .u32 L.boot):=(blk_cell h.blk 3).trans rfl
 have hc4:w.cell? ⟨g,4,none⟩ = some (.int .u32 L.yours):=(blk_cell h.blk 4).trans rfl
 clear h
 unfold ageF
 generalize L.boot = lb at *
 generalize L.yours = ly at *
 by_cases h1:boot < lb
 ·rw [if_pos h1]
  go_enter Try.func76,Try.ntmps76
  go_wp2
  all_goals (go_ret; exact ⟨rfl,rfl⟩)
 ·rw [if_neg h1]
  by_cases h2:boot = lb
  ·subst h2
   rw [if_pos rfl]
   by_cases h3:mine < ly
   ·rw [if_pos h3]
    go_enter Try.func76,Try.ntmps76
    go_wp2
    all_goals (go_ret; exact ⟨rfl,rfl⟩)
   ·rw [if_neg h3]
    by_cases h4:mine = ly
    ·subst h4
     rw [if_pos rfl]
     go_enter Try.func76,Try.ntmps76
     go_wp2
     all_goals (go_ret; exact ⟨rfl,rfl⟩)
    ·rw [if_neg h4]
     go_enter Try.func76,Try.ntmps76
     go_wp2
     all_goals (go_ret; exact ⟨rfl,rfl⟩)
  ·rw [if_neg h2]
   go_enter Try.func76,Try.ntmps76
   go_wp2
   all_goals (go_ret; exact ⟨rfl,rfl⟩)
end Go.Proofs.Ytnkkgofpifhoeaa.Lk
end
section
namespace Go.Proofs.Ytnkkgofpifhoeaa.Lk
open Go.RowKit Go.Proofs.Ytnkkgofpifhoeaa.Base Go.Proofs.Ytnkkgofpifhoeaa.Steps Go.Proofs.YtnkkgofpifhoeaaW.PrintWords Go.Proofs.YtnkkgofpifhoeaaW.PrintLast
theorem out_of {w:World} {B g:Nat} {okq oko:Nat → Prop} {L:Lk} {q o:Value} (h:At w B okq oko g L q o):Calls Try.prog 32 #[.pointer (some ⟨g,0,none⟩)] w fun e w' => e = .returned o ∧ At w' B okq (fun _ => False) g { L with out:=[] } q (.slice none 0 0) ∧ pkt.R 27 w' B oko o L.out ∧ Go.Proofs.Ytnkkgofpifhoeaa.Steps.At g w w':=by
 obtain ⟨A,c,ho⟩:=Kd.R_slice h.out
 have hc11:w.cell? ⟨g,11,none⟩ = some (.slice A L.out.length c):=(blk_cell h.blk 11).trans (by rw [ho]; rfl)
 have HO:=Lib.hid ho
 have H:=Lib.hid h
 clear h ho
 go_enter Try.func32,Try.ntmps32
 go_wp2_with (first | ((with_reducible refine gate_ (.store 53 (.tmp 12) (.const (.slice none 0 0))) rfl ?_); (refine store_F (fun wz => At wz B okq (fun _ => False) g { L with out:=[] } q (.slice none 0 0) ∧ Go.Proofs.Ytnkkgofpifhoeaa.Steps.At g w wz) rfl rfl ⟨_,(by have hz1:World.cell? _ ⟨g,11,none⟩ = some _:=(blk_cell H.out.blk 11).trans rfl; have hz2:=blk_frozen H.out.blk 11; first | (go_simp; done) | (go_simp; rfl)),H.out.put 11 _ rfl H.out.queue (Kd.R_nil _ _ _ _ _) (fun _ _ hf => hf) (fun k hk => H.out.old k (hk.elim (fun x => .inl x) (fun f => False.elim f))),Steps.At.set (Steps.At.refl g w) _ _⟩ (fun w_K1 hF => ?_)); (have K1:=Lib.hid hF); (clear hF)))
 all_goals (go_ret; exact ⟨by rw [HO.out]; rfl,K1.out.1,Kd.R_step H.out.out (fun k hk _ => K1.out.2.block k (H.out.old k (.inr hk)).2),K1.out.2⟩)
end Go.Proofs.Ytnkkgofpifhoeaa.Lk
end
section
namespace Go.Proofs.Ytnkkgofpifhoeaa.Flt
open Ieee
def fin (x:Nat):Bool:=decide (x % 9223372036854775808 < 9218868437227405312)
def nul (x:Nat):Bool:=x % 9223372036854775808 == 0
def neg0 (x:Nat):Bool:=x == 9223372036854775808
inductive Read (x:Nat):Datum → Prop
 | sub (s:Bool) (m:Nat):m = x % 9223372036854775808 → m < 4503599627370496 → Read x (.number s m (-1074))
 | norm (s:Bool) (m k:Nat):4503599627370496 ≤ m → m < 9007199254740992 → x % 9223372036854775808 = (k + 1) * 4503599627370496 + (m - 4503599627370496) → k ≤ 2045 → Read x (.number s m (-1074 + (k:Nat)))
 | inf (s:Bool):x % 9223372036854775808 = 9218868437227405312 → Read x (.infinity s)
 | nan (s:Bool) (q:Nat):9218868437227405312 < x % 9223372036854775808 → Read x (.nan s q)
theorem read_is (x:Nat):Read x (double.read x):=by
 have e1:double.signWeight = 9223372036854775808:=by decide
 have e2:double.binade = 4503599627370496:=by decide
 have e3:double.infRung = 9218868437227405312:=by decide
 have e4:double.leastPlace = -1074:=by decide
 unfold Format.read
 rw [e1,e2,e3,e4]
 simp only
 generalize hs:(x / 9223372036854775808 % 2 == 1) = s
 split
 ·exact .sub s _ rfl (by assumption)
 ·split
  ·rename_i h1 h2
   refine .norm s _ (x % 9223372036854775808 / 4503599627370496 - 1) (by omega) (by omega) (by omega) (by omega)
  ·split
   ·exact .inf s (by assumption)
   ·exact .nan s _ (by omega)
theorem signed_zero (s:Bool) (m k:Nat):signed s m k = 0 ↔ m = 0:=by
 unfold signed
 rw [Nat.shiftLeft_eq]
 have hp:0 < 2 ^ k:=Nat.two_pow_pos k
 constructor
 ·intro h
  split at h
  ·have:m * 2 ^ k = 0:=by omega
   rcases Nat.mul_eq_zero.1 this with h | h <;> omega
  ·have:m * 2 ^ k = 0:=by omega
   rcases Nat.mul_eq_zero.1 this with h | h <;> omega
 ·rintro rfl
  simp
theorem cmp_eq (a b:Int):(some (compare a b) == some Ordering.eq) = decide (a = b):=by
 have:(compare a b == Ordering.eq) = decide (a = b):=by
  by_cases h:a = b
  ·subst h
   simp [compare,compareOfLessAndEq]
  ·have:compare a b ≠ .eq:=by
    simp only [compare,compareOfLessAndEq]
    split
    ·decide
    ·simp [h]
   simp [h]
 simpa using this
theorem zero_is (x:Nat):(double.order x 0 == some .eq) = nul x:=by
 have hz:double.read 0 = .number false 0 (-1074):=by decide +kernel
 unfold Format.order nul
 rw [hz]
 have hr:=read_is x
 generalize double.read x = d at hr ⊢
 cases hr with
 | sub s m h1 h2 =>
  simp only [Datum.order]
  rw [cmp_eq]
  rw [← h1]
  by_cases h:m = 0
  ·subst h
   simp [signed]
  ·have hne:¬ signed s m ((-1074:Int) - min (-1074) (-1074)).toNat = signed false 0 ((-1074:Int) - min (-1074) (-1074)).toNat:=by
    rw [(signed_zero false 0 _).2 rfl]
    exact fun e => h ((signed_zero _ _ _).1 e)
   rw [decide_eq_false hne]
   symm
   rw [beq_eq_false_iff_ne]
   exact h
 | norm s m k h1 h2 h3 h4 =>
  simp only [Datum.order]
  rw [cmp_eq]
  have hne:¬ signed s m ((-1074 + (k:Int)) - min (-1074 + (k:Int)) (-1074)).toNat = signed false 0 ((-1074:Int) - min (-1074 + (k:Int)) (-1074)).toNat:=by
   rw [(signed_zero false 0 _).2 rfl]
   intro e
   have:=(signed_zero _ _ _).1 e
   omega
  rw [decide_eq_false hne]
  symm
  rw [beq_eq_false_iff_ne]
  omega
 | inf s h =>
  simp only [Datum.order,h]
  cases s <;> decide
 | nan s q h =>
  simp only [Datum.order]
  symm
  rw [show (none == some Ordering.eq) = false from rfl,beq_eq_false_iff_ne]
  omega
theorem sub_self_fin (x:Nat) (h:fin x = true):double.sub x x = some 0:=by
 unfold fin at h
 have h':=of_decide_eq_true h
 unfold Format.sub
 have key:∀ (s:Bool) (m:Nat) (i:Int),(Option.map double.write ((Datum.number s m i).sum (Datum.number s m i).opposite)) = some 0:=by
  intro s m i
  simp only [Datum.opposite,Datum.sum,Option.map_some]
  have ht:signed s m (i - min i i).toNat + signed (!s) m (i - min i i).toNat = 0:=by
   unfold signed
   cases s <;> simp <;> omega
  rw [ht]
  cases s <;> rfl
 cases hr:double.read x with
 | number s m i => exact key s m i
 | infinity s =>
  have:=read_is x
  rw [hr] at this
  cases this
  omega
 | nan s q =>
  have:=read_is x
  rw [hr] at this
  cases this
  omega
theorem sub_self_not (x:Nat) (h:fin x = false):double.sub x x = none:=by
 unfold fin at h
 have h':=of_decide_eq_false h
 unfold Format.sub
 cases hr:double.read x with
 | number s m i =>
  have:=read_is x
  rw [hr] at this
  cases this <;> omega
 | infinity s => cases s <;> rfl
 | nan s q => rfl
theorem one_zero:double.div 4607182418800017408 0 = some 9218868437227405312:=by decide +kernel
theorem one_minus:double.div 4607182418800017408 9223372036854775808 = some 18442240474082181120:=by decide +kernel
theorem inf_order:(double.order 9218868437227405312 0 == some .lt) = false:=by decide +kernel
theorem minf_order:(double.order 18442240474082181120 0 == some .lt) = true:=by decide +kernel
theorem nul_cases (x:Nat) (h:x < 18446744073709551616) (hz:nul x = true):x = 0 ∨ x = 9223372036854775808:=by
 unfold nul at hz
 have:=beq_iff_eq.1 hz
 omega
end Go.Proofs.Ytnkkgofpifhoeaa.Flt
end
section
namespace Go.Proofs.Ytnkkgofpifhoeaa.Num
open Go.RowKit Go.Proofs.Ytnkkgofpifhoeaa.Flt Go.Proofs.Ytnkkgofpifhoeaa.Base
section
variable {P:Program}
theorem run_fsub (w:World) (t:TypeId) (x y r:Nat) (h:Ieee.double.sub x y = some r):(binOp .sub t (.float .f64 x) (.float .f64 y)).run P w = .ok (.float .f64 r) w:=by
 simp [binOp,Op.floatArith,FloatKind.format,h]
theorem run_fdiv (w:World) (t:TypeId) (x y r:Nat) (h:Ieee.double.div x y = some r):(binOp .quo t (.float .f64 x) (.float .f64 y)).run P w = .ok (.float .f64 r) w:=by
 simp [binOp,Op.floatArith,FloatKind.format,h]
theorem nan_cut (x y t:Nat):nul (Question.cut (.nanBits .f64 x y) t) = false:=by
 unfold nul
 rw [beq_eq_false_iff_ne]
 show ((t % 2) * 2 ^ 63 + 0x7ff0000000000000 + 1 + (t / 2) % (2 ^ 52 - 1)) % 9223372036854775808 ≠ 0
 have h1:=Nat.mod_lt (t / 2) (show 0 < 2 ^ 52 - 1 by decide)
 have h2:=Nat.mod_lt t (show 0 < 2 by decide)
 generalize t % 2 = a at h2 ⊢
 generalize t / 2 % (2 ^ 52 - 1) = b at h1 ⊢
 omega
theorem run_fsub_nan (w:World) (t:TypeId) (x y:Nat) (h:Ieee.double.sub x y = none):∃ r,nul r = false ∧ (binOp .sub t (.float .f64 x) (.float .f64 y)).run P w = .ok (.float .f64 r) w.drew:=by
 obtain ⟨q,hq⟩:∃ q,q = Question.nanBits .f64 x y:=⟨_,rfl⟩
 refine ⟨q.cut (w.tape w.drawn q),by rw [hq]; exact nan_cut _ _ _,?_⟩
 simp [binOp,Op.floatArith,FloatKind.format,h]
 rw [← hq]
 have hf:q.forced = false:=by rw [hq]; rfl
 simp [hf]
end
theorem fzero (x:Nat):(FloatKind.f64.format.order x 0 == some Ordering.eq) = nul x:=zero_is x
theorem finite_no (x:Nat) (h:fin x = false) (w:World):Calls Try.prog 122 #[.float .f64 x] w fun e w' => e = .returned (.bool false) ∧ ∃ n,w' = w.drewN n:=by
 obtain ⟨r,hr,hs⟩:=run_fsub_nan (P:=Try.prog) w 38 x x (sub_self_not x h)
 go_enter Try.func122,Try.ntmps122
 go_wp2
 go_ret
 exact ⟨ret_bool (by rw [fzero,hr]),1,rfl⟩
theorem finite_yes (x:Nat) (h:fin x = true) (w:World):Calls Try.prog 122 #[.float .f64 x] w fun e w' => e = .returned (.bool true) ∧ ∃ n,w' = w.drewN n:=by
 have hs:=run_fsub (P:=Try.prog) w 38 x x 0 (sub_self_fin x h)
 go_enter Try.func122,Try.ntmps122
 go_wp2
 go_ret
 exact ⟨ret_bool (by rw [fzero]; rfl),0,rfl⟩
def placeB (p q:Nat):Bool:=fin p && fin q && !(neg0 p) && !(neg0 q)
theorem right_p (p q:Nat) (w:World) (h:fin p = false) :
  Calls Try.prog 99 #[.agg #[.int .i64 2,.int .i64 0,.complex .f64 p q,.string ⟨#[]⟩,.int .i64 0,.int .u32 0,.int .u64 0,.slice none 0 0,.slice none 0 0]] w fun e w' => e = .returned (.bool false) ∧ Below w.heap.size w w':=by
 go_enter Try.func99,Try.ntmps99
 go_wp2_with fail
 go_quiet (fail)
 go_wp2_with fail
 refine (finite_no p h _).mono ?_
 rintro e w' ⟨rfl,n0,rfl⟩
 go_wp2_with fail
 go_ret
 exact ⟨rfl,bl_drewN ((Below.refl _ _).alloc (Nat.le_refl _) _) _⟩
theorem right_q (p q:Nat) (w:World) (h:fin p = true) (h2:fin q = false) :
  Calls Try.prog 99 #[.agg #[.int .i64 2,.int .i64 0,.complex .f64 p q,.string ⟨#[]⟩,.int .i64 0,.int .u32 0,.int .u64 0,.slice none 0 0,.slice none 0 0]] w fun e w' => e = .returned (.bool false) ∧ Below w.heap.size w w':=by
 go_enter Try.func99,Try.ntmps99
 go_wp2_with fail
 go_quiet (fail)
 go_wp2_with fail
 refine (finite_yes p h _).mono ?_
 rintro e w' ⟨rfl,n0,rfl⟩
 go_wp2_with fail
 refine (finite_no q h2 _).mono ?_
 rintro e w' ⟨rfl,n1,rfl⟩
 go_wp2_with fail
 go_ret
 exact ⟨rfl,bl_drewN ((Below.refl _ _).alloc (Nat.le_refl _) _) _⟩
theorem right_AA (p:Nat) (q:Nat) (w:World) (f1:fin p = true) (hp:nul p = false) (f2:fin q = true) (hq:nul q = false) :
  Calls Try.prog 99 #[.agg #[.int .i64 2,.int .i64 0,.complex .f64 p q,.string ⟨#[]⟩,.int .i64 0,.int .u32 0,.int .u64 0,.slice none 0 0,.slice none 0 0]] w fun e w' => e = .returned (.bool true) ∧ Below w.heap.size w w':=by
 have ep:(FloatKind.f64.format.order p 0 == some Ordering.eq) = false:=by rw [fzero,hp]
 have eq:(FloatKind.f64.format.order q 0 == some Ordering.eq) = false:=by rw [fzero,hq]
 go_enter Try.func99,Try.ntmps99
 go_wp2_with fail
 go_quiet (fail)
 go_wp2_with fail
 refine (finite_yes p f1 _).mono ?_
 rintro e w' ⟨rfl,n0,rfl⟩
 go_wp2_with fail
 refine (finite_yes q f2 _).mono ?_
 rintro e w' ⟨rfl,n1,rfl⟩
 go_wp2_with fail
 go_ret
 exact ⟨rfl,bl_drewN ((Below.refl _ _).alloc (Nat.le_refl _) _) _⟩
theorem right_AB (p:Nat) (w:World) (f1:fin p = true) (hp:nul p = false) :
  Calls Try.prog 99 #[.agg #[.int .i64 2,.int .i64 0,.complex .f64 p 0,.string ⟨#[]⟩,.int .i64 0,.int .u32 0,.int .u64 0,.slice none 0 0,.slice none 0 0]] w fun e w' => e = .returned (.bool true) ∧ Below w.heap.size w w':=by
 have ep:(FloatKind.f64.format.order p 0 == some Ordering.eq) = false:=by rw [fzero,hp]
 have eq:(FloatKind.f64.format.order 0 0 == some Ordering.eq) = true:=by rw [fzero]; rfl
 have dq:=fun (W:World) => run_fdiv (P:=Try.prog) W 38 4607182418800017408 0 9218868437227405312 one_zero
 have lq:(FloatKind.f64.format.order 9218868437227405312 0 == some Ordering.lt) = false:=inf_order
 go_enter Try.func99,Try.ntmps99
 go_wp2_with fail
 go_quiet (fail)
 go_wp2_with fail
 refine (finite_yes p f1 _).mono ?_
 rintro e w' ⟨rfl,n0,rfl⟩
 go_wp2_with fail
 refine (finite_yes 0 (by decide +kernel) _).mono ?_
 rintro e w' ⟨rfl,n1,rfl⟩
 go_wp2_with fail
 go_ret
 exact ⟨rfl,bl_drewN ((Below.refl _ _).alloc (Nat.le_refl _) _) _⟩
theorem right_AC (p:Nat) (w:World) (f1:fin p = true) (hp:nul p = false) :
  Calls Try.prog 99 #[.agg #[.int .i64 2,.int .i64 0,.complex .f64 p 9223372036854775808,.string ⟨#[]⟩,.int .i64 0,.int .u32 0,.int .u64 0,.slice none 0 0,.slice none 0 0]] w fun e w' => e = .returned (.bool false) ∧ Below w.heap.size w w':=by
 have ep:(FloatKind.f64.format.order p 0 == some Ordering.eq) = false:=by rw [fzero,hp]
 have eq:(FloatKind.f64.format.order 9223372036854775808 0 == some Ordering.eq) = true:=by rw [fzero]; rfl
 have dq:=fun (W:World) => run_fdiv (P:=Try.prog) W 38 4607182418800017408 9223372036854775808 18442240474082181120 one_minus
 have lq:(FloatKind.f64.format.order 18442240474082181120 0 == some Ordering.lt) = true:=minf_order
 go_enter Try.func99,Try.ntmps99
 go_wp2_with fail
 go_quiet (fail)
 go_wp2_with fail
 refine (finite_yes p f1 _).mono ?_
 rintro e w' ⟨rfl,n0,rfl⟩
 go_wp2_with fail
 refine (finite_yes 9223372036854775808 (by decide +kernel) _).mono ?_
 rintro e w' ⟨rfl,n1,rfl⟩
 go_wp2_with fail
 go_ret
 exact ⟨rfl,bl_drewN ((Below.refl _ _).alloc (Nat.le_refl _) _) _⟩
theorem right_BA (q:Nat) (w:World) (f2:fin q = true) (hq:nul q = false) :
  Calls Try.prog 99 #[.agg #[.int .i64 2,.int .i64 0,.complex .f64 0 q,.string ⟨#[]⟩,.int .i64 0,.int .u32 0,.int .u64 0,.slice none 0 0,.slice none 0 0]] w fun e w' => e = .returned (.bool true) ∧ Below w.heap.size w w':=by
 have ep:(FloatKind.f64.format.order 0 0 == some Ordering.eq) = true:=by rw [fzero]; rfl
 have dp:=fun (W:World) => run_fdiv (P:=Try.prog) W 38 4607182418800017408 0 9218868437227405312 one_zero
 have lp:(FloatKind.f64.format.order 9218868437227405312 0 == some Ordering.lt) = false:=inf_order
 have eq:(FloatKind.f64.format.order q 0 == some Ordering.eq) = false:=by rw [fzero,hq]
 go_enter Try.func99,Try.ntmps99
 go_wp2_with fail
 go_quiet (fail)
 go_wp2_with fail
 refine (finite_yes 0 (by decide +kernel) _).mono ?_
 rintro e w' ⟨rfl,n0,rfl⟩
 go_wp2_with fail
 refine (finite_yes q f2 _).mono ?_
 rintro e w' ⟨rfl,n1,rfl⟩
 go_wp2_with fail
 go_ret
 exact ⟨rfl,bl_drewN ((Below.refl _ _).alloc (Nat.le_refl _) _) _⟩
theorem right_BB  (w:World)  :
  Calls Try.prog 99 #[.agg #[.int .i64 2,.int .i64 0,.complex .f64 0 0,.string ⟨#[]⟩,.int .i64 0,.int .u32 0,.int .u64 0,.slice none 0 0,.slice none 0 0]] w fun e w' => e = .returned (.bool true) ∧ Below w.heap.size w w':=by
 have ep:(FloatKind.f64.format.order 0 0 == some Ordering.eq) = true:=by rw [fzero]; rfl
 have dp:=fun (W:World) => run_fdiv (P:=Try.prog) W 38 4607182418800017408 0 9218868437227405312 one_zero
 have lp:(FloatKind.f64.format.order 9218868437227405312 0 == some Ordering.lt) = false:=inf_order
 have eq:(FloatKind.f64.format.order 0 0 == some Ordering.eq) = true:=by rw [fzero]; rfl
 have dq:=fun (W:World) => run_fdiv (P:=Try.prog) W 38 4607182418800017408 0 9218868437227405312 one_zero
 have lq:(FloatKind.f64.format.order 9218868437227405312 0 == some Ordering.lt) = false:=inf_order
 go_enter Try.func99,Try.ntmps99
 go_wp2_with fail
 go_quiet (fail)
 go_wp2_with fail
 refine (finite_yes 0 (by decide +kernel) _).mono ?_
 rintro e w' ⟨rfl,n0,rfl⟩
 go_wp2_with fail
 refine (finite_yes 0 (by decide +kernel) _).mono ?_
 rintro e w' ⟨rfl,n1,rfl⟩
 go_wp2_with fail
 go_ret
 exact ⟨rfl,bl_drewN ((Below.refl _ _).alloc (Nat.le_refl _) _) _⟩
theorem right_BC  (w:World)  :
  Calls Try.prog 99 #[.agg #[.int .i64 2,.int .i64 0,.complex .f64 0 9223372036854775808,.string ⟨#[]⟩,.int .i64 0,.int .u32 0,.int .u64 0,.slice none 0 0,.slice none 0 0]] w fun e w' => e = .returned (.bool false) ∧ Below w.heap.size w w':=by
 have ep:(FloatKind.f64.format.order 0 0 == some Ordering.eq) = true:=by rw [fzero]; rfl
 have dp:=fun (W:World) => run_fdiv (P:=Try.prog) W 38 4607182418800017408 0 9218868437227405312 one_zero
 have lp:(FloatKind.f64.format.order 9218868437227405312 0 == some Ordering.lt) = false:=inf_order
 have eq:(FloatKind.f64.format.order 9223372036854775808 0 == some Ordering.eq) = true:=by rw [fzero]; rfl
 have dq:=fun (W:World) => run_fdiv (P:=Try.prog) W 38 4607182418800017408 9223372036854775808 18442240474082181120 one_minus
 have lq:(FloatKind.f64.format.order 18442240474082181120 0 == some Ordering.lt) = true:=minf_order
 go_enter Try.func99,Try.ntmps99
 go_wp2_with fail
 go_quiet (fail)
 go_wp2_with fail
 refine (finite_yes 0 (by decide +kernel) _).mono ?_
 rintro e w' ⟨rfl,n0,rfl⟩
 go_wp2_with fail
 refine (finite_yes 9223372036854775808 (by decide +kernel) _).mono ?_
 rintro e w' ⟨rfl,n1,rfl⟩
 go_wp2_with fail
 go_ret
 exact ⟨rfl,bl_drewN ((Below.refl _ _).alloc (Nat.le_refl _) _) _⟩
theorem right_C (q:Nat) (w:World) (h2:fin q = true) :
  Calls Try.prog 99 #[.agg #[.int .i64 2,.int .i64 0,.complex .f64 9223372036854775808 q,.string ⟨#[]⟩,.int .i64 0,.int .u32 0,.int .u64 0,.slice none 0 0,.slice none 0 0]] w fun e w' => e = .returned (.bool false) ∧ Below w.heap.size w w':=by
 have ep:(FloatKind.f64.format.order 9223372036854775808 0 == some Ordering.eq) = true:=by rw [fzero]; rfl
 have dp:=fun (W:World) => run_fdiv (P:=Try.prog) W 38 4607182418800017408 9223372036854775808 18442240474082181120 one_minus
 have lp:(FloatKind.f64.format.order 18442240474082181120 0 == some Ordering.lt) = true:=minf_order
 go_enter Try.func99,Try.ntmps99
 go_wp2_with fail
 go_quiet (fail)
 go_wp2_with fail
 refine (finite_yes 9223372036854775808 (by decide +kernel) _).mono ?_
 rintro e w' ⟨rfl,n0,rfl⟩
 go_wp2_with fail
 refine (finite_yes q h2 _).mono ?_
 rintro e w' ⟨rfl,n1,rfl⟩
 go_wp2_with fail
 go_ret
 exact ⟨rfl,bl_drewN ((Below.refl _ _).alloc (Nat.le_refl _) _) _⟩
theorem right_any (p q:Nat) (hp:p < 18446744073709551616) (hq:q < 18446744073709551616) (w:World) :
  Calls Try.prog 99 #[.agg #[.int .i64 2,.int .i64 0,.complex .f64 p q,.string ⟨#[]⟩,.int .i64 0,.int .u32 0,.int .u64 0,.slice none 0 0,.slice none 0 0]] w fun e w' => e = .returned (.bool (placeB p q)) ∧ Below w.heap.size w w':=by
 have neg_of:∀ x,nul x = false → neg0 x = false:=by
  intro x h
  unfold nul at h
  unfold neg0
  rw [beq_eq_false_iff_ne] at h ⊢
  omega
 unfold placeB
 cases h1:fin p
 ·exact right_p p q w h1
 cases h2:fin q
 ·exact right_q p q w h1 h2
 cases h3:nul p
 ·rw [neg_of p h3]
  cases h4:nul q
  ·rw [neg_of q h4]
   exact right_AA p q w h1 h3 h2 h4
  ·rcases nul_cases q hq h4 with rfl | rfl
   ·exact right_AB p w h1 h3
   ·exact right_AC p w h1 h3
 ·rcases nul_cases p hp h3 with rfl | rfl
  ·cases h4:nul q
   ·rw [neg_of q h4]
    exact right_BA q w h2 h4
   ·rcases nul_cases q hq h4 with rfl | rfl
    ·exact right_BB w
    ·exact right_BC w
  ·have:neg0 9223372036854775808 = true:=rfl
   rw [this]
   simpa using right_C q w h2
end Go.Proofs.Ytnkkgofpifhoeaa.Num
end
