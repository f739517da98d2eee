/- What the laws of a pair are proved with: links and pairs in memory, what their methods do, what a pair keeps to (part 1). -/
import GoSem.Core.Float
import Derived.WalkKit
import Derived.Below
import Derived.Deep.Draws
import Derived.Laws.Rows
import Derived.Test.YtnkkgofpifhoeaaProg
import Derived.WalkLawsBesides
import Derived.KernelRfl
import Derived.Deep.QuietTactic
import Derived.BigQuiet
import Derived.Outline
import Derived.Lib.Hide
import Derived.OrdersHeld
import Derived.Deep.RegionHeld3
import Derived.Laws.BitsLemmas
import Derived.RowKit
set_option linter.unusedSimpArgs false
set_option linter.unusedVariables false
set_option maxRecDepth 100000
set_option maxHeartbeats 16000000
namespace Go.Proofs.Ytnkkgofpifhoeaa
abbrev J : Bool := true
abbrev I : Bool := false
abbrev VG := #[J,J,J,J,J,J,J,J,J,J,J,J,J,J,J,I]
abbrev Le := #[J,J,J,J,J,J,I]
abbrev aj := #[J,J,J,J,J,J,J,J,J,J,J,I,I,I,J,I]
abbrev au := #[J,J,J,J,J,J,J,J,J,J,J,J,I,I,J,I]
abbrev ax := #[J,J,J,J,J,J,J,J,J,J,J,J,J,I,J,I]
abbrev iQ := #[J,J,J,J,J,J,J,J,I,I,J,I,I,I,J,I]
abbrev iR := #[J,J,J,J,J,J,J,J,J,I,J,I,I,I,J,I]
abbrev Yu := #[I,I,I,I,I,I,I,I,I,I,I,I,I,I,I,I,I,I,I]
abbrev NJ := #[I,I,I,I,I,I,I]
abbrev Yv := #[J,I,I,I,I,I,I,I,I,I,I,I,I,I,I,I,I,I,I]
abbrev Yw := #[J,J,I,I,I,I,I,I,I,I,I,I,I,I,I,I,I,I,I]
abbrev Yx := #[J,J,J,I,I,I,I,I,I,I,I,I,I,I,I,I,I,I,I]
abbrev Yy := #[J,J,J,J,I,I,I,I,I,I,I,I,I,I,I,I,I,I,I]
abbrev Yz := #[J,J,J,J,J,I,I,I,I,I,I,I,I,I,I,I,I,I,I]
abbrev Y0 := #[J,J,J,J,J,J,I,I,I,I,I,I,I,I,I,I,I,I,I]
abbrev Y1 := #[J,J,J,J,J,J,J,I,I,I,I,I,I,I,I,I,I,I,I]
abbrev Y2 := #[J,J,J,J,J,J,J,J,I,I,I,I,I,I,I,I,I,I,I]
abbrev Y3 := #[J,J,J,J,J,J,J,J,J,I,I,I,I,I,I,I,I,I,I]
abbrev Y4 := #[J,J,J,J,J,J,J,J,J,J,I,I,I,I,I,I,I,I,I]
abbrev Y5 := #[J,J,J,J,J,J,J,J,J,J,J,I,I,I,I,I,I,I,I]
abbrev Xa := #[J,J,J,J,I,I,I]
abbrev Y6 := #[J,J,J,J,J,J,J,J,J,J,J,J,I,I,I,I,I,I,I]
abbrev Y7 := #[J,J,J,J,J,J,J,J,J,J,J,J,J,I,I,I,I,I,I]
abbrev Xb := #[J,J,J,J,J,I,I]
abbrev Y8 := #[J,J,J,J,J,J,J,J,J,J,J,J,J,J,I,I,I,I,I]
abbrev Y9 := #[J,J,J,J,J,J,J,J,J,J,J,J,J,J,J,I,I,I,I]
abbrev ZA := #[J,J,J,J,J,J,J,J,J,J,J,J,J,J,J,J,I,I,I]
abbrev ZB := #[J,J,J,J,J,J,J,J,J,J,J,J,J,J,J,J,J,I,I]
abbrev ZC := #[J,J,J,J,J,J,J,J,J,J,J,J,J,J,J,J,J,J,I]
abbrev ZE := #[J,J,J,J,J,J,J,J,J,J,J,J,J,J,J,J,J,J,J]
abbrev NK := #[J,J,J,J,J,J,J]
abbrev Qj := #[I,J,I,I,I,I,I]
abbrev Qk := #[I,J,J,I,I,I,I]
abbrev Ql := #[I,J,J,J,I,I,I]
abbrev kY := #[I,J,J,J,I,J,I]
abbrev kZ := #[J,J,J,J,I,J,I]
abbrev ZF := #[I,I,I,I,I,I,I,I,I,I,I,I,I,I,I,I,I]
abbrev ZG := #[J,I,I,I,I,I,I,I,I,I,I,I,I,I,I,I,I]
abbrev ZH := #[J,J,I,I,I,I,I,I,I,I,I,I,I,I,I,I,I]
abbrev ZI := #[J,J,J,I,I,I,I,I,I,I,I,I,I,I,I,I,I]
abbrev ZJ := #[J,J,J,I,J,I,I,I,I,I,I,I,I,I,I,I,I]
abbrev ZK := #[J,J,J,I,J,J,I,I,I,I,I,I,I,I,I,I,I]
abbrev XK := #[J,J,J,J,J,I]
abbrev ZL := #[J,J,J,I,J,J,J,I,I,I,I,I,I,I,I,I,I]
abbrev ZM := #[I,I,I,I,I,I,I,I,I,I,I,I,I,I,I,I]
abbrev ZN := #[J,J,J,I,J,J,J,I,J,I,I,I,I,I,I,I,I]
abbrev ZO := #[J,I,I,I,I,I,I,I,I,I,I,I,I,I,I,I]
abbrev ZP := #[J,J,J,I,J,J,J,I,J,J,I,I,I,I,I,I,I]
abbrev ZQ := #[J,J,I,I,I,I,I,I,I,I,I,I,I,I,I,I]
abbrev ZR := #[J,J,J,I,J,J,J,I,J,J,J,I,I,I,I,I,I]
abbrev ZT := #[J,J,J,I,I,I,I,I,I,I,I,I,I,I,I,I]
abbrev ZU := #[J,J,J,I,J,J,J,I,J,J,J,I,J,I,I,I,I]
abbrev ZV := #[J,J,J,J,I,I,I,I,I,I,I,I,I,I,I,I]
abbrev ZW := #[J,J,J,I,J,J,J,I,J,J,J,I,J,J,I,I,I]
abbrev ZX := #[J,J,J,J,J,I,I,I,I,I,I,I,I,I,I,I]
abbrev ZY := #[J,J,J,I,J,J,J,I,J,J,J,I,J,J,J,I,I]
abbrev ZZ := #[J,J,J,J,J,I,I,J,I,I,I,I,I,I,I,I]
abbrev Za := #[J,J,J,J,J,J,J,I,J,J,J,I,J,J,J,I,I]
abbrev Zb := #[J,J,J,J,J,I,I,J,I,I,J,I,I,I,I,I]
abbrev Zc := #[J,J,J,J,J,J,J,J,J,J,J,I,J,J,J,I,I]
abbrev ku := #[J,J,J,J,J,J,I,J,I,I,J,I,I,I,I,I]
abbrev kz := #[J,J,J,J,J,I,I,J,I,I,J,I,I,I,J,I]
abbrev M10 := #[J,J,J,J,J,J,J,J,J,J,J,J,J,J,J,I,I]
abbrev M11 := #[J,J,J,J,J,J,J,J,I,I,J,I,I,I,I,I]
abbrev M12 := #[J,J,J,J,J,J,I,J,I,I,J,I,I,I,J,I]
abbrev M13 := #[J,J,J,J,J,J,J,J,J,J,J,J,J,J,J,J,I]
abbrev M14 := #[J,J,J,J,J,J,J,J,J,I,J,I,I,I,I,I]
abbrev Zd := #[J,J,J,J,J,J,J,J,J,J,J,J,J,J,J,J,J]
abbrev lC := #[J,J,J,J,J,J,J,J,J,J,J,I,I,I,I,I]
abbrev lD := #[J,J,J,J,J,J,J,J,J,J,J,J,I,I,I,I]
abbrev lF := #[J,J,J,J,J,J,J,J,J,J,J,J,J,I,I,I]
abbrev lG := #[J,J,J,J,J,J,J,J,J,J,J,J,J,J,I,I]
abbrev Ze := #[J,J,J,J,J,J,J,J,J,J,J,J,J,J,J,J]
abbrev Zf := #[I,I,I,I,I,I,I,I,I,I,I,I]
abbrev Zg := #[J,I,I,I,I,I,I,I,I,I,I,I]
abbrev Zh := #[J,J,I,I,I,I,I,I,I,I,I,I]
abbrev Zi := #[J,J,J,I,I,I,I,I,I,I,I,I]
abbrev Zj := #[J,J,J,J,I,I,I,I,I,I,I,I]
abbrev ay := #[I,I,I,I,I,I,I,I,I,I,I,I,I,I,I]
abbrev az := #[J,I,I,I,I,I,I,I,I,I,I,I,I,I,I]
abbrev bC := #[J,J,I,I,I,I,I,I,I,I,I,I,I,I,I]
abbrev bD := #[J,J,J,I,I,I,I,I,I,I,I,I,I,I,I]
abbrev bF := #[J,J,J,J,I,I,I,I,I,I,I,I,I,I,I]
abbrev Zk := #[J,J,J,J,J,J,J,J,J,I,I,I]
abbrev bG := #[J,J,J,J,J,I,I,I,I,I,I,I,I,I,I]
abbrev Zl := #[J,J,J,J,J,J,J,J,J,J,I,I]
abbrev bH := #[J,J,J,J,J,J,I,I,I,I,I,I,I,I,I]
abbrev bI := #[J,J,J,J,J,J,J,I,I,I,I,I,I,I,I]
abbrev Zm := #[J,J,J,J,J,J,J,J,J,J,J,I]
abbrev bJ := #[J,J,J,J,J,J,J,J,I,I,I,I,I,I,I]
abbrev Zn := #[J,J,J,J,J,J,J,J,J,J,J,J]
abbrev bK := #[J,J,J,J,J,J,J,J,J,I,I,I,I,I,I]
abbrev bM := #[J,J,J,J,J,J,J,J,J,J,I,I,I,I,I]
abbrev bP := #[J,J,J,J,J,J,J,J,J,J,J,I,I,I,I]
abbrev bQ := #[J,J,J,J,J,J,J,J,J,J,J,J,I,I,I]
abbrev bT := #[J,J,J,J,J,J,J,J,J,J,J,J,J,I,I]
abbrev bU := #[J,J,J,J,J,J,J,J,J,J,J,J,J,J,I]
abbrev bV := #[J,J,J,J,J,J,J,J,J,J,J,J,J,J,J]
abbrev bW := #[J,J,J,J,J,J,J,J,J,J,J,I,I]
abbrev bY := #[J,J,J,J,J,I,I,I,I,I,I,I]
abbrev lH := #[I,I,I,I,I,I,I,I,I,I,I,I,I,I,I,I,I,I,I,I,I,I,I,I,I,I,I,I,I,I,I,I,I,I]
abbrev lI := #[J,I,I,I,I,I,I,I,I,I,I,I,I,I,I,I,I,I,I,I,I,I,I,I,I,I,I,I,I,I,I,I,I,I]
abbrev bZ := #[J,J,J,J,J,J,I,I,I,I,I,I]
abbrev lJ := #[J,J,I,I,I,I,I,I,I,I,I,I,I,I,I,I,I,I,I,I,I,I,I,I,I,I,I,I,I,I,I,I,I,I]
abbrev lK := #[J,J,J,I,I,I,I,I,I,I,I,I,I,I,I,I,I,I,I,I,I,I,I,I,I,I,I,I,I,I,I,I,I,I]
abbrev lM := #[J,J,J,J,I,I,I,I,I,I,I,I,I,I,I,I,I,I,I,I,I,I,I,I,I,I,I,I,I,I,I,I,I,I]
abbrev bf := #[J,J,J,J,J,J,J,I,I,I,I,I]
abbrev lN := #[J,J,J,J,J,I,I,I,I,I,I,I,I,I,I,I,I,I,I,I,I,I,I,I,I,I,I,I,I,I,I,I,I,I]
abbrev lQ := #[J,J,J,J,J,J,I,I,I,I,I,I,I,I,I,I,I,I,I,I,I,I,I,I,I,I,I,I,I,I,I,I,I,I]
abbrev lS := #[J,J,J,J,J,J,J,I,I,I,I,I,I,I,I,I,I,I,I,I,I,I,I,I,I,I,I,I,I,I,I,I,I,I]
abbrev bg := #[J,J,J,J,J,J,J,J,I,I,I,I]
abbrev lT := #[J,J,J,J,J,J,J,J,I,I,I,I,I,I,I,I,I,I,I,I,I,I,I,I,I,I,I,I,I,I,I,I,I,I]
abbrev lU := #[J,J,J,J,J,J,J,J,J,I,I,I,I,I,I,I,I,I,I,I,I,I,I,I,I,I,I,I,I,I,I,I,I,I]
abbrev lV := #[J,J,J,J,J,J,J,J,J,J,I,I,I,I,I,I,I,I,I,I,I,I,I,I,I,I,I,I,I,I,I,I,I,I]
abbrev lW := #[J,J,J,J,J,J,J,J,J,J,J,I,I,I,I,I,I,I,I,I,I,I,I,I,I,I,I,I,I,I,I,I,I,I]
abbrev lX := #[J,J,J,J,J,J,J,J,J,J,J,J,I,I,I,I,I,I,I,I,I,I,I,I,I,I,I,I,I,I,I,I,I,I]
abbrev lY := #[J,J,J,J,J,J,J,J,J,J,J,J,J,I,I,I,I,I,I,I,I,I,I,I,I,I,I,I,I,I,I,I,I,I]
abbrev lZ := #[J,J,J,J,J,J,J,J,J,J,J,J,J,J,I,I,I,I,I,I,I,I,I,I,I,I,I,I,I,I,I,I,I,I]
abbrev lg := #[J,J,J,J,J,J,J,J,J,J,J,J,J,J,J,I,I,I,I,I,I,I,I,I,I,I,I,I,I,I,I,I,I,I]
abbrev lu := #[J,J,J,J,J,J,J,J,J,J,J,J,J,J,J,J,I,I,I,I,I,I,I,I,I,I,I,I,I,I,I,I,I,I]
abbrev l7 := #[J,J,J,J,J,J,J,J,J,J,J,J,J,J,J,J,J,I,I,I,I,I,I,I,I,I,I,I,I,I,I,I,I,I]
abbrev mD := #[J,J,J,J,J,J,J,J,J,J,J,J,J,J,J,J,J,J,I,I,I,I,I,I,I,I,I,I,I,I,I,I,I,I]
abbrev mF := #[J,J,J,J,J,J,J,J,J,J,J,J,J,J,J,J,J,J,J,I,I,I,I,I,I,I,I,I,I,I,I,I,I,I]
abbrev mG := #[J,J,J,J,J,J,J,J,J,J,J,J,J,J,J,J,J,J,J,J,I,I,I,I,I,I,I,I,I,I,I,I,I,I]
abbrev mJ := #[J,J,J,J,J,J,J,J,J,J,J,J,J,J,J,J,J,J,J,J,J,I,I,I,I,I,I,I,I,I,I,I,I,I]
abbrev mM := #[J,J,J,J,J,J,J,J,J,J,J,J,J,J,J,J,J,J,J,J,J,J,I,I,I,I,I,I,I,I,I,I,I,I]
abbrev mO := #[J,J,J,J,J,J,J,J,J,J,J,J,J,J,J,J,J,J,J,J,J,J,J,I,I,I,I,I,I,I,I,I,I,I]
abbrev mP := #[J,J,J,J,J,J,J,J,J,J,J,J,J,J,J,J,J,J,J,J,J,J,J,J,I,I,I,I,I,I,I,I,I,I]
abbrev mQ := #[J,J,J,J,J,J,J,J,J,J,J,J,J,J,J,J,J,J,J,J,J,J,J,J,J,I,I,I,I,I,I,I,I,I]
abbrev mV := #[J,J,J,J,J,J,J,J,J,J,J,J,J,J,J,J,J,J,J,J,J,J,J,J,J,J,I,I,I,I,I,I,I,I]
abbrev mW := #[J,J,J,J,J,J,J,J,J,J,J,J,J,J,J,J,J,J,J,J,J,J,J,J,J,J,J,I,I,I,I,I,I,I]
abbrev mX := #[J,J,J,J,J,J,J,J,J,J,J,J,J,J,J,J,J,J,J,J,J,J,J,J,J,J,J,J,I,I,I,I,I,I]
abbrev mY := #[J,J,J,J,J,J,J,J,J,J,J,J,J,J,J,J,J,J,J,J,J,J,J,J,J,J,J,J,J,I,I,I,I,I]
abbrev mZ := #[J,J,J,J,J,J,J,J,J,J,J,J,J,J,J,J,J,J,J,J,J,J,J,J,J,J,J,J,J,J,I,I,I,I]
abbrev M2a := #[J,J,J,J,J,J,J,J,J,J,J,J,J,J,J,J,J,J,J,J,J,J,J,J,J,J,J,J,J,J,J,I,I,I]
abbrev mg := #[J,J,J,J,J,J,J,J,J,J,J,J,J,J,J,J,J,J,J,J,J,J,J,J,J,J,J,J,J,J,J,J,I,I]
abbrev nC := #[J,J,J,J,J,J,J,J,J,J,J,J,J,J,J,J,J,J,J,J,J,J,J,J,J,J,J,J,J,J,J,J,J,I]
abbrev nD := #[J,J,J,J,J,J,J,J,J,J,J,J,J,J,J,J,J,J,J,J,J,J,J,J,J,J,J,J,J,J,J,J,J,J]
abbrev Zo := #[J,I,I,I,I,I,I]
abbrev Zp := #[J,I,J,I,I,I,I]
abbrev Zq := #[J,I,J,J,I,I,I]
abbrev Zr := #[I,I,I,I,I,I]
abbrev Zt := #[I,J,I,I,I,I]
abbrev Zu := #[I,J,J,I,I,I]
abbrev nG := #[J,J,J,I,I,I]
abbrev nH := #[I,J,J,I,J,I]
abbrev nI := #[J,J,J,J,I,I]
abbrev nJ := #[J,J,J,I,J,I]
abbrev Zv := #[J,J,J,J,J,J]
abbrev nK := #[I,I,I,I,I,I,I,I,I,I,I,I,I]
abbrev nM := #[J,I,I,I,I,I,I,I,I,I,I,I,I]
abbrev nN := #[J,J,I,I,I,I,I,I,I,I,I,I,I]
abbrev nO := #[J,J,J,I,I,I,I,I,I,I,I,I,I]
abbrev nP := #[J,J,J,J,I,I,I,I,I,I,I,I,I]
abbrev nR := #[J,J,J,J,J,I,I,I,I,I,I,I,I]
abbrev nS := #[J,J,J,J,J,J,I,I,I,I,I,I,I]
abbrev nT := #[J,J,J,J,J,J,J,I,I,I,I,I,I]
abbrev nU := #[J,J,J,J,J,J,I,I,I,I,J,I,I]
abbrev nV := #[J,J,J,J,J,J,J,J,I,I,I,I,I]
abbrev nX := #[J,J,J,J,J,J,J,I,I,I,J,I,I]
abbrev nY := #[J,J,J,J,J,J,J,J,J,I,I,I,I]
abbrev nZ := #[J,J,J,J,J,J,J,J,I,I,J,I,I]
abbrev ng := #[J,J,J,J,J,J,J,J,J,J,I,I,I]
abbrev ni := #[J,J,J,J,J,J,J,J,J,I,J,I,I]
abbrev ny := #[J,J,J,J,I,I,J,I,I,I,I,I]
abbrev oC := #[J,J,J,J,J,J,J,J,J,J,J,J,I]
abbrev oD := #[J,J,J,J,I,I,J,J,I,I,I,I]
abbrev oG := #[J,J,J,J,J,J,J,J,J,J,J,J,J]
abbrev oH := #[J,J,J,J,I,I,J,J,J,I,I,I]
abbrev oI := #[I,I,I,I,I,I,I,I,I,I,I]
abbrev oJ := #[J,J,J,J,J,I,J,J,J,I,I,I]
abbrev oK := #[J,I,I,I,I,I,I,I,I,I,I]
abbrev oL := #[J,J,I,I,I,I,I,I,I,I,I]
abbrev oM := #[J,J,J,I,I,I,I,I,I,I,I]
abbrev oN := #[J,J,J,J,I,I,I,I,I,I,I]
abbrev oO := #[J,J,J,J,J,I,I,I,I,I,I]
abbrev oP := #[J,J,J,J,J,J,I,I,I,I,I]
abbrev oQ := #[I,I,I,I,I,I,I,I,I,I]
abbrev oU := #[J,J,J,J,J,J,J,I,I,I,I]
abbrev oV := #[J,I,I,I,I,I,I,I,I,I]
abbrev oW := #[J,J,J,J,J,J,J,J,I,I,I]
abbrev oZ := #[J,J,I,I,I,I,I,I,I,I]
abbrev og := #[J,J,J,J,J,J,J,J,J,I,I]
abbrev oh := #[J,J,J,I,I,I,I,I,I,I]
abbrev ou := #[J,J,J,J,J,J,J,J,J,J,I]
abbrev oz := #[J,J,J,J,I,I,I,I,I,I]
abbrev o5 := #[J,J,J,J,J,J,J,J,J,J,J]
abbrev o6 := #[J,J,J,J,I,J,I,I,I,I]
abbrev o7 := #[J,J,J,J,I,J,J,I,I,I]
abbrev o8 := #[J,J,J,J,I,J,J,J,I,I]
abbrev o9 := #[J,J,J,J,J,J,J,J,I,I]
abbrev pF := #[J,J,J,J,J,J,J,J,J,I]
abbrev pG := #[J,J,J,J,J,J,J,J,J,J]
theorem sA {a : Type _} (l : List a) (i : Nat) (x : a) : l.toArray.setIfInBounds i x = (l.set i x).toArray := List.setIfInBounds_toArray l i x
theorem sZ {a : Type _} {x : a} {l : List a} {y : a} : (x :: l).set 0 y = y :: l := List.set_cons_zero
theorem sS {a : Type _} {x : a} {l : List a} {i : Nat} {y : a} : (x :: l).set (i + 1) y = x :: l.set i y := List.set_cons_succ
end Go.Proofs.Ytnkkgofpifhoeaa
namespace Go.Proofs.Ytnkkgofpifhoeaa
theorem iT {p:Prop} (h:p:=by
 rintro e w' ⟨rfl,n0,rfl⟩
 go_wp2_with fail
 refine (Bq q f2 _).mono ?_
 rintro e w' ⟨rfl,n1,rfl⟩
 go_wp2_with fail
 go_ret
 exact ⟨rfl,FP ((Below.refl _ _).alloc (Nat.le_refl _) _) _⟩):p:=h
theorem iU {p:Prop} (h:p:=by
 rintro e w' ⟨rfl,n0,rfl⟩
 go_wp2_with fail
 refine (Bq 0 (by decide +kernel) _).mono ?_
 rintro e w' ⟨rfl,n1,rfl⟩
 go_wp2_with fail
 go_ret
 exact ⟨rfl,FP ((Below.refl _ _).alloc (Nat.le_refl _) _) _⟩):p:=h
theorem iV {p:Prop} (h:p:=by
 rintro e w' ⟨rfl,n0,rfl⟩
 go_wp2_with fail
 refine (Bq 9223372036854775808 (by decide +kernel) _).mono ?_
 rintro e w' ⟨rfl,n1,rfl⟩
 go_wp2_with fail
 go_ret
 exact ⟨rfl,FP ((Below.refl _ _).alloc (Nat.le_refl _) _) _⟩):p:=h
end Go.Proofs.Ytnkkgofpifhoeaa
section
namespace Go.Proofs.Ytnkkgofpifhoeaa.Pv
open Ieee
def fin (x:Nat):Bool:=decide (x % 9223372036854775808 < 9218868437227405312)
def G9 (x:Nat):Bool:=x % 9223372036854775808 == 0
def NM (x:Nat):Bool:=x == 9223372036854775808
inductive Read (x:Nat):Datum → Prop
 | sub (s:Bool) (m:Nat):m = x % 9223372036854775808 → m < 4503599627370496 → Read x (.number s m (-1074))
 | norm (s:Bool) (m k:Nat):4503599627370496 ≤ m → m < 9007199254740992 → x % 9223372036854775808 = (k + 1) * 4503599627370496 + (m - 4503599627370496) → k ≤ 2045 → Read x (.number s m (-1074 + (k:Nat)))
 | inf (s:Bool):x % 9223372036854775808 = 9218868437227405312 → Read x (.infinity s)
 | nan (s:Bool) (q:Nat):9218868437227405312 < x % 9223372036854775808 → Read x (.nan s q)
theorem I4 (x:Nat):Read x (double.read x):=by
 have e1:double.signWeight = 9223372036854775808:=by decide
 have e2:double.binade = 4503599627370496:=by decide
 have e3:double.infRung = 9218868437227405312:=by decide
 have e4:double.leastPlace = -1074:=by decide
 unfold Format.read
 rw [e1,e2,e3,e4]
 simp only
 generalize hs:(x / 9223372036854775808 % 2 == 1) = s
 split
 ·exact .sub s _ rfl (by assumption)
 ·split
  ·rename_i h1 h2
   refine .norm s _ (x % 9223372036854775808 / 4503599627370496 - 1) (by omega) (by omega) (by omega) (by omega)
  ·split
   ·exact .inf s (by assumption)
   ·exact .nan s _ (by omega)
theorem Ew (s:Bool) (m k:Nat):signed s m k = 0 ↔ m = 0:=by
 unfold signed
 rw [Nat.shiftLeft_eq]
 have hp:0 < 2 ^ k:=Nat.two_pow_pos k
 constructor
 ·intro h
  split at h
  ·have:m * 2 ^ k = 0:=by omega
   rcases Nat.mul_eq_zero.1 this with h | h <;> omega
  ·have:m * 2 ^ k = 0:=by omega
   rcases Nat.mul_eq_zero.1 this with h | h <;> omega
 ·rintro rfl
  simp
theorem cmp_eq (a b:Int):(some (compare a b) == some Ordering.eq) = decide (a = b):=by
 have:(compare a b == Ordering.eq) = decide (a = b):=by
  by_cases h:a = b
  ·subst h
   simp [compare,compareOfLessAndEq]
  ·have:compare a b ≠ .eq:=by
    simp only [compare,compareOfLessAndEq]
    split
    ·decide
    ·simp [h]
   simp [h]
 simpa using this
theorem UL (x:Nat):(double.order x 0 == some .eq) = G9 x:=by
 have hz:double.read 0 = .number false 0 (-1074):=by decide +kernel
 unfold Format.order G9
 rw [hz]
 have hr:=I4 x
 generalize double.read x = d at hr ⊢
 cases hr with
 | sub s m h1 h2 =>
  simp only [Datum.order]
  rw [cmp_eq]
  rw [← h1]
  by_cases h:m = 0
  ·subst h
   simp [signed]
  ·have hne:¬ signed s m ((-1074:Int) - min (-1074) (-1074)).toNat = signed false 0 ((-1074:Int) - min (-1074) (-1074)).toNat:=by
    rw [(Ew false 0 _).2 rfl]
    exact fun e => h ((Ew _ _ _).1 e)
   rw [decide_eq_false hne]
   symm
   rw [beq_eq_false_iff_ne]
   exact h
 | norm s m k h1 h2 h3 h4 =>
  simp only [Datum.order]
  rw [cmp_eq]
  have hne:¬ signed s m ((-1074 + (k:Int)) - min (-1074 + (k:Int)) (-1074)).toNat = signed false 0 ((-1074:Int) - min (-1074 + (k:Int)) (-1074)).toNat:=by
   rw [(Ew false 0 _).2 rfl]
   intro e
   have:=(Ew _ _ _).1 e
   omega
  rw [decide_eq_false hne]
  symm
  rw [beq_eq_false_iff_ne]
  omega
 | inf s h =>
  simp only [Datum.order,h]
  cases s <;> decide
 | nan s q h =>
  simp only [Datum.order]
  symm
  rw [show (none == some Ordering.eq) = false from rfl,beq_eq_false_iff_ne]
  omega
theorem KR (x:Nat) (h:fin x = true):double.sub x x = some 0:=by
 unfold fin at h
 have h':=of_decide_eq_true h
 unfold Format.sub
 have key:∀ (s:Bool) (m:Nat) (i:Int),(Option.map double.write ((Datum.number s m i).sum (Datum.number s m i).opposite)) = some 0:=by
  intro s m i
  simp only [Datum.opposite,Datum.sum,Option.map_some]
  have ht:signed s m (i - min i i).toNat + signed (!s) m (i - min i i).toNat = 0:=by
   unfold signed
   cases s <;> simp <;> omega
  rw [ht]
  cases s <;> rfl
 cases hr:double.read x with
 | number s m i => exact key s m i
 | infinity s =>
  have:=I4 x
  rw [hr] at this
  cases this
  omega
 | nan s q =>
  have:=I4 x
  rw [hr] at this
  cases this
  omega
theorem KT (x:Nat) (h:fin x = false):double.sub x x = none:=by
 unfold fin at h
 have h':=of_decide_eq_false h
 unfold Format.sub
 cases hr:double.read x with
 | number s m i =>
  have:=I4 x
  rw [hr] at this
  cases this <;> omega
 | infinity s => cases s <;> rfl
 | nan s q => rfl
theorem GG:double.div 4607182418800017408 0 = some 9218868437227405312:=by decide +kernel
theorem IK:double.div 4607182418800017408 9223372036854775808 = some 18442240474082181120:=by decide +kernel
theorem FQ:(double.order 9218868437227405312 0 == some .lt) = false:=by decide +kernel
theorem Gx:(double.order 18442240474082181120 0 == some .lt) = true:=by decide +kernel
theorem IL (x:Nat) (h:x < 18446744073709551616) (hz:G9 x = true):x = 0 ∨ x = 9223372036854775808:=by
 unfold G9 at hz
 have:=beq_iff_eq.1 hz
 omega
end Go.Proofs.Ytnkkgofpifhoeaa.Pv
end
section
namespace Go.Proofs.Ytnkkgofpifhoeaa.Base
open Go.RowKit
theorem FT {a b:Bool} (h:a = b):Ending.returned (.bool a) = .returned (.bool b):=by rw [h]
section
variable {P:Program} {w:World} (a:Addr) (m:Mode)
@[go_sem] theorem Oo (k:FloatKind) (x y:Nat):(store a (.complex k x y) m).run P w = stored P w a (.complex k x y) m:=run_store P w a _ m rfl
@[go_sem] theorem Qm (k:FloatKind) (x:Nat):(store a (.float k x) m).run P w = stored P w a (.float k x) m:=run_store P w a _ m rfl
end
section
variable {B:Nat} {a w:World}
theorem FP (h:Below B a w) (n:Nat):Below B a (w.drewN n):=⟨h.os,h.tape,h.output,h.size,h.block⟩
theorem Am (h:Below B a w):Below B a w.drew:=⟨h.os,h.tape,h.output,h.size,h.block⟩
end
theorem Xc {W w1:World} (hb:Below W.heap.size W w1):(∀ b o,b < W.heap.size → w1.cell? ⟨b,o,none⟩ = W.cell? ⟨b,o,none⟩) ∧ (∀ b o,b < W.heap.size → w1.frozen? ⟨b,o,none⟩ = W.frozen? ⟨b,o,none⟩) :=
 ⟨fun b o h => hb.cell (p:=⟨b,o,none⟩) h,fun b o h => hb.frozen (p:=⟨b,o,none⟩) h⟩
end Go.Proofs.Ytnkkgofpifhoeaa.Base
end
section
namespace Go.Proofs.Ytnkkgofpifhoeaa.Num
open Go.RowKit Go.Proofs.Ytnkkgofpifhoeaa.Pv Go.Proofs.Ytnkkgofpifhoeaa.Base
section
variable {P:Program}
theorem Qr (w:World) (t:TypeId) (x y r:Nat) (h:Ieee.double.sub x y = some r):(binOp .sub t (.float .f64 x) (.float .f64 y)).run P w = .ok (.float .f64 r) w:=by
 simp [binOp,Op.floatArith,FloatKind.format,h]
theorem EP (w:World) (t:TypeId) (x y r:Nat) (h:Ieee.double.div x y = some r):(binOp .quo t (.float .f64 x) (.float .f64 y)).run P w = .ok (.float .f64 r) w:=by
 simp [binOp,Op.floatArith,FloatKind.format,h]
theorem UM (x y t:Nat):G9 (Question.cut (.nanBits .f64 x y) t) = false:=by
 unfold G9
 rw [beq_eq_false_iff_ne]
 show ((t % 2) * 2 ^ 63 + 0x7ff0000000000000 + 1 + (t / 2) % (2 ^ 52 - 1)) % 9223372036854775808 ≠ 0
 have h1:=Nat.mod_lt (t / 2) (show 0 < 2 ^ 52 - 1 by decide)
 have h2:=Nat.mod_lt t (show 0 < 2 by decide)
 generalize t % 2 = a at h2 ⊢
 generalize t / 2 % (2 ^ 52 - 1) = b at h1 ⊢
 omega
theorem KU (w:World) (t:TypeId) (x y:Nat) (h:Ieee.double.sub x y = none):∃ r,G9 r = false ∧ (binOp .sub t (.float .f64 x) (.float .f64 y)).run P w = .ok (.float .f64 r) w.drew:=by
 obtain ⟨q,hq⟩:∃ q,q = Question.nanBits .f64 x y:=⟨_,rfl⟩
 refine ⟨q.cut (w.tape w.drawn q),by rw [hq]; exact UM _ _ _,?_⟩
 simp [binOp,Op.floatArith,FloatKind.format,h]
 rw [← hq]
 have hf:q.forced = false:=by rw [hq]; rfl
 simp [hf]
end
theorem ER (x:Nat):(FloatKind.f64.format.order x 0 == some Ordering.eq) = G9 x:=UL x
theorem J4 (x:Nat) (h:fin x = false) (w:World):Calls Try.prog 122 #[.float .f64 x] w fun e w' => e = .returned (.bool false) ∧ ∃ n,w' = w.drewN n:=by
 obtain ⟨r,hr,hs⟩:=KU (P:=Try.prog) w 38 x x (KT x h)
 go_enter Try.func122,Try.ntmps122
 go_wp2
 go_ret
 exact ⟨FT (by rw [ER,hr]),1,rfl⟩
theorem Bq (x:Nat) (h:fin x = true) (w:World):Calls Try.prog 122 #[.float .f64 x] w fun e w' => e = .returned (.bool true) ∧ ∃ n,w' = w.drewN n:=by
 have hs:=Qr (P:=Try.prog) w 38 x x 0 (KR x h)
 go_enter Try.func122,Try.ntmps122
 go_wp2
 go_ret
 exact ⟨FT (by rw [ER]; rfl),0,rfl⟩
def Ei (p q:Nat):Bool:=fin p && fin q && !(NM p) && !(NM q)
theorem UN (p q:Nat) (w:World) (h:fin p = false) :
  Calls Try.prog 99 #[.agg #[.int .i64 2,.int .i64 0,.complex .f64 p q,.string ⟨#[]⟩,.int .i64 0,.int .u32 0,.int .u64 0,.slice none 0 0,.slice none 0 0]] w fun e w' => e = .returned (.bool false) ∧ Below w.heap.size w w':=by
 go_enter Try.func99,Try.ntmps99
 go_wp2_with fail
 go_quiet (fail)
 go_wp2_with fail
 refine (J4 p h _).mono ?_
 rintro e w' ⟨rfl,n0,rfl⟩
 go_wp2_with fail
 go_ret
 exact ⟨rfl,FP ((Below.refl _ _).alloc (Nat.le_refl _) _) _⟩
theorem UO (p q:Nat) (w:World) (h:fin p = true) (h2:fin q = false) :
  Calls Try.prog 99 #[.agg #[.int .i64 2,.int .i64 0,.complex .f64 p q,.string ⟨#[]⟩,.int .i64 0,.int .u32 0,.int .u64 0,.slice none 0 0,.slice none 0 0]] w fun e w' => e = .returned (.bool false) ∧ Below w.heap.size w w':=by
 go_enter Try.func99,Try.ntmps99
 go_wp2_with fail
 go_quiet (fail)
 go_wp2_with fail
 refine (Bq p h _).mono ?_
 rintro e w' ⟨rfl,n0,rfl⟩
 go_wp2_with fail
 refine (J4 q h2 _).mono ?_
 rintro e w' ⟨rfl,n1,rfl⟩
 go_wp2_with fail
 go_ret
 exact ⟨rfl,FP ((Below.refl _ _).alloc (Nat.le_refl _) _) _⟩
theorem Qs (p:Nat) (q:Nat) (w:World) (f1:fin p = true) (hp:G9 p = false) (f2:fin q = true) (hq:G9 q = false) :
  Calls Try.prog 99 #[.agg #[.int .i64 2,.int .i64 0,.complex .f64 p q,.string ⟨#[]⟩,.int .i64 0,.int .u32 0,.int .u64 0,.slice none 0 0,.slice none 0 0]] w fun e w' => e = .returned (.bool true) ∧ Below w.heap.size w w':=by
 have ep:(FloatKind.f64.format.order p 0 == some Ordering.eq) = false:=by rw [ER,hp]
 have eq:(FloatKind.f64.format.order q 0 == some Ordering.eq) = false:=by rw [ER,hq]
 go_enter Try.func99,Try.ntmps99
 go_wp2_with fail
 go_quiet (fail)
 go_wp2_with fail
 refine (Bq p f1 _).mono ?_
 exact iT
theorem Qu (p:Nat) (w:World) (f1:fin p = true) (hp:G9 p = false) :
  Calls Try.prog 99 #[.agg #[.int .i64 2,.int .i64 0,.complex .f64 p 0,.string ⟨#[]⟩,.int .i64 0,.int .u32 0,.int .u64 0,.slice none 0 0,.slice none 0 0]] w fun e w' => e = .returned (.bool true) ∧ Below w.heap.size w w':=by
 have ep:(FloatKind.f64.format.order p 0 == some Ordering.eq) = false:=by rw [ER,hp]
 have eq:(FloatKind.f64.format.order 0 0 == some Ordering.eq) = true:=by rw [ER]; rfl
 have dq:=fun (W:World) => EP (P:=Try.prog) W 38 4607182418800017408 0 9218868437227405312 GG
 have lq:(FloatKind.f64.format.order 9218868437227405312 0 == some Ordering.lt) = false:=FQ
 go_enter Try.func99,Try.ntmps99
 go_wp2_with fail
 go_quiet (fail)
 go_wp2_with fail
 refine (Bq p f1 _).mono ?_
 exact iU
theorem Qv (p:Nat) (w:World) (f1:fin p = true) (hp:G9 p = false) :
  Calls Try.prog 99 #[.agg #[.int .i64 2,.int .i64 0,.complex .f64 p 9223372036854775808,.string ⟨#[]⟩,.int .i64 0,.int .u32 0,.int .u64 0,.slice none 0 0,.slice none 0 0]] w fun e w' => e = .returned (.bool false) ∧ Below w.heap.size w w':=by
 have ep:(FloatKind.f64.format.order p 0 == some Ordering.eq) = false:=by rw [ER,hp]
 have eq:(FloatKind.f64.format.order 9223372036854775808 0 == some Ordering.eq) = true:=by rw [ER]; rfl
 have dq:=fun (W:World) => EP (P:=Try.prog) W 38 4607182418800017408 9223372036854775808 18442240474082181120 IK
 have lq:(FloatKind.f64.format.order 18442240474082181120 0 == some Ordering.lt) = true:=Gx
 go_enter Try.func99,Try.ntmps99
 go_wp2_with fail
 go_quiet (fail)
 go_wp2_with fail
 refine (Bq p f1 _).mono ?_
 exact iV
theorem Qw (q:Nat) (w:World) (f2:fin q = true) (hq:G9 q = false) :
  Calls Try.prog 99 #[.agg #[.int .i64 2,.int .i64 0,.complex .f64 0 q,.string ⟨#[]⟩,.int .i64 0,.int .u32 0,.int .u64 0,.slice none 0 0,.slice none 0 0]] w fun e w' => e = .returned (.bool true) ∧ Below w.heap.size w w':=by
 have ep:(FloatKind.f64.format.order 0 0 == some Ordering.eq) = true:=by rw [ER]; rfl
 have dp:=fun (W:World) => EP (P:=Try.prog) W 38 4607182418800017408 0 9218868437227405312 GG
 have lp:(FloatKind.f64.format.order 9218868437227405312 0 == some Ordering.lt) = false:=FQ
 have eq:(FloatKind.f64.format.order q 0 == some Ordering.eq) = false:=by rw [ER,hq]
 go_enter Try.func99,Try.ntmps99
 go_wp2_with fail
 go_quiet (fail)
 go_wp2_with fail
 refine (Bq 0 (by decide +kernel) _).mono ?_
 exact iT
theorem Qx  (w:World)  :
  Calls Try.prog 99 #[.agg #[.int .i64 2,.int .i64 0,.complex .f64 0 0,.string ⟨#[]⟩,.int .i64 0,.int .u32 0,.int .u64 0,.slice none 0 0,.slice none 0 0]] w fun e w' => e = .returned (.bool true) ∧ Below w.heap.size w w':=by
 have ep:(FloatKind.f64.format.order 0 0 == some Ordering.eq) = true:=by rw [ER]; rfl
 have dp:=fun (W:World) => EP (P:=Try.prog) W 38 4607182418800017408 0 9218868437227405312 GG
 have lp:(FloatKind.f64.format.order 9218868437227405312 0 == some Ordering.lt) = false:=FQ
 have eq:(FloatKind.f64.format.order 0 0 == some Ordering.eq) = true:=by rw [ER]; rfl
 have dq:=fun (W:World) => EP (P:=Try.prog) W 38 4607182418800017408 0 9218868437227405312 GG
 have lq:(FloatKind.f64.format.order 9218868437227405312 0 == some Ordering.lt) = false:=FQ
 go_enter Try.func99,Try.ntmps99
 go_wp2_with fail
 go_quiet (fail)
 go_wp2_with fail
 refine (Bq 0 (by decide +kernel) _).mono ?_
 exact iU
theorem Qy  (w:World)  :
  Calls Try.prog 99 #[.agg #[.int .i64 2,.int .i64 0,.complex .f64 0 9223372036854775808,.string ⟨#[]⟩,.int .i64 0,.int .u32 0,.int .u64 0,.slice none 0 0,.slice none 0 0]] w fun e w' => e = .returned (.bool false) ∧ Below w.heap.size w w':=by
 have ep:(FloatKind.f64.format.order 0 0 == some Ordering.eq) = true:=by rw [ER]; rfl
 have dp:=fun (W:World) => EP (P:=Try.prog) W 38 4607182418800017408 0 9218868437227405312 GG
 have lp:(FloatKind.f64.format.order 9218868437227405312 0 == some Ordering.lt) = false:=FQ
 have eq:(FloatKind.f64.format.order 9223372036854775808 0 == some Ordering.eq) = true:=by rw [ER]; rfl
 have dq:=fun (W:World) => EP (P:=Try.prog) W 38 4607182418800017408 9223372036854775808 18442240474082181120 IK
 have lq:(FloatKind.f64.format.order 18442240474082181120 0 == some Ordering.lt) = true:=Gx
 go_enter Try.func99,Try.ntmps99
 go_wp2_with fail
 go_quiet (fail)
 go_wp2_with fail
 refine (Bq 0 (by decide +kernel) _).mono ?_
 exact iV
theorem UQ (q:Nat) (w:World) (h2:fin q = true) :
  Calls Try.prog 99 #[.agg #[.int .i64 2,.int .i64 0,.complex .f64 9223372036854775808 q,.string ⟨#[]⟩,.int .i64 0,.int .u32 0,.int .u64 0,.slice none 0 0,.slice none 0 0]] w fun e w' => e = .returned (.bool false) ∧ Below w.heap.size w w':=by
 have ep:(FloatKind.f64.format.order 9223372036854775808 0 == some Ordering.eq) = true:=by rw [ER]; rfl
 have dp:=fun (W:World) => EP (P:=Try.prog) W 38 4607182418800017408 9223372036854775808 18442240474082181120 IK
 have lp:(FloatKind.f64.format.order 18442240474082181120 0 == some Ordering.lt) = true:=Gx
 go_enter Try.func99,Try.ntmps99
 go_wp2_with fail
 go_quiet (fail)
 go_wp2_with fail
 refine (Bq 9223372036854775808 (by decide +kernel) _).mono ?_
 rintro e w' ⟨rfl,n0,rfl⟩
 go_wp2_with fail
 refine (Bq q h2 _).mono ?_
 rintro e w' ⟨rfl,n1,rfl⟩
 go_wp2_with fail
 go_ret
 exact ⟨rfl,FP ((Below.refl _ _).alloc (Nat.le_refl _) _) _⟩
theorem J5 (p q:Nat) (hp:p < 18446744073709551616) (hq:q < 18446744073709551616) (w:World) :
  Calls Try.prog 99 #[.agg #[.int .i64 2,.int .i64 0,.complex .f64 p q,.string ⟨#[]⟩,.int .i64 0,.int .u32 0,.int .u64 0,.slice none 0 0,.slice none 0 0]] w fun e w' => e = .returned (.bool (Ei p q)) ∧ Below w.heap.size w w':=by
 have NP:∀ x,G9 x = false → NM x = false:=by
  intro x h
  unfold G9 at h
  unfold NM
  rw [beq_eq_false_iff_ne] at h ⊢
  omega
 unfold Ei
 cases h1:fin p
 ·exact UN p q w h1
 cases h2:fin q
 ·exact UO p q w h1 h2
 cases h3:G9 p
 ·rw [NP p h3]
  cases h4:G9 q
  ·rw [NP q h4]
   exact Qs p q w h1 h3 h2 h4
  ·rcases IL q hq h4 with rfl | rfl
   ·exact Qu p w h1 h3
   ·exact Qv p w h1 h3
 ·rcases IL p hp h3 with rfl | rfl
  ·cases h4:G9 q
   ·rw [NP q h4]
    exact Qw q w h2 h4
   ·rcases IL q hq h4 with rfl | rfl
    ·exact Qx w
    ·exact Qy w
  ·have:NM 9223372036854775808 = true:=rfl
   rw [this]
   simpa using UQ q w h2
end Go.Proofs.Ytnkkgofpifhoeaa.Num
end
section
namespace Go.Proofs.Ytnkkgofpifhoeaa.Pk
open Go.RowKit Go.Proofs.Ytnkkgofpifhoeaa.Pv Go.Proofs.Ytnkkgofpifhoeaa.Base Go.Proofs.Ytnkkgofpifhoeaa.Num
theorem I5 {P:Program} (W:World) (t:TypeId) (x y:Nat):(binOp .eql t (.complex .f64 x y) (.complex .f64 0 0)).run P W = .ok (.bool (G9 x && G9 y)) W:=by
 have h1:=ER x
 have h2:=ER y
 simp [binOp,Op.complexOp,Op.Complex.cmp,Op.floatCmp,asBool,h1,h2]
def good1 (mine AL yours seq AX stamp echo:Int) (zr zi n:Nat):Bool :=
 decide (mine ≠ 0 ∧ seq < 2 ∧ ((0 < AL) ↔ (0 < yours)) ∧ n = 0 ∧ AX = 0 ∧ stamp = 0 ∧ echo = 0) && (G9 zr && G9 zi)
def Ic (mine AL yours stamp echo:Int) (zr zi n:Nat):Bool :=
 decide (mine ≠ 0 ∧ AL > 0 ∧ yours > 0 ∧ 0 < n ∧ stamp = 0 ∧ echo = 0) && (G9 zr && G9 zi)
def Ie (mine AL yours seq stamp echo:Int) (zr zi n:Nat):Bool :=
 decide (mine ≠ 0 ∧ AL > 0 ∧ yours > 0 ∧ n = 0 ∧ seq = 0 ∧ stamp = 0 ∧ echo = 0) && (G9 zr && G9 zi)
def JF (mine AL yours seq:Int) (zr zi n:Nat):Bool :=
 Ei zr zi && decide (mine ≠ 0 ∧ AL > 0 ∧ yours > 0 ∧ n = 0 ∧ seq = 0)
theorem NQ (mine AL yours seq AX stamp echo:Int) (zr zi:Nat) (A:Option Addr) (n c:Nat) (w:World) :
  Calls Try.prog 66 #[.agg #[.int .i64 1,.int .u32 mine,.int .u32 AL,.int .u32 yours,.int .u32 seq,.int .u32 AX,.int .u32 stamp,.int .u32 echo,.complex .f64 zr zi,.slice A n c],
   .agg #[.bool true,.bool false,.bool false,.bool false,.int .i64 14,.int .i64 14]] w
   fun e w' => e = .returned (.bool (good1 mine AL yours seq AX stamp echo zr zi n)) ∧ Below w.heap.size w w':=by
 have hz:=fun (W:World) => I5 (P:=Try.prog) W 25 zr zi
 have DV:=Try.underlying27
 go_enter Try.func66,Try.ntmps66
 go_wp2
 all_goals
  go_ret
  refine ⟨FT ?_,?_⟩
  ·unfold good1
   simp_all <;> omega
  ·repeat (first | exact Below.refl _ _ | refine Below.setCell ?_ (by simp <;> omega) _ | refine Below.alloc ?_ (by simp <;> omega) _)
theorem Px (mine AL yours seq AX stamp echo:Int) (zr zi:Nat) (A:Option Addr) (n c:Nat) (w:World) :
  Calls Try.prog 66 #[.agg #[.int .i64 2,.int .u32 mine,.int .u32 AL,.int .u32 yours,.int .u32 seq,.int .u32 AX,.int .u32 stamp,.int .u32 echo,.complex .f64 zr zi,.slice A n c],
   .agg #[.bool true,.bool true,.bool false,.bool true,.int .i64 22,.int .i64 1021]] w
   fun e w' => e = .returned (.bool (Ic mine AL yours stamp echo zr zi n)) ∧ Below w.heap.size w w':=by
 have hz:=fun (W:World) => I5 (P:=Try.prog) W 25 zr zi
 have DV:=Try.underlying27
 go_enter Try.func66,Try.ntmps66
 go_wp2
 all_goals
  go_ret
  refine ⟨FT ?_,?_⟩
  ·unfold Ic
   simp_all <;> omega
  ·repeat (first | exact Below.refl _ _ | refine Below.setCell ?_ (by simp <;> omega) _ | refine Below.alloc ?_ (by simp <;> omega) _)
theorem Qz (mine AL yours seq AX stamp echo:Int) (zr zi:Nat) (A:Option Addr) (n c:Nat) (w:World) :
  Calls Try.prog 66 #[.agg #[.int .i64 3,.int .u32 mine,.int .u32 AL,.int .u32 yours,.int .u32 seq,.int .u32 AX,.int .u32 stamp,.int .u32 echo,.complex .f64 zr zi,.slice A n c],
   .agg #[.bool false,.bool true,.bool false,.bool false,.int .i64 17,.int .i64 17]] w
   fun e w' => e = .returned (.bool (Ie mine AL yours seq stamp echo zr zi n)) ∧ Below w.heap.size w w':=by
 have hz:=fun (W:World) => I5 (P:=Try.prog) W 25 zr zi
 have DV:=Try.underlying27
 go_enter Try.func66,Try.ntmps66
 go_wp2
 all_goals
  go_ret
  refine ⟨FT ?_,?_⟩
  ·unfold Ie
   simp_all <;> omega
  ·repeat (first | exact Below.refl _ _ | refine Below.setCell ?_ (by simp <;> omega) _ | refine Below.alloc ?_ (by simp <;> omega) _)
theorem Py (mine AL yours seq AX stamp echo:Int) (zr zi:Nat) (A:Option Addr) (n c:Nat) (w:World) (hp:zr < 18446744073709551616) (hq:zi < 18446744073709551616) :
  Calls Try.prog 66 #[.agg #[.int .i64 4,.int .u32 mine,.int .u32 AL,.int .u32 yours,.int .u32 seq,.int .u32 AX,.int .u32 stamp,.int .u32 echo,.complex .f64 zr zi,.slice A n c],
   .agg #[.bool false,.bool true,.bool true,.bool false,.int .i64 41,.int .i64 41]] w
   fun e w' => e = .returned (.bool (JF mine AL yours seq zr zi n)) ∧ Below w.heap.size w w':=by
 have hz:=fun (W:World) => I5 (P:=Try.prog) W 25 0 0
 have hn:G9 0 = true:=rfl
 have DV:=Try.underlying27
 cases hpl:Ei zr zi
 all_goals
  have HP:=Lib.hid hpl
  clear hpl
  have hq':=Lib.hid hq
  have hp':=Lib.hid hp
  clear hp hq
  go_enter Try.func66,Try.ntmps66
  go_wp2_with (go_at_call 99; refine (J5 zr zi hp'.out hq'.out _).mono ?_; rintro e w' ⟨rfl,hb⟩; rw [HP.out]; obtain ⟨hc,hf⟩:=Xc hb; have hz1:=hb.size; simp at hz1)
 all_goals
  go_ret
  refine ⟨FT ?_,?_⟩
  ·unfold JF
   rw [HP.out]
   simp_all <;> omega
  ·(repeat (first | refine Below.setCell ?_ (by simp <;> omega) _ | refine Below.alloc ?_ (by simp <;> omega) _ | exact Below.refl _ _ | refine Below.trans ?_ (Below.mono (by assumption) (by simp <;> omega))))
end Go.Proofs.Ytnkkgofpifhoeaa.Pk
end
section
namespace Go.Proofs.YtnkkgofpifhoeaaW.PrintLast
section
variable {P:Program} {ops:Array Oper} {Q:Exit → Act → World → Prop} {md:Region.Mode} {S:World → Prop} {ds:List Nat}
def Region.FC (md:Region.Mode) (ops:Array Oper) (i:Nat):Nat → Nat → Bool
 | 0,_ => false
 | fuel + 1,d => match ops[d]? with
  | some o => o.after.any fun e => Region.binds md e && (e.on == i || Region.FC md ops i fuel e.on)
  | none => false
def Region.KW (md:Region.Mode) (ops:Array Oper) (listed:Array Bool):Bool :=
 (List.range ops.size).all fun j => !listed.getD j false || match ops[j]? with
  | some o => o.after.all fun e => !Region.binds md e || listed.getD e.on false
  | none => true
def Region.lastB (md:Region.Mode) (ops:Array Oper) (listed:Array Bool) (ds:List Nat) (i:Nat):Bool :=
 ds.all fun d => listed.getD d true || Region.FC md ops i ops.size d
def DF (md:Region.Mode) (ops:Array Oper) (listed:Array Bool):Prop :=
 ∀ j oj,ops[j]? = some oj → listed.getD j false = true → ∀ e ∈ oj.after,Region.binds md e = true → listed.getD e.on false = true
theorem Region.KX {listed:Array Bool} (h:Region.KW md ops listed = true):DF md ops listed:=by
 intro j oj hj hl e he hb
 have hlt:j < ops.size:=(Array.getElem?_eq_some_iff.1 hj).1
 have h1:=List.all_eq_true.1 h j (List.mem_range.2 hlt)
 simp only [hl,hj,Bool.not_true,Bool.false_or] at h1
 have h2:=Array.all_eq_true_iff_forall_mem.1 h1 e he
 simpa [hb] using h2
theorem DF.set {listed:Array Bool} {i:Nat} (h:DF md ops listed) (hi:i ∈ Region.ready md ops listed):DF md ops (listed.setIfInBounds i true):=by
 obtain ⟨_,oi,hoi,hall⟩:=mem_ready.1 hi
 intro j oj hj hl e he hb
 by_cases hij:i = j
 ·subst hij
  have:oj = oi:=Option.some.inj (hj.symm.trans hoi)
  subst this
  exact getD_set_true (hall e he hb)
 ·rw [getD_set_ne false hij] at hl
  exact getD_set_true (h j oj hj hl e he hb)
theorem Region.He {listed:Array Bool} {i:Nat} (hc:DF md ops listed):∀ (fuel d:Nat),Region.FC md ops i fuel d = true → listed.getD d false = true → listed.getD i false = true
 | 0,_,h,_ => by simp [Region.FC] at h
 | fuel + 1,d,h,hl => by
  unfold Region.FC at h
  cases ho:ops[d]? with
  | none => rw [ho] at h; simp at h
  | some o =>
   rw [ho] at h
   obtain ⟨e,he,h1⟩:=Array.any_eq_true'.1 h
   simp only [Bool.and_eq_true,Bool.or_eq_true,beq_iff_eq] at h1
   have hle:=hc d o ho hl e he h1.1
   rcases h1.2 with h2 | h2
   ·rw [← h2]; exact hle
   ·exact Region.He hc fuel e.on h2 hle
theorem Region.Ip {listed:Array Bool} {i d fuel:Nat} (hc:DF md ops listed) (hr:Region.FC md ops i fuel d = true) (hun:listed.getD i true = false):d ∉ Region.ready md ops listed:=by
 intro hd
 obtain ⟨_,o,ho,hall⟩:=mem_ready.1 hd
 have hi:listed.getD i false = true:=by
  cases fuel with
  | zero => simp [Region.FC] at hr
  | succ n =>
   unfold Region.FC at hr
   rw [ho] at hr
   obtain ⟨e,he,h1⟩:=Array.any_eq_true'.1 hr
   simp only [Bool.and_eq_true,Bool.or_eq_true,beq_iff_eq] at h1
   have hle:=hall e he h1.1
   rcases h1.2 with h2 | h2
   ·rw [← h2]; exact hle
   ·exact Region.He hc n e.on h2 hle
 rcases Nat.lt_or_ge i listed.size with h' | h'
 ·simp [h'] at hun hi
  rw [hun] at hi
  cases hi
 ·simp [Array.getElem?_eq_none h'] at hun
def Aa (P:Program) (md:Region.Mode) (ops:Array Oper) (Q:Exit → Act → World → Prop) (S:World → Prop) (ds:List Nat):Nat → Array Bool → Act → World → Prop
 | 0,listed,a,w => Region.ready md ops listed = [] ∧ Q .normal a w
 | fuel + 1,listed,a,w =>
  (Region.ready md ops listed = [] → Q .normal a w) ∧
  ∀ i ∈ Region.ready md ops listed,wpOp P ops Q i (fun a' w' => (i ∉ ds → S w → S w') ∧ Aa P md ops Q S ds fuel (listed.setIfInBounds i true) a' w') a w
theorem Gt:∀ (fuel:Nat) (listed:Array Bool) (a:Act) (w:World),Aa P md ops Q S ds fuel listed a w → wpAny P md ops Q fuel listed a w
 | 0,_,_,_,h => h
 | fuel + 1,_,_,_,h => ⟨h.1,fun i hi => wpOp_mono (fun a' w' h' => Gt fuel _ a' w' h'.2) (h.2 i hi)⟩
theorem Iq {i:Nat} {oi:Oper} {v:Value} (hi:ops[i]? = some oi) (hsel:∀ (j:Nat) (o:Oper) cs b,ops[j]? = some o → o.op ≠ .select cs b)
  (hQ:∀ c a w,Q (.panic c) (a.put oi.dst v) w → Q (.panic c) a w) (n:Nat) :
  ∀ (fuel:Nat) (listed:Array Bool) (a:Act) (w:World),
   (∀ j oj,ops[j]? = some oj → j ≠ i → listed.getD j true = false → (∀ e ∈ oj.after,Region.binds md e = true → e.on ≠ i) → oi.apart ops oj = true) →
   DF md ops listed → (∀ d ∈ ds,listed.getD d true = false → Region.FC md ops i n d = true) →
   i ∈ Region.ready md ops listed → YieldsIf P ops S oi v a → S w →
   Aa P md ops Q S ds fuel (listed.setIfInBounds i true) (a.put oi.dst v) w → Aa P md ops Q S ds (fuel + 1) listed a w:=by
 intro fuel
 induction fuel with
 | zero =>
  intro listed a w _ _ _ hr hy hS H
  refine ⟨fun h => (by rw [h] at hr; cases hr),fun j hj => ?_⟩
  by_cases hji:j = i
  ·subst hji; exact hy.wpOp hi hS ⟨fun _ h => h,H⟩
  ·have:=ready_mono hj hji
   rw [H.1] at this
   cases this
 | succ fuel ih =>
  intro listed a w hfree hc hd hr hy hS H
  refine ⟨fun h => (by rw [h] at hr; cases hr),fun j hj => ?_⟩
  by_cases hji:j = i
  ·subst hji; exact hy.wpOp hi hS ⟨fun _ h => h,H⟩
  ·have h1:=H.2 j (ready_mono hj hji)
   obtain ⟨hjun,oj,hoj,hall⟩:=mem_ready.1 hj
   have Pz:=(mem_ready.1 hr).1
   have hnot:∀ e ∈ oj.after,Region.binds md e = true → e.on ≠ i:=fun e he hb heq => by
    have h1:=hall e he hb
    rw [heq] at h1
    rcases Nat.lt_or_ge i listed.size with h' | h'
    ·simp [h'] at Pz h1; rw [Pz] at h1; cases h1
    ·simp [Array.getElem?_eq_none h'] at h1
   have hjd:j ∉ ds:=fun hm => Region.Ip hc (hd j hm hjun) Pz hj
   have h2:=wpOp_putIf hoj (hfree j oj hoj hji hjun hnot) (fun cs b => hsel i oi cs b hi) (fun cs b => hsel j oj cs b hoj) hQ hy h1
   have hfree':∀ k ok,ops[k]? = some ok → k ≠ i → (listed.setIfInBounds j true).getD k true = false →
     (∀ e ∈ ok.after,Region.binds md e = true → e.on ≠ i) → oi.apart ops ok = true:=fun k ok hk hki hun hno => by
    refine hfree k ok hk hki ?_ hno
    by_cases hjk:j = k
    ·subst hjk; exact hjun
    ·rw [getD_set_ne true hjk] at hun; exact hun
   have hd':∀ d ∈ ds,(listed.setIfInBounds j true).getD d true = false → Region.FC md ops i n d = true:=fun d hm hun => by
    refine hd d hm ?_
    by_cases hjk:j = d
    ·subst hjk; exact hjun
    ·rw [getD_set_ne true hjk] at hun; exact hun
   refine wpOp_mono (fun a' w' h3 => ⟨h3.2.1,ih (listed.setIfInBounds j true) a' w' hfree' (hc.set hj) hd' (ready_mono hr (Ne.symm hji)) h3.1 (h3.2.1 hjd hS) ?_⟩) h2
   rw [Array.setIfInBounds_comm _ _ hji]
   exact h3.2.2
theorem Jp {i:Nat} {oi:Oper} {v:Value} (hi:ops[i]? = some oi) (hsel:∀ (j:Nat) (o:Oper) cs b,ops[j]? = some o → o.op ≠ .select cs b)
  (hQ:∀ c a w,Q (.panic c) (a.put oi.dst v) w → Q (.panic c) a w) :
  ∀ (fuel:Nat) (listed:Array Bool) (a:Act) (w:World),
   (∀ j oj,ops[j]? = some oj → j ≠ i → listed.getD j true = false → (∀ e ∈ oj.after,Region.binds md e = true → e.on ≠ i) → oi.apart ops oj = true) →
   i ∈ Region.ready md ops listed → Yields P ops oi v a →
   Aa P md ops Q S ds fuel (listed.setIfInBounds i true) (a.put oi.dst v) w → Aa P md ops Q S ds (fuel + 1) listed a w:=by
 intro fuel
 induction fuel with
 | zero =>
  intro listed a w _ hr hy H
  refine ⟨fun h => (by rw [h] at hr; cases hr),fun j hj => ?_⟩
  by_cases hji:j = i
  ·subst hji; exact (hy.yieldsIf (S:=fun _ => True)).wpOp hi trivial ⟨fun _ h => h,H⟩
  ·have:=ready_mono hj hji
   rw [H.1] at this
   cases this
 | succ fuel ih =>
  intro listed a w hfree hr hy H
  refine ⟨fun h => (by rw [h] at hr; cases hr),fun j hj => ?_⟩
  by_cases hji:j = i
  ·subst hji; exact (hy.yieldsIf (S:=fun _ => True)).wpOp hi trivial ⟨fun _ h => h,H⟩
  ·have h1:=H.2 j (ready_mono hj hji)
   obtain ⟨hjun,oj,hoj,hall⟩:=mem_ready.1 hj
   have Pz:=(mem_ready.1 hr).1
   have hnot:∀ e ∈ oj.after,Region.binds md e = true → e.on ≠ i:=fun e he hb heq => by
    have h1:=hall e he hb
    rw [heq] at h1
    rcases Nat.lt_or_ge i listed.size with h' | h'
    ·simp [h'] at Pz h1; rw [Pz] at h1; cases h1
    ·simp [Array.getElem?_eq_none h'] at h1
   have h2:=wpOp_put hoj (hfree j oj hoj hji hjun hnot) (fun cs b => hsel i oi cs b hi) (fun cs b => hsel j oj cs b hoj) hQ hy h1
   have hfree':∀ k ok,ops[k]? = some ok → k ≠ i → (listed.setIfInBounds j true).getD k true = false →
     (∀ e ∈ ok.after,Region.binds md e = true → e.on ≠ i) → oi.apart ops ok = true:=fun k ok hk hki hun hno => by
    refine hfree k ok hk hki ?_ hno
    by_cases hjk:j = k
    ·subst hjk; exact hjun
    ·rw [getD_set_ne true hjk] at hun; exact hun
   refine wpOp_mono (fun a' w' h3 => ⟨h3.2.1,ih (listed.setIfInBounds j true) a' w' hfree' (ready_mono hr (Ne.symm hji)) h3.1 ?_⟩) h2
   rw [Array.setIfInBounds_comm _ _ hji]
   exact h3.2.2
theorem JG {i:Nat} {oi:Oper} {v:Value} {fuel:Nat} {listed:Array Bool} {a:Act} {w:World} (hi:ops[i]? = some oi)
  (hs:Region.noSelect ops = true) (hf:Region.free md ops listed i = true) (hr:(Region.ready md ops listed).contains i = true)
  (hc:Region.KW md ops listed = true) (hl:Region.lastB md ops listed ds i = true)
  (hQ:∀ c a w,Q (.panic c) (a.put oi.dst v) w → Q (.panic c) a w) (hy:YieldsIf P ops S oi v a) (hS:S w)
  (h:Aa P md ops Q S ds fuel (listed.setIfInBounds i true) (a.put oi.dst v) w):Aa P md ops Q S ds (fuel + 1) listed a w :=
 Iq hi (Region.noSelect_spec hs) hQ ops.size fuel listed a w (Region.free_spec hi hf) (Region.KX hc)
  (fun d hm hun => by have:=List.all_eq_true.1 hl d hm; rw [hun] at this; simpa using this) (by simpa using hr) hy hS h
theorem Jq {rs:List Nat} {fuel:Nat} {listed:Array Bool} {a:Act} {w:World} (hr:Region.ready md ops listed = rs) (hne:rs ≠ [])
  (h:∀ i ∈ rs,wpOp P ops Q i (fun a' w' => (i ∉ ds → S w → S w') ∧ Aa P md ops Q S ds fuel (listed.setIfInBounds i true) a' w') a w):Aa P md ops Q S ds (fuel + 1) listed a w :=
 ⟨fun h0 => absurd (hr ▸ h0) hne,hr ▸ h⟩
theorem JH {listed:Array Bool} {a:Act} {w:World} (hr:Region.ready md ops listed = []) (h:Q .normal a w) :
  ∀ fuel,Aa P md ops Q S ds fuel listed a w
 | 0 => ⟨hr,h⟩
 | _ + 1 => ⟨fun _ => h,by rw [hr]; simp⟩
theorem JI {id:Nat} {a:Act} {w:World} (hm:P.follows .mixedOrders = true)
  (h:Aa P .any ops Q S ds ops.size (Array.replicate ops.size false) a { w with drawn:=w.drawn + 1 }):(Code.region id ops true).wp P Q a w :=
 wp_region_any hm (Gt _ _ _ _ h)
end
section
variable {P:Program} {ops:Array Oper} {Q:Exit → Act → World → Prop} {md:Region.Mode} {S:World → Prop} {ds:List Nat}
def Be (P:Program) (md:Region.Mode) (ops:Array Oper) (Q:Exit → Act → World → Prop) (S:World → Prop) (ds:List Nat) (fuel:Nat) (listed:Array Bool) (a:Act) (w:World) (rs:List Nat):Prop :=
 ∀ i ∈ rs,wpOp P ops Q i (fun a' w' => (i ∉ ds → S w → S w') ∧ Aa P md ops Q S ds fuel (listed.setIfInBounds i true) a' w') a w
theorem Be.nil {fuel:Nat} {listed:Array Bool} {a:Act} {w:World}:Be P md ops Q S ds fuel listed a w []:=fun _ h => by cases h
theorem Be.cons {fuel:Nat} {listed:Array Bool} {a:Act} {w:World} {i:Nat} {o:Oper} {rs:List Nat} (ho:ops[i]? = some o) (hd:i ∉ ds)
  (h:∀ K':Act → World → Prop,Shut (∀ a w,S w → (S w → Aa P md ops Q S ds fuel (listed.setIfInBounds i true) a w) → K' a w) → if Region.wanted o (yielded ops a.tmps) = true then Oper.wp P o a w K' Q else K' (a.put o.dst undef) w)
  (hs:Be P md ops Q S ds fuel listed a w rs):Be P md ops Q S ds fuel listed a w (i :: rs):=fun j hj => by
 rcases List.mem_cons.1 hj with rfl | hj
 ·exact wpOp_step ho (fun K' hK => h K' (fun a w hS hW => hK a w ⟨fun _ _ => hS,hW hS⟩))
 ·exact hs j hj
theorem Be.P5 {fuel:Nat} {listed:Array Bool} {a:Act} {w:World} {i:Nat} {o:Oper} {rs:List Nat} (ho:ops[i]? = some o) (hd:i ∈ ds)
  (h:∀ K':Act → World → Prop,Shut (∀ a w,Aa P md ops Q S ds fuel (listed.setIfInBounds i true) a w → K' a w) → if Region.wanted o (yielded ops a.tmps) = true then Oper.wp P o a w K' Q else K' (a.put o.dst undef) w)
  (hs:Be P md ops Q S ds fuel listed a w rs):Be P md ops Q S ds fuel listed a w (i :: rs):=fun j hj => by
 rcases List.mem_cons.1 hj with rfl | hj
 ·exact wpOp_step ho (fun K' hK => h K' (fun a w hW => hK a w ⟨fun hn => absurd hd hn,hW⟩))
 ·exact hs j hj
theorem EY {rs:List Nat} {fuel:Nat} {listed:Array Bool} {a:Act} {w:World} (hr:Region.ready md ops listed = rs) (hne:rs ≠ [])
  (h:Be P md ops Q S ds fuel listed a w rs):Aa P md ops Q S ds (fuel + 1) listed a w:=Jq hr hne h
theorem BC {id n:Nat} {a:Act} {w:World} (l:Array Bool) (hm:P.follows .mixedOrders = true) (hn:ops.size = n) (hl:Array.replicate n false = l) (hS:S w.drew)
  (h:S w.drew → Aa P .any ops Q S ds n l a w.drew):(Code.region id ops true).wp P Q a w:=by
 subst hn
 subst hl
 exact JI hm (h hS)
def takeB (md:Region.Mode) (ops:Array Oper) (ds:List Nat) (l l':Array Bool) (i:Nat):Bool :=
 Region.noSelect ops && Region.free md ops l i && (Region.ready md ops l).contains i && Region.KW md ops l && Region.lastB md ops l ds i && (l.setIfInBounds i true == l')
theorem Oq {i:Nat} {N:Option Tmp} {oi:Oper} {v:Value} {fuel:Nat} {l:Array Bool} {a:Act} {w:World} (l':Array Bool) (hi:ops[i]? = some oi) (hN:oi.dst = N) (hc:takeB md ops ds l l' i = true)
  (hQ:∀ c a w,Q (.panic c) (a.put oi.dst v) w → Q (.panic c) a w) (hy:YieldsIf P ops S oi v a) (hS:S w) {a':Act} (ha:a.put N v = a')
  (h:Aa P md ops Q S ds fuel l' a' w):Aa P md ops Q S ds (fuel + 1) l a w:=by
 subst ha
 subst hN
 simp only [takeB,Bool.and_eq_true,beq_iff_eq] at hc
 obtain ⟨⟨⟨⟨⟨h1,h2⟩,h3⟩,h4⟩,h5⟩,h6⟩:=hc
 subst h6
 exact JG hi h1 h2 h3 h4 h5 hQ hy hS h
def VV (md:Region.Mode) (ops:Array Oper) (l l':Array Bool) (i:Nat):Bool :=
 Region.noSelect ops && Region.free md ops l i && (Region.ready md ops l).contains i && (l.setIfInBounds i true == l')
theorem Xd {i:Nat} {N:Option Tmp} {oi:Oper} {v:Value} {fuel:Nat} {l:Array Bool} {a:Act} {w:World} (l':Array Bool) (hi:ops[i]? = some oi) (hN:oi.dst = N) (hc:VV md ops l l' i = true)
  (hQ:∀ c a w,Q (.panic c) (a.put oi.dst v) w → Q (.panic c) a w) (hy:Yields P ops oi v a) {a':Act} (ha:a.put N v = a')
  (h:Aa P md ops Q S ds fuel l' a' w):Aa P md ops Q S ds (fuel + 1) l a w:=by
 subst ha
 subst hN
 simp only [VV,Bool.and_eq_true,beq_iff_eq] at hc
 obtain ⟨⟨⟨h1,h2⟩,h3⟩,h6⟩:=hc
 subst h6
 exact Jp hi (Region.noSelect_spec h1) hQ fuel l a w (Region.free_spec hi h2) (by simpa using h3) hy h
def IM (md:Region.Mode) (ops:Array Oper) (l l':Array Bool) (i:Nat):Bool:=(Region.ready md ops l == [i]) && (l.setIfInBounds i true == l')
theorem bn {i:Nat} {N:Option Tmp} {oi:Oper} {fuel:Nat} {l:Array Bool} {a:Act} {w:World} (l':Array Bool) (hi:ops[i]? = some oi) (hN:oi.dst = N) (hc:IM md ops l l' i = true) (hd:i ∉ ds)
  (h:∀ K:Act → World → Prop,Shut (∀ a' w',S w' → (S w' → Aa P md ops Q S ds fuel l' a' w') → K a' w') → if Region.wanted oi (yielded ops a.tmps) = true then Oper.wp P oi a w K Q else K (a.put N undef) w) :
  Aa P md ops Q S ds (fuel + 1) l a w:=by
 subst hN
 simp only [IM,Bool.and_eq_true,beq_iff_eq] at hc
 obtain ⟨h1,h2⟩:=hc
 subst h2
 exact EY h1 (by simp) (Be.cons hi hd (fun K hK => h K hK) Be.nil)
theorem Xe {i:Nat} {N:Option Tmp} {oi:Oper} {fuel:Nat} {l:Array Bool} {a:Act} {w:World} (l':Array Bool) (hi:ops[i]? = some oi) (hN:oi.dst = N) (hc:IM md ops l l' i = true) (hd:i ∈ ds)
  (h:∀ K:Act → World → Prop,Shut (∀ a' w',Aa P md ops Q S ds fuel l' a' w' → K a' w') → if Region.wanted oi (yielded ops a.tmps) = true then Oper.wp P oi a w K Q else K (a.put N undef) w) :
  Aa P md ops Q S ds (fuel + 1) l a w:=by
 subst hN
 simp only [IM,Bool.and_eq_true,beq_iff_eq] at hc
 obtain ⟨h1,h2⟩:=hc
 subst h2
 exact EY h1 (by simp) (Be.P5 hi hd (fun K hK => h K hK) Be.nil)
theorem BU {l:Array Bool} {a:Act} {w:World} {n:Nat} (hr:(Region.ready md ops l == []) = true) (h:Q .normal a w):Aa P md ops Q S ds n l a w:=JH (by simpa using hr) h n
theorem P6 {i j:Nat} {Ni Nj:Option Tmp} {oi oj:Oper} {fuel:Nat} {l:Array Bool} {a:Act} {w:World} (li lj:Array Bool) (hi:ops[i]? = some oi) (hj:ops[j]? = some oj) (hNi:oi.dst = Ni) (pI:oj.dst = Nj)
  (hc:(Region.ready md ops l == [i,j] && l.setIfInBounds i true == li && l.setIfInBounds j true == lj) = true) (hdi:i ∉ ds) (hdj:j ∉ ds)
  (h1:∀ K:Act → World → Prop,Shut (∀ a' w',S w' → (S w' → Aa P md ops Q S ds fuel li a' w') → K a' w') → if Region.wanted oi (yielded ops a.tmps) = true then Oper.wp P oi a w K Q else K (a.put Ni undef) w)
  (h2:∀ K:Act → World → Prop,Shut (∀ a' w',S w' → (S w' → Aa P md ops Q S ds fuel lj a' w') → K a' w') → if Region.wanted oj (yielded ops a.tmps) = true then Oper.wp P oj a w K Q else K (a.put Nj undef) w) :
  Aa P md ops Q S ds (fuel + 1) l a w:=by
 subst hNi
 subst pI
 simp only [Bool.and_eq_true,beq_iff_eq] at hc
 obtain ⟨⟨h3,h4⟩,h5⟩:=hc
 subst h4
 subst h5
 exact EY h3 (by simp) (Be.cons hi hdi (fun K hK => h1 K hK) (Be.cons hj hdj (fun K hK => h2 K hK) Be.nil))
def Ak:Act → List (Tmp × Value) → Act
 | a,[] => a
 | a,(n,v) :: r => Ak (a.put (some n) v) r
theorem Dv {σ:Type} {fuel:Nat} {l:Array Bool} {a:Act} {w:World} (fuel':Nat) (l':Array Bool) (ns:σ → List (Tmp × Value)) (F:σ → World → Prop)
  (hcont:∀ s w',F s w' → Aa P md ops Q S ds fuel' l' (Ak a (ns s)) w')
  (h:(∀ s w',F s w' → Aa P md ops Q S ds fuel' l' (Ak a (ns s)) w') → Aa P md ops Q S ds fuel l a w):Aa P md ops Q S ds fuel l a w:=h hcont
theorem Dn {fuel:Nat} {l:Array Bool} {a a':Act} {w:World} (ha:a = a') (h:Aa P md ops Q S ds fuel l a' w):Aa P md ops Q S ds fuel l a w:=by
 subst ha
 exact h
theorem call_ {oi:Oper} {N:Option Tmp} {a:Act} {w:World} {K:Act → World → Prop} (f:FuncId) (args:Array Value) (hw:Region.wanted oi (yielded ops a.tmps) = true) (hN:oi.dst = N) (hrun:(execOp a.eval oi).run P w = .ok (.enter f args) w)
  (h:Calls P f args w fun e w' => ∃ v,e = .returned v ∧ K (a.put N v) w'):if Region.wanted oi (yielded ops a.tmps) = true then Oper.wp P oi a w K Q else K (a.put N undef) w:=by
 rw [if_pos hw]
 subst hN
 unfold Oper.wp
 rw [hrun,Oper.upon_enter]
 refine h.mono fun e w'' hh => ?_
 obtain ⟨v,rfl,hk⟩:=hh
 exact hk
theorem UR {f : FuncId} {fn : Func} (hf : P.funcs[f]? = some fn) (hname : (fn.name == "runtime.NumGoroutine") = false) (hb : fn.body.isSome = true) (args : Array Value) (w : World) : (callFunc f args).run P w = .ok (.enter f args) w := by
 have h1 : fn.name ≠ "runtime.NumGoroutine" := by simpa using hname
 obtain ⟨c,hc⟩:=Option.isSome_iff_exists.1 hb
 simp [callFunc,hf,h1,hc]
theorem BR {oi : Oper} {N : Option Tmp} {a : Act} {w : World} {K : Act → World → Prop} {f : FuncId} {fn : Func} {as_ : Array Operand} {ts : Array TypeId} (hf : P.funcs[f]? = some fn) (hname : (fn.name == "runtime.NumGoroutine") = false) (hb : fn.body.isSome = true) (args : Array Value)
  (hw:Region.wanted oi (yielded ops a.tmps) = true) (hN:oi.dst = N) (hop:oi.op = .call { callee:=.value (.func f),args:=as_,argTypes:=ts }) (hargs:as_.map a.eval = args)
  (h:Calls P f args w fun e w' => ∃ v,e = .returned v ∧ K (a.put N v) w'):if Region.wanted oi (yielded ops a.tmps) = true then Oper.wp P oi a w K Q else K (a.put N undef) w:=by
 refine call_ f args hw hN ?_ h
 have he:=UR hf hname hb args w
 unfold execOp
 simp [hop,resolve,Deferred.ofValue,invoke,Act.eval,hargs,he]
theorem GH {oi:Oper} {N:Option Tmp} {a:Act} {w w1:World} {v:Value} {K:Act → World → Prop} (hw:Region.wanted oi (yielded ops a.tmps) = true) (hN:oi.dst = N) (hrun:(execOp a.eval oi).run P w = .ok (.value v) w1)
  (h:K (a.put N v) w1):if Region.wanted oi (yielded ops a.tmps) = true then Oper.wp P oi a w K Q else K (a.put N undef) w:=by
 rw [if_pos hw]
 subst hN
 unfold Oper.wp
 rw [hrun]
 exact h
theorem Xf {oi:Oper} {a:Act} {w w1:World} {K:Act → World → Prop} (hw:Region.wanted oi (yielded ops a.tmps) = true) (hN:oi.dst = none) (hrun:(execOp a.eval oi).run P w = .ok .skip w1)
  (h:K a w1):if Region.wanted oi (yielded ops a.tmps) = true then Oper.wp P oi a w K Q else K (a.put none undef) w:=by
 rw [if_pos hw]
 unfold Oper.wp
 rw [hrun]
 show K (a.put oi.dst undef) w1
 rw [hN]
 exact h
theorem Xg (n:Int):IntKind.i64.wrap n = Go.RowKit.wrap64 n:=by unfold Go.RowKit.wrap64; exact IntKind.wrap_i64 n
end
end Go.Proofs.YtnkkgofpifhoeaaW.PrintLast
end
