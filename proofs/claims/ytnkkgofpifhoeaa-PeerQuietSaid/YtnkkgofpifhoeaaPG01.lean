/- What the laws of a pair are proved with: links and pairs in memory, what their methods do, what a pair keeps to (part 1). -/
import GoSem.Core.Float
import Derived.WalkKit
import Derived.Below
import Derived.Deep.Draws
import Derived.Laws.Rows
import Derived.Test.YtnkkgofpifhoeaaProg
import Derived.WalkLawsBesides
import Derived.KernelRfl
import Derived.Deep.QuietTactic
import Derived.BigQuiet
import Derived.Outline
import Derived.Lib.Hide
import Derived.OrdersHeld
import Derived.Deep.RegionHeld3
import Derived.Laws.BitsLemmas
import Derived.RowKit
set_option linter.unusedSimpArgs false
set_option linter.unusedVariables false
set_option maxRecDepth 100000
set_option maxHeartbeats 16000000
namespace Go.Proofs.Ytnkkgofpifhoeaa
abbrev J : Bool := true
abbrev I : Bool := false
abbrev XG := #[J,J,J,J,J,J,J,J,J,J,J,J,J,J,J,I]
abbrev MR := #[J,J,J,J,J,J,I]
abbrev jC := #[J,J,J,J,J,J,J,J,J,J,J,I,I,I,J,I]
abbrev jD := #[J,J,J,J,J,J,J,J,J,J,J,J,I,I,J,I]
abbrev jE := #[J,J,J,J,J,J,J,J,J,J,J,J,J,I,J,I]
abbrev nZ := #[J,J,J,J,J,J,J,J,I,I,J,I,I,I,J,I]
abbrev ng := #[J,J,J,J,J,J,J,J,J,I,J,I,I,I,J,I]
abbrev dG := #[I,I,I,I,I,I,I,I,I,I,I,I,I,I,I,I,I,I,I]
abbrev OD := #[I,I,I,I,I,I,I]
abbrev dH := #[J,I,I,I,I,I,I,I,I,I,I,I,I,I,I,I,I,I,I]
abbrev dI := #[J,J,I,I,I,I,I,I,I,I,I,I,I,I,I,I,I,I,I]
abbrev dJ := #[J,J,J,I,I,I,I,I,I,I,I,I,I,I,I,I,I,I,I]
abbrev dK := #[J,J,J,J,I,I,I,I,I,I,I,I,I,I,I,I,I,I,I]
abbrev dL := #[J,J,J,J,J,I,I,I,I,I,I,I,I,I,I,I,I,I,I]
abbrev dM := #[J,J,J,J,J,J,I,I,I,I,I,I,I,I,I,I,I,I,I]
abbrev dN := #[J,J,J,J,J,J,J,I,I,I,I,I,I,I,I,I,I,I,I]
abbrev dO := #[J,J,J,J,J,J,J,J,I,I,I,I,I,I,I,I,I,I,I]
abbrev dP := #[J,J,J,J,J,J,J,J,J,I,I,I,I,I,I,I,I,I,I]
abbrev dQ := #[J,J,J,J,J,J,J,J,J,J,I,I,I,I,I,I,I,I,I]
abbrev dR := #[J,J,J,J,J,J,J,J,J,J,J,I,I,I,I,I,I,I,I]
abbrev ZR := #[J,J,J,J,I,I,I]
abbrev dS := #[J,J,J,J,J,J,J,J,J,J,J,J,I,I,I,I,I,I,I]
abbrev dU := #[J,J,J,J,J,J,J,J,J,J,J,J,J,I,I,I,I,I,I]
abbrev ZT := #[J,J,J,J,J,I,I]
abbrev dV := #[J,J,J,J,J,J,J,J,J,J,J,J,J,J,I,I,I,I,I]
abbrev dW := #[J,J,J,J,J,J,J,J,J,J,J,J,J,J,J,I,I,I,I]
abbrev dX := #[J,J,J,J,J,J,J,J,J,J,J,J,J,J,J,J,I,I,I]
abbrev dY := #[J,J,J,J,J,J,J,J,J,J,J,J,J,J,J,J,J,I,I]
abbrev dZ := #[J,J,J,J,J,J,J,J,J,J,J,J,J,J,J,J,J,J,I]
abbrev dh := #[J,J,J,J,J,J,J,J,J,J,J,J,J,J,J,J,J,J,J]
abbrev OE := #[J,J,J,J,J,J,J]
abbrev SK := #[I,J,I,I,I,I,I]
abbrev SL := #[I,J,J,I,I,I,I]
abbrev SN := #[I,J,J,J,I,I,I]
abbrev rq := #[I,J,J,J,I,J,I]
abbrev ru := #[J,J,J,J,I,J,I]
abbrev di := #[I,I,I,I,I,I,I,I,I,I,I,I,I,I,I,I,I]
abbrev dm := #[J,I,I,I,I,I,I,I,I,I,I,I,I,I,I,I,I]
abbrev dw := #[J,J,I,I,I,I,I,I,I,I,I,I,I,I,I,I,I]
abbrev eF := #[J,J,J,I,I,I,I,I,I,I,I,I,I,I,I,I,I]
abbrev eG := #[J,J,J,I,J,I,I,I,I,I,I,I,I,I,I,I,I]
abbrev eH := #[J,J,J,I,J,J,I,I,I,I,I,I,I,I,I,I,I]
abbrev ZB := #[J,J,J,J,J,I]
abbrev eP := #[J,J,J,I,J,J,J,I,I,I,I,I,I,I,I,I,I]
abbrev eU := #[I,I,I,I,I,I,I,I,I,I,I,I,I,I,I,I]
abbrev eX := #[J,J,J,I,J,J,J,I,J,I,I,I,I,I,I,I,I]
abbrev eY := #[J,I,I,I,I,I,I,I,I,I,I,I,I,I,I,I]
abbrev eu := #[J,J,J,I,J,J,J,I,J,J,I,I,I,I,I,I,I]
abbrev fA := #[J,J,I,I,I,I,I,I,I,I,I,I,I,I,I,I]
abbrev fB := #[J,J,J,I,J,J,J,I,J,J,J,I,I,I,I,I,I]
abbrev fC := #[J,J,J,I,I,I,I,I,I,I,I,I,I,I,I,I]
abbrev fD := #[J,J,J,I,J,J,J,I,J,J,J,I,J,I,I,I,I]
abbrev fE := #[J,J,J,J,I,I,I,I,I,I,I,I,I,I,I,I]
abbrev fF := #[J,J,J,I,J,J,J,I,J,J,J,I,J,J,I,I,I]
abbrev fG := #[J,J,J,J,J,I,I,I,I,I,I,I,I,I,I,I]
abbrev fH := #[J,J,J,I,J,J,J,I,J,J,J,I,J,J,J,I,I]
abbrev fJ := #[J,J,J,J,J,I,I,J,I,I,I,I,I,I,I,I]
abbrev fK := #[J,J,J,J,J,J,J,I,J,J,J,I,J,J,J,I,I]
abbrev fM := #[J,J,J,J,J,I,I,J,I,I,J,I,I,I,I,I]
abbrev fO := #[J,J,J,J,J,J,J,J,J,J,J,I,J,J,J,I,I]
abbrev ry := #[J,J,J,J,J,J,I,J,I,I,J,I,I,I,I,I]
abbrev sD := #[J,J,J,J,J,I,I,J,I,I,J,I,I,I,J,I]
abbrev M10 := #[J,J,J,J,J,J,J,J,J,J,J,J,J,J,J,I,I]
abbrev M11 := #[J,J,J,J,J,J,J,J,I,I,J,I,I,I,I,I]
abbrev M12 := #[J,J,J,J,J,J,I,J,I,I,J,I,I,I,J,I]
abbrev M13 := #[J,J,J,J,J,J,J,J,J,J,J,J,J,J,J,J,I]
abbrev M14 := #[J,J,J,J,J,J,J,J,J,I,J,I,I,I,I,I]
abbrev fP := #[J,J,J,J,J,J,J,J,J,J,J,J,J,J,J,J,J]
abbrev sF := #[J,J,J,J,J,J,J,J,J,J,J,I,I,I,I,I]
abbrev sG := #[J,J,J,J,J,J,J,J,J,J,J,J,I,I,I,I]
abbrev sH := #[J,J,J,J,J,J,J,J,J,J,J,J,J,I,I,I]
abbrev sJ := #[J,J,J,J,J,J,J,J,J,J,J,J,J,J,I,I]
abbrev fQ := #[J,J,J,J,J,J,J,J,J,J,J,J,J,J,J,J]
abbrev sK := #[I,I,I,I,I,I,I,I,I,I,I,I,I,I,I,I,I,I]
abbrev sN := #[J,I,I,I,I,I,I,I,I,I,I,I,I,I,I,I,I,I]
abbrev sO := #[J,J,I,I,I,I,I,I,I,I,I,I,I,I,I,I,I,I]
abbrev sQ := #[J,J,J,I,I,I,I,I,I,I,I,I,I,I,I,I,I,I]
abbrev sU := #[J,J,J,J,I,I,I,I,I,I,I,I,I,I,I,I,I,I]
abbrev sV := #[J,J,J,J,J,I,I,I,I,I,I,I,I,I,I,I,I,I]
abbrev sW := #[J,J,J,J,J,J,I,I,I,I,I,I,I,I,I,I,I,I]
abbrev su := #[J,J,J,J,J,J,J,I,I,I,I,I,I,I,I,I,I,I]
abbrev tC := #[J,J,J,J,J,J,J,I,J,I,I,I,I,I,I,I,I,I]
abbrev tH := #[J,J,J,J,J,J,J,I,J,J,I,I,I,I,I,I,I,I]
abbrev tJ := #[J,J,J,J,J,J,J,I,J,J,J,I,I,I,I,I,I,I]
abbrev tK := #[J,J,J,J,J,J,J,I,J,J,J,J,I,I,I,I,I,I]
abbrev tN := #[J,J,J,J,J,J,J,I,J,J,J,J,J,I,I,I,I,I]
abbrev tV := #[J,J,J,J,J,J,J,I,J,J,J,J,J,J,I,I,I,I]
abbrev fU := #[I,I,I,I,I,I,I,I,I,I,I,I]
abbrev tX := #[J,J,J,J,J,J,J,I,J,J,J,J,J,J,J,I,I,I]
abbrev fV := #[J,I,I,I,I,I,I,I,I,I,I,I]
abbrev tY := #[J,J,J,J,J,J,J,I,J,J,J,J,J,J,J,J,I,I]
abbrev tZ := #[J,J,J,J,J,J,J,J,J,J,J,J,J,J,J,J,I,I]
abbrev fZ := #[J,J,I,I,I,I,I,I,I,I,I,I]
abbrev tq := #[J,J,J,J,J,J,J,J,J,J,J,J,J,J,J,J,J,I]
abbrev gG := #[J,J,J,I,I,I,I,I,I,I,I,I]
abbrev tu := #[J,J,J,J,J,J,J,J,J,J,J,J,J,J,J,J,J,J]
abbrev gI := #[J,J,J,J,I,I,I,I,I,I,I,I]
abbrev jF := #[I,I,I,I,I,I,I,I,I,I,I,I,I,I,I]
abbrev jG := #[J,I,I,I,I,I,I,I,I,I,I,I,I,I,I]
abbrev jH := #[J,J,I,I,I,I,I,I,I,I,I,I,I,I,I]
abbrev jI := #[J,J,J,I,I,I,I,I,I,I,I,I,I,I,I]
abbrev jJ := #[J,J,J,J,I,I,I,I,I,I,I,I,I,I,I]
abbrev gJ := #[J,J,J,J,J,J,J,J,J,I,I,I]
abbrev jK := #[J,J,J,J,J,I,I,I,I,I,I,I,I,I,I]
abbrev gK := #[J,J,J,J,J,J,J,J,J,J,I,I]
abbrev jL := #[J,J,J,J,J,J,I,I,I,I,I,I,I,I,I]
abbrev jM := #[J,J,J,J,J,J,J,I,I,I,I,I,I,I,I]
abbrev gQ := #[J,J,J,J,J,J,J,J,J,J,J,I]
abbrev jO := #[J,J,J,J,J,J,J,J,I,I,I,I,I,I,I]
abbrev gU := #[J,J,J,J,J,J,J,J,J,J,J,J]
abbrev jP := #[J,J,J,J,J,J,J,J,J,I,I,I,I,I,I]
abbrev jQ := #[J,J,J,J,J,J,J,J,J,J,I,I,I,I,I]
abbrev jR := #[J,J,J,J,J,J,J,J,J,J,J,I,I,I,I]
abbrev jS := #[J,J,J,J,J,J,J,J,J,J,J,J,I,I,I]
abbrev jT := #[J,J,J,J,J,J,J,J,J,J,J,J,J,I,I]
abbrev jU := #[J,J,J,J,J,J,J,J,J,J,J,J,J,J,I]
abbrev jV := #[J,J,J,J,J,J,J,J,J,J,J,J,J,J,J]
abbrev jW := #[J,J,J,J,J,J,J,J,J,J,J,I,I]
abbrev jX := #[J,J,J,J,J,I,I,I,I,I,I,I]
abbrev uA := #[I,I,I,I,I,I,I,I,I,I,I,I,I,I,I,I,I,I,I,I,I,I,I,I,I,I,I,I,I,I,I,I,I,I]
abbrev uB := #[J,I,I,I,I,I,I,I,I,I,I,I,I,I,I,I,I,I,I,I,I,I,I,I,I,I,I,I,I,I,I,I,I,I]
abbrev jY := #[J,J,J,J,J,J,I,I,I,I,I,I]
abbrev uC := #[J,J,I,I,I,I,I,I,I,I,I,I,I,I,I,I,I,I,I,I,I,I,I,I,I,I,I,I,I,I,I,I,I,I]
abbrev uD := #[J,J,J,I,I,I,I,I,I,I,I,I,I,I,I,I,I,I,I,I,I,I,I,I,I,I,I,I,I,I,I,I,I,I]
abbrev uF := #[J,J,J,J,I,I,I,I,I,I,I,I,I,I,I,I,I,I,I,I,I,I,I,I,I,I,I,I,I,I,I,I,I,I]
abbrev jZ := #[J,J,J,J,J,J,J,I,I,I,I,I]
abbrev uG := #[J,J,J,J,J,I,I,I,I,I,I,I,I,I,I,I,I,I,I,I,I,I,I,I,I,I,I,I,I,I,I,I,I,I]
abbrev uH := #[J,J,J,J,J,J,I,I,I,I,I,I,I,I,I,I,I,I,I,I,I,I,I,I,I,I,I,I,I,I,I,I,I,I]
abbrev uI := #[J,J,J,J,J,J,J,I,I,I,I,I,I,I,I,I,I,I,I,I,I,I,I,I,I,I,I,I,I,I,I,I,I,I]
abbrev jc := #[J,J,J,J,J,J,J,J,I,I,I,I]
abbrev uJ := #[J,J,J,J,J,J,J,J,I,I,I,I,I,I,I,I,I,I,I,I,I,I,I,I,I,I,I,I,I,I,I,I,I,I]
abbrev uK := #[J,J,J,J,J,J,J,J,J,I,I,I,I,I,I,I,I,I,I,I,I,I,I,I,I,I,I,I,I,I,I,I,I,I]
abbrev uM := #[J,J,J,J,J,J,J,J,J,J,I,I,I,I,I,I,I,I,I,I,I,I,I,I,I,I,I,I,I,I,I,I,I,I]
abbrev uN := #[J,J,J,J,J,J,J,J,J,J,J,I,I,I,I,I,I,I,I,I,I,I,I,I,I,I,I,I,I,I,I,I,I,I]
abbrev M2a := #[J,J,J,J,J,J,J,J,J,J,J,J,I,I,I,I,I,I,I,I,I,I,I,I,I,I,I,I,I,I,I,I,I,I]
abbrev uO := #[J,J,J,J,J,J,J,J,J,J,J,J,J,I,I,I,I,I,I,I,I,I,I,I,I,I,I,I,I,I,I,I,I,I]
abbrev uP := #[J,J,J,J,J,J,J,J,J,J,J,J,J,J,I,I,I,I,I,I,I,I,I,I,I,I,I,I,I,I,I,I,I,I]
abbrev uQ := #[J,J,J,J,J,J,J,J,J,J,J,J,J,J,J,I,I,I,I,I,I,I,I,I,I,I,I,I,I,I,I,I,I,I]
abbrev uS := #[J,J,J,J,J,J,J,J,J,J,J,J,J,J,J,J,I,I,I,I,I,I,I,I,I,I,I,I,I,I,I,I,I,I]
abbrev uT := #[J,J,J,J,J,J,J,J,J,J,J,J,J,J,J,J,J,I,I,I,I,I,I,I,I,I,I,I,I,I,I,I,I,I]
abbrev uU := #[J,J,J,J,J,J,J,J,J,J,J,J,J,J,J,J,J,J,I,I,I,I,I,I,I,I,I,I,I,I,I,I,I,I]
abbrev uV := #[J,J,J,J,J,J,J,J,J,J,J,J,J,J,J,J,J,J,J,I,I,I,I,I,I,I,I,I,I,I,I,I,I,I]
abbrev uX := #[J,J,J,J,J,J,J,J,J,J,J,J,J,J,J,J,J,J,J,J,I,I,I,I,I,I,I,I,I,I,I,I,I,I]
abbrev uY := #[J,J,J,J,J,J,J,J,J,J,J,J,J,J,J,J,J,J,J,J,J,I,I,I,I,I,I,I,I,I,I,I,I,I]
abbrev uZ := #[J,J,J,J,J,J,J,J,J,J,J,J,J,J,J,J,J,J,J,J,J,J,I,I,I,I,I,I,I,I,I,I,I,I]
abbrev uf := #[J,J,J,J,J,J,J,J,J,J,J,J,J,J,J,J,J,J,J,J,J,J,J,I,I,I,I,I,I,I,I,I,I,I]
abbrev ug := #[J,J,J,J,J,J,J,J,J,J,J,J,J,J,J,J,J,J,J,J,J,J,J,J,I,I,I,I,I,I,I,I,I,I]
abbrev uh := #[J,J,J,J,J,J,J,J,J,J,J,J,J,J,J,J,J,J,J,J,J,J,J,J,J,I,I,I,I,I,I,I,I,I]
abbrev uj := #[J,J,J,J,J,J,J,J,J,J,J,J,J,J,J,J,J,J,J,J,J,J,J,J,J,J,I,I,I,I,I,I,I,I]
abbrev uk := #[J,J,J,J,J,J,J,J,J,J,J,J,J,J,J,J,J,J,J,J,J,J,J,J,J,J,J,I,I,I,I,I,I,I]
abbrev um := #[J,J,J,J,J,J,J,J,J,J,J,J,J,J,J,J,J,J,J,J,J,J,J,J,J,J,J,J,I,I,I,I,I,I]
abbrev uo := #[J,J,J,J,J,J,J,J,J,J,J,J,J,J,J,J,J,J,J,J,J,J,J,J,J,J,J,J,J,I,I,I,I,I]
abbrev uq := #[J,J,J,J,J,J,J,J,J,J,J,J,J,J,J,J,J,J,J,J,J,J,J,J,J,J,J,J,J,J,I,I,I,I]
abbrev uu := #[J,J,J,J,J,J,J,J,J,J,J,J,J,J,J,J,J,J,J,J,J,J,J,J,J,J,J,J,J,J,J,I,I,I]
abbrev uw := #[J,J,J,J,J,J,J,J,J,J,J,J,J,J,J,J,J,J,J,J,J,J,J,J,J,J,J,J,J,J,J,J,I,I]
abbrev uy := #[J,J,J,J,J,J,J,J,J,J,J,J,J,J,J,J,J,J,J,J,J,J,J,J,J,J,J,J,J,J,J,J,J,I]
abbrev uz := #[J,J,J,J,J,J,J,J,J,J,J,J,J,J,J,J,J,J,J,J,J,J,J,J,J,J,J,J,J,J,J,J,J,J]
abbrev gV := #[J,I,I,I,I,I,I]
abbrev gW := #[J,I,J,I,I,I,I]
abbrev gX := #[J,I,J,J,I,I,I]
abbrev gY := #[I,I,I,I,I,I]
abbrev gZ := #[I,J,I,I,I,I]
abbrev gm := #[I,J,J,I,I,I]
abbrev vC := #[J,J,J,I,I,I]
abbrev vF := #[I,J,J,I,J,I]
abbrev vG := #[J,J,J,J,I,I]
abbrev vH := #[J,J,J,I,J,I]
abbrev vI := #[I,I,I,I,I,I,I,I,I,I,I,I,I,I,I,I,I,I,I,I,I,I]
abbrev vJ := #[J,I,I,I,I,I,I,I,I,I,I,I,I,I,I,I,I,I,I,I,I,I]
abbrev vK := #[J,J,I,I,I,I,I,I,I,I,I,I,I,I,I,I,I,I,I,I,I,I]
abbrev vM := #[J,J,J,I,I,I,I,I,I,I,I,I,I,I,I,I,I,I,I,I,I,I]
abbrev vN := #[J,J,J,J,I,I,I,I,I,I,I,I,I,I,I,I,I,I,I,I,I,I]
abbrev vO := #[J,J,J,J,J,I,I,I,I,I,I,I,I,I,I,I,I,I,I,I,I,I]
abbrev vP := #[J,J,J,J,J,J,I,I,I,I,I,I,I,I,I,I,I,I,I,I,I,I]
abbrev gu := #[J,J,J,J,J,J]
abbrev vS := #[J,J,J,J,J,J,J,I,I,I,I,I,I,I,I,I,I,I,I,I,I,I]
abbrev vT := #[J,J,J,J,J,J,J,J,I,I,I,I,I,I,I,I,I,I,I,I,I,I]
abbrev vU := #[J,J,J,J,J,J,J,J,J,I,I,I,I,I,I,I,I,I,I,I,I,I]
abbrev vV := #[J,J,J,J,J,J,J,J,J,J,I,I,I,I,I,I,I,I,I,I,I,I]
abbrev vW := #[J,J,J,J,J,J,J,J,J,J,J,I,I,I,I,I,I,I,I,I,I,I]
abbrev vX := #[J,J,J,J,J,J,J,J,J,J,J,J,I,I,I,I,I,I,I,I,I,I]
abbrev ni := #[I,I,I,I,I,I,I,I,I,I]
abbrev vY := #[J,J,J,J,J,J,J,J,J,J,J,J,J,I,I,I,I,I,I,I,I,I]
abbrev vZ := #[J,J,J,J,J,J,J,J,J,J,J,J,J,J,I,I,I,I,I,I,I,I]
abbrev ny := #[J,I,I,I,I,I,I,I,I,I]
abbrev ve := #[J,J,J,J,J,J,J,J,J,J,J,J,J,J,J,I,I,I,I,I,I,I]
abbrev vk := #[J,J,J,J,J,J,J,J,J,J,J,J,J,J,J,J,I,I,I,I,I,I]
abbrev oC := #[J,J,I,I,I,I,I,I,I,I]
abbrev vz := #[J,J,J,J,J,J,J,J,J,J,J,J,J,J,J,J,J,I,I,I,I,I]
abbrev wB := #[J,J,J,J,J,J,J,J,J,J,J,J,J,J,J,J,J,J,I,I,I,I]
abbrev oD := #[J,J,J,I,I,I,I,I,I,I]
abbrev wC := #[J,J,J,J,J,J,J,J,J,J,J,J,J,J,J,J,J,J,J,I,I,I]
abbrev wE := #[J,J,J,J,J,J,J,J,J,J,J,J,J,J,J,J,J,J,J,J,I,I]
abbrev oG := #[J,J,J,J,I,I,I,I,I,I]
abbrev wF := #[J,J,J,J,J,J,J,J,J,J,J,J,J,J,J,J,J,J,J,J,J,I]
abbrev wG := #[J,J,J,J,J,J,J,J,J,J,J,J,J,J,J,J,J,J,J,J,J,J]
abbrev M3a := #[J,J,J,J,J,J,J,J,I,I]
abbrev oH := #[J,J,J,J,J,J,J,J,J,I]
abbrev oI := #[J,J,J,J,J,J,J,J,J,J]
abbrev wH := #[I,I,I,I,I,I,I,I,I,I,I,I,I]
abbrev wI := #[J,I,I,I,I,I,I,I,I,I,I,I,I]
abbrev wJ := #[J,J,I,I,I,I,I,I,I,I,I,I,I]
abbrev wK := #[J,J,J,I,I,I,I,I,I,I,I,I,I]
abbrev wL := #[J,J,J,J,I,I,I,I,I,I,I,I,I]
abbrev wM := #[J,J,J,J,J,I,I,I,I,I,I,I,I]
abbrev wO := #[J,J,J,J,J,J,I,I,I,I,I,I,I]
abbrev wP := #[J,J,J,J,J,J,J,I,I,I,I,I,I]
abbrev wQ := #[J,J,J,J,J,J,I,I,I,I,J,I,I]
abbrev wR := #[J,J,J,J,J,J,J,J,I,I,I,I,I]
abbrev wS := #[J,J,J,J,J,J,J,I,I,I,J,I,I]
abbrev wU := #[J,J,J,J,J,J,J,J,J,I,I,I,I]
abbrev wV := #[J,J,J,J,J,J,J,J,I,I,J,I,I]
abbrev wW := #[J,J,J,J,J,J,J,J,J,J,I,I,I]
abbrev wX := #[J,J,J,J,J,J,J,J,J,I,J,I,I]
abbrev wY := #[J,J,J,J,I,I,J,I,I,I,I,I]
abbrev wZ := #[J,J,J,J,J,J,J,J,J,J,J,J,I]
abbrev wu := #[J,J,J,J,I,I,J,J,I,I,I,I]
abbrev xA := #[J,J,J,J,J,J,J,J,J,J,J,J,J]
abbrev xB := #[J,J,J,J,I,I,J,J,J,I,I,I]
abbrev xC := #[I,I,I,I,I,I,I,I,I,I,I]
abbrev xE := #[J,J,J,J,J,I,J,J,J,I,I,I]
abbrev xG := #[J,I,I,I,I,I,I,I,I,I,I]
abbrev xH := #[J,J,I,I,I,I,I,I,I,I,I]
abbrev xI := #[J,J,J,I,I,I,I,I,I,I,I]
abbrev xJ := #[J,J,J,J,I,I,I,I,I,I,I]
abbrev xK := #[J,J,J,J,J,I,I,I,I,I,I]
abbrev xM := #[J,J,J,J,J,J,I,I,I,I,I]
abbrev xN := #[J,J,J,J,J,J,J,I,I,I,I]
abbrev xO := #[J,J,J,J,J,J,J,J,I,I,I]
abbrev xP := #[J,J,J,J,J,J,J,J,J,I,I]
abbrev xQ := #[J,J,J,J,J,J,J,J,J,J,I]
abbrev xR := #[J,J,J,J,J,J,J,J,J,J,J]
abbrev xU := #[J,J,J,J,I,J,I,I,I,I]
abbrev xW := #[J,J,J,J,J,I,I,I,I,I]
abbrev xX := #[J,J,J,J,I,J,J,I,I,I]
abbrev xY := #[J,J,J,J,J,J,I,I,I,I]
abbrev xZ := #[J,J,J,J,I,J,J,J,I,I]
abbrev xe := #[J,J,J,J,J,J,J,I,I,I]
abbrev xg := #[I,I,I,I,I,I,I,I]
abbrev xh := #[J,I,I,I,I,I,I,I]
abbrev xk := #[J,J,I,I,I,I,I,I]
abbrev xm := #[J,J,J,I,I,I,I,I]
abbrev xq := #[J,J,J,I,J,I,I,I]
abbrev xu := #[J,J,J,I,J,J,I,I]
abbrev xw := #[J,J,J,J,J,J,I,I]
abbrev xx := #[J,J,J,J,J,J,J,I]
abbrev xy := #[J,J,J,J,J,J,J,J]
theorem sA {a : Type _} (l : List a) (i : Nat) (x : a) : l.toArray.setIfInBounds i x = (l.set i x).toArray := List.setIfInBounds_toArray l i x
theorem sZ {a : Type _} {x : a} {l : List a} {y : a} : (x :: l).set 0 y = y :: l := List.set_cons_zero
theorem sS {a : Type _} {x : a} {l : List a} {i : Nat} {y : a} : (x :: l).set (i + 1) y = x :: l.set i y := List.set_cons_succ
end Go.Proofs.Ytnkkgofpifhoeaa
namespace Go.Proofs.Ytnkkgofpifhoeaa
theorem oJ {p:Prop} (h:p:=by
 have h1:=Nat.mod_lt (t / 2) (show 0 < 2 ^ 52 - 1 by decide)
 have h2:=Nat.mod_lt t (show 0 < 2 by decide)
 generalize t % 2 = a at h2 ⊢
 generalize t / 2 % (2 ^ 52 - 1) = b at h1 ⊢
 omega):p:=h
theorem oK {p:Prop} (h:p:=by
 rintro e w' ⟨rfl,n0,rfl⟩
 go_wp2_with fail
 refine (BZ q f2 _).mono ?_
 rintro e w' ⟨rfl,n1,rfl⟩
 go_wp2_with fail
 go_ret
 exact ⟨rfl,DN ((Below.refl _ _).alloc (Nat.le_refl _) _) _⟩):p:=h
theorem oL {p:Prop} (h:p:=by
 rintro e w' ⟨rfl,n0,rfl⟩
 go_wp2_with fail
 refine (BZ 0 (by decide +kernel) _).mono ?_
 rintro e w' ⟨rfl,n1,rfl⟩
 go_wp2_with fail
 go_ret
 exact ⟨rfl,DN ((Below.refl _ _).alloc (Nat.le_refl _) _) _⟩):p:=h
theorem oM {p:Prop} (h:p:=by
 rintro e w' ⟨rfl,n0,rfl⟩
 go_wp2_with fail
 refine (BZ 9223372036854775808 (by decide +kernel) _).mono ?_
 rintro e w' ⟨rfl,n1,rfl⟩
 go_wp2_with fail
 go_ret
 exact ⟨rfl,DN ((Below.refl _ _).alloc (Nat.le_refl _) _) _⟩):p:=h
end Go.Proofs.Ytnkkgofpifhoeaa
section
namespace Go.Proofs.Ytnkkgofpifhoeaa.OG
open Ieee
def fin (x:Nat):Bool:=decide (x % 9223372036854775808 < 9218868437227405312)
def Hr (x:Nat):Bool:=x % 9223372036854775808 == 0
def LU (x:Nat):Bool:=x == 9223372036854775808
inductive Read (x:Nat):Datum → Prop
 | sub (s:Bool) (m:Nat):m = x % 9223372036854775808 → m < 4503599627370496 → Read x (.number s m (-1074))
 | norm (s:Bool) (m k:Nat):4503599627370496 ≤ m → m < 9007199254740992 → x % 9223372036854775808 = (k + 1) * 4503599627370496 + (m - 4503599627370496) → k ≤ 2045 → Read x (.number s m (-1074 + (k:Nat)))
 | inf (s:Bool):x % 9223372036854775808 = 9218868437227405312 → Read x (.infinity s)
 | nan (s:Bool) (q:Nat):9218868437227405312 < x % 9223372036854775808 → Read x (.nan s q)
theorem JZ (x:Nat):Read x (double.read x):=by
 have e1:double.signWeight = 9223372036854775808:=by decide
 have e2:double.binade = 4503599627370496:=by decide
 have e3:double.infRung = 9218868437227405312:=by decide
 have e4:double.leastPlace = -1074:=by decide
 unfold Format.read
 rw [e1,e2,e3,e4]
 simp only
 generalize hs:(x / 9223372036854775808 % 2 == 1) = s
 split
 ·exact .sub s _ rfl (by assumption)
 ·split
  ·rename_i h1 h2
   refine .norm s _ (x % 9223372036854775808 / 4503599627370496 - 1) (by omega) (by omega) (by omega) (by omega)
  ·split
   ·exact .inf s (by assumption)
   ·exact .nan s _ (by omega)
theorem FO (s:Bool) (m k:Nat):signed s m k = 0 ↔ m = 0:=by
 unfold signed
 rw [Nat.shiftLeft_eq]
 have hp:0 < 2 ^ k:=Nat.two_pow_pos k
 constructor
 ·intro h
  split at h
  ·have:m * 2 ^ k = 0:=by omega
   rcases Nat.mul_eq_zero.1 this with h | h <;> omega
  ·have:m * 2 ^ k = 0:=by omega
   rcases Nat.mul_eq_zero.1 this with h | h <;> omega
 ·rintro rfl
  simp
theorem cmp_eq (a b:Int):(some (compare a b) == some Ordering.eq) = decide (a = b):=by
 have:(compare a b == Ordering.eq) = decide (a = b):=by
  by_cases h:a = b
  ·subst h
   simp [compare,compareOfLessAndEq]
  ·have:compare a b ≠ .eq:=by
    simp only [compare,compareOfLessAndEq]
    split
    ·decide
    ·simp [h]
   simp [h]
 simpa using this
theorem Va (x:Nat):(double.order x 0 == some .eq) = Hr x:=by
 have hz:double.read 0 = .number false 0 (-1074):=by decide +kernel
 unfold Format.order Hr
 rw [hz]
 have hr:=JZ x
 generalize double.read x = d at hr ⊢
 cases hr with
 | sub s m h1 h2 =>
  simp only [Datum.order]
  rw [cmp_eq]
  rw [← h1]
  by_cases h:m = 0
  ·subst h
   simp [signed]
  ·have hne:¬ signed s m ((-1074:Int) - min (-1074) (-1074)).toNat = signed false 0 ((-1074:Int) - min (-1074) (-1074)).toNat:=by
    rw [(FO false 0 _).2 rfl]
    exact fun e => h ((FO _ _ _).1 e)
   rw [decide_eq_false hne]
   symm
   rw [beq_eq_false_iff_ne]
   exact h
 | norm s m k h1 h2 h3 h4 =>
  simp only [Datum.order]
  rw [cmp_eq]
  have hne:¬ signed s m ((-1074 + (k:Int)) - min (-1074 + (k:Int)) (-1074)).toNat = signed false 0 ((-1074:Int) - min (-1074 + (k:Int)) (-1074)).toNat:=by
   rw [(FO false 0 _).2 rfl]
   intro e
   have:=(FO _ _ _).1 e
   omega
  rw [decide_eq_false hne]
  symm
  rw [beq_eq_false_iff_ne]
  omega
 | inf s h =>
  simp only [Datum.order,h]
  cases s <;> decide
 | nan s q h =>
  simp only [Datum.order]
  symm
  rw [show (none == some Ordering.eq) = false from rfl,beq_eq_false_iff_ne]
  omega
theorem LV (x:Nat) (h:fin x = true):double.sub x x = some 0:=by
 unfold fin at h
 have h':=of_decide_eq_true h
 unfold Format.sub
 have key:∀ (s:Bool) (m:Nat) (i:Int),(Option.map double.write ((Datum.number s m i).sum (Datum.number s m i).opposite)) = some 0:=by
  intro s m i
  simp only [Datum.opposite,Datum.sum,Option.map_some]
  have ht:signed s m (i - min i i).toNat + signed (!s) m (i - min i i).toNat = 0:=by
   unfold signed
   cases s <;> simp <;> omega
  rw [ht]
  cases s <;> rfl
 cases hr:double.read x with
 | number s m i => exact key s m i
 | infinity s =>
  have:=JZ x
  rw [hr] at this
  cases this
  omega
 | nan s q =>
  have:=JZ x
  rw [hr] at this
  cases this
  omega
theorem LW (x:Nat) (h:fin x = false):double.sub x x = none:=by
 unfold fin at h
 have h':=of_decide_eq_false h
 unfold Format.sub
 cases hr:double.read x with
 | number s m i =>
  have:=JZ x
  rw [hr] at this
  cases this <;> omega
 | infinity s => cases s <;> rfl
 | nan s q => rfl
theorem Gs:double.div 4607182418800017408 0 = some 9218868437227405312:=by decide +kernel
theorem I7:double.div 4607182418800017408 9223372036854775808 = some 18442240474082181120:=by decide +kernel
theorem Fh:(double.order 9218868437227405312 0 == some .lt) = false:=by decide +kernel
theorem IJ:(double.order 18442240474082181120 0 == some .lt) = true:=by decide +kernel
theorem I8 (x:Nat) (h:x < 18446744073709551616) (hz:Hr x = true):x = 0 ∨ x = 9223372036854775808:=by
 unfold Hr at hz
 have:=beq_iff_eq.1 hz
 omega
end Go.Proofs.Ytnkkgofpifhoeaa.OG
end
section
namespace Go.Proofs.Ytnkkgofpifhoeaa.Base
open Go.RowKit
theorem Fj {a b:Bool} (h:a = b):Ending.returned (.bool a) = .returned (.bool b):=by rw [h]
section
variable {P:Program} {w:World} (a:Addr) (m:Mode)
@[go_sem] theorem P7 (k:FloatKind) (x y:Nat):(store a (.complex k x y) m).run P w = stored P w a (.complex k x y) m:=run_store P w a _ m rfl
@[go_sem] theorem SQ (k:FloatKind) (x:Nat):(store a (.float k x) m).run P w = stored P w a (.float k x) m:=run_store P w a _ m rfl
end
section
variable {B:Nat} {a w:World}
theorem DN (h:Below B a w) (n:Nat):Below B a (w.drewN n):=⟨h.os,h.tape,h.output,h.size,h.block⟩
theorem Aj (h:Below B a w):Below B a w.drew:=⟨h.os,h.tape,h.output,h.size,h.block⟩
end
theorem ZU {W w1:World} (hb:Below W.heap.size W w1):(∀ b o,b < W.heap.size → w1.cell? ⟨b,o,none⟩ = W.cell? ⟨b,o,none⟩) ∧ (∀ b o,b < W.heap.size → w1.frozen? ⟨b,o,none⟩ = W.frozen? ⟨b,o,none⟩) :=
 ⟨fun b o h => hb.cell (p:=⟨b,o,none⟩) h,fun b o h => hb.frozen (p:=⟨b,o,none⟩) h⟩
end Go.Proofs.Ytnkkgofpifhoeaa.Base
end
section
namespace Go.Proofs.Ytnkkgofpifhoeaa.Num
open Go.RowKit Go.Proofs.Ytnkkgofpifhoeaa.OG Go.Proofs.Ytnkkgofpifhoeaa.Base
section
variable {P:Program}
theorem Sm (w:World) (t:TypeId) (x y r:Nat) (h:Ieee.double.sub x y = some r):(binOp .sub t (.float .f64 x) (.float .f64 y)).run P w = .ok (.float .f64 r) w:=by
 simp [binOp,Op.floatArith,FloatKind.format,h]
theorem Ee (w:World) (t:TypeId) (x y r:Nat) (h:Ieee.double.div x y = some r):(binOp .quo t (.float .f64 x) (.float .f64 y)).run P w = .ok (.float .f64 r) w:=by
 simp [binOp,Op.floatArith,FloatKind.format,h]
theorem Vb (x y t:Nat):Hr (Question.cut (.nanBits .f64 x y) t) = false:=by
 unfold Hr
 rw [beq_eq_false_iff_ne]
 show ((t % 2) * 2 ^ 63 + 0x7ff0000000000000 + 1 + (t / 2) % (2 ^ 52 - 1)) % 9223372036854775808 ≠ 0
 exact oJ
theorem LX (w:World) (t:TypeId) (x y:Nat) (h:Ieee.double.sub x y = none):∃ r,Hr r = false ∧ (binOp .sub t (.float .f64 x) (.float .f64 y)).run P w = .ok (.float .f64 r) w.drew:=by
 obtain ⟨q,hq⟩:∃ q,q = Question.nanBits .f64 x y:=⟨_,rfl⟩
 refine ⟨q.cut (w.tape w.drawn q),by rw [hq]; exact Vb _ _ _,?_⟩
 simp [binOp,Op.floatArith,FloatKind.format,h]
 rw [← hq]
 have hf:q.forced = false:=by rw [hq]; rfl
 simp [hf]
end
theorem D6 (x:Nat):(FloatKind.f64.format.order x 0 == some Ordering.eq) = Hr x:=Va x
theorem G6 (x:Nat) (h:fin x = false) (w:World):Calls Try.prog 122 #[.float .f64 x] w fun e w' => e = .returned (.bool false) ∧ ∃ n,w' = w.drewN n:=by
 obtain ⟨r,hr,hs⟩:=LX (P:=Try.prog) w 38 x x (LW x h)
 go_enter Try.func122,Try.ntmps122
 go_wp2
 go_ret
 exact ⟨Fj (by rw [D6,hr]),1,rfl⟩
theorem BZ (x:Nat) (h:fin x = true) (w:World):Calls Try.prog 122 #[.float .f64 x] w fun e w' => e = .returned (.bool true) ∧ ∃ n,w' = w.drewN n:=by
 have hs:=Sm (P:=Try.prog) w 38 x x 0 (LV x h)
 go_enter Try.func122,Try.ntmps122
 go_wp2
 go_ret
 exact ⟨Fj (by rw [D6]; rfl),0,rfl⟩
def Bc (p q:Nat):Bool:=fin p && fin q && !(LU p) && !(LU q)
theorem Vd (p q:Nat) (w:World) (h:fin p = false) :
  Calls Try.prog 99 #[.agg #[.int .i64 2,.int .i64 0,.complex .f64 p q,.string ⟨#[]⟩,.int .i64 0,.int .u32 0,.int .u64 0,.slice none 0 0,.slice none 0 0]] w fun e w' => e = .returned (.bool false) ∧ Below w.heap.size w w':=by
 go_enter Try.func99,Try.ntmps99
 go_wp2_with fail
 go_quiet (fail)
 go_wp2_with fail
 refine (G6 p h _).mono ?_
 rintro e w' ⟨rfl,n0,rfl⟩
 go_wp2_with fail
 go_ret
 exact ⟨rfl,DN ((Below.refl _ _).alloc (Nat.le_refl _) _) _⟩
theorem Ve (p q:Nat) (w:World) (h:fin p = true) (h2:fin q = false) :
  Calls Try.prog 99 #[.agg #[.int .i64 2,.int .i64 0,.complex .f64 p q,.string ⟨#[]⟩,.int .i64 0,.int .u32 0,.int .u64 0,.slice none 0 0,.slice none 0 0]] w fun e w' => e = .returned (.bool false) ∧ Below w.heap.size w w':=by
 go_enter Try.func99,Try.ntmps99
 go_wp2_with fail
 go_quiet (fail)
 go_wp2_with fail
 refine (BZ p h _).mono ?_
 rintro e w' ⟨rfl,n0,rfl⟩
 go_wp2_with fail
 refine (G6 q h2 _).mono ?_
 rintro e w' ⟨rfl,n1,rfl⟩
 go_wp2_with fail
 go_ret
 exact ⟨rfl,DN ((Below.refl _ _).alloc (Nat.le_refl _) _) _⟩
theorem Sr (p:Nat) (q:Nat) (w:World) (f1:fin p = true) (hp:Hr p = false) (f2:fin q = true) (hq:Hr q = false) :
  Calls Try.prog 99 #[.agg #[.int .i64 2,.int .i64 0,.complex .f64 p q,.string ⟨#[]⟩,.int .i64 0,.int .u32 0,.int .u64 0,.slice none 0 0,.slice none 0 0]] w fun e w' => e = .returned (.bool true) ∧ Below w.heap.size w w':=by
 have ep:(FloatKind.f64.format.order p 0 == some Ordering.eq) = false:=by rw [D6,hp]
 have eq:(FloatKind.f64.format.order q 0 == some Ordering.eq) = false:=by rw [D6,hq]
 go_enter Try.func99,Try.ntmps99
 go_wp2_with fail
 go_quiet (fail)
 go_wp2_with fail
 refine (BZ p f1 _).mono ?_
 exact oK
theorem Su (p:Nat) (w:World) (f1:fin p = true) (hp:Hr p = false) :
  Calls Try.prog 99 #[.agg #[.int .i64 2,.int .i64 0,.complex .f64 p 0,.string ⟨#[]⟩,.int .i64 0,.int .u32 0,.int .u64 0,.slice none 0 0,.slice none 0 0]] w fun e w' => e = .returned (.bool true) ∧ Below w.heap.size w w':=by
 have ep:(FloatKind.f64.format.order p 0 == some Ordering.eq) = false:=by rw [D6,hp]
 have eq:(FloatKind.f64.format.order 0 0 == some Ordering.eq) = true:=by rw [D6]; rfl
 have dq:=fun (W:World) => Ee (P:=Try.prog) W 38 4607182418800017408 0 9218868437227405312 Gs
 have lq:(FloatKind.f64.format.order 9218868437227405312 0 == some Ordering.lt) = false:=Fh
 go_enter Try.func99,Try.ntmps99
 go_wp2_with fail
 go_quiet (fail)
 go_wp2_with fail
 refine (BZ p f1 _).mono ?_
 exact oL
theorem Sv (p:Nat) (w:World) (f1:fin p = true) (hp:Hr p = false) :
  Calls Try.prog 99 #[.agg #[.int .i64 2,.int .i64 0,.complex .f64 p 9223372036854775808,.string ⟨#[]⟩,.int .i64 0,.int .u32 0,.int .u64 0,.slice none 0 0,.slice none 0 0]] w fun e w' => e = .returned (.bool false) ∧ Below w.heap.size w w':=by
 have ep:(FloatKind.f64.format.order p 0 == some Ordering.eq) = false:=by rw [D6,hp]
 have eq:(FloatKind.f64.format.order 9223372036854775808 0 == some Ordering.eq) = true:=by rw [D6]; rfl
 have dq:=fun (W:World) => Ee (P:=Try.prog) W 38 4607182418800017408 9223372036854775808 18442240474082181120 I7
 have lq:(FloatKind.f64.format.order 18442240474082181120 0 == some Ordering.lt) = true:=IJ
 go_enter Try.func99,Try.ntmps99
 go_wp2_with fail
 go_quiet (fail)
 go_wp2_with fail
 refine (BZ p f1 _).mono ?_
 exact oM
theorem Sz (q:Nat) (w:World) (f2:fin q = true) (hq:Hr q = false) :
  Calls Try.prog 99 #[.agg #[.int .i64 2,.int .i64 0,.complex .f64 0 q,.string ⟨#[]⟩,.int .i64 0,.int .u32 0,.int .u64 0,.slice none 0 0,.slice none 0 0]] w fun e w' => e = .returned (.bool true) ∧ Below w.heap.size w w':=by
 have ep:(FloatKind.f64.format.order 0 0 == some Ordering.eq) = true:=by rw [D6]; rfl
 have dp:=fun (W:World) => Ee (P:=Try.prog) W 38 4607182418800017408 0 9218868437227405312 Gs
 have lp:(FloatKind.f64.format.order 9218868437227405312 0 == some Ordering.lt) = false:=Fh
 have eq:(FloatKind.f64.format.order q 0 == some Ordering.eq) = false:=by rw [D6,hq]
 go_enter Try.func99,Try.ntmps99
 go_wp2_with fail
 go_quiet (fail)
 go_wp2_with fail
 refine (BZ 0 (by decide +kernel) _).mono ?_
 exact oK
theorem S9  (w:World)  :
  Calls Try.prog 99 #[.agg #[.int .i64 2,.int .i64 0,.complex .f64 0 0,.string ⟨#[]⟩,.int .i64 0,.int .u32 0,.int .u64 0,.slice none 0 0,.slice none 0 0]] w fun e w' => e = .returned (.bool true) ∧ Below w.heap.size w w':=by
 have ep:(FloatKind.f64.format.order 0 0 == some Ordering.eq) = true:=by rw [D6]; rfl
 have dp:=fun (W:World) => Ee (P:=Try.prog) W 38 4607182418800017408 0 9218868437227405312 Gs
 have lp:(FloatKind.f64.format.order 9218868437227405312 0 == some Ordering.lt) = false:=Fh
 have eq:(FloatKind.f64.format.order 0 0 == some Ordering.eq) = true:=by rw [D6]; rfl
 have dq:=fun (W:World) => Ee (P:=Try.prog) W 38 4607182418800017408 0 9218868437227405312 Gs
 have lq:(FloatKind.f64.format.order 9218868437227405312 0 == some Ordering.lt) = false:=Fh
 go_enter Try.func99,Try.ntmps99
 go_wp2_with fail
 go_quiet (fail)
 go_wp2_with fail
 refine (BZ 0 (by decide +kernel) _).mono ?_
 exact oL
theorem TA  (w:World)  :
  Calls Try.prog 99 #[.agg #[.int .i64 2,.int .i64 0,.complex .f64 0 9223372036854775808,.string ⟨#[]⟩,.int .i64 0,.int .u32 0,.int .u64 0,.slice none 0 0,.slice none 0 0]] w fun e w' => e = .returned (.bool false) ∧ Below w.heap.size w w':=by
 have ep:(FloatKind.f64.format.order 0 0 == some Ordering.eq) = true:=by rw [D6]; rfl
 have dp:=fun (W:World) => Ee (P:=Try.prog) W 38 4607182418800017408 0 9218868437227405312 Gs
 have lp:(FloatKind.f64.format.order 9218868437227405312 0 == some Ordering.lt) = false:=Fh
 have eq:(FloatKind.f64.format.order 9223372036854775808 0 == some Ordering.eq) = true:=by rw [D6]; rfl
 have dq:=fun (W:World) => Ee (P:=Try.prog) W 38 4607182418800017408 9223372036854775808 18442240474082181120 I7
 have lq:(FloatKind.f64.format.order 18442240474082181120 0 == some Ordering.lt) = true:=IJ
 go_enter Try.func99,Try.ntmps99
 go_wp2_with fail
 go_quiet (fail)
 go_wp2_with fail
 refine (BZ 0 (by decide +kernel) _).mono ?_
 exact oM
theorem Vf (q:Nat) (w:World) (h2:fin q = true) :
  Calls Try.prog 99 #[.agg #[.int .i64 2,.int .i64 0,.complex .f64 9223372036854775808 q,.string ⟨#[]⟩,.int .i64 0,.int .u32 0,.int .u64 0,.slice none 0 0,.slice none 0 0]] w fun e w' => e = .returned (.bool false) ∧ Below w.heap.size w w':=by
 have ep:(FloatKind.f64.format.order 9223372036854775808 0 == some Ordering.eq) = true:=by rw [D6]; rfl
 have dp:=fun (W:World) => Ee (P:=Try.prog) W 38 4607182418800017408 9223372036854775808 18442240474082181120 I7
 have lp:(FloatKind.f64.format.order 18442240474082181120 0 == some Ordering.lt) = true:=IJ
 go_enter Try.func99,Try.ntmps99
 go_wp2_with fail
 go_quiet (fail)
 go_wp2_with fail
 refine (BZ 9223372036854775808 (by decide +kernel) _).mono ?_
 rintro e w' ⟨rfl,n0,rfl⟩
 go_wp2_with fail
 refine (BZ q h2 _).mono ?_
 rintro e w' ⟨rfl,n1,rfl⟩
 go_wp2_with fail
 go_ret
 exact ⟨rfl,DN ((Below.refl _ _).alloc (Nat.le_refl _) _) _⟩
theorem KZ (p q:Nat) (hp:p < 18446744073709551616) (hq:q < 18446744073709551616) (w:World) :
  Calls Try.prog 99 #[.agg #[.int .i64 2,.int .i64 0,.complex .f64 p q,.string ⟨#[]⟩,.int .i64 0,.int .u32 0,.int .u64 0,.slice none 0 0,.slice none 0 0]] w fun e w' => e = .returned (.bool (Bc p q)) ∧ Below w.heap.size w w':=by
 have OJ:∀ x,Hr x = false → LU x = false:=by
  intro x h
  unfold Hr at h
  unfold LU
  rw [beq_eq_false_iff_ne] at h ⊢
  omega
 unfold Bc
 cases h1:fin p
 ·exact Vd p q w h1
 cases h2:fin q
 ·exact Ve p q w h1 h2
 cases h3:Hr p
 ·rw [OJ p h3]
  cases h4:Hr q
  ·rw [OJ q h4]
   exact Sr p q w h1 h3 h2 h4
  ·rcases I8 q hq h4 with rfl | rfl
   ·exact Su p w h1 h3
   ·exact Sv p w h1 h3
 ·rcases I8 p hp h3 with rfl | rfl
  ·cases h4:Hr q
   ·rw [OJ q h4]
    exact Sz q w h2 h4
   ·rcases I8 q hq h4 with rfl | rfl
    ·exact S9 w
    ·exact TA w
  ·have:LU 9223372036854775808 = true:=rfl
   rw [this]
   simpa using Vf q w h2
end Go.Proofs.Ytnkkgofpifhoeaa.Num
end
section
namespace Go.Proofs.Ytnkkgofpifhoeaa.Pk
open Go.RowKit Go.Proofs.Ytnkkgofpifhoeaa.OG Go.Proofs.Ytnkkgofpifhoeaa.Base Go.Proofs.Ytnkkgofpifhoeaa.Num
theorem Ja {P:Program} (W:World) (t:TypeId) (x y:Nat):(binOp .eql t (.complex .f64 x y) (.complex .f64 0 0)).run P W = .ok (.bool (Hr x && Hr y)) W:=by
 have h1:=D6 x
 have h2:=D6 y
 simp [binOp,Op.complexOp,Op.Complex.cmp,Op.floatCmp,asBool,h1,h2]
def good1 (mine AL yours seq AX stamp echo:Int) (zr zi n:Nat):Bool :=
 decide (mine ≠ 0 ∧ seq < 2 ∧ ((0 < AL) ↔ (0 < yours)) ∧ n = 0 ∧ AX = 0 ∧ stamp = 0 ∧ echo = 0) && (Hr zr && Hr zi)
def JF (mine AL yours stamp echo:Int) (zr zi n:Nat):Bool :=
 decide (mine ≠ 0 ∧ AL > 0 ∧ yours > 0 ∧ 0 < n ∧ stamp = 0 ∧ echo = 0) && (Hr zr && Hr zi)
def JG (mine AL yours seq stamp echo:Int) (zr zi n:Nat):Bool :=
 decide (mine ≠ 0 ∧ AL > 0 ∧ yours > 0 ∧ n = 0 ∧ seq = 0 ∧ stamp = 0 ∧ echo = 0) && (Hr zr && Hr zi)
def IZ (mine AL yours seq:Int) (zr zi n:Nat):Bool :=
 Bc zr zi && decide (mine ≠ 0 ∧ AL > 0 ∧ yours > 0 ∧ n = 0 ∧ seq = 0)
theorem OL (mine AL yours seq AX stamp echo:Int) (zr zi:Nat) (A:Option Addr) (n c:Nat) (w:World) :
  Calls Try.prog 66 #[.agg #[.int .i64 1,.int .u32 mine,.int .u32 AL,.int .u32 yours,.int .u32 seq,.int .u32 AX,.int .u32 stamp,.int .u32 echo,.complex .f64 zr zi,.slice A n c],
   .agg #[.bool true,.bool false,.bool false,.bool false,.int .i64 14,.int .i64 14]] w
   fun e w' => e = .returned (.bool (good1 mine AL yours seq AX stamp echo zr zi n)) ∧ Below w.heap.size w w':=by
 have hz:=fun (W:World) => Ja (P:=Try.prog) W 25 zr zi
 have DZ:=Try.underlying27
 go_enter Try.func66,Try.ntmps66
 go_wp2
 all_goals
  go_ret
  refine ⟨Fj ?_,?_⟩
  ·unfold good1
   simp_all <;> omega
  ·repeat (first | exact Below.refl _ _ | refine Below.setCell ?_ (by simp <;> omega) _ | refine Below.alloc ?_ (by simp <;> omega) _)
theorem Qs (mine AL yours seq AX stamp echo:Int) (zr zi:Nat) (A:Option Addr) (n c:Nat) (w:World) :
  Calls Try.prog 66 #[.agg #[.int .i64 2,.int .u32 mine,.int .u32 AL,.int .u32 yours,.int .u32 seq,.int .u32 AX,.int .u32 stamp,.int .u32 echo,.complex .f64 zr zi,.slice A n c],
   .agg #[.bool true,.bool true,.bool false,.bool true,.int .i64 22,.int .i64 1021]] w
   fun e w' => e = .returned (.bool (JF mine AL yours stamp echo zr zi n)) ∧ Below w.heap.size w w':=by
 have hz:=fun (W:World) => Ja (P:=Try.prog) W 25 zr zi
 have DZ:=Try.underlying27
 go_enter Try.func66,Try.ntmps66
 go_wp2
 all_goals
  go_ret
  refine ⟨Fj ?_,?_⟩
  ·unfold JF
   simp_all <;> omega
  ·repeat (first | exact Below.refl _ _ | refine Below.setCell ?_ (by simp <;> omega) _ | refine Below.alloc ?_ (by simp <;> omega) _)
theorem TB (mine AL yours seq AX stamp echo:Int) (zr zi:Nat) (A:Option Addr) (n c:Nat) (w:World) :
  Calls Try.prog 66 #[.agg #[.int .i64 3,.int .u32 mine,.int .u32 AL,.int .u32 yours,.int .u32 seq,.int .u32 AX,.int .u32 stamp,.int .u32 echo,.complex .f64 zr zi,.slice A n c],
   .agg #[.bool false,.bool true,.bool false,.bool false,.int .i64 17,.int .i64 17]] w
   fun e w' => e = .returned (.bool (JG mine AL yours seq stamp echo zr zi n)) ∧ Below w.heap.size w w':=by
 have hz:=fun (W:World) => Ja (P:=Try.prog) W 25 zr zi
 have DZ:=Try.underlying27
 go_enter Try.func66,Try.ntmps66
 go_wp2
 all_goals
  go_ret
  refine ⟨Fj ?_,?_⟩
  ·unfold JG
   simp_all <;> omega
  ·repeat (first | exact Below.refl _ _ | refine Below.setCell ?_ (by simp <;> omega) _ | refine Below.alloc ?_ (by simp <;> omega) _)
theorem Qu (mine AL yours seq AX stamp echo:Int) (zr zi:Nat) (A:Option Addr) (n c:Nat) (w:World) (hp:zr < 18446744073709551616) (hq:zi < 18446744073709551616) :
  Calls Try.prog 66 #[.agg #[.int .i64 4,.int .u32 mine,.int .u32 AL,.int .u32 yours,.int .u32 seq,.int .u32 AX,.int .u32 stamp,.int .u32 echo,.complex .f64 zr zi,.slice A n c],
   .agg #[.bool false,.bool true,.bool true,.bool false,.int .i64 41,.int .i64 41]] w
   fun e w' => e = .returned (.bool (IZ mine AL yours seq zr zi n)) ∧ Below w.heap.size w w':=by
 have hz:=fun (W:World) => Ja (P:=Try.prog) W 25 0 0
 have hn:Hr 0 = true:=rfl
 have DZ:=Try.underlying27
 cases hpl:Bc zr zi
 all_goals
  have HP:=Lib.hid hpl
  clear hpl
  have hq':=Lib.hid hq
  have hp':=Lib.hid hp
  clear hp hq
  go_enter Try.func66,Try.ntmps66
  go_wp2_with (go_at_call 99; refine (KZ zr zi hp'.out hq'.out _).mono ?_; rintro e w' ⟨rfl,hb⟩; rw [HP.out]; obtain ⟨hc,hf⟩:=ZU hb; have hz1:=hb.size; simp at hz1)
 all_goals
  go_ret
  refine ⟨Fj ?_,?_⟩
  ·unfold IZ
   rw [HP.out]
   simp_all <;> omega
  ·(repeat (first | refine Below.setCell ?_ (by simp <;> omega) _ | refine Below.alloc ?_ (by simp <;> omega) _ | exact Below.refl _ _ | refine Below.trans ?_ (Below.mono (by assumption) (by simp <;> omega))))
end Go.Proofs.Ytnkkgofpifhoeaa.Pk
end
section
namespace Go.Proofs.YtnkkgofpifhoeaaW.PrintLast
section
variable {P:Program} {ops:Array Oper} {Q:Exit → Act → World → Prop} {md:Region.Mode} {S:World → Prop} {ds:List Nat}
def Region.FZ (md:Region.Mode) (ops:Array Oper) (i:Nat):Nat → Nat → Bool
 | 0,_ => false
 | fuel + 1,d => match ops[d]? with
  | some o => o.after.any fun e => Region.binds md e && (e.on == i || Region.FZ md ops i fuel e.on)
  | none => false
def Region.LY (md:Region.Mode) (ops:Array Oper) (listed:Array Bool):Bool :=
 (List.range ops.size).all fun j => !listed.getD j false || match ops[j]? with
  | some o => o.after.all fun e => !Region.binds md e || listed.getD e.on false
  | none => true
def Region.lastB (md:Region.Mode) (ops:Array Oper) (listed:Array Bool) (ds:List Nat) (i:Nat):Bool :=
 ds.all fun d => listed.getD d true || Region.FZ md ops i ops.size d
def DK (md:Region.Mode) (ops:Array Oper) (listed:Array Bool):Prop :=
 ∀ j oj,ops[j]? = some oj → listed.getD j false = true → ∀ e ∈ oj.after,Region.binds md e = true → listed.getD e.on false = true
theorem Region.LZ {listed:Array Bool} (h:Region.LY md ops listed = true):DK md ops listed:=by
 intro j oj hj hl e he hb
 have hlt:j < ops.size:=(Array.getElem?_eq_some_iff.1 hj).1
 have h1:=List.all_eq_true.1 h j (List.mem_range.2 hlt)
 simp only [hl,hj,Bool.not_true,Bool.false_or] at h1
 have h2:=Array.all_eq_true_iff_forall_mem.1 h1 e he
 simpa [hb] using h2
theorem DK.set {listed:Array Bool} {i:Nat} (h:DK md ops listed) (hi:i ∈ Region.ready md ops listed):DK md ops (listed.setIfInBounds i true):=by
 obtain ⟨_,oi,hoi,hall⟩:=mem_ready.1 hi
 intro j oj hj hl e he hb
 by_cases hij:i = j
 ·subst hij
  have:oj = oi:=Option.some.inj (hj.symm.trans hoi)
  subst this
  exact getD_set_true (hall e he hb)
 ·rw [getD_set_ne false hij] at hl
  exact getD_set_true (h j oj hj hl e he hb)
theorem Region.Ia {listed:Array Bool} {i:Nat} (hc:DK md ops listed):∀ (fuel d:Nat),Region.FZ md ops i fuel d = true → listed.getD d false = true → listed.getD i false = true
 | 0,_,h,_ => by simp [Region.FZ] at h
 | fuel + 1,d,h,hl => by
  unfold Region.FZ at h
  cases ho:ops[d]? with
  | none => rw [ho] at h; simp at h
  | some o =>
   rw [ho] at h
   obtain ⟨e,he,h1⟩:=Array.any_eq_true'.1 h
   simp only [Bool.and_eq_true,Bool.or_eq_true,beq_iff_eq] at h1
   have hle:=hc d o ho hl e he h1.1
   rcases h1.2 with h2 | h2
   ·rw [← h2]; exact hle
   ·exact Region.Ia hc fuel e.on h2 hle
theorem Region.JP {listed:Array Bool} {i d fuel:Nat} (hc:DK md ops listed) (hr:Region.FZ md ops i fuel d = true) (hun:listed.getD i true = false):d ∉ Region.ready md ops listed:=by
 intro hd
 obtain ⟨_,o,ho,hall⟩:=mem_ready.1 hd
 have hi:listed.getD i false = true:=by
  cases fuel with
  | zero => simp [Region.FZ] at hr
  | succ n =>
   unfold Region.FZ at hr
   rw [ho] at hr
   obtain ⟨e,he,h1⟩:=Array.any_eq_true'.1 hr
   simp only [Bool.and_eq_true,Bool.or_eq_true,beq_iff_eq] at h1
   have hle:=hall e he h1.1
   rcases h1.2 with h2 | h2
   ·rw [← h2]; exact hle
   ·exact Region.Ia hc n e.on h2 hle
 rcases Nat.lt_or_ge i listed.size with h' | h'
 ·simp [h'] at hun hi
  rw [hun] at hi
  cases hi
 ·simp [Array.getElem?_eq_none h'] at hun
def Aa (P:Program) (md:Region.Mode) (ops:Array Oper) (Q:Exit → Act → World → Prop) (S:World → Prop) (ds:List Nat):Nat → Array Bool → Act → World → Prop
 | 0,listed,a,w => Region.ready md ops listed = [] ∧ Q .normal a w
 | fuel + 1,listed,a,w =>
  (Region.ready md ops listed = [] → Q .normal a w) ∧
  ∀ i ∈ Region.ready md ops listed,wpOp P ops Q i (fun a' w' => (i ∉ ds → S w → S w') ∧ Aa P md ops Q S ds fuel (listed.setIfInBounds i true) a' w') a w
theorem IB:∀ (fuel:Nat) (listed:Array Bool) (a:Act) (w:World),Aa P md ops Q S ds fuel listed a w → wpAny P md ops Q fuel listed a w
 | 0,_,_,_,h => h
 | fuel + 1,_,_,_,h => ⟨h.1,fun i hi => wpOp_mono (fun a' w' h' => IB fuel _ a' w' h'.2) (h.2 i hi)⟩
theorem JQ {i:Nat} {oi:Oper} {v:Value} (hi:ops[i]? = some oi) (hsel:∀ (j:Nat) (o:Oper) cs b,ops[j]? = some o → o.op ≠ .select cs b)
  (hQ:∀ c a w,Q (.panic c) (a.put oi.dst v) w → Q (.panic c) a w) (n:Nat) :
  ∀ (fuel:Nat) (listed:Array Bool) (a:Act) (w:World),
   (∀ j oj,ops[j]? = some oj → j ≠ i → listed.getD j true = false → (∀ e ∈ oj.after,Region.binds md e = true → e.on ≠ i) → oi.apart ops oj = true) →
   DK md ops listed → (∀ d ∈ ds,listed.getD d true = false → Region.FZ md ops i n d = true) →
   i ∈ Region.ready md ops listed → YieldsIf P ops S oi v a → S w →
   Aa P md ops Q S ds fuel (listed.setIfInBounds i true) (a.put oi.dst v) w → Aa P md ops Q S ds (fuel + 1) listed a w:=by
 intro fuel
 induction fuel with
 | zero =>
  intro listed a w _ _ _ hr hy hS H
  refine ⟨fun h => (by rw [h] at hr; cases hr),fun j hj => ?_⟩
  by_cases hji:j = i
  ·subst hji; exact hy.wpOp hi hS ⟨fun _ h => h,H⟩
  ·have:=ready_mono hj hji
   rw [H.1] at this
   cases this
 | succ fuel ih =>
  intro listed a w hfree hc hd hr hy hS H
  refine ⟨fun h => (by rw [h] at hr; cases hr),fun j hj => ?_⟩
  by_cases hji:j = i
  ·subst hji; exact hy.wpOp hi hS ⟨fun _ h => h,H⟩
  ·have h1:=H.2 j (ready_mono hj hji)
   obtain ⟨hjun,oj,hoj,hall⟩:=mem_ready.1 hj
   have Qv:=(mem_ready.1 hr).1
   have hnot:∀ e ∈ oj.after,Region.binds md e = true → e.on ≠ i:=fun e he hb heq => by
    have h1:=hall e he hb
    rw [heq] at h1
    rcases Nat.lt_or_ge i listed.size with h' | h'
    ·simp [h'] at Qv h1; rw [Qv] at h1; cases h1
    ·simp [Array.getElem?_eq_none h'] at h1
   have hjd:j ∉ ds:=fun hm => Region.JP hc (hd j hm hjun) Qv hj
   have h2:=wpOp_putIf hoj (hfree j oj hoj hji hjun hnot) (fun cs b => hsel i oi cs b hi) (fun cs b => hsel j oj cs b hoj) hQ hy h1
   have hfree':∀ k ok,ops[k]? = some ok → k ≠ i → (listed.setIfInBounds j true).getD k true = false →
     (∀ e ∈ ok.after,Region.binds md e = true → e.on ≠ i) → oi.apart ops ok = true:=fun k ok hk hki hun hno => by
    refine hfree k ok hk hki ?_ hno
    by_cases hjk:j = k
    ·subst hjk; exact hjun
    ·rw [getD_set_ne true hjk] at hun; exact hun
   have hd':∀ d ∈ ds,(listed.setIfInBounds j true).getD d true = false → Region.FZ md ops i n d = true:=fun d hm hun => by
    refine hd d hm ?_
    by_cases hjk:j = d
    ·subst hjk; exact hjun
    ·rw [getD_set_ne true hjk] at hun; exact hun
   refine wpOp_mono (fun a' w' h3 => ⟨h3.2.1,ih (listed.setIfInBounds j true) a' w' hfree' (hc.set hj) hd' (ready_mono hr (Ne.symm hji)) h3.1 (h3.2.1 hjd hS) ?_⟩) h2
   rw [Array.setIfInBounds_comm _ _ hji]
   exact h3.2.2
theorem KH {i:Nat} {oi:Oper} {v:Value} (hi:ops[i]? = some oi) (hsel:∀ (j:Nat) (o:Oper) cs b,ops[j]? = some o → o.op ≠ .select cs b)
  (hQ:∀ c a w,Q (.panic c) (a.put oi.dst v) w → Q (.panic c) a w) :
  ∀ (fuel:Nat) (listed:Array Bool) (a:Act) (w:World),
   (∀ j oj,ops[j]? = some oj → j ≠ i → listed.getD j true = false → (∀ e ∈ oj.after,Region.binds md e = true → e.on ≠ i) → oi.apart ops oj = true) →
   i ∈ Region.ready md ops listed → Yields P ops oi v a →
   Aa P md ops Q S ds fuel (listed.setIfInBounds i true) (a.put oi.dst v) w → Aa P md ops Q S ds (fuel + 1) listed a w:=by
 intro fuel
 induction fuel with
 | zero =>
  intro listed a w _ hr hy H
  refine ⟨fun h => (by rw [h] at hr; cases hr),fun j hj => ?_⟩
  by_cases hji:j = i
  ·subst hji; exact (hy.yieldsIf (S:=fun _ => True)).wpOp hi trivial ⟨fun _ h => h,H⟩
  ·have:=ready_mono hj hji
   rw [H.1] at this
   cases this
 | succ fuel ih =>
  intro listed a w hfree hr hy H
  refine ⟨fun h => (by rw [h] at hr; cases hr),fun j hj => ?_⟩
  by_cases hji:j = i
  ·subst hji; exact (hy.yieldsIf (S:=fun _ => True)).wpOp hi trivial ⟨fun _ h => h,H⟩
  ·have h1:=H.2 j (ready_mono hj hji)
   obtain ⟨hjun,oj,hoj,hall⟩:=mem_ready.1 hj
   have Qv:=(mem_ready.1 hr).1
   have hnot:∀ e ∈ oj.after,Region.binds md e = true → e.on ≠ i:=fun e he hb heq => by
    have h1:=hall e he hb
    rw [heq] at h1
    rcases Nat.lt_or_ge i listed.size with h' | h'
    ·simp [h'] at Qv h1; rw [Qv] at h1; cases h1
    ·simp [Array.getElem?_eq_none h'] at h1
   have h2:=wpOp_put hoj (hfree j oj hoj hji hjun hnot) (fun cs b => hsel i oi cs b hi) (fun cs b => hsel j oj cs b hoj) hQ hy h1
   have hfree':∀ k ok,ops[k]? = some ok → k ≠ i → (listed.setIfInBounds j true).getD k true = false →
     (∀ e ∈ ok.after,Region.binds md e = true → e.on ≠ i) → oi.apart ops ok = true:=fun k ok hk hki hun hno => by
    refine hfree k ok hk hki ?_ hno
    by_cases hjk:j = k
    ·subst hjk; exact hjun
    ·rw [getD_set_ne true hjk] at hun; exact hun
   refine wpOp_mono (fun a' w' h3 => ⟨h3.2.1,ih (listed.setIfInBounds j true) a' w' hfree' (ready_mono hr (Ne.symm hji)) h3.1 ?_⟩) h2
   rw [Array.setIfInBounds_comm _ _ hji]
   exact h3.2.2
theorem Jk {i:Nat} {oi:Oper} {v:Value} {fuel:Nat} {listed:Array Bool} {a:Act} {w:World} (hi:ops[i]? = some oi)
  (hs:Region.noSelect ops = true) (hf:Region.free md ops listed i = true) (hr:(Region.ready md ops listed).contains i = true)
  (hc:Region.LY md ops listed = true) (hl:Region.lastB md ops listed ds i = true)
  (hQ:∀ c a w,Q (.panic c) (a.put oi.dst v) w → Q (.panic c) a w) (hy:YieldsIf P ops S oi v a) (hS:S w)
  (h:Aa P md ops Q S ds fuel (listed.setIfInBounds i true) (a.put oi.dst v) w):Aa P md ops Q S ds (fuel + 1) listed a w :=
 JQ hi (Region.noSelect_spec hs) hQ ops.size fuel listed a w (Region.free_spec hi hf) (Region.LZ hc)
  (fun d hm hun => by have:=List.all_eq_true.1 hl d hm; rw [hun] at this; simpa using this) (by simpa using hr) hy hS h
theorem KI {rs:List Nat} {fuel:Nat} {listed:Array Bool} {a:Act} {w:World} (hr:Region.ready md ops listed = rs) (hne:rs ≠ [])
  (h:∀ i ∈ rs,wpOp P ops Q i (fun a' w' => (i ∉ ds → S w → S w') ∧ Aa P md ops Q S ds fuel (listed.setIfInBounds i true) a' w') a w):Aa P md ops Q S ds (fuel + 1) listed a w :=
 ⟨fun h0 => absurd (hr ▸ h0) hne,hr ▸ h⟩
theorem Jl {listed:Array Bool} {a:Act} {w:World} (hr:Region.ready md ops listed = []) (h:Q .normal a w) :
  ∀ fuel,Aa P md ops Q S ds fuel listed a w
 | 0 => ⟨hr,h⟩
 | _ + 1 => ⟨fun _ => h,by rw [hr]; simp⟩
theorem Jm {id:Nat} {a:Act} {w:World} (hm:P.follows .mixedOrders = true)
  (h:Aa P .any ops Q S ds ops.size (Array.replicate ops.size false) a { w with drawn:=w.drawn + 1 }):(Code.region id ops true).wp P Q a w :=
 wp_region_any hm (IB _ _ _ _ h)
end
section
variable {P:Program} {ops:Array Oper} {Q:Exit → Act → World → Prop} {md:Region.Mode} {S:World → Prop} {ds:List Nat}
def Bi (P:Program) (md:Region.Mode) (ops:Array Oper) (Q:Exit → Act → World → Prop) (S:World → Prop) (ds:List Nat) (fuel:Nat) (listed:Array Bool) (a:Act) (w:World) (rs:List Nat):Prop :=
 ∀ i ∈ rs,wpOp P ops Q i (fun a' w' => (i ∉ ds → S w → S w') ∧ Aa P md ops Q S ds fuel (listed.setIfInBounds i true) a' w') a w
theorem Bi.nil {fuel:Nat} {listed:Array Bool} {a:Act} {w:World}:Bi P md ops Q S ds fuel listed a w []:=fun _ h => by cases h
theorem Bi.cons {fuel:Nat} {listed:Array Bool} {a:Act} {w:World} {i:Nat} {o:Oper} {rs:List Nat} (ho:ops[i]? = some o) (hd:i ∉ ds)
  (h:∀ K':Act → World → Prop,Shut (∀ a w,S w → (S w → Aa P md ops Q S ds fuel (listed.setIfInBounds i true) a w) → K' a w) → if Region.wanted o (yielded ops a.tmps) = true then Oper.wp P o a w K' Q else K' (a.put o.dst undef) w)
  (hs:Bi P md ops Q S ds fuel listed a w rs):Bi P md ops Q S ds fuel listed a w (i :: rs):=fun j hj => by
 rcases List.mem_cons.1 hj with rfl | hj
 ·exact wpOp_step ho (fun K' hK => h K' (fun a w hS hW => hK a w ⟨fun _ _ => hS,hW hS⟩))
 ·exact hs j hj
theorem Bi.Qw {fuel:Nat} {listed:Array Bool} {a:Act} {w:World} {i:Nat} {o:Oper} {rs:List Nat} (ho:ops[i]? = some o) (hd:i ∈ ds)
  (h:∀ K':Act → World → Prop,Shut (∀ a w,Aa P md ops Q S ds fuel (listed.setIfInBounds i true) a w → K' a w) → if Region.wanted o (yielded ops a.tmps) = true then Oper.wp P o a w K' Q else K' (a.put o.dst undef) w)
  (hs:Bi P md ops Q S ds fuel listed a w rs):Bi P md ops Q S ds fuel listed a w (i :: rs):=fun j hj => by
 rcases List.mem_cons.1 hj with rfl | hj
 ·exact wpOp_step ho (fun K' hK => h K' (fun a w hW => hK a w ⟨fun hn => absurd hd hn,hW⟩))
 ·exact hs j hj
theorem Ep {rs:List Nat} {fuel:Nat} {listed:Array Bool} {a:Act} {w:World} (hr:Region.ready md ops listed = rs) (hne:rs ≠ [])
  (h:Bi P md ops Q S ds fuel listed a w rs):Aa P md ops Q S ds (fuel + 1) listed a w:=KI hr hne h
theorem Aw {id n:Nat} {a:Act} {w:World} (l:Array Bool) (hm:P.follows .mixedOrders = true) (hn:ops.size = n) (hl:Array.replicate n false = l) (hS:S w.drew)
  (h:S w.drew → Aa P .any ops Q S ds n l a w.drew):(Code.region id ops true).wp P Q a w:=by
 subst hn
 subst hl
 exact Jm hm (h hS)
def takeB (md:Region.Mode) (ops:Array Oper) (ds:List Nat) (l l':Array Bool) (i:Nat):Bool :=
 Region.noSelect ops && Region.free md ops l i && (Region.ready md ops l).contains i && Region.LY md ops l && Region.lastB md ops l ds i && (l.setIfInBounds i true == l')
theorem P8 {i:Nat} {N:Option Tmp} {oi:Oper} {v:Value} {fuel:Nat} {l:Array Bool} {a:Act} {w:World} (l':Array Bool) (hi:ops[i]? = some oi) (hN:oi.dst = N) (hc:takeB md ops ds l l' i = true)
  (hQ:∀ c a w,Q (.panic c) (a.put oi.dst v) w → Q (.panic c) a w) (hy:YieldsIf P ops S oi v a) (hS:S w) {a':Act} (ha:a.put N v = a')
  (h:Aa P md ops Q S ds fuel l' a' w):Aa P md ops Q S ds (fuel + 1) l a w:=by
 subst ha
 subst hN
 simp only [takeB,Bool.and_eq_true,beq_iff_eq] at hc
 obtain ⟨⟨⟨⟨⟨h1,h2⟩,h3⟩,h4⟩,h5⟩,h6⟩:=hc
 subst h6
 exact Jk hi h1 h2 h3 h4 h5 hQ hy hS h
def Xg (md:Region.Mode) (ops:Array Oper) (l l':Array Bool) (i:Nat):Bool :=
 Region.noSelect ops && Region.free md ops l i && (Region.ready md ops l).contains i && (l.setIfInBounds i true == l')
theorem ZV {i:Nat} {N:Option Tmp} {oi:Oper} {v:Value} {fuel:Nat} {l:Array Bool} {a:Act} {w:World} (l':Array Bool) (hi:ops[i]? = some oi) (hN:oi.dst = N) (hc:Xg md ops l l' i = true)
  (hQ:∀ c a w,Q (.panic c) (a.put oi.dst v) w → Q (.panic c) a w) (hy:Yields P ops oi v a) {a':Act} (ha:a.put N v = a')
  (h:Aa P md ops Q S ds fuel l' a' w):Aa P md ops Q S ds (fuel + 1) l a w:=by
 subst ha
 subst hN
 simp only [Xg,Bool.and_eq_true,beq_iff_eq] at hc
 obtain ⟨⟨⟨h1,h2⟩,h3⟩,h6⟩:=hc
 subst h6
 exact KH hi (Region.noSelect_spec h1) hQ fuel l a w (Region.free_spec hi h2) (by simpa using h3) hy h
def I9 (md:Region.Mode) (ops:Array Oper) (l l':Array Bool) (i:Nat):Bool:=(Region.ready md ops l == [i]) && (l.setIfInBounds i true == l')
theorem jd {i:Nat} {N:Option Tmp} {oi:Oper} {fuel:Nat} {l:Array Bool} {a:Act} {w:World} (l':Array Bool) (hi:ops[i]? = some oi) (hN:oi.dst = N) (hc:I9 md ops l l' i = true) (hd:i ∉ ds)
  (h:∀ K:Act → World → Prop,Shut (∀ a' w',S w' → (S w' → Aa P md ops Q S ds fuel l' a' w') → K a' w') → if Region.wanted oi (yielded ops a.tmps) = true then Oper.wp P oi a w K Q else K (a.put N undef) w) :
  Aa P md ops Q S ds (fuel + 1) l a w:=by
 subst hN
 simp only [I9,Bool.and_eq_true,beq_iff_eq] at hc
 obtain ⟨h1,h2⟩:=hc
 subst h2
 exact Ep h1 (by simp) (Bi.cons hi hd (fun K hK => h K hK) Bi.nil)
theorem ZW {i:Nat} {N:Option Tmp} {oi:Oper} {fuel:Nat} {l:Array Bool} {a:Act} {w:World} (l':Array Bool) (hi:ops[i]? = some oi) (hN:oi.dst = N) (hc:I9 md ops l l' i = true) (hd:i ∈ ds)
  (h:∀ K:Act → World → Prop,Shut (∀ a' w',Aa P md ops Q S ds fuel l' a' w' → K a' w') → if Region.wanted oi (yielded ops a.tmps) = true then Oper.wp P oi a w K Q else K (a.put N undef) w) :
  Aa P md ops Q S ds (fuel + 1) l a w:=by
 subst hN
 simp only [I9,Bool.and_eq_true,beq_iff_eq] at hc
 obtain ⟨h1,h2⟩:=hc
 subst h2
 exact Ep h1 (by simp) (Bi.Qw hi hd (fun K hK => h K hK) Bi.nil)
theorem BN {l:Array Bool} {a:Act} {w:World} {n:Nat} (hr:(Region.ready md ops l == []) = true) (h:Q .normal a w):Aa P md ops Q S ds n l a w:=Jl (by simpa using hr) h n
theorem Qx {i j:Nat} {Ni Nj:Option Tmp} {oi oj:Oper} {fuel:Nat} {l:Array Bool} {a:Act} {w:World} (li lj:Array Bool) (hi:ops[i]? = some oi) (hj:ops[j]? = some oj) (hNi:oi.dst = Ni) (x8:oj.dst = Nj)
  (hc:(Region.ready md ops l == [i,j] && l.setIfInBounds i true == li && l.setIfInBounds j true == lj) = true) (hdi:i ∉ ds) (hdj:j ∉ ds)
  (h1:∀ K:Act → World → Prop,Shut (∀ a' w',S w' → (S w' → Aa P md ops Q S ds fuel li a' w') → K a' w') → if Region.wanted oi (yielded ops a.tmps) = true then Oper.wp P oi a w K Q else K (a.put Ni undef) w)
  (h2:∀ K:Act → World → Prop,Shut (∀ a' w',S w' → (S w' → Aa P md ops Q S ds fuel lj a' w') → K a' w') → if Region.wanted oj (yielded ops a.tmps) = true then Oper.wp P oj a w K Q else K (a.put Nj undef) w) :
  Aa P md ops Q S ds (fuel + 1) l a w:=by
 subst hNi
 subst x8
 simp only [Bool.and_eq_true,beq_iff_eq] at hc
 obtain ⟨⟨h3,h4⟩,h5⟩:=hc
 subst h4
 subst h5
 exact Ep h3 (by simp) (Bi.cons hi hdi (fun K hK => h1 K hK) (Bi.cons hj hdj (fun K hK => h2 K hK) Bi.nil))
def Ak:Act → List (Tmp × Value) → Act
 | a,[] => a
 | a,(n,v) :: r => Ak (a.put (some n) v) r
theorem D7 {σ:Type} {fuel:Nat} {l:Array Bool} {a:Act} {w:World} (fuel':Nat) (l':Array Bool) (ns:σ → List (Tmp × Value)) (F:σ → World → Prop)
  (hcont:∀ s w',F s w' → Aa P md ops Q S ds fuel' l' (Ak a (ns s)) w')
  (h:(∀ s w',F s w' → Aa P md ops Q S ds fuel' l' (Ak a (ns s)) w') → Aa P md ops Q S ds fuel l a w):Aa P md ops Q S ds fuel l a w:=h hcont
theorem Dy {fuel:Nat} {l:Array Bool} {a a':Act} {w:World} (ha:a = a') (h:Aa P md ops Q S ds fuel l a' w):Aa P md ops Q S ds fuel l a w:=by
 subst ha
 exact h
theorem call_ {oi:Oper} {N:Option Tmp} {a:Act} {w:World} {K:Act → World → Prop} (f:FuncId) (args:Array Value) (hw:Region.wanted oi (yielded ops a.tmps) = true) (hN:oi.dst = N) (hrun:(execOp a.eval oi).run P w = .ok (.enter f args) w)
  (h:Calls P f args w fun e w' => ∃ v,e = .returned v ∧ K (a.put N v) w'):if Region.wanted oi (yielded ops a.tmps) = true then Oper.wp P oi a w K Q else K (a.put N undef) w:=by
 rw [if_pos hw]
 subst hN
 unfold Oper.wp
 rw [hrun,Oper.upon_enter]
 refine h.mono fun e w'' hh => ?_
 obtain ⟨v,rfl,hk⟩:=hh
 exact hk
theorem Vg {f : FuncId} {fn : Func} (hf : P.funcs[f]? = some fn) (hname : (fn.name == "runtime.NumGoroutine") = false) (hb : fn.body.isSome = true) (args : Array Value) (w : World) : (callFunc f args).run P w = .ok (.enter f args) w := by
 have h1 : fn.name ≠ "runtime.NumGoroutine" := by simpa using hname
 obtain ⟨c,hc⟩:=Option.isSome_iff_exists.1 hb
 simp [callFunc,hf,h1,hc]
theorem BK {oi : Oper} {N : Option Tmp} {a : Act} {w : World} {K : Act → World → Prop} {f : FuncId} {fn : Func} {as_ : Array Operand} {ts : Array TypeId} (hf : P.funcs[f]? = some fn) (hname : (fn.name == "runtime.NumGoroutine") = false) (hb : fn.body.isSome = true) (args : Array Value)
  (hw:Region.wanted oi (yielded ops a.tmps) = true) (hN:oi.dst = N) (hop:oi.op = .call { callee:=.value (.func f),args:=as_,argTypes:=ts }) (hargs:as_.map a.eval = args)
  (h:Calls P f args w fun e w' => ∃ v,e = .returned v ∧ K (a.put N v) w'):if Region.wanted oi (yielded ops a.tmps) = true then Oper.wp P oi a w K Q else K (a.put N undef) w:=by
 refine call_ f args hw hN ?_ h
 have he:=Vg hf hname hb args w
 unfold execOp
 simp [hop,resolve,Deferred.ofValue,invoke,Act.eval,hargs,he]
theorem Gt {oi:Oper} {N:Option Tmp} {a:Act} {w w1:World} {v:Value} {K:Act → World → Prop} (hw:Region.wanted oi (yielded ops a.tmps) = true) (hN:oi.dst = N) (hrun:(execOp a.eval oi).run P w = .ok (.value v) w1)
  (h:K (a.put N v) w1):if Region.wanted oi (yielded ops a.tmps) = true then Oper.wp P oi a w K Q else K (a.put N undef) w:=by
 rw [if_pos hw]
 subst hN
 unfold Oper.wp
 rw [hrun]
 exact h
theorem ZX {oi:Oper} {a:Act} {w w1:World} {K:Act → World → Prop} (hw:Region.wanted oi (yielded ops a.tmps) = true) (hN:oi.dst = none) (hrun:(execOp a.eval oi).run P w = .ok .skip w1)
  (h:K a w1):if Region.wanted oi (yielded ops a.tmps) = true then Oper.wp P oi a w K Q else K (a.put none undef) w:=by
 rw [if_pos hw]
 unfold Oper.wp
 rw [hrun]
 show K (a.put oi.dst undef) w1
 rw [hN]
 exact h
theorem ZY (n:Int):IntKind.i64.wrap n = Go.RowKit.wrap64 n:=by unfold Go.RowKit.wrap64; exact IntKind.wrap_i64 n
end
end Go.Proofs.YtnkkgofpifhoeaaW.PrintLast
end
