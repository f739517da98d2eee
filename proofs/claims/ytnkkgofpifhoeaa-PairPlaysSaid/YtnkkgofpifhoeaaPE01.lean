/- What the laws of a pair are proved with: links and pairs in memory, what their methods do, what a pair keeps to (part 1). -/
import Derived.WalkKit
import Derived.Below
import Derived.Deep.Draws
import Derived.Laws.Rows
import Derived.OrdersHeld
import Derived.Deep.RegionHeld3
import Derived.Laws.BitsLemmas
import Derived.RowKit
set_option linter.unusedSimpArgs false
set_option linter.unusedVariables false
set_option maxRecDepth 100000
set_option maxHeartbeats 16000000
namespace Go.Proofs.Ytnkkgofpifhoeaa
abbrev J : Bool := true
abbrev I : Bool := false
abbrev Ql := #[J,J,J,J,J,J,J,J,J,J,J,J,J,I,I]
abbrev Vp := #[I,I,I,I,I,I,I,I,I,I,I,I,I,I,I]
abbrev Vq := #[J,I,I,I,I,I,I,I,I,I,I,I,I,I,I]
abbrev Vr := #[J,J,I,I,I,I,I,I,I,I,I,I,I,I,I]
abbrev Vs := #[J,J,J,I,I,I,I,I,I,I,I,I,I,I,I]
abbrev Vt := #[J,J,J,J,I,I,I,I,I,I,I,I,I,I,I]
abbrev Vu := #[J,J,J,J,J,I,I,I,I,I,I,I,I,I,I]
abbrev Vw := #[J,J,J,J,J,J,I,I,I,I,I,I,I,I,I]
abbrev Vx := #[J,J,J,J,J,J,J,I,I,I,I,I,I,I,I]
abbrev Vy := #[J,J,J,J,J,J,J,J,I,I,I,I,I,I,I]
abbrev Vz := #[J,J,J,J,J,J,J,J,J,I,I,I,I,I,I]
abbrev gZ := #[J,J,J,J,J,J,J,J,J,J,I,I,I,I,I]
abbrev gu := #[J,J,J,J,J,J,J,J,J,J,J,I,I,I,I]
abbrev gy := #[J,J,J,J,J,J,J,J,J,J,J,J,I,I,I]
abbrev XW := #[J,J,J,J,J,J,J,J,J,J,J,J,J,J,I]
abbrev XX := #[J,J,J,J,J,J,J,J,J,J,J,J,J,J,J]
abbrev oN := #[I,I,I,I,I,I,I,I,I,I,I,I,I,I,I,I,I,I,I]
abbrev oO := #[J,I,I,I,I,I,I,I,I,I,I,I,I,I,I,I,I,I,I]
abbrev oP := #[J,J,I,I,I,I,I,I,I,I,I,I,I,I,I,I,I,I,I]
abbrev oQ := #[J,J,J,I,I,I,I,I,I,I,I,I,I,I,I,I,I,I,I]
abbrev oU := #[J,J,J,J,I,I,I,I,I,I,I,I,I,I,I,I,I,I,I]
abbrev oV := #[J,J,J,J,J,I,I,I,I,I,I,I,I,I,I,I,I,I,I]
abbrev oW := #[J,J,J,J,J,J,I,I,I,I,I,I,I,I,I,I,I,I,I]
abbrev oZ := #[J,J,J,J,J,J,J,I,I,I,I,I,I,I,I,I,I,I,I]
abbrev og := #[J,J,J,J,J,J,J,J,I,I,I,I,I,I,I,I,I,I,I]
abbrev oh := #[J,J,J,J,J,J,J,J,J,I,I,I,I,I,I,I,I,I,I]
abbrev ou := #[J,J,J,J,J,J,J,J,J,J,I,I,I,I,I,I,I,I,I]
abbrev oz := #[J,J,J,J,J,J,J,J,J,J,J,I,I,I,I,I,I,I,I]
abbrev o5 := #[J,J,J,J,J,J,J,J,J,J,J,J,I,I,I,I,I,I,I]
abbrev o6 := #[J,J,J,J,J,J,J,J,J,J,J,J,J,I,I,I,I,I,I]
abbrev o7 := #[J,J,J,J,J,J,J,J,J,J,J,J,J,J,I,I,I,I,I]
abbrev o8 := #[J,J,J,J,J,J,J,J,J,J,J,J,J,J,J,I,I,I,I]
abbrev o9 := #[J,J,J,J,J,J,J,J,J,J,J,J,J,J,J,J,I,I,I]
abbrev pF := #[J,J,J,J,J,J,J,J,J,J,J,J,J,J,J,J,J,I,I]
abbrev pG := #[J,J,J,J,J,J,J,J,J,J,J,J,J,J,J,J,J,J,I]
abbrev pI := #[J,J,J,J,J,J,J,J,J,J,J,J,J,J,J,J,J,J,J]
abbrev eP := #[J,J,J,J,J,J,J,J,I,I,I,I,J,I,I]
abbrev eU := #[J,J,J,J,J,J,J,J,J,I,I,I,J,I,I]
abbrev M0C := #[J,J,J,J,J,J,J,J,J,J,I,I,J,I,I]
abbrev M0D := #[J,J,J,J,J,J,J,J,J,J,J,I,J,I,I]
abbrev vW := #[I,I,I,I,I,I,I,I,I,I,I,I,I]
abbrev vX := #[J,J,J,J,J,J,J,J,J,J,J,I,I]
abbrev Zu := #[I,I,I,I,I,I,I,I,I]
abbrev vY := #[J,J,J,J,J,J,J,J,J,J,J,J,I]
abbrev xE := #[J,I,I,I,I,I,I,I,I,I,I,I,I]
abbrev vZ := #[J,J,J,J,J,J,J,J,J,J,J,J,J]
abbrev Zv := #[J,J,J,J,J,I,I,I,I]
abbrev xG := #[J,J,J,J,J,J,J,J,J,I,I,I,I]
abbrev Zw := #[J,J,J,J,J,J,I,I,I]
abbrev xH := #[J,J,J,J,J,J,J,J,J,J,I,I,I]
abbrev Zx := #[J,J,J,J,J,J,J,I,I]
abbrev Zy := #[J,J,J,J,J,J,J,J,I]
abbrev Zz := #[J,J,J,J,J,J,J,J,J]
abbrev aP := #[J,J,J,I,I,I,I,I,I]
abbrev gz := #[I,I,I,I,I,I,I,I,I,I,I]
abbrev aQ := #[J,J,J,J,I,I,I,I,I]
abbrev nG := #[I,I,I,I,I]
abbrev M0V := #[J,J,I,I,I,I,I,I,I,I,I,I,I]
abbrev M0W := #[J,J,J,I,I,I,I,I,I,I,I,I,I]
abbrev M0X := #[J,J,J,J,I,I,I,I,I,I,I,I,I]
abbrev nH := #[J,I,I,I,I]
abbrev M0Z := #[J,J,J,J,J,I,I,I,I,I,I,I,I]
abbrev M10 := #[J,J,J,J,J,J,I,I,I,I,I,I,I]
abbrev M11 := #[J,J,I,I,I]
abbrev M12 := #[J,J,J,J,J,J,J,I,I,I,I,I,I]
abbrev M13 := #[J,J,J,J,J,J,J,J,I,I,I,I,I]
abbrev M14 := #[J,J,J,I,I]
abbrev iD := #[J,J,J,J,J,J,J,J,J,I,I]
abbrev nI := #[J,J,J,J,I]
abbrev iF := #[J,J,J,J,J,J,J,J,J,J,I]
abbrev iG := #[J,J,J,J,J,J,J,J,J,J,J]
abbrev nJ := #[J,J,J,J,J]
abbrev nK := #[J,I,I,I,I,I,I,I,I,I,I]
abbrev nM := #[J,J,I,I,I,I,I,I,I,I,I]
abbrev iH := #[I,J,I,I,I,I,I,I,I]
abbrev iI := #[I,J,J,I,I,I,I,I,I]
abbrev nN := #[J,J,J,J,J,J,J,J,I,I,I]
abbrev pJ := #[I,I,I,I,I,I,I,I,I,I]
abbrev pK := #[J,I,I,I,I,I,I,I,I,I]
abbrev pM := #[J,J,I,I,I,I,I,I,I,I]
abbrev pO := #[J,J,J,I,I,I,I,I,I,I]
abbrev pR := #[J,J,J,J,I,I,I,I,I,I]
abbrev pU := #[J,J,J,J,J,I,I,I,I,I]
abbrev pV := #[J,J,J,J,J,J,I,I,I,I]
abbrev pW := #[J,J,J,J,J,J,J,I,I,I]
abbrev pX := #[J,J,J,J,J,J,J,J,I,I]
abbrev pY := #[J,J,J,J,J,J,J,J,J,I]
abbrev ve := #[J,J,J,J,J,J,J,J,J,J]
abbrev vg := #[J,J,J,I,I,I,I,I,I,I,I]
abbrev nO := #[I,I,I,I,I,I,I]
abbrev xI := #[I,I,I,I,I,I,I,I,I,I,I,I,I,I]
abbrev vk := #[J,J,J,J,I,I,I,I,I,I,I]
abbrev nP := #[J,I,I,I,I,I,I]
abbrev xJ := #[J,I,I,I,I,I,I,I,I,I,I,I,I,I]
abbrev vw := #[J,J,J,J,J,I,I,I,I,I,I]
abbrev xK := #[J,J,I,I,I,I,I,I,I,I,I,I,I,I]
abbrev vz := #[J,J,J,J,J,J,I,I,I,I,I]
abbrev xM := #[J,J,J,I,I,I,I,I,I,I,I,I,I,I]
abbrev pg := #[I,I,I,I,I,I,I,I]
abbrev xN := #[J,J,J,J,I,I,I,I,I,I,I,I,I,I]
abbrev wB := #[J,J,J,J,J,J,J,I,I,I,I]
abbrev xO := #[J,J,J,J,J,I,I,I,I,I,I,I,I,I]
abbrev pq := #[J,I,I,I,I,I,I,I]
abbrev xP := #[J,J,J,J,J,J,I,I,I,I,I,I,I,I]
abbrev nR := #[J,J,J,J,I,I,I]
abbrev xQ := #[J,J,J,J,J,J,J,I,I,I,I,I,I,I]
abbrev xR := #[J,J,J,J,J,J,J,J,I,I,I,I,I,I]
abbrev nT := #[J,J,J,J,J,I,I]
abbrev xU := #[J,J,J,J,J,J,J,J,J,I,I,I,I,I]
abbrev nU := #[J,J,J,J,J,J,I]
abbrev xW := #[J,J,J,J,J,J,J,J,J,J,J,I,I,I]
abbrev xX := #[J,J,J,J,J,J,J,J,J,J,J,J,I,I]
abbrev pz := #[J,J,J,J,J,I,I,I]
abbrev nV := #[J,J,J,J,J,J,J]
abbrev xY := #[J,J,J,J,J,J,J,J,J,J,J,J,J,I]
abbrev xZ := #[I,I,I,I,I,I,I,I,I,I,I,I]
abbrev qA := #[J,J,J,J,J,J,I,I]
abbrev xg := #[J,J,J,J,J,J,J,J,J,J,J,J,J,J]
abbrev xh := #[J,I,I,I,I,I,I,I,I,I,I,I]
abbrev qB := #[J,J,J,J,J,J,J,I]
abbrev xk := #[J,J,I,I,I,I,I,I,I,I,I,I]
abbrev xm := #[J,J,J,I,I,I,I,I,I,I,I,I]
abbrev qC := #[J,J,J,J,J,J,J,J]
abbrev xq := #[J,J,J,J,I,I,I,I,I,I,I,I]
abbrev xu := #[J,J,J,J,J,I,I,I,I,I,I,I]
abbrev M21 := #[I,I,I,I,I,I,I,I,I,I,I,I,I,I,I,I,I,I,I,I,I,I,I,I,I,I,I,I,I,I,I,I,I,I]
abbrev M22 := #[J,I,I,I,I,I,I,I,I,I,I,I,I,I,I,I,I,I,I,I,I,I,I,I,I,I,I,I,I,I,I,I,I,I]
abbrev xw := #[J,J,J,J,J,J,I,I,I,I,I,I]
abbrev M24 := #[J,J,I,I,I,I,I,I,I,I,I,I,I,I,I,I,I,I,I,I,I,I,I,I,I,I,I,I,I,I,I,I,I,I]
abbrev M25 := #[J,J,J,I,I,I,I,I,I,I,I,I,I,I,I,I,I,I,I,I,I,I,I,I,I,I,I,I,I,I,I,I,I,I]
abbrev M26 := #[J,J,J,J,I,I,I,I,I,I,I,I,I,I,I,I,I,I,I,I,I,I,I,I,I,I,I,I,I,I,I,I,I,I]
abbrev xx := #[J,J,J,J,J,J,J,I,I,I,I,I]
abbrev M28 := #[J,J,J,J,J,I,I,I,I,I,I,I,I,I,I,I,I,I,I,I,I,I,I,I,I,I,I,I,I,I,I,I,I,I]
abbrev M29 := #[J,J,J,J,J,J,I,I,I,I,I,I,I,I,I,I,I,I,I,I,I,I,I,I,I,I,I,I,I,I,I,I,I,I]
abbrev M2a := #[J,J,J,J,J,J,J,I,I,I,I,I,I,I,I,I,I,I,I,I,I,I,I,I,I,I,I,I,I,I,I,I,I,I]
abbrev xy := #[J,J,J,J,J,J,J,J,I,I,I,I]
abbrev M2c := #[J,J,J,J,J,J,J,J,I,I,I,I,I,I,I,I,I,I,I,I,I,I,I,I,I,I,I,I,I,I,I,I,I,I]
abbrev M2d := #[J,J,J,J,J,J,J,J,J,I,I,I,I,I,I,I,I,I,I,I,I,I,I,I,I,I,I,I,I,I,I,I,I,I]
abbrev M2e := #[J,J,J,J,J,J,J,J,J,J,I,I,I,I,I,I,I,I,I,I,I,I,I,I,I,I,I,I,I,I,I,I,I,I]
abbrev x8 := #[J,J,J,J,J,J,J,J,J,I,I,I]
abbrev M2g := #[J,J,J,J,J,J,J,J,J,J,J,I,I,I,I,I,I,I,I,I,I,I,I,I,I,I,I,I,I,I,I,I,I,I]
abbrev M2h := #[J,J,J,J,J,J,J,J,J,J,J,J,I,I,I,I,I,I,I,I,I,I,I,I,I,I,I,I,I,I,I,I,I,I]
abbrev M2i := #[J,J,J,J,J,J,J,J,J,J,J,J,J,I,I,I,I,I,I,I,I,I,I,I,I,I,I,I,I,I,I,I,I,I]
abbrev x9 := #[J,J,J,J,J,J,J,J,J,J,I,I]
abbrev M2k := #[J,J,J,J,J,J,J,J,J,J,J,J,J,J,I,I,I,I,I,I,I,I,I,I,I,I,I,I,I,I,I,I,I,I]
abbrev M2l := #[J,J,J,J,J,J,J,J,J,J,J,J,J,J,J,I,I,I,I,I,I,I,I,I,I,I,I,I,I,I,I,I,I,I]
abbrev M2m := #[J,J,J,J,J,J,J,J,J,J,J,J,J,J,J,J,I,I,I,I,I,I,I,I,I,I,I,I,I,I,I,I,I,I]
abbrev yA := #[J,J,J,J,J,J,J,J,J,J,J,I]
abbrev M2o := #[J,J,J,J,J,J,J,J,J,J,J,J,J,J,J,J,J,I,I,I,I,I,I,I,I,I,I,I,I,I,I,I,I,I]
abbrev M2p := #[J,J,J,J,J,J,J,J,J,J,J,J,J,J,J,J,J,J,I,I,I,I,I,I,I,I,I,I,I,I,I,I,I,I]
abbrev M2q := #[J,J,J,J,J,J,J,J,J,J,J,J,J,J,J,J,J,J,J,I,I,I,I,I,I,I,I,I,I,I,I,I,I,I]
abbrev wC := #[J,J,I,I,I,I,I,I]
abbrev yB := #[J,J,J,J,J,J,J,J,J,J,J,J]
abbrev M2t := #[J,J,J,J,J,J,J,J,J,J,J,J,J,J,J,J,J,J,J,J,I,I,I,I,I,I,I,I,I,I,I,I,I,I]
abbrev M2u := #[J,J,J,J,J,J,J,J,J,J,J,J,J,J,J,J,J,J,J,J,J,I,I,I,I,I,I,I,I,I,I,I,I,I]
abbrev M2v := #[J,J,J,J,J,J,J,J,J,J,J,J,J,J,J,J,J,J,J,J,J,J,I,I,I,I,I,I,I,I,I,I,I,I]
abbrev M2w := #[J,J,J,J,J,J,J,J,J,J,J,J,J,J,J,J,J,J,J,J,J,J,J,I,I,I,I,I,I,I,I,I,I,I]
abbrev wE := #[J,J,J,I,I,I,I,I]
abbrev M2y := #[J,J,J,J,J,J,J,J,J,J,J,J,J,J,J,J,J,J,J,J,J,J,J,J,I,I,I,I,I,I,I,I,I,I]
abbrev yC := #[I,I,I,I,I,I]
abbrev M2A := #[J,J,J,J,J,J,J,J,J,J,J,J,J,J,J,J,J,J,J,J,J,J,J,J,J,I,I,I,I,I,I,I,I,I]
abbrev M2B := #[J,J,J,J,J,J,J,J,J,J,J,J,J,J,J,J,J,J,J,J,J,J,J,J,J,J,I,I,I,I,I,I,I,I]
abbrev M2C := #[J,J,J,J,J,J,J,J,J,J,J,J,J,J,J,J,J,J,J,J,J,J,J,J,J,J,J,I,I,I,I,I,I,I]
abbrev wF := #[J,J,J,J,I,I,I,I]
abbrev M2E := #[J,J,J,J,J,J,J,J,J,J,J,J,J,J,J,J,J,J,J,J,J,J,J,J,J,J,J,J,I,I,I,I,I,I]
abbrev M2F := #[J,J,J,J,J,J,J,J,J,J,J,J,J,J,J,J,J,J,J,J,J,J,J,J,J,J,J,J,J,I,I,I,I,I]
abbrev yD := #[J,I,I,I,I,I]
abbrev M2H := #[J,J,J,J,J,J,J,J,J,J,J,J,J,J,J,J,J,J,J,J,J,J,J,J,J,J,J,J,J,J,I,I,I,I]
abbrev M2I := #[J,J,J,J,J,J,J,J,J,J,J,J,J,J,J,J,J,J,J,J,J,J,J,J,J,J,J,J,J,J,J,I,I,I]
abbrev M2J := #[J,J,J,J,J,J,J,J,J,J,J,J,J,J,J,J,J,J,J,J,J,J,J,J,J,J,J,J,J,J,J,J,I,I]
abbrev M2K := #[J,J,J,J,J,J,J,J,J,J,J,J,J,J,J,J,J,J,J,J,J,J,J,J,J,J,J,J,J,J,J,J,J,I]
abbrev M2L := #[J,J,J,J,J,J,J,J,J,J,J,J,J,J,J,J,J,J,J,J,J,J,J,J,J,J,J,J,J,J,J,J,J,J]
abbrev yE := #[J,J,J,J,I,I]
abbrev wG := #[J,I,J,I,I,I,I]
abbrev yF := #[J,J,J,J,J,I]
abbrev yG := #[J,I,I,I,I,I,I,I,I]
abbrev wH := #[J,I,J,J,I,I,I]
abbrev yH := #[J,J,I,I,I,I,I,I,I]
abbrev yI := #[J,J,J,J,J,J]
abbrev M2T := #[J,J,J,J,J,J,J,J,J,J,I,I,I,I]
abbrev M2U := #[J,I,J,I,I,I]
abbrev M2V := #[I,I,I,I,I,I,I,I,I,I,I,I,I,I,I,I,I,I,I,I,I,I]
abbrev M2W := #[J,I,I,I,I,I,I,I,I,I,I,I,I,I,I,I,I,I,I,I,I,I]
abbrev M2X := #[J,J,I,I,I,I,I,I,I,I,I,I,I,I,I,I,I,I,I,I,I,I]
abbrev M2Y := #[J,J,J,I,I,I,I,I,I,I,I,I,I,I,I,I,I,I,I,I,I,I]
abbrev M2Z := #[J,J,J,J,I,I,I,I,I,I,I,I,I,I,I,I,I,I,I,I,I,I]
abbrev M30 := #[J,J,J,J,J,I,I,I,I,I,I,I,I,I,I,I,I,I,I,I,I,I]
abbrev M31 := #[J,J,I,I,I,I,J,I,I,I,I]
abbrev M32 := #[J,J,J,J,J,J,I,I,I,I,I,I,I,I,I,I,I,I,I,I,I,I]
abbrev M33 := #[J,J,J,J,J,J,J,I,I,I,I,I,I,I,I,I,I,I,I,I,I,I]
abbrev M34 := #[J,J,I,I,I,I,J,J,I,I,I]
abbrev M35 := #[J,J,J,J,J,J,J,J,I,I,I,I,I,I,I,I,I,I,I,I,I,I]
abbrev M36 := #[J,J,J,J,J,J,J,J,I,J,I,I,I,I,I,I,I,I,I,I,I,I]
abbrev M37 := #[J,J,J,I,I,I,J,J,I,I,I]
abbrev M38 := #[J,J,J,J,J,J,J,J,I,J,J,I,I,I,I,I,I,I,I,I,I,I]
abbrev M39 := #[J,J,J,J,J,J,J,J,I,J,J,I,J,I,I,I,I,I,I,I,I,I]
abbrev M3a := #[J,J,J,J,I,I,J,J,I,I,I]
abbrev M3b := #[J,J,J,J,J,J,J,J,I,J,J,I,J,J,I,I,I,I,I,I,I,I]
abbrev M3c := #[J,J,J,J,J,J,J,J,I,J,J,I,J,J,J,I,I,I,I,I,I,I]
abbrev M3d := #[J,J,J,J,J,I,J,J,I,I,I]
abbrev M3e := #[J,J,J,J,J,J,J,J,I,J,J,I,J,J,J,J,I,I,I,I,I,I]
abbrev M3f := #[I,I,I,I,I,I,I,I,I,I,I,I,I,I,I,I,I,I,I,I]
abbrev M3g := #[J,J,J,J,J,J,J,J,I,J,J,I,J,J,J,J,J,I,I,I,I,I]
abbrev M3h := #[I,J,I,I,I,I,I,I,I,I,I,I,I,I,I,I,I,I,I,I]
abbrev M3i := #[J,J,J,J,J,J,J,J,I,J,J,I,J,J,J,J,J,J,I,I,I,I]
abbrev M3j := #[I,J,J,I,I,I,I,I,I,I,I,I,I,I,I,I,I,I,I,I]
abbrev M3k := #[J,J,J,J,J,J,J,J,I,J,J,I,J,J,J,J,J,J,J,I,I,I]
abbrev M3l := #[I,J,J,I,J,I,I,I,I,I,I,I,I,I,I,I,I,I,I,I]
abbrev M3m := #[J,J,J,J,J,J,J,J,J,J,J,I,J,J,J,J,J,J,J,I,I,I]
abbrev M3n := #[I,J,J,I,J,J,I,I,I,I,I,I,I,I,I,I,I,I,I,I]
abbrev M3o := #[J,J,J,J,J,J,J,J,J,J,J,J,J,J,J,J,J,J,J,I,I,I]
abbrev M3p := #[I,J,J,I,J,J,J,I,I,I,I,I,I,I,I,I,I,I,I,I]
abbrev M3q := #[J,J,J,J,J,J,J,J,J,J,J,J,J,J,J,J,J,J,J,J,I,I]
abbrev M3r := #[I,J,J,I,J,J,J,J,I,I,I,I,I,I,I,I,I,I,I,I]
abbrev M3s := #[J,J,J,J,J,J,J,J,J,J,J,J,J,J,J,J,J,J,J,J,J,I]
abbrev M3t := #[I,J,J,I,J,J,J,J,J,I,I,I,I,I,I,I,I,I,I,I]
abbrev M3u := #[J,J,J,J,J,J,J,J,J,J,J,J,J,J,J,J,J,J,J,J,J,J]
abbrev M3v := #[I,J,J,I,J,J,J,J,J,J,I,I,I,I,I,I,I,I,I,I]
abbrev M3w := #[I,J,J,I,J,J,J,J,J,J,J,I,I,I,I,I,I,I,I,I]
abbrev M3x := #[I,J,J,I,J,J,J,J,J,J,J,J,I,I,I,I,I,I,I,I]
abbrev M3y := #[I,J,J,I,J,J,J,J,J,J,J,J,J,I,I,I,I,I,I,I]
abbrev M3z := #[I,J,J,I,J,J,J,J,J,J,J,J,J,J,I,I,I,I,I,I]
abbrev M3A := #[I,J,J,I,J,J,J,J,J,J,J,J,J,J,J,I,I,I,I,I]
abbrev M3B := #[I,J,J,I,J,J,J,J,J,J,J,J,J,J,J,J,I,I,I,I]
abbrev M3C := #[J,J,J,I,J,J,J,J,J,J,J,J,J,J,J,J,I,I,I,I]
abbrev M3D := #[I,J,J,I,J,J,J,J,J,J,J,J,J,J,J,J,J,I,I,I]
abbrev M3E := #[J,J,J,J,J,J,J,J,J,J,J,J,J,J,J,J,I,I,I,I]
abbrev M3F := #[J,J,J,I,J,J,J,J,J,J,J,J,J,J,J,J,J,I,I,I]
abbrev M3G := #[J,J,J,J,J,J,J,J,J,J,J,J,J,J,J,J,J,I,I,I]
abbrev M3H := #[J,J,J,J,J,J,J,J,J,J,J,J,J,J,J,J,J,J,I,I]
abbrev M3I := #[J,J,J,J,J,J,J,J,J,J,J,J,J,J,J,J,J,J,J,I]
abbrev M3J := #[J,J,J,J,J,J,J,J,J,J,J,J,J,J,J,J,J,J,J,J]
abbrev M3K := #[J,I,J,J,I,I]
abbrev M3L := #[J,J,I,I,I,I,I]
abbrev M3M := #[J,J,J,I,I,I,I]
abbrev M3N := #[I,J,I,I,I,I,I,I,I,I,I,I,I]
abbrev M3O := #[J,I,J,I,I,I,I,I,I,I,I,I,I]
abbrev M3P := #[I,J,J,I,I,I,I,I,I,I,I,I,I]
abbrev M3Q := #[J,J,J,J,J,J,J,J,J,I,J,I,I,I]
abbrev M3R := #[J,I,J,J,I,I,I,I,I,I,I,I,I]
abbrev M3S := #[I,J,J,I,J,I,I,I,I,I,I,I,I]
abbrev M3T := #[J,I,J,J,J,I,I,I,I,I,I,I,I]
abbrev M3U := #[I,J,J,I,J,J,I,I,I,I,I,I,I]
abbrev M3V := #[J,I,J,J,J,J,I,I,I,I,I,I,I]
abbrev M3W := #[I,J,J,I,J,J,J,I,I,I,I,I,I]
abbrev M3X := #[J,I,J,J,J,J,I,J,I,I,I,I,I]
abbrev M3Y := #[I,J,J,I,J,J,J,J,I,I,I,I,I]
abbrev M3Z := #[J,I,J,J,J,J,I,J,I,I,J,I,I]
abbrev M40 := #[I,J,J,I,J,J,J,J,J,I,I,I,I]
abbrev M41 := #[J,J,J,J,J,J,I,J,I,I,J,I,I]
abbrev M42 := #[J,I,J,J,J,J,I,J,J,I,J,I,I]
abbrev M43 := #[J,J,J,I,J,J,J,J,J,I,I,I,I]
abbrev M44 := #[I,J,J,I,J,J,J,J,J,J,I,I,I]
abbrev M45 := #[J,J,J,J,J,J,J,J,I,I,J,I,I]
abbrev M46 := #[J,J,J,J,J,J,I,J,J,I,J,I,I]
abbrev M47 := #[J,J,J,I,J,J,J,J,J,J,I,I,I]
abbrev M48 := #[J,J,J,J,J,J,J,J,J,I,J,I,I]
abbrev M49 := #[J,J,J,I,I,I]
abbrev M4a := #[I,J,I,I,I,I,I,I,I,I,I]
abbrev M4b := #[I,J,J,I,I,I,I,I,I,I,I]
abbrev M4c := #[I,J,J,J,I,I,I,I,I,I,I]
abbrev M4d := #[I,J,J,J,I,J,I,I,I,I,I]
abbrev M4e := #[I,J,J,J,I,J,J,I,I,I,I]
abbrev M4f := #[I,J,J,J,I,J,J,J,I,I,I]
abbrev M4g := #[I,J,J,J,I,J,J,J,J,I,I]
abbrev M4h := #[J,J,J,J,I,J,J,J,J,I,I]
abbrev M4i := #[I,J,J,I,J,I,I,I,I]
abbrev M4j := #[J,J,J,I,J,I,I,I,I]
abbrev M4k := #[I,J,J,I,J,J,I,I,I]
abbrev M4l := #[J,J,J,I,J,J,I,I,I]
abbrev M4m := #[J,I,J,I,I,I,I,I]
abbrev M4n := #[J,I,J,J,I,I,I,I]
abbrev M4o := #[J,I,J,J,J,I,I,I]
abbrev M4p := #[J,J,I,I,I,I]
theorem sA {a : Type _} (l : List a) (i : Nat) (x : a) : l.toArray.setIfInBounds i x = (l.set i x).toArray := List.setIfInBounds_toArray l i x
theorem sZ {a : Type _} {x : a} {l : List a} {y : a} : (x :: l).set 0 y = y :: l := List.set_cons_zero
theorem sS {a : Type _} {x : a} {l : List a} {i : Nat} {y : a} : (x :: l).set (i + 1) y = x :: l.set i y := List.set_cons_succ
end Go.Proofs.Ytnkkgofpifhoeaa
section
namespace Go.Proofs.Ytnkkgofpifhoeaa.Base
open Go.RowKit
theorem Dv {a b:Bool} (h:a = b):Ending.returned (.bool a) = .returned (.bool b):=by rw [h]
theorem PO {k:IntKind} {a b:Int} (h:a = b):Ending.returned (.int k a) = .returned (.int k b):=by rw [h]
section
variable {P:Program} {w:World} (a:Addr) (m:Mode)
@[go_sem] theorem VA (k:FloatKind) (x y:Nat):(store a (.complex k x y) m).run P w = stored P w a (.complex k x y) m:=run_store P w a _ m rfl
@[go_sem] theorem XY (k:FloatKind) (x:Nat):(store a (.float k x) m).run P w = stored P w a (.float k x) m:=run_store P w a _ m rfl
end
section
variable {B:Nat} {a w:World}
theorem Bd (h:Below B a w) (n:Nat):Below B a (w.drewN n):=⟨h.os,h.tape,h.output,h.size,h.block⟩
theorem AZ (h:Below B a w):Below B a w.drew:=⟨h.os,h.tape,h.output,h.size,h.block⟩
end
theorem Xb {W w1:World} (hb:Below W.heap.size W w1):(∀ b o,b < W.heap.size → w1.cell? ⟨b,o,none⟩ = W.cell? ⟨b,o,none⟩) ∧ (∀ b o,b < W.heap.size → w1.frozen? ⟨b,o,none⟩ = W.frozen? ⟨b,o,none⟩) :=
 ⟨fun b o h => hb.cell (p:=⟨b,o,none⟩) h,fun b o h => hb.frozen (p:=⟨b,o,none⟩) h⟩
end Go.Proofs.Ytnkkgofpifhoeaa.Base
end
section
namespace Go.Proofs.YtnkkgofpifhoeaaW.PrintLast
section
variable {P:Program} {ops:Array Oper} {Q:Exit → Act → World → Prop} {md:Region.Mode} {S:World → Prop} {ds:List Nat}
def Region.G8 (md:Region.Mode) (ops:Array Oper) (i:Nat):Nat → Nat → Bool
 | 0,_ => false
 | fuel + 1,d => match ops[d]? with
  | some o => o.after.any fun e => Region.binds md e && (e.on == i || Region.G8 md ops i fuel e.on)
  | none => false
def Region.PR (md:Region.Mode) (ops:Array Oper) (listed:Array Bool):Bool :=
 (List.range ops.size).all fun j => !listed.getD j false || match ops[j]? with
  | some o => o.after.all fun e => !Region.binds md e || listed.getD e.on false
  | none => true
def Region.lastB (md:Region.Mode) (ops:Array Oper) (listed:Array Bool) (ds:List Nat) (i:Nat):Bool :=
 ds.all fun d => listed.getD d true || Region.G8 md ops i ops.size d
def D7 (md:Region.Mode) (ops:Array Oper) (listed:Array Bool):Prop :=
 ∀ j oj,ops[j]? = some oj → listed.getD j false = true → ∀ e ∈ oj.after,Region.binds md e = true → listed.getD e.on false = true
theorem Region.PS {listed:Array Bool} (h:Region.PR md ops listed = true):D7 md ops listed:=by
 intro j oj hj hl e he hb
 have hlt:j < ops.size:=(Array.getElem?_eq_some_iff.1 hj).1
 have h1:=List.all_eq_true.1 h j (List.mem_range.2 hlt)
 simp only [hl,hj,Bool.not_true,Bool.false_or] at h1
 have h2:=Array.all_eq_true_iff_forall_mem.1 h1 e he
 simpa [hb] using h2
theorem D7.set {listed:Array Bool} {i:Nat} (h:D7 md ops listed) (hi:i ∈ Region.ready md ops listed):D7 md ops (listed.setIfInBounds i true):=by
 obtain ⟨_,oi,hoi,hall⟩:=mem_ready.1 hi
 intro j oj hj hl e he hb
 by_cases hij:i = j
 ·subst hij
  have:oj = oi:=Option.some.inj (hj.symm.trans hoi)
  subst this
  exact getD_set_true (hall e he hb)
 ·rw [getD_set_ne false hij] at hl
  exact getD_set_true (h j oj hj hl e he hb)
theorem Region.KF {listed:Array Bool} {i:Nat} (hc:D7 md ops listed):∀ (fuel d:Nat),Region.G8 md ops i fuel d = true → listed.getD d false = true → listed.getD i false = true
 | 0,_,h,_ => by simp [Region.G8] at h
 | fuel + 1,d,h,hl => by
  unfold Region.G8 at h
  cases ho:ops[d]? with
  | none => rw [ho] at h; simp at h
  | some o =>
   rw [ho] at h
   obtain ⟨e,he,h1⟩:=Array.any_eq_true'.1 h
   simp only [Bool.and_eq_true,Bool.or_eq_true,beq_iff_eq] at h1
   have hle:=hc d o ho hl e he h1.1
   rcases h1.2 with h2 | h2
   ·rw [← h2]; exact hle
   ·exact Region.KF hc fuel e.on h2 hle
theorem Region.L8 {listed:Array Bool} {i d fuel:Nat} (hc:D7 md ops listed) (hr:Region.G8 md ops i fuel d = true) (hun:listed.getD i true = false):d ∉ Region.ready md ops listed:=by
 intro hd
 obtain ⟨_,o,ho,hall⟩:=mem_ready.1 hd
 have hi:listed.getD i false = true:=by
  cases fuel with
  | zero => simp [Region.G8] at hr
  | succ n =>
   unfold Region.G8 at hr
   rw [ho] at hr
   obtain ⟨e,he,h1⟩:=Array.any_eq_true'.1 hr
   simp only [Bool.and_eq_true,Bool.or_eq_true,beq_iff_eq] at h1
   have hle:=hall e he h1.1
   rcases h1.2 with h2 | h2
   ·rw [← h2]; exact hle
   ·exact Region.KF hc n e.on h2 hle
 rcases Nat.lt_or_ge i listed.size with h' | h'
 ·simp [h'] at hun hi
  rw [hun] at hi
  cases hi
 ·simp [Array.getElem?_eq_none h'] at hun
def Ah (P:Program) (md:Region.Mode) (ops:Array Oper) (Q:Exit → Act → World → Prop) (S:World → Prop) (ds:List Nat):Nat → Array Bool → Act → World → Prop
 | 0,listed,a,w => Region.ready md ops listed = [] ∧ Q .normal a w
 | fuel + 1,listed,a,w =>
  (Region.ready md ops listed = [] → Q .normal a w) ∧
  ∀ i ∈ Region.ready md ops listed,wpOp P ops Q i (fun a' w' => (i ∉ ds → S w → S w') ∧ Ah P md ops Q S ds fuel (listed.setIfInBounds i true) a' w') a w
theorem Jl:∀ (fuel:Nat) (listed:Array Bool) (a:Act) (w:World),Ah P md ops Q S ds fuel listed a w → wpAny P md ops Q fuel listed a w
 | 0,_,_,_,h => h
 | fuel + 1,_,_,_,h => ⟨h.1,fun i hi => wpOp_mono (fun a' w' h' => Jl fuel _ a' w' h'.2) (h.2 i hi)⟩
theorem L9 {i:Nat} {oi:Oper} {v:Value} (hi:ops[i]? = some oi) (hsel:∀ (j:Nat) (o:Oper) cs b,ops[j]? = some o → o.op ≠ .select cs b)
  (hQ:∀ c a w,Q (.panic c) (a.put oi.dst v) w → Q (.panic c) a w) (n:Nat) :
  ∀ (fuel:Nat) (listed:Array Bool) (a:Act) (w:World),
   (∀ j oj,ops[j]? = some oj → j ≠ i → listed.getD j true = false → (∀ e ∈ oj.after,Region.binds md e = true → e.on ≠ i) → oi.apart ops oj = true) →
   D7 md ops listed → (∀ d ∈ ds,listed.getD d true = false → Region.G8 md ops i n d = true) →
   i ∈ Region.ready md ops listed → YieldsIf P ops S oi v a → S w →
   Ah P md ops Q S ds fuel (listed.setIfInBounds i true) (a.put oi.dst v) w → Ah P md ops Q S ds (fuel + 1) listed a w:=by
 intro fuel
 induction fuel with
 | zero =>
  intro listed a w _ _ _ hr hy hS H
  refine ⟨fun h => (by rw [h] at hr; cases hr),fun j hj => ?_⟩
  by_cases hji:j = i
  ·subst hji; exact hy.wpOp hi hS ⟨fun _ h => h,H⟩
  ·have:=ready_mono hj hji
   rw [H.1] at this
   cases this
 | succ fuel ih =>
  intro listed a w hfree hc hd hr hy hS H
  refine ⟨fun h => (by rw [h] at hr; cases hr),fun j hj => ?_⟩
  by_cases hji:j = i
  ·subst hji; exact hy.wpOp hi hS ⟨fun _ h => h,H⟩
  ·have h1:=H.2 j (ready_mono hj hji)
   obtain ⟨hjun,oj,hoj,hall⟩:=mem_ready.1 hj
   have V3:=(mem_ready.1 hr).1
   have hnot:∀ e ∈ oj.after,Region.binds md e = true → e.on ≠ i:=fun e he hb heq => by
    have h1:=hall e he hb
    rw [heq] at h1
    rcases Nat.lt_or_ge i listed.size with h' | h'
    ·simp [h'] at V3 h1; rw [V3] at h1; cases h1
    ·simp [Array.getElem?_eq_none h'] at h1
   have hjd:j ∉ ds:=fun hm => Region.L8 hc (hd j hm hjun) V3 hj
   have h2:=wpOp_putIf hoj (hfree j oj hoj hji hjun hnot) (fun cs b => hsel i oi cs b hi) (fun cs b => hsel j oj cs b hoj) hQ hy h1
   have hfree':∀ k ok,ops[k]? = some ok → k ≠ i → (listed.setIfInBounds j true).getD k true = false →
     (∀ e ∈ ok.after,Region.binds md e = true → e.on ≠ i) → oi.apart ops ok = true:=fun k ok hk hki hun hno => by
    refine hfree k ok hk hki ?_ hno
    by_cases hjk:j = k
    ·subst hjk; exact hjun
    ·rw [getD_set_ne true hjk] at hun; exact hun
   have hd':∀ d ∈ ds,(listed.setIfInBounds j true).getD d true = false → Region.G8 md ops i n d = true:=fun d hm hun => by
    refine hd d hm ?_
    by_cases hjk:j = d
    ·subst hjk; exact hjun
    ·rw [getD_set_ne true hjk] at hun; exact hun
   refine wpOp_mono (fun a' w' h3 => ⟨h3.2.1,ih (listed.setIfInBounds j true) a' w' hfree' (hc.set hj) hd' (ready_mono hr (Ne.symm hji)) h3.1 (h3.2.1 hjd hS) ?_⟩) h2
   rw [Array.setIfInBounds_comm _ _ hji]
   exact h3.2.2
theorem OW {i:Nat} {oi:Oper} {v:Value} (hi:ops[i]? = some oi) (hsel:∀ (j:Nat) (o:Oper) cs b,ops[j]? = some o → o.op ≠ .select cs b)
  (hQ:∀ c a w,Q (.panic c) (a.put oi.dst v) w → Q (.panic c) a w) :
  ∀ (fuel:Nat) (listed:Array Bool) (a:Act) (w:World),
   (∀ j oj,ops[j]? = some oj → j ≠ i → listed.getD j true = false → (∀ e ∈ oj.after,Region.binds md e = true → e.on ≠ i) → oi.apart ops oj = true) →
   i ∈ Region.ready md ops listed → Yields P ops oi v a →
   Ah P md ops Q S ds fuel (listed.setIfInBounds i true) (a.put oi.dst v) w → Ah P md ops Q S ds (fuel + 1) listed a w:=by
 intro fuel
 induction fuel with
 | zero =>
  intro listed a w _ hr hy H
  refine ⟨fun h => (by rw [h] at hr; cases hr),fun j hj => ?_⟩
  by_cases hji:j = i
  ·subst hji; exact (hy.yieldsIf (S:=fun _ => True)).wpOp hi trivial ⟨fun _ h => h,H⟩
  ·have:=ready_mono hj hji
   rw [H.1] at this
   cases this
 | succ fuel ih =>
  intro listed a w hfree hr hy H
  refine ⟨fun h => (by rw [h] at hr; cases hr),fun j hj => ?_⟩
  by_cases hji:j = i
  ·subst hji; exact (hy.yieldsIf (S:=fun _ => True)).wpOp hi trivial ⟨fun _ h => h,H⟩
  ·have h1:=H.2 j (ready_mono hj hji)
   obtain ⟨hjun,oj,hoj,hall⟩:=mem_ready.1 hj
   have V3:=(mem_ready.1 hr).1
   have hnot:∀ e ∈ oj.after,Region.binds md e = true → e.on ≠ i:=fun e he hb heq => by
    have h1:=hall e he hb
    rw [heq] at h1
    rcases Nat.lt_or_ge i listed.size with h' | h'
    ·simp [h'] at V3 h1; rw [V3] at h1; cases h1
    ·simp [Array.getElem?_eq_none h'] at h1
   have h2:=wpOp_put hoj (hfree j oj hoj hji hjun hnot) (fun cs b => hsel i oi cs b hi) (fun cs b => hsel j oj cs b hoj) hQ hy h1
   have hfree':∀ k ok,ops[k]? = some ok → k ≠ i → (listed.setIfInBounds j true).getD k true = false →
     (∀ e ∈ ok.after,Region.binds md e = true → e.on ≠ i) → oi.apart ops ok = true:=fun k ok hk hki hun hno => by
    refine hfree k ok hk hki ?_ hno
    by_cases hjk:j = k
    ·subst hjk; exact hjun
    ·rw [getD_set_ne true hjk] at hun; exact hun
   refine wpOp_mono (fun a' w' h3 => ⟨h3.2.1,ih (listed.setIfInBounds j true) a' w' hfree' (ready_mono hr (Ne.symm hji)) h3.1 ?_⟩) h2
   rw [Array.setIfInBounds_comm _ _ hji]
   exact h3.2.2
theorem Me {i:Nat} {oi:Oper} {v:Value} {fuel:Nat} {listed:Array Bool} {a:Act} {w:World} (hi:ops[i]? = some oi)
  (hs:Region.noSelect ops = true) (hf:Region.free md ops listed i = true) (hr:(Region.ready md ops listed).contains i = true)
  (hc:Region.PR md ops listed = true) (hl:Region.lastB md ops listed ds i = true)
  (hQ:∀ c a w,Q (.panic c) (a.put oi.dst v) w → Q (.panic c) a w) (hy:YieldsIf P ops S oi v a) (hS:S w)
  (h:Ah P md ops Q S ds fuel (listed.setIfInBounds i true) (a.put oi.dst v) w):Ah P md ops Q S ds (fuel + 1) listed a w :=
 L9 hi (Region.noSelect_spec hs) hQ ops.size fuel listed a w (Region.free_spec hi hf) (Region.PS hc)
  (fun d hm hun => by have:=List.all_eq_true.1 hl d hm; rw [hun] at this; simpa using this) (by simpa using hr) hy hS h
theorem OX {rs:List Nat} {fuel:Nat} {listed:Array Bool} {a:Act} {w:World} (hr:Region.ready md ops listed = rs) (hne:rs ≠ [])
  (h:∀ i ∈ rs,wpOp P ops Q i (fun a' w' => (i ∉ ds → S w → S w') ∧ Ah P md ops Q S ds fuel (listed.setIfInBounds i true) a' w') a w):Ah P md ops Q S ds (fuel + 1) listed a w :=
 ⟨fun h0 => absurd (hr ▸ h0) hne,hr ▸ h⟩
theorem ND {listed:Array Bool} {a:Act} {w:World} (hr:Region.ready md ops listed = []) (h:Q .normal a w) :
  ∀ fuel,Ah P md ops Q S ds fuel listed a w
 | 0 => ⟨hr,h⟩
 | _ + 1 => ⟨fun _ => h,by rw [hr]; simp⟩
theorem NF {id:Nat} {a:Act} {w:World} (hm:P.follows .mixedOrders = true)
  (h:Ah P .any ops Q S ds ops.size (Array.replicate ops.size false) a { w with drawn:=w.drawn + 1 }):(Code.region id ops true).wp P Q a w :=
 wp_region_any hm (Jl _ _ _ _ h)
end
section
variable {P:Program} {ops:Array Oper} {Q:Exit → Act → World → Prop} {md:Region.Mode} {S:World → Prop} {ds:List Nat}
def CX (P:Program) (md:Region.Mode) (ops:Array Oper) (Q:Exit → Act → World → Prop) (S:World → Prop) (ds:List Nat) (fuel:Nat) (listed:Array Bool) (a:Act) (w:World) (rs:List Nat):Prop :=
 ∀ i ∈ rs,wpOp P ops Q i (fun a' w' => (i ∉ ds → S w → S w') ∧ Ah P md ops Q S ds fuel (listed.setIfInBounds i true) a' w') a w
theorem CX.nil {fuel:Nat} {listed:Array Bool} {a:Act} {w:World}:CX P md ops Q S ds fuel listed a w []:=fun _ h => by cases h
theorem CX.cons {fuel:Nat} {listed:Array Bool} {a:Act} {w:World} {i:Nat} {o:Oper} {rs:List Nat} (ho:ops[i]? = some o) (hd:i ∉ ds)
  (h:∀ K':Act → World → Prop,Shut (∀ a w,S w → (S w → Ah P md ops Q S ds fuel (listed.setIfInBounds i true) a w) → K' a w) → if Region.wanted o (yielded ops a.tmps) = true then Oper.wp P o a w K' Q else K' (a.put o.dst undef) w)
  (hs:CX P md ops Q S ds fuel listed a w rs):CX P md ops Q S ds fuel listed a w (i :: rs):=fun j hj => by
 rcases List.mem_cons.1 hj with rfl | hj
 ·exact wpOp_step ho (fun K' hK => h K' (fun a w hS hW => hK a w ⟨fun _ _ => hS,hW hS⟩))
 ·exact hs j hj
theorem CX.V4 {fuel:Nat} {listed:Array Bool} {a:Act} {w:World} {i:Nat} {o:Oper} {rs:List Nat} (ho:ops[i]? = some o) (hd:i ∈ ds)
  (h:∀ K':Act → World → Prop,Shut (∀ a w,Ah P md ops Q S ds fuel (listed.setIfInBounds i true) a w → K' a w) → if Region.wanted o (yielded ops a.tmps) = true then Oper.wp P o a w K' Q else K' (a.put o.dst undef) w)
  (hs:CX P md ops Q S ds fuel listed a w rs):CX P md ops Q S ds fuel listed a w (i :: rs):=fun j hj => by
 rcases List.mem_cons.1 hj with rfl | hj
 ·exact wpOp_step ho (fun K' hK => h K' (fun a w hW => hK a w ⟨fun hn => absurd hd hn,hW⟩))
 ·exact hs j hj
theorem Fj {rs:List Nat} {fuel:Nat} {listed:Array Bool} {a:Act} {w:World} (hr:Region.ready md ops listed = rs) (hne:rs ≠ [])
  (h:CX P md ops Q S ds fuel listed a w rs):Ah P md ops Q S ds (fuel + 1) listed a w:=OX hr hne h
theorem BA {id n:Nat} {a:Act} {w:World} (l:Array Bool) (hm:P.follows .mixedOrders = true) (hn:ops.size = n) (hl:Array.replicate n false = l) (hS:S w.drew)
  (h:S w.drew → Ah P .any ops Q S ds n l a w.drew):(Code.region id ops true).wp P Q a w:=by
 subst hn
 subst hl
 exact NF hm (h hS)
def takeB (md:Region.Mode) (ops:Array Oper) (ds:List Nat) (l l':Array Bool) (i:Nat):Bool :=
 Region.noSelect ops && Region.free md ops l i && (Region.ready md ops l).contains i && Region.PR md ops l && Region.lastB md ops l ds i && (l.setIfInBounds i true == l')
theorem qE {i:Nat} {N:Option Tmp} {oi:Oper} {v:Value} {fuel:Nat} {l:Array Bool} {a:Act} {w:World} (l':Array Bool) (hi:ops[i]? = some oi) (hN:oi.dst = N) (hc:takeB md ops ds l l' i = true)
  (hQ:∀ c a w,Q (.panic c) (a.put oi.dst v) w → Q (.panic c) a w) (hy:YieldsIf P ops S oi v a) (hS:S w) {a':Act} (ha:a.put N v = a')
  (h:Ah P md ops Q S ds fuel l' a' w):Ah P md ops Q S ds (fuel + 1) l a w:=by
 subst ha
 subst hN
 simp only [takeB,Bool.and_eq_true,beq_iff_eq] at hc
 obtain ⟨⟨⟨⟨⟨h1,h2⟩,h3⟩,h4⟩,h5⟩,h6⟩:=hc
 subst h6
 exact Me hi h1 h2 h3 h4 h5 hQ hy hS h
def iJ (md:Region.Mode) (ops:Array Oper) (l l':Array Bool) (i:Nat):Bool :=
 Region.noSelect ops && Region.free md ops l i && (Region.ready md ops l).contains i && (l.setIfInBounds i true == l')
theorem qF {i:Nat} {N:Option Tmp} {oi:Oper} {v:Value} {fuel:Nat} {l:Array Bool} {a:Act} {w:World} (l':Array Bool) (hi:ops[i]? = some oi) (hN:oi.dst = N) (hc:iJ md ops l l' i = true)
  (hQ:∀ c a w,Q (.panic c) (a.put oi.dst v) w → Q (.panic c) a w) (hy:Yields P ops oi v a) {a':Act} (ha:a.put N v = a')
  (h:Ah P md ops Q S ds fuel l' a' w):Ah P md ops Q S ds (fuel + 1) l a w:=by
 subst ha
 subst hN
 simp only [iJ,Bool.and_eq_true,beq_iff_eq] at hc
 obtain ⟨⟨⟨h1,h2⟩,h3⟩,h6⟩:=hc
 subst h6
 exact OW hi (Region.noSelect_spec h1) hQ fuel l a w (Region.free_spec hi h2) (by simpa using h3) hy h
def G9 (md:Region.Mode) (ops:Array Oper) (l l':Array Bool) (i:Nat):Bool:=(Region.ready md ops l == [i]) && (l.setIfInBounds i true == l')
theorem Xc {i:Nat} {N:Option Tmp} {oi:Oper} {fuel:Nat} {l:Array Bool} {a:Act} {w:World} (l':Array Bool) (hi:ops[i]? = some oi) (hN:oi.dst = N) (hc:G9 md ops l l' i = true) (hd:i ∉ ds)
  (h:∀ K:Act → World → Prop,Shut (∀ a' w',S w' → (S w' → Ah P md ops Q S ds fuel l' a' w') → K a' w') → if Region.wanted oi (yielded ops a.tmps) = true then Oper.wp P oi a w K Q else K (a.put N undef) w) :
  Ah P md ops Q S ds (fuel + 1) l a w:=by
 subst hN
 simp only [G9,Bool.and_eq_true,beq_iff_eq] at hc
 obtain ⟨h1,h2⟩:=hc
 subst h2
 exact Fj h1 (by simp) (CX.cons hi hd (fun K hK => h K hK) CX.nil)
theorem qG {i:Nat} {N:Option Tmp} {oi:Oper} {fuel:Nat} {l:Array Bool} {a:Act} {w:World} (l':Array Bool) (hi:ops[i]? = some oi) (hN:oi.dst = N) (hc:G9 md ops l l' i = true) (hd:i ∈ ds)
  (h:∀ K:Act → World → Prop,Shut (∀ a' w',Ah P md ops Q S ds fuel l' a' w' → K a' w') → if Region.wanted oi (yielded ops a.tmps) = true then Oper.wp P oi a w K Q else K (a.put N undef) w) :
  Ah P md ops Q S ds (fuel + 1) l a w:=by
 subst hN
 simp only [G9,Bool.and_eq_true,beq_iff_eq] at hc
 obtain ⟨h1,h2⟩:=hc
 subst h2
 exact Fj h1 (by simp) (CX.V4 hi hd (fun K hK => h K hK) CX.nil)
theorem BG {l:Array Bool} {a:Act} {w:World} {n:Nat} (hr:(Region.ready md ops l == []) = true) (h:Q .normal a w):Ah P md ops Q S ds n l a w:=ND (by simpa using hr) h n
theorem OY {i j:Nat} {Ni Nj:Option Tmp} {oi oj:Oper} {fuel:Nat} {l:Array Bool} {a:Act} {w:World} (li lj:Array Bool) (hi:ops[i]? = some oi) (hj:ops[j]? = some oj) (hNi:oi.dst = Ni) (hNj:oj.dst = Nj)
  (hc:(Region.ready md ops l == [i,j] && l.setIfInBounds i true == li && l.setIfInBounds j true == lj) = true) (hdi:i ∉ ds) (hdj:j ∉ ds)
  (h1:∀ K:Act → World → Prop,Shut (∀ a' w',S w' → (S w' → Ah P md ops Q S ds fuel li a' w') → K a' w') → if Region.wanted oi (yielded ops a.tmps) = true then Oper.wp P oi a w K Q else K (a.put Ni undef) w)
  (h2:∀ K:Act → World → Prop,Shut (∀ a' w',S w' → (S w' → Ah P md ops Q S ds fuel lj a' w') → K a' w') → if Region.wanted oj (yielded ops a.tmps) = true then Oper.wp P oj a w K Q else K (a.put Nj undef) w) :
  Ah P md ops Q S ds (fuel + 1) l a w:=by
 subst hNi
 subst hNj
 simp only [Bool.and_eq_true,beq_iff_eq] at hc
 obtain ⟨⟨h3,h4⟩,h5⟩:=hc
 subst h4
 subst h5
 exact Fj h3 (by simp) (CX.cons hi hdi (fun K hK => h1 K hK) (CX.cons hj hdj (fun K hK => h2 K hK) CX.nil))
def Dk:Act → List (Tmp × Value) → Act
 | a,[] => a
 | a,(n,v) :: r => Dk (a.put (some n) v) r
theorem Lm {σ:Type} {fuel:Nat} {l:Array Bool} {a:Act} {w:World} (fuel':Nat) (l':Array Bool) (ns:σ → List (Tmp × Value)) (F:σ → World → Prop)
  (hcont:∀ s w',F s w' → Ah P md ops Q S ds fuel' l' (Dk a (ns s)) w')
  (h:(∀ s w',F s w' → Ah P md ops Q S ds fuel' l' (Dk a (ns s)) w') → Ah P md ops Q S ds fuel l a w):Ah P md ops Q S ds fuel l a w:=h hcont
theorem Ig {fuel:Nat} {l:Array Bool} {a a':Act} {w:World} (ha:a = a') (h:Ah P md ops Q S ds fuel l a' w):Ah P md ops Q S ds fuel l a w:=by
 subst ha
 exact h
theorem call_ {oi:Oper} {N:Option Tmp} {a:Act} {w:World} {K:Act → World → Prop} (f:FuncId) (args:Array Value) (hw:Region.wanted oi (yielded ops a.tmps) = true) (hN:oi.dst = N) (hrun:(execOp a.eval oi).run P w = .ok (.enter f args) w)
  (h:Calls P f args w fun e w' => ∃ v,e = .returned v ∧ K (a.put N v) w'):if Region.wanted oi (yielded ops a.tmps) = true then Oper.wp P oi a w K Q else K (a.put N undef) w:=by
 rw [if_pos hw]
 subst hN
 unfold Oper.wp
 rw [hrun,Oper.upon_enter]
 refine h.mono fun e w'' hh => ?_
 obtain ⟨v,rfl,hk⟩:=hh
 exact hk
theorem VB {f : FuncId} {fn : Func} (hf : P.funcs[f]? = some fn) (hname : (fn.name == "runtime.NumGoroutine") = false) (hb : fn.body.isSome = true) (args : Array Value) (w : World) : (callFunc f args).run P w = .ok (.enter f args) w := by
 have h1 : fn.name ≠ "runtime.NumGoroutine" := by simpa using hname
 obtain ⟨c,hc⟩:=Option.isSome_iff_exists.1 hb
 simp [callFunc,hf,h1,hc]
theorem BH {oi : Oper} {N : Option Tmp} {a : Act} {w : World} {K : Act → World → Prop} {f : FuncId} {fn : Func} {as_ : Array Operand} {ts : Array TypeId} (hf : P.funcs[f]? = some fn) (hname : (fn.name == "runtime.NumGoroutine") = false) (hb : fn.body.isSome = true) (args : Array Value)
  (hw:Region.wanted oi (yielded ops a.tmps) = true) (hN:oi.dst = N) (hop:oi.op = .call { callee:=.value (.func f),args:=as_,argTypes:=ts }) (hargs:as_.map a.eval = args)
  (h:Calls P f args w fun e w' => ∃ v,e = .returned v ∧ K (a.put N v) w'):if Region.wanted oi (yielded ops a.tmps) = true then Oper.wp P oi a w K Q else K (a.put N undef) w:=by
 refine call_ f args hw hN ?_ h
 have he:=VB hf hname hb args w
 unfold execOp
 simp [hop,resolve,Deferred.ofValue,invoke,Act.eval,hargs,he]
theorem Es {oi:Oper} {N:Option Tmp} {a:Act} {w w1:World} {v:Value} {K:Act → World → Prop} (hw:Region.wanted oi (yielded ops a.tmps) = true) (hN:oi.dst = N) (hrun:(execOp a.eval oi).run P w = .ok (.value v) w1)
  (h:K (a.put N v) w1):if Region.wanted oi (yielded ops a.tmps) = true then Oper.wp P oi a w K Q else K (a.put N undef) w:=by
 rw [if_pos hw]
 subst hN
 unfold Oper.wp
 rw [hrun]
 exact h
theorem qH {oi:Oper} {a:Act} {w w1:World} {K:Act → World → Prop} (hw:Region.wanted oi (yielded ops a.tmps) = true) (hN:oi.dst = none) (hrun:(execOp a.eval oi).run P w = .ok .skip w1)
  (h:K a w1):if Region.wanted oi (yielded ops a.tmps) = true then Oper.wp P oi a w K Q else K (a.put none undef) w:=by
 rw [if_pos hw]
 unfold Oper.wp
 rw [hrun]
 show K (a.put oi.dst undef) w1
 rw [hN]
 exact h
end
end Go.Proofs.YtnkkgofpifhoeaaW.PrintLast
end
