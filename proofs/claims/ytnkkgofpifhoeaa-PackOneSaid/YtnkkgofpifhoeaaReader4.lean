/- The reader's four bytes, behind words that the walk's rewriting leaves alone; for all bytes. -/
import Derived.Test.YtnkkgofpifhoeaaReader
namespace Go.Proofs.Ytnkkgofpifhoeaa.Pk
open Go.RowKit Go.Proofs.Ytnkkgofpifhoeaa.Base Go.Proofs.YtnkkgofpifhoeaaW.PrintWords Go.Proofs.YtnkkgofpifhoeaaW.PrintLast
def num4 (l : List Int) : Int := numOf 0 (l.take 4)
def cut4 (l : List Int) : List Int := l.drop 4
theorem cut4_len (l : List Int) : (cut4 l).length = l.length - 4 := List.length_drop
def Num4 (g c : Nat) (A : Option Addr) (l : List Int) (w : World) (e : Ending) (w' : World) : Prop :=
  ∃ A', e = .returned (.int .u64 (num4 l)) ∧ w' = w.setCell ⟨g, 0, none⟩ (.slice A' (cut4 l).length (c - 4)) ∧
        (∀ W, Kd.C (Kd.int .u8) W A l.length l → Kd.C (Kd.int .u8) W A' (cut4 l).length (cut4 l))
theorem number_4 (g : Nat) (A : Option Addr) (c : Nat) (l : List Int) (w : World) (hg : w.heap[g]? = some (.cells #[.slice A l.length c] 112 (0, 0)))
    (hC : Kd.C (Kd.int .u8) w A l.length l) (hc : l.length ≤ c) (hs : 4 ≤ l.length) (hm : l.length ≤ 1000000000000) :
    Calls Try.prog 60 #[.pointer (some ⟨g, 0, none⟩), .int .i64 4] w (Num4 g c A l w) :=
  number_any g A c 4 l w hg hC hc (by decide) hs hm
def num1 (l : List Int) : Int := numOf 0 (l.take 1)
def cut1 (l : List Int) : List Int := l.drop 1
theorem cut1_len (l : List Int) : (cut1 l).length = l.length - 1 := List.length_drop
def Num1 (g c : Nat) (A : Option Addr) (l : List Int) (w : World) (e : Ending) (w' : World) : Prop :=
  ∃ A', e = .returned (.int .u64 (num1 l)) ∧ w' = w.setCell ⟨g, 0, none⟩ (.slice A' (cut1 l).length (c - 1)) ∧
        (∀ W, Kd.C (Kd.int .u8) W A l.length l → Kd.C (Kd.int .u8) W A' (cut1 l).length (cut1 l))
theorem number_1 (g : Nat) (A : Option Addr) (c : Nat) (l : List Int) (w : World) (hg : w.heap[g]? = some (.cells #[.slice A l.length c] 112 (0, 0)))
    (hC : Kd.C (Kd.int .u8) w A l.length l) (hc : l.length ≤ c) (hs : 1 ≤ l.length) (hm : l.length ≤ 1000000000000) :
    Calls Try.prog 60 #[.pointer (some ⟨g, 0, none⟩), .int .i64 1] w (Num1 g c A l w) :=
  number_any g A c 1 l w hg hC hc (by decide) hs hm
def num8 (l : List Int) : Int := numOf 0 (l.take 8)
def cut8 (l : List Int) : List Int := l.drop 8
theorem cut8_len (l : List Int) : (cut8 l).length = l.length - 8 := List.length_drop
def Num8 (g c : Nat) (A : Option Addr) (l : List Int) (w : World) (e : Ending) (w' : World) : Prop :=
  ∃ A', e = .returned (.int .u64 (num8 l)) ∧ w' = w.setCell ⟨g, 0, none⟩ (.slice A' (cut8 l).length (c - 8)) ∧
        (∀ W, Kd.C (Kd.int .u8) W A l.length l → Kd.C (Kd.int .u8) W A' (cut8 l).length (cut8 l))
theorem number_8 (g : Nat) (A : Option Addr) (c : Nat) (l : List Int) (w : World) (hg : w.heap[g]? = some (.cells #[.slice A l.length c] 112 (0, 0)))
    (hC : Kd.C (Kd.int .u8) w A l.length l) (hc : l.length ≤ c) (hs : 8 ≤ l.length) (hm : l.length ≤ 1000000000000) :
    Calls Try.prog 60 #[.pointer (some ⟨g, 0, none⟩), .int .i64 8] w (Num8 g c A l w) :=
  number_any g A c 8 l w hg hC hc (by decide) hs hm
end Go.Proofs.Ytnkkgofpifhoeaa.Pk
