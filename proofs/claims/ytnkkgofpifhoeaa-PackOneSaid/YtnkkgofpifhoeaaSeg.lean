/- Pieces of a list of bytes, as slices of the program's slices read. -/
import Derived.Test.YtnkkgofpifhoeaaRef
import Derived.Test.YtnkkgofpifhoeaaSteps
namespace Go.Proofs.Ytnkkgofpifhoeaa.Pk
open Go.RowKit Go.Proofs.Ytnkkgofpifhoeaa.Base Go.Proofs.YtnkkgofpifhoeaaW.PrintWords Go.Proofs.YtnkkgofpifhoeaaW.PrintLast
theorem bz27 (w : World) : (Instr.build 27 #[]).run Try.prog w = .ok (.agg #[.int .i64 0, .int .u32 0, .int .u32 0, .int .u32 0, .int .u32 0, .int .u32 0, .int .u32 0, .int .u32 0, .complex .f64 0 0, .slice none 0 0]) w := by kernel_rfl
theorem al27 (w : World) (v : Value) : (Instr.alloc 27 true v).run Try.prog w = .ok (.pointer (some ⟨w.heap.size, 0, none⟩)) (w.alloc (.cells #[.int .i64 0, .int .u32 0, .int .u32 0, .int .u32 0, .int .u32 0, .int .u32 0, .int .u32 0, .int .u32 0, .complex .f64 0 0, .slice none 0 0] 27)) := by kernel_rfl
theorem cell_alloc_of {w : World} {a : Addr} {v : Value} (h : w.cell? a = some v) (o : Obj) : (w.alloc o).cell? a = some v := (World.cell?_alloc_lt _ _ _ (World.block_lt_of_cell? _ _ h)).trans h
def seg (l : List Int) (a b : Nat) : List Int := (l.take b).drop a
def cutd (n : Nat) (l : List Int) : List Int := l.drop n
theorem seg_le (l : List Int) (a b : Nat) : (seg l a b).length ≤ b := by
  unfold seg
  rw [List.length_drop, List.length_take]
  omega
theorem cutd_len (n : Nat) (l : List Int) : (cutd n l).length = l.length - n := List.length_drop
theorem bytesB.seg {l : List Int} (h : bytesB l) (a b : Nat) : bytesB (seg l a b) := (h.take b).drop a
theorem bytesB.cut {l : List Int} (h : bytesB l) (n : Nat) : bytesB (cutd n l) := h.drop n
theorem seg_fact (A : Option Addr) (c : Nat) (l : List Int) (a b : Int) (na nb : Nat) (ha : a.toNat = na) (hb : b.toNat = nb) (h0 : 0 ≤ a) (h1 : a ≤ b) (hm : b ≤ l.length) (hc : l.length ≤ c) :
    ∃ A' : Option Addr, (∀ W : World, (Instr.slice 22 (.slice A l.length c) (some (.int .i64 a)) (some (.int .i64 b)) none).run Try.prog W = .ok (.slice A' (seg l na nb).length (c - na)) W) ∧
      ∀ W : World, Kd.C (Kd.int .u8) W A l.length l → Kd.C (Kd.int .u8) W A' (seg l na nb).length (seg l na nb) := by
  obtain ⟨i0, hi0, _, hsz, _⟩ := info_parts info5
  obtain ⟨A', hs, hr, _⟩ := print_mid_of (P := Try.prog) (Value.int .u8) 0 22 5 .i64 .i64 Try.underlying22 hi0 hsz A c l a b h0 h1 hm hc
  subst ha hb
  exact ⟨A', hs, fun W hW => Kd.C_of_reads (h1 := fun _ => rfl) (hr W (Kd.reads_of_C hW))⟩
theorem cut_fact (A : Option Addr) (c : Nat) (l : List Int) (a : Int) (na : Nat) (ha : a.toNat = na) (h0 : 0 ≤ a) (hm : a ≤ l.length) (hc : l.length ≤ c) :
    ∃ A' : Option Addr, (∀ W : World, (Instr.slice 22 (.slice A l.length c) (some (.int .i64 a)) none none).run Try.prog W = .ok (.slice A' (cutd na l).length (c - na)) W) ∧
      (∀ W : World, Kd.C (Kd.int .u8) W A l.length l → Kd.C (Kd.int .u8) W A' (cutd na l).length (cutd na l)) ∧ (cutd na l).length ≤ c - na := by
  obtain ⟨i0, hi0, _, hsz, _⟩ := info_parts info5
  obtain ⟨A', hs, hr, hc'⟩ := print_drop_of (P := Try.prog) (Value.int .u8) 0 22 5 .i64 Try.underlying22 hi0 hsz A c l a h0 hm hc
  subst ha
  exact ⟨A', hs, fun W hW => Kd.C_of_reads (h1 := fun _ => rfl) (hr W (Kd.reads_of_C hW)), hc'⟩
theorem hp3d (w : World) (a b c : Obj) : (((w.alloc a).alloc b).alloc c).drew.heap[w.heap.size]? = some a := by
  have hb : Below (w.alloc a).heap.size (w.alloc a) (((w.alloc a).alloc b).alloc c).drew := bl_drew (((Below.refl _ _).alloc (Nat.le_refl _) _).alloc (by simp) _)
  exact (hb.block _ (by simp)).trans (heap_alloc_new w _)
theorem hp3 (w : World) (a b c : Obj) : (((w.alloc a).alloc b).alloc c).heap[w.heap.size]? = some a := hp3d w a b c
theorem wr0 (x : Int) : 0 ≤ IntKind.u32.wrap x := by rw [wrapU32]; omega
theorem big_lt (l : List Int) (h : bytesB l) : (bigOf 0 l).toNat < 18446744073709551616 := by
  have := bigOf_range l 0 h (by decide) (by decide)
  omega
end Go.Proofs.Ytnkkgofpifhoeaa.Pk
