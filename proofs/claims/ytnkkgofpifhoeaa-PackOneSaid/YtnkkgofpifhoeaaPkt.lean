/- Which packet bytes are, in plain lists and numbers; the spellings of both readers come to it. -/
import Derived.Test.YtnkkgofpifhoeaaSeg
import Derived.Test.YtnkkgofpifhoeaaCheck
namespace Go.Proofs.Ytnkkgofpifhoeaa.Pk
open Go.RowKit Go.Proofs.Ytnkkgofpifhoeaa.Flt Go.Proofs.Ytnkkgofpifhoeaa.Num Go.Proofs.Ytnkkgofpifhoeaa.Base Go.Proofs.YtnkkgofpifhoeaaW.PrintWords Go.Proofs.YtnkkgofpifhoeaaW.PrintLast
structure Pkt where
  kind : Int
  mine : Int
  boot : Int
  yours : Int
  seq : Int
  ack : Int
  stamp : Int
  echo : Int
  zr : Nat
  zi : Nat
  body : List Int
def Pkt.zero : Pkt := ⟨0, 0, 0, 0, 0, 0, 0, 0, 0, 0, []⟩
/-- A packet's cells, v its body. -/
def pcells (p : Pkt) (v : Value) : Array Value := #[.int .i64 p.kind, .int .u32 p.mine, .int .u32 p.boot, .int .u32 p.yours, .int .u32 p.seq, .int .u32 p.ack, .int .u32 p.stamp, .int .u32 p.echo, .complex .f64 p.zr p.zi, v]
def Pkt.code (p : Pkt) : Int := checkP p.kind p.mine p.boot p.yours p.seq p.ack p.stamp p.echo p.zr p.zi p.body.length
/-- Four and eight bytes from a place on, as a number. -/
def at4 (l : List Int) (a : Nat) : Int := IntKind.u32.wrap (bigOf 0 ((l.drop a).take 4))
def at8 (l : List Int) (a : Nat) : Nat := (bigOf 0 ((l.drop a).take 8)).toNat
def pkt1 (l : List Int) : Pkt := ⟨1, at4 l 1, at4 l 5, at4 l 9, IntKind.u32.wrap (rd l 13), 0, 0, 0, 0, 0, []⟩
def pkt2 (l : List Int) : Pkt := ⟨2, at4 l 1, at4 l 5, at4 l 9, at4 l 13, at4 l 17, 0, 0, 0, 0, l.drop 21⟩
def pkt3 (l : List Int) : Pkt := ⟨3, at4 l 1, at4 l 5, at4 l 9, 0, at4 l 13, 0, 0, 0, 0, []⟩
def pkt4 (l : List Int) : Pkt := ⟨4, at4 l 1, at4 l 5, at4 l 9, 0, at4 l 13, at4 l 17, at4 l 21, at8 l 25, at8 l 33, []⟩
def pktOf (l : List Int) : Pkt := if rd l 0 = 1 then pkt1 l else if rd l 0 = 2 then pkt2 l else if rd l 0 = 3 then pkt3 l else pkt4 l
def least (k : Int) : Nat := if k = 1 then 14 else if k = 2 then 22 else if k = 3 then 17 else 41
def most (k : Int) : Nat := if k = 1 then 14 else if k = 2 then 1021 else if k = 3 then 17 else 41
def decC (l : List Int) : Int := if l.length = 0 then 103 else if rd l 0 < 1 ∨ 4 < rd l 0 then 100 else if l.length < least (rd l 0) then 103 else if most (rd l 0) < l.length then 102 else (pktOf l).code
def decP (l : List Int) : Pkt := if decC l = 0 then pktOf l else Pkt.zero
/-- Behind a Decode: the packet with its body in new memory, and the code. -/
def DecPost (l : List Int) (w : World) (e : Ending) (w' : World) : Prop := ∃ v, e = .returned (.tuple #[.agg (pcells (decP l) v), .int .i64 (decC l)]) ∧ (Kd.int .u8).R 5 w' w.heap.size (fun _ => True) v (decP l).body ∧ Below w.heap.size w w'
theorem pcells_zero : pcells Pkt.zero (.slice none 0 0) = #[.int .i64 0, .int .u32 0, .int .u32 0, .int .u32 0, .int .u32 0, .int .u32 0, .int .u32 0, .int .u32 0, .complex .f64 0 0, .slice none 0 0] := rfl
theorem DecPost.bad {l : List Int} {w w' : World} {e : Ending} {code : Int} (hd : decC l = code) (hc : code ≠ 0) (h : e = .returned (.tuple #[.agg #[.int .i64 0, .int .u32 0, .int .u32 0, .int .u32 0, .int .u32 0, .int .u32 0, .int .u32 0, .int .u32 0, .complex .f64 0 0, .slice none 0 0], .int .i64 code]) ∧ Below w.heap.size w w') : DecPost l w e w' := by
  have hp : decP l = Pkt.zero := by rw [decP, if_neg (by rw [hd]; exact hc)]
  refine ⟨.slice none 0 0, ?_, ?_, h.2⟩
  · rw [hp, pcells_zero, hd]
    exact h.1
  · rw [hp]
    exact Kd.R_nil _ _ _ _ _
theorem decAgg_pc (p : Pkt) (v : Value) (code : Int) : decAgg code (pcells p v) = if code = 0 then pcells p v else #[.int .i64 0, .int .u32 0, .int .u32 0, .int .u32 0, .int .u32 0, .int .u32 0, .int .u32 0, .int .u32 0, .complex .f64 0 0, .slice none 0 0] := rfl
/-- Without a body. -/
theorem DecPost.flat {l : List Int} {w w' : World} {e : Ending} (p : Pkt) (hp : pktOf l = p) (hd : decC l = p.code) (hb : p.body = []) (h : e = .returned (.tuple #[.agg (decAgg p.code (pcells p (.slice none 0 0))), .int .i64 p.code]) ∧ Below w.heap.size w w') : DecPost l w e w' := by
  by_cases hc : p.code = 0
  · have hq : decP l = p := by rw [decP, hd, if_pos hc, hp]
    refine ⟨.slice none 0 0, ?_, ?_, h.2⟩
    · rw [hq, hd, h.1, decAgg_pc, if_pos hc]
    · rw [hq, hb]
      exact Kd.R_nil _ _ _ _ _
  · refine DecPost.bad hd hc ⟨?_, h.2⟩
    rw [h.1, decAgg_pc, if_neg hc]
theorem DecPost.long {l : List Int} {w w' : World} {e : Ending} (p : Pkt) (hp : pktOf l = p) (hd : decC l = p.code) (h : DecBody (pcells p) p.code p.body w e w') : DecPost l w e w' := by
  obtain ⟨v, he, hR, hB⟩ := h
  by_cases hc : p.code = 0
  · have hq : decP l = p := by rw [decP, hd, if_pos hc, hp]
    refine ⟨v, ?_, ?_, hB⟩
    · rw [hq, hd, he, decAgg_pc, if_pos hc]
    · rw [hq]
      exact hR
  · refine DecPost.bad hd hc ⟨?_, hB⟩
    rw [he, decAgg_pc, if_neg hc]
/-- The readers' spellings. -/
theorem num4_at (l : List Int) (a : Nat) (h : bytesB l) : numOf 0 ((l.drop a).take 4) = bigOf 0 ((l.drop a).take 4) := numOf_big _ _ ((h.drop a).take 4)
theorem num8_at (l : List Int) (a : Nat) (h : bytesB l) : numOf 0 ((l.drop a).take 8) = bigOf 0 ((l.drop a).take 8) := numOf_big _ _ ((h.drop a).take 8)
theorem num1_at (l : List Int) (a : Nat) (h : bytesB l) (hl : a < l.length) : numOf 0 ((l.drop a).take 1) = rd l (a : Int) := by
  rw [numOf_big _ _ ((h.drop a).take 1)]
  have e : (l.drop a).take 1 = [rd l (a : Int)] := by
    rw [List.drop_eq_getElem_cons hl]
    unfold rd
    rw [Int.toNat_natCast, List.getD_eq_getElem?_getD, List.getElem?_eq_getElem hl]
    rfl
  rw [e]
  simp [bigOf]
theorem rd_cut (l : List Int) : rd (cutd 4 l) 9 = rd l 13 := by
  unfold rd cutd
  simp [List.getD_eq_getElem?_getD, List.getElem?_drop]
theorem seg_at (l : List Int) (a b : Nat) : seg l a b = (l.drop a).take (b - a) := by
  unfold seg
  rw [List.drop_take]
theorem seg_cut (l : List Int) (n a b : Nat) : seg (cutd n l) a b = (l.drop (n + a)).take (b - a) := by
  rw [seg_at]
  unfold cutd
  rw [List.drop_drop]
end Go.Proofs.Ytnkkgofpifhoeaa.Pk
