/- Take, whole. -/
import Derived.Test.YtnkkgofpifhoeaaLk13
import Derived.Test.YtnkkgofpifhoeaaLk13a
import Derived.Test.YtnkkgofpifhoeaaLk13b
import Derived.Test.YtnkkgofpifhoeaaLk13c
namespace Go.Proofs.Ytnkkgofpifhoeaa.Lk
open Go.RowKit Go.Proofs.Ytnkkgofpifhoeaa.Base Go.Proofs.Ytnkkgofpifhoeaa.Pk Go.Proofs.YtnkkgofpifhoeaaW.PrintWords
set_option linter.unusedSimpArgs false
set_option linter.unusedVariables false
def ackK (L : Lk) (p : Pkt) : Nat := (IntKind.u32.wrap (p.ack - L.base)).toNat
def upM (L : Lk) (p : Pkt) : Lk := if p.kind = 2 ∧ p.seq = L.expected then bumpL L else L
def upN (L : Lk) (p : Pkt) : Lk := if 1 ≤ ackK L p ∧ (ackK L p : Int) ≤ L.sent then fill_ (cutL (upM L p) (ackK L p)) else upM L p
def upL (L : Lk) (p : Pkt) : Lk := if p.kind = 2 then emit_ (upN L p) (ackP (upN L p)) else upN L p
def upB (L : Lk) (p : Pkt) : List Int := if p.kind = 2 ∧ p.seq = L.expected then p.body else []
structure Tk where
  heard : Bool
  up : Bool
  down : Bool
  body : List Int
def peerL (L : Lk) (boot : Int) (p : Pkt) : Lk := { L with boot := boot, yours := p.mine, known := true }
def takeF (L : Lk) (boot : Int) (p : Pkt) : Lk × Tk :=
  if L.phase = 0 ∨ ageF L boot p.mine = -1 then (L, ⟨false, false, false, []⟩)
  else if p.kind = 1 then
    if L.phase = 1 then
      if meantF L p = true then (emit_ { peerL L boot p with phase := 2 } (helloP { peerL L boot p with phase := 2 }), ⟨true, true, false, []⟩)
      else (emit_ (peerL L boot p) (helloP (peerL L boot p)), ⟨true, false, false, []⟩)
    else if ageF L boot p.mine = 0 then (if p.seq = 0 then emit_ L (helloP L) else L, ⟨true, false, false, []⟩)
    else if L.token = 4294967295 then (shut_ L, ⟨true, false, true, []⟩)
    else (emit_ (peerL (begin_ L) boot p) (helloP (peerL (begin_ L) boot p)), ⟨true, false, true, []⟩)
  else if L.phase = 2 ∧ ageF L boot p.mine = 0 ∧ meantF L p = true then (upL L p, ⟨true, false, false, upB L p⟩)
  else (L, ⟨false, false, false, []⟩)
theorem age_or (L : Lk) (boot mine : Int) : ageF L boot mine = -1 ∨ ageF L boot mine = 0 ∨ ageF L boot mine = 1 := by
  unfold ageF
  split
  · exact .inl rfl
  · split
    · split
      · exact .inl rfl
      · split
        · exact .inr (.inl rfl)
        · exact .inr (.inr rfl)
    · exact .inr (.inr rfl)
def TookT (w : World) (B : Nat) (S : Nat → Prop) (g : Nat) (x : Lk × Tk) : Ending → World → Prop := Took w B S g x.1 x.2.heard x.2.up x.2.down x.2.body
theorem take_of {w : World} {B g : Nat} {okq oko S : Nat → Prop} {L : Lk} {q o : Value} (h : At w B okq oko g L q o) (hok : L.Ok) (hS : ∀ k, holds okq oko g k → S k) (hB : B ≤ w.heap.size) (boot : Int) (p : Pkt) (Ab : Option Addr) (cb : Nat)
    (hb0 : boot ≠ 0) (hbr : 0 ≤ boot ∧ boot < 4294967296) (hpr : p.Rng) (hck : checkP p.kind p.mine p.boot p.yours p.seq p.ack p.stamp p.echo p.zr p.zi p.body.length = 0) (hpl : p.body.length ≤ 1000)
    {okp : Nat → Prop} (hR : (Kd.int .u8).R 5 w B okp (.slice Ab p.body.length cb) p.body) (hkp : ∀ k, okp k → ¬ S k) :
    Calls Try.prog 34 #[.pointer (some ⟨g, 0, none⟩), .int .u32 boot, .agg #[.int .i64 p.kind, .int .u32 p.mine, .int .u32 p.boot, .int .u32 p.yours, .int .u32 p.seq, .int .u32 p.ack, .int .u32 p.stamp, .int .u32 p.echo, .complex .f64 p.zr p.zi, .slice Ab p.body.length cb]] w (TookT w B S g (takeF L boot p)) := by
  have hph := hok.phase
  have hag := age_or L boot p.mine
  unfold TookT takeF
  by_cases h0 : L.phase = 0
  · rw [if_pos (.inl h0)]
    exact take_shut h hok hS hB boot p Ab cb hb0 hbr hpr hck h0
  by_cases ho : ageF L boot p.mine = -1
  · rw [if_pos (.inr ho)]
    exact take_old h hok hS hB boot p Ab cb hb0 hbr hpr hck h0 ho
  rw [if_neg (fun x => x.elim h0 ho)]
  by_cases hk : p.kind = 1
  · rw [if_pos hk]
    by_cases h1 : L.phase = 1
    · rw [if_pos h1]
      by_cases hm : meantF L p = true
      · rw [if_pos hm]
        exact take_open1 h hok hS hB boot p Ab cb hb0 hbr hpr hck h1 (by omega) hk hm
      · rw [if_neg hm]
        exact take_open0 h hok hS hB boot p Ab cb hb0 hbr hpr hck h1 (by omega) hk (by simpa using hm)
    · rw [if_neg h1]
      have h2 : L.phase = 2 := by omega
      by_cases ha : ageF L boot p.mine = 0
      · rw [if_pos ha]
        by_cases hs : p.seq = 0
        · rw [if_pos hs]
          exact take_again1 h hok hS hB boot p Ab cb hb0 hbr hpr hck h2 ha hk hs
        · rw [if_neg hs]
          exact take_again0 h hok hS hB boot p Ab cb hb0 hbr hpr hck h2 ha hk hs
      · rw [if_neg ha]
        by_cases hmx : L.token = 4294967295
        · rw [if_pos hmx]
          exact take_anew1 h hok hS hB boot p Ab cb hb0 hbr hpr hck h2 (by omega) hk hmx
        · rw [if_neg hmx]
          exact take_anew0 h hok hS hB boot p Ab cb hb0 hbr hpr hck h2 (by omega) hk hmx
  rw [if_neg hk]
  by_cases hu : L.phase = 2 ∧ ageF L boot p.mine = 0 ∧ meantF L p = true
  · rw [if_pos hu]
    obtain ⟨h2, ha, hm⟩ := hu
    have hkk : IntKind.u32.wrap (p.ack - L.base) = (ackK L p : Int) := (Int.toNat_of_nonneg (wrap32 _).1).symm
    generalize hkn : ackK L p = kn at hkk
    unfold upL upN upB
    rw [hkn]
    by_cases hd : p.kind = 2
    · by_cases hs : p.seq = L.expected
      · have hM : upM L p = bumpL L := by unfold upM; rw [if_pos (show p.kind = 2 ∧ p.seq = L.expected from ⟨hd, hs⟩)]
        rw [hM, if_pos hd, if_pos (show p.kind = 2 ∧ p.seq = L.expected from ⟨hd, hs⟩)]
        by_cases hz : kn = 0
        · rw [if_neg (by omega)]
          exact take_up11z h hok hS hB boot p Ab cb hb0 hbr hpr hck h2 ha hm hpl hR hkp kn hkk hd hs hz
        · by_cases hle : (kn : Int) ≤ L.sent
          · rw [if_pos ⟨by omega, hle⟩]
            exact take_up11a h hok hS hB boot p Ab cb hb0 hbr hpr hck h2 ha hm hpl hR hkp kn hkk hd hs (by omega) hle
          · rw [if_neg (fun x => hle x.2)]
            exact take_up11b h hok hS hB boot p Ab cb hb0 hbr hpr hck h2 ha hm hpl hR hkp kn hkk hd hs (by omega) (by omega)
      · have hM : upM L p = L := by unfold upM; rw [if_neg (fun x => hs x.2)]
        rw [hM, if_pos hd, if_neg (show ¬ (p.kind = 2 ∧ p.seq = L.expected) from fun x => hs x.2)]
        by_cases hz : kn = 0
        · rw [if_neg (by omega)]
          exact take_up10z h hok hS hB boot p Ab cb hb0 hbr hpr hck h2 ha hm hpl hR hkp kn hkk hd hs hz
        · by_cases hle : (kn : Int) ≤ L.sent
          · rw [if_pos ⟨by omega, hle⟩]
            exact take_up10a h hok hS hB boot p Ab cb hb0 hbr hpr hck h2 ha hm hpl hR hkp kn hkk hd hs (by omega) hle
          · rw [if_neg (fun x => hle x.2)]
            exact take_up10b h hok hS hB boot p Ab cb hb0 hbr hpr hck h2 ha hm hpl hR hkp kn hkk hd hs (by omega) (by omega)
    · have hM : upM L p = L := by unfold upM; rw [if_neg (fun x => hd x.1)]
      rw [hM, if_neg hd, if_neg (show ¬ (p.kind = 2 ∧ p.seq = L.expected) from fun x => hd x.1)]
      by_cases hz : kn = 0
      · rw [if_neg (by omega)]
        exact take_up00z h hok hS hB boot p Ab cb hb0 hbr hpr hck h2 ha hm hpl hR hkp kn hkk hk hd hz
      · by_cases hle : (kn : Int) ≤ L.sent
        · rw [if_pos ⟨by omega, hle⟩]
          exact take_up00a h hok hS hB boot p Ab cb hb0 hbr hpr hck h2 ha hm hpl hR hkp kn hkk hk hd (by omega) hle
        · rw [if_neg (fun x => hle x.2)]
          exact take_up00b h hok hS hB boot p Ab cb hb0 hbr hpr hck h2 ha hm hpl hR hkp kn hkk hk hd (by omega) (by omega)
  · rw [if_neg hu]
    by_cases h1 : L.phase = 1
    · exact take_no1 h hok hS hB boot p Ab cb hb0 hbr hpr hck h1 (by omega) hk
    · have h2 : L.phase = 2 := by omega
      by_cases ha : ageF L boot p.mine = 0
      · exact take_no3 h hok hS hB boot p Ab cb hb0 hbr hpr hck h2 ha hk (by
          cases hm : meantF L p
          · rfl
          · exact absurd ⟨h2, ha, hm⟩ hu)
      · exact take_no2 h hok hS hB boot p Ab cb hb0 hbr hpr hck h2 (by omega) hk
theorem upN_ok {L : Lk} (h : L.Ok) (p : Pkt) : (upN L p).Ok := by
  have hM : (upM L p).Ok := by unfold upM; split; exact bump_ok h; exact h
  have hs : (upM L p).sent = L.sent := by unfold upM; split <;> rfl
  unfold upN
  split
  · rename_i hc
    exact fill_ok (cut_ok hM (by rw [hs]; exact hc.2))
  · exact hM
theorem takeF_ok {L : Lk} (h : L.Ok) {boot : Int} (hb : 0 ≤ boot ∧ boot < 4294967296) {p : Pkt} (hp : p.Rng) : (takeF L boot p).1.Ok := by
  have ht := h.token
  unfold takeF
  split
  · exact h
  split
  · split
    · split
      · exact emit_ok (phase_ok (peer_ok h hb hp.mine true) (by decide)) _
      · exact emit_ok (peer_ok h hb hp.mine true) _
    · split
      · show (if p.seq = 0 then emit_ L (helloP L) else L).Ok
        split
        · exact emit_ok h _
        · exact h
      · split
        · exact shut_ok h
        · rename_i hmx
          exact emit_ok (peer_ok (begin_ok h (by omega)) hb hp.mine true) _
  · split
    · show (upL L p).Ok
      unfold upL
      split
      · exact emit_ok (upN_ok h p) _
      · exact upN_ok h p
    · exact h
end Go.Proofs.Ytnkkgofpifhoeaa.Lk
