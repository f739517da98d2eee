/- Which packets may be by the document, and what is wrong with a packet by it: the same as the program's; for all packets. -/
import Derived.Test.YtnkkgofpifhoeaaRef2
namespace Go.Proofs.Ytnkkgofpifhoeaa.Pk
open Go.RowKit Go.Proofs.Ytnkkgofpifhoeaa.Flt Go.Proofs.Ytnkkgofpifhoeaa.Base Go.Proofs.Ytnkkgofpifhoeaa.Num Go.Proofs.YtnkkgofpifhoeaaW.PrintWords Go.Proofs.YtnkkgofpifhoeaaW.PrintLast
set_option linter.unusedSimpArgs false
set_option linter.unusedVariables false
theorem beqs (a b : Int) : ((a == 0) = (b == 0)) ↔ (a = 0 ↔ b = 0) := by
  rw [Bool.eq_iff_iff]
  simp
set_option maxRecDepth 100000 in
set_option maxHeartbeats 4000000 in
theorem may_1 (mine boot yours seq ack stamp echo : Int) (zr zi : Nat) (A : Option Addr) (n c : Nat) (w : World) (hz0 : 0 ≤ mine) (hz1 : 0 ≤ boot) (hz2 : 0 ≤ yours) (hz3 : 0 ≤ seq) :
    Calls Try.prog 98 #[.agg #[.int .i64 1, .int .u32 mine, .int .u32 boot, .int .u32 yours, .int .u32 seq, .int .u32 ack, .int .u32 stamp, .int .u32 echo, .complex .f64 zr zi, .slice A n c]] w fun e w' => e = .returned (.bool (good1 mine boot yours seq ack stamp echo zr zi n)) ∧ Below w.heap.size w w' := by
  have hz := fun (W : World) => run_zeq (P := Try.prog) W 25 zr zi
  have hu27 := Try.underlying27
  go_enter Try.func98, Try.ntmps98
  go_wp2
  all_goals
    go_ret
    refine ⟨ret_bool ?_, ?_⟩
    · unfold good1
      rw [Bool.eq_iff_iff]
      simp_all <;> first | omega | (simp only [beqs] at *; first | omega | (intros; exfalso; omega))
    · repeat (first | refine Below.setCell ?_ (by simp <;> omega) _ | refine Below.alloc ?_ (by simp <;> omega) _ | exact Below.refl _ _ | refine Below.trans ?_ (Below.mono (by assumption) (by simp <;> omega)))
set_option maxRecDepth 100000 in
set_option maxHeartbeats 4000000 in
theorem may_2 (mine boot yours seq ack stamp echo : Int) (zr zi : Nat) (A : Option Addr) (n c : Nat) (w : World) (hz0 : 0 ≤ mine) (hz1 : 0 ≤ boot) (hz2 : 0 ≤ yours) (hz3 : 0 ≤ seq) (hn : n ≤ 1000) :
    Calls Try.prog 98 #[.agg #[.int .i64 2, .int .u32 mine, .int .u32 boot, .int .u32 yours, .int .u32 seq, .int .u32 ack, .int .u32 stamp, .int .u32 echo, .complex .f64 zr zi, .slice A n c]] w fun e w' => e = .returned (.bool (good2 mine boot yours stamp echo zr zi n)) ∧ Below w.heap.size w w' := by
  have hz := fun (W : World) => run_zeq (P := Try.prog) W 25 zr zi
  have hu27 := Try.underlying27
  go_enter Try.func98, Try.ntmps98
  go_wp2
  all_goals
    go_ret
    refine ⟨ret_bool ?_, ?_⟩
    · unfold good2
      rw [Bool.eq_iff_iff]
      simp_all <;> first | omega | (simp only [beqs] at *; first | omega | (intros; exfalso; omega))
    · repeat (first | refine Below.setCell ?_ (by simp <;> omega) _ | refine Below.alloc ?_ (by simp <;> omega) _ | exact Below.refl _ _ | refine Below.trans ?_ (Below.mono (by assumption) (by simp <;> omega)))
set_option maxRecDepth 100000 in
set_option maxHeartbeats 4000000 in
theorem may_3 (mine boot yours seq ack stamp echo : Int) (zr zi : Nat) (A : Option Addr) (n c : Nat) (w : World) (hz0 : 0 ≤ mine) (hz1 : 0 ≤ boot) (hz2 : 0 ≤ yours) (hz3 : 0 ≤ seq) :
    Calls Try.prog 98 #[.agg #[.int .i64 3, .int .u32 mine, .int .u32 boot, .int .u32 yours, .int .u32 seq, .int .u32 ack, .int .u32 stamp, .int .u32 echo, .complex .f64 zr zi, .slice A n c]] w fun e w' => e = .returned (.bool (good3 mine boot yours seq stamp echo zr zi n)) ∧ Below w.heap.size w w' := by
  have hz := fun (W : World) => run_zeq (P := Try.prog) W 25 zr zi
  have hu27 := Try.underlying27
  go_enter Try.func98, Try.ntmps98
  go_wp2
  all_goals
    go_ret
    refine ⟨ret_bool ?_, ?_⟩
    · unfold good3
      rw [Bool.eq_iff_iff]
      simp_all <;> first | omega | (simp only [beqs] at *; first | omega | (intros; exfalso; omega))
    · repeat (first | refine Below.setCell ?_ (by simp <;> omega) _ | refine Below.alloc ?_ (by simp <;> omega) _ | exact Below.refl _ _ | refine Below.trans ?_ (Below.mono (by assumption) (by simp <;> omega)))
set_option maxRecDepth 100000 in
set_option maxHeartbeats 4000000 in
theorem may_4 (mine boot yours seq ack stamp echo : Int) (zr zi : Nat) (A : Option Addr) (n c : Nat) (w : World) (hz0 : 0 ≤ mine) (hz1 : 0 ≤ boot) (hz2 : 0 ≤ yours) (hz3 : 0 ≤ seq) (hp : zr < 18446744073709551616) (hq : zi < 18446744073709551616) :
    Calls Try.prog 98 #[.agg #[.int .i64 4, .int .u32 mine, .int .u32 boot, .int .u32 yours, .int .u32 seq, .int .u32 ack, .int .u32 stamp, .int .u32 echo, .complex .f64 zr zi, .slice A n c]] w fun e w' => e = .returned (.bool (good4 mine boot yours seq zr zi n)) ∧ Below w.heap.size w w' := by
  have hz := fun (W : World) => run_zeq (P := Try.prog) W 25 zr zi
  have hu27 := Try.underlying27
  cases hpl : placeB zr zi
  all_goals
    have HP := Lib.hid hpl
    clear hpl
    have hq' := Lib.hid hq
    have hp' := Lib.hid hp
    clear hp hq
    go_enter Try.func98, Try.ntmps98
    go_wp2_with (go_at_call 121; refine (right2_any zr zi hp'.out hq'.out _).mono ?_; rintro e w' ⟨rfl, hb⟩; rw [HP.out]; obtain ⟨hc, hf⟩ := bcell hb; have hz1 := hb.size; simp at hz1)
  all_goals
    go_ret
    refine ⟨ret_bool ?_, ?_⟩
    · unfold good4
      rw [HP.out, Bool.eq_iff_iff]
      simp_all <;> omega
    · repeat (first | refine Below.setCell ?_ (by simp <;> omega) _ | refine Below.alloc ?_ (by simp <;> omega) _ | exact Below.refl _ _ | refine Below.trans ?_ (Below.mono (by assumption) (by simp <;> omega)))
set_option maxRecDepth 100000 in
set_option maxHeartbeats 4000000 in
theorem rcheck_less (kind mine boot yours seq ack stamp echo : Int) (zr zi : Nat) (A : Option Addr) (n c : Nat) (w : World) (h : kind < 1) :
    Calls Try.prog 63 #[.agg #[.int .i64 kind, .int .u32 mine, .int .u32 boot, .int .u32 yours, .int .u32 seq, .int .u32 ack, .int .u32 stamp, .int .u32 echo, .complex .f64 zr zi, .slice A n c]] w fun e w' => e = .returned (.int .i64 100) ∧ Below w.heap.size w w' := by
  have hu27 := Try.underlying27
  go_enter Try.func63, Try.ntmps63
  go_wp2
  go_ret
  exact ⟨rfl, (Below.refl w.heap.size w).alloc (Nat.le_refl _) _⟩
set_option maxRecDepth 100000 in
set_option maxHeartbeats 4000000 in
theorem rcheck_more (kind mine boot yours seq ack stamp echo : Int) (zr zi : Nat) (A : Option Addr) (n c : Nat) (w : World) (h : 4 < kind) :
    Calls Try.prog 63 #[.agg #[.int .i64 kind, .int .u32 mine, .int .u32 boot, .int .u32 yours, .int .u32 seq, .int .u32 ack, .int .u32 stamp, .int .u32 echo, .complex .f64 zr zi, .slice A n c]] w fun e w' => e = .returned (.int .i64 100) ∧ Below w.heap.size w w' := by
  have hu27 := Try.underlying27
  go_enter Try.func63, Try.ntmps63
  go_wp2
  go_ret
  exact ⟨rfl, (Below.refl w.heap.size w).alloc (Nat.le_refl _) _⟩
set_option maxRecDepth 100000 in
set_option maxHeartbeats 4000000 in
theorem rcheck_long (mine boot yours seq ack stamp echo : Int) (zr zi : Nat) (A : Option Addr) (n c : Nat) (w : World) (h : 1000 < n) :
    Calls Try.prog 63 #[.agg #[.int .i64 2, .int .u32 mine, .int .u32 boot, .int .u32 yours, .int .u32 seq, .int .u32 ack, .int .u32 stamp, .int .u32 echo, .complex .f64 zr zi, .slice A n c]] w fun e w' => e = .returned (.int .i64 102) ∧ Below w.heap.size w w' := by
  have hu27 := Try.underlying27
  go_enter Try.func63, Try.ntmps63
  go_wp2
  go_ret
  exact ⟨rfl, (Below.refl w.heap.size w).alloc (Nat.le_refl _) _⟩
set_option maxRecDepth 100000 in
set_option maxHeartbeats 4000000 in
theorem rcheck_1 (mine boot yours seq ack stamp echo : Int) (zr zi : Nat) (A : Option Addr) (n c : Nat) (w : World) (hz0 : 0 ≤ mine) (hz1 : 0 ≤ boot) (hz2 : 0 ≤ yours) (hz3 : 0 ≤ seq) :
    Calls Try.prog 63 #[.agg #[.int .i64 1, .int .u32 mine, .int .u32 boot, .int .u32 yours, .int .u32 seq, .int .u32 ack, .int .u32 stamp, .int .u32 echo, .complex .f64 zr zi, .slice A n c]] w fun e w' => e = .returned (.int .i64 (if good1 mine boot yours seq ack stamp echo zr zi n = true then 0 else 101)) ∧ Below w.heap.size w w' := by
  have hu27 := Try.underlying27
  cases hg : good1 mine boot yours seq ack stamp echo zr zi n
  all_goals
    have HG := Lib.hid hg
    clear hg
    have H0 := Lib.hid hz0
    have H1 := Lib.hid hz1
    have H2 := Lib.hid hz2
    have H3 := Lib.hid hz3
    clear hz0 hz1 hz2 hz3
    go_enter Try.func63, Try.ntmps63
    go_wp2_with (go_at_call 98; refine (may_1 mine boot yours seq ack stamp echo zr zi A n c _ H0.out H1.out H2.out H3.out).mono ?_; rintro e w' ⟨rfl, hb⟩; rw [HG.out]; have hz := hb.size; simp at hz)
    go_ret
    refine ⟨rfl, ?_⟩
    repeat (first | refine Below.setCell ?_ (by simp <;> omega) _ | refine Below.alloc ?_ (by simp <;> omega) _ | exact Below.refl _ _ | refine Below.trans ?_ (Below.mono (by assumption) (by simp <;> omega)))
set_option maxRecDepth 100000 in
set_option maxHeartbeats 4000000 in
theorem rcheck_2 (mine boot yours seq ack stamp echo : Int) (zr zi : Nat) (A : Option Addr) (n c : Nat) (w : World) (hz0 : 0 ≤ mine) (hz1 : 0 ≤ boot) (hz2 : 0 ≤ yours) (hz3 : 0 ≤ seq) (hn : n ≤ 1000) :
    Calls Try.prog 63 #[.agg #[.int .i64 2, .int .u32 mine, .int .u32 boot, .int .u32 yours, .int .u32 seq, .int .u32 ack, .int .u32 stamp, .int .u32 echo, .complex .f64 zr zi, .slice A n c]] w fun e w' => e = .returned (.int .i64 (if good2 mine boot yours stamp echo zr zi n = true then 0 else 101)) ∧ Below w.heap.size w w' := by
  have hu27 := Try.underlying27
  cases hg : good2 mine boot yours stamp echo zr zi n
  all_goals
    have HG := Lib.hid hg
    clear hg
    have H0 := Lib.hid hz0
    have H1 := Lib.hid hz1
    have H2 := Lib.hid hz2
    have H3 := Lib.hid hz3
    clear hz0 hz1 hz2 hz3
    have HN := Lib.hid hn
    go_enter Try.func63, Try.ntmps63
    go_wp2_with (go_at_call 98; refine (may_2 mine boot yours seq ack stamp echo zr zi A n c _ H0.out H1.out H2.out H3.out HN.out).mono ?_; rintro e w' ⟨rfl, hb⟩; rw [HG.out]; have hz := hb.size; simp at hz)
    go_ret
    refine ⟨rfl, ?_⟩
    repeat (first | refine Below.setCell ?_ (by simp <;> omega) _ | refine Below.alloc ?_ (by simp <;> omega) _ | exact Below.refl _ _ | refine Below.trans ?_ (Below.mono (by assumption) (by simp <;> omega)))
set_option maxRecDepth 100000 in
set_option maxHeartbeats 4000000 in
theorem rcheck_3 (mine boot yours seq ack stamp echo : Int) (zr zi : Nat) (A : Option Addr) (n c : Nat) (w : World) (hz0 : 0 ≤ mine) (hz1 : 0 ≤ boot) (hz2 : 0 ≤ yours) (hz3 : 0 ≤ seq) :
    Calls Try.prog 63 #[.agg #[.int .i64 3, .int .u32 mine, .int .u32 boot, .int .u32 yours, .int .u32 seq, .int .u32 ack, .int .u32 stamp, .int .u32 echo, .complex .f64 zr zi, .slice A n c]] w fun e w' => e = .returned (.int .i64 (if good3 mine boot yours seq stamp echo zr zi n = true then 0 else 101)) ∧ Below w.heap.size w w' := by
  have hu27 := Try.underlying27
  cases hg : good3 mine boot yours seq stamp echo zr zi n
  all_goals
    have HG := Lib.hid hg
    clear hg
    have H0 := Lib.hid hz0
    have H1 := Lib.hid hz1
    have H2 := Lib.hid hz2
    have H3 := Lib.hid hz3
    clear hz0 hz1 hz2 hz3
    go_enter Try.func63, Try.ntmps63
    go_wp2_with (go_at_call 98; refine (may_3 mine boot yours seq ack stamp echo zr zi A n c _ H0.out H1.out H2.out H3.out).mono ?_; rintro e w' ⟨rfl, hb⟩; rw [HG.out]; have hz := hb.size; simp at hz)
    go_ret
    refine ⟨rfl, ?_⟩
    repeat (first | refine Below.setCell ?_ (by simp <;> omega) _ | refine Below.alloc ?_ (by simp <;> omega) _ | exact Below.refl _ _ | refine Below.trans ?_ (Below.mono (by assumption) (by simp <;> omega)))
set_option maxRecDepth 100000 in
set_option maxHeartbeats 4000000 in
theorem rcheck_4 (mine boot yours seq ack stamp echo : Int) (zr zi : Nat) (A : Option Addr) (n c : Nat) (w : World) (hz0 : 0 ≤ mine) (hz1 : 0 ≤ boot) (hz2 : 0 ≤ yours) (hz3 : 0 ≤ seq) (hp : zr < 18446744073709551616) (hq : zi < 18446744073709551616) :
    Calls Try.prog 63 #[.agg #[.int .i64 4, .int .u32 mine, .int .u32 boot, .int .u32 yours, .int .u32 seq, .int .u32 ack, .int .u32 stamp, .int .u32 echo, .complex .f64 zr zi, .slice A n c]] w fun e w' => e = .returned (.int .i64 (if good4 mine boot yours seq zr zi n = true then 0 else 101)) ∧ Below w.heap.size w w' := by
  have hu27 := Try.underlying27
  cases hg : good4 mine boot yours seq zr zi n
  all_goals
    have HG := Lib.hid hg
    clear hg
    have H0 := Lib.hid hz0
    have H1 := Lib.hid hz1
    have H2 := Lib.hid hz2
    have H3 := Lib.hid hz3
    clear hz0 hz1 hz2 hz3
    have HP := Lib.hid hp
    have HQ := Lib.hid hq
    clear hp hq
    go_enter Try.func63, Try.ntmps63
    go_wp2_with (go_at_call 98; refine (may_4 mine boot yours seq ack stamp echo zr zi A n c _ H0.out H1.out H2.out H3.out HP.out HQ.out).mono ?_; rintro e w' ⟨rfl, hb⟩; rw [HG.out]; have hz := hb.size; simp at hz)
    go_ret
    refine ⟨rfl, ?_⟩
    repeat (first | refine Below.setCell ?_ (by simp <;> omega) _ | refine Below.alloc ?_ (by simp <;> omega) _ | exact Below.refl _ _ | refine Below.trans ?_ (Below.mono (by assumption) (by simp <;> omega)))
theorem rcheck_any (kind mine boot yours seq ack stamp echo : Int) (zr zi : Nat) (A : Option Addr) (n c : Nat) (w : World) (hz0 : 0 ≤ mine) (hz1 : 0 ≤ boot) (hz2 : 0 ≤ yours) (hz3 : 0 ≤ seq) (hp : zr < 18446744073709551616) (hq : zi < 18446744073709551616) :
    Calls Try.prog 63 #[.agg #[.int .i64 kind, .int .u32 mine, .int .u32 boot, .int .u32 yours, .int .u32 seq, .int .u32 ack, .int .u32 stamp, .int .u32 echo, .complex .f64 zr zi, .slice A n c]] w fun e w' => e = .returned (.int .i64 (checkP kind mine boot yours seq ack stamp echo zr zi n)) ∧ Below w.heap.size w w' := by
  unfold checkP
  by_cases h1 : kind = 1
  · subst h1
    rw [if_pos rfl]
    exact rcheck_1 _ _ _ _ _ _ _ _ _ _ _ _ _ hz0 hz1 hz2 hz3
  rw [if_neg h1]
  by_cases h2 : kind = 2
  · subst h2
    rw [if_pos rfl]
    by_cases hn : 1000 < n
    · rw [if_pos hn]
      exact rcheck_long _ _ _ _ _ _ _ _ _ _ _ _ _ hn
    · rw [if_neg hn]
      exact rcheck_2 _ _ _ _ _ _ _ _ _ _ _ _ _ hz0 hz1 hz2 hz3 (by omega)
  rw [if_neg h2]
  by_cases h3 : kind = 3
  · subst h3
    rw [if_pos rfl]
    exact rcheck_3 _ _ _ _ _ _ _ _ _ _ _ _ _ hz0 hz1 hz2 hz3
  rw [if_neg h3]
  by_cases h4 : kind = 4
  · subst h4
    rw [if_pos rfl]
    exact rcheck_4 _ _ _ _ _ _ _ _ _ _ _ _ _ hz0 hz1 hz2 hz3 hp hq
  rw [if_neg h4]
  by_cases h5 : kind < 1
  · exact rcheck_less _ _ _ _ _ _ _ _ _ _ _ _ _ _ h5
  · exact rcheck_more _ _ _ _ _ _ _ _ _ _ _ _ _ _ (by omega)
end Go.Proofs.Ytnkkgofpifhoeaa.Pk
