/- Out: what was emitted. -/
import Derived.Test.YtnkkgofpifhoeaaLk2
namespace Go.Proofs.Ytnkkgofpifhoeaa.Lk
open Go.RowKit Go.Proofs.Ytnkkgofpifhoeaa.Base Go.Proofs.Ytnkkgofpifhoeaa.Steps Go.Proofs.YtnkkgofpifhoeaaW.PrintWords Go.Proofs.YtnkkgofpifhoeaaW.PrintLast
set_option linter.unusedSimpArgs false
set_option linter.unusedVariables false
theorem out_of {w : World} {B g : Nat} {okq oko : Nat → Prop} {L : Lk} {q o : Value} (h : At w B okq oko g L q o) : Calls Try.prog 32 #[.pointer (some ⟨g, 0, none⟩)] w fun e w' => e = .returned o ∧ At w' B okq (fun _ => False) g { L with out := [] } q (.slice none 0 0) ∧ pkt.R 27 w' B oko o L.out ∧ Go.Proofs.Ytnkkgofpifhoeaa.Steps.At g w w' := by
  obtain ⟨A, c, ho⟩ := Kd.R_slice h.out
  have hc11 : w.cell? ⟨g, 11, none⟩ = some (.slice A L.out.length c) := (blk_cell h.blk 11).trans (by rw [ho]; rfl)
  have HO := Lib.hid ho
  have H := Lib.hid h
  clear h ho
  go_enter Try.func32, Try.ntmps32
  go_wp2_with (first | ((with_reducible refine gate_ (.store 53 (.tmp 12) (.const (.slice none 0 0))) rfl ?_); (refine store_F (fun wz => At wz B okq (fun _ => False) g { L with out := [] } q (.slice none 0 0) ∧ Go.Proofs.Ytnkkgofpifhoeaa.Steps.At g w wz) rfl rfl ⟨_, (by have hz1 : World.cell? _ ⟨g, 11, none⟩ = some _ := (blk_cell H.out.blk 11).trans rfl; have hz2 := blk_frozen H.out.blk 11; first | (go_simp; done) | (go_simp; rfl)), H.out.put 11 _ rfl H.out.queue (Kd.R_nil _ _ _ _ _) (fun _ _ hf => hf) (fun k hk => H.out.old k (hk.elim (fun x => .inl x) (fun f => False.elim f))), Steps.At.set (Steps.At.refl g w) _ _⟩ (fun w_K1 hF => ?_)); (have K1 := Lib.hid hF); (clear hF)))
  all_goals (go_ret; exact ⟨by rw [HO.out]; rfl, K1.out.1, Kd.R_step H.out.out (fun k hk _ => K1.out.2.block k (H.out.old k (.inr hk)).2), K1.out.2⟩)
end Go.Proofs.Ytnkkgofpifhoeaa.Lk
