/- The law PeerSends holds: signals that a node's peers are handed for a node that is up come to it once, in order; a queue that is full cuts. For every slice of byte slices that can be read; no condition. -/
import Derived.Test.YtnkkgofpifhoeaaPF24
import Derived.SizedLaws
import Derived.ChangeSlices
import Derived.Test.YtnkkgofpifhoeaaRows
import Derived.WalkKit
import Derived.ProofKit
import Derived.OpenShut
import Derived.ShutString
import Derived.ChangeOld
import Derived.Below
import Derived.Deep.Matrix
set_option linter.unusedSimpArgs false
set_option linter.unusedVariables false
section
namespace Go.Proofs.Ytnkkgofpifhoeaa.peerSends
open Go.ChangeShapes Go.WideShapes Go.ChangeAt Go.RowKit Go.Deep
open Go.ChangeMaps (open_string shut_string)
theorem own:ownKnob Try.prog.godebug = none:=by kernel_rfl
theorem laidOut:laidOutB Try.prog = true:=by kernel_rfl
theorem byte_wf (x:Int) (h:(Lit.int .u8 x).wf = true):0 ≤ x ∧ x < 256:=by
 have h':IntKind.u8.min ≤ x ∧ x ≤ IntKind.u8.max:=by simpa [Lit.wf] using h
 have e1:IntKind.u8.min = 0:=by decide
 have e2:IntKind.u8.max = 255:=by decide
 omega
def Om (w:World) (a:Option Addr) (len:Nat) (xs:List (List Int)):Prop:=xs.length = len ∧ Lk.bytes.C w a len xs ∧ ∀ r ∈ xs,Pk.BV r
theorem Tu (w:World):Om w none 0 []:=⟨rfl,⟨rfl,by decide,fun h => absurd h (by decide)⟩,fun r hr => (by cases hr)⟩
theorem Qi {w:World} {a:Addr} {len cap:Nat} {A:Nat → Option Addr} {L C:Nat → Nat} {Z:Nat → List Int} (hl:len ≤ cap) (hm:cap ≤ maxLen)
  (h:∀ r,r < cap → w.cell? (a.add r) = some (.slice (A r) (L r) (C r)) ∧ L r ≤ C r ∧ C r ≤ maxLen ∧ (Z r).length = C r ∧ (∀ n ∈ Z r,(Lit.int .u8 n).wf = true) ∧ (A r = none → C r = 0) ∧ ∀ a',A r = some a' → ∀ c,c < C r → w.cell? (a'.add c) = some (.int .u8 ((Z r).getD c 0))) :
  Om w (some a) len ((List.range len).map fun r => (Z r).take (L r)):=by
 have hmx:maxLen = 9223372036854775807:=rfl
 refine ⟨by simp,⟨by simp,by omega,fun hp => ⟨a,rfl,fun j p hj => ?_⟩⟩,fun r hr => ?_⟩
 rotate_left
 ·obtain ⟨j,hj,rfl⟩:=List.mem_map.1 hr
  have hjl:j < len:=List.mem_range.1 hj
  obtain ⟨h1,h2,h3,h4,hw,h5,h6⟩:=h j (by omega)
  exact fun x hx => byte_wf x (hw x (List.mem_of_mem_take hx))
 have hjl:j < len:=by
  by_cases hjl:j < len
  ·exact hjl
  ·rw [List.getElem?_eq_none (by simp; omega)] at hj; cases hj
 rw [List.getElem?_map,List.getElem?_range hjl] at hj
 have hp:(Z j).take (L j) = p:=Option.some.inj hj
 subst hp
 obtain ⟨h1,h2,h3,h4,-,h5,h6⟩:=h j (by omega)
 have hlen:((Z j).take (L j)).length = L j:=by rw [List.length_take]; omega
 refine ⟨[.slice (A j) (L j) (C j)],rfl,⟨A j,C j,by rw [hlen],by rw [hlen]; exact h2,?_⟩,fun i u hu => ?_⟩
 ·rw [hlen]
  refine Go.Proofs.YtnkkgofpifhoeaaW.PrintWords.Kd.EM (d:=(0:Int)) (h1:=fun _ => rfl) ⟨hlen,by omega,fun hlp => ?_⟩
  cases hA:A j with
  | none => have:=h5 hA; omega
  | some a' =>
   refine ⟨a',rfl,fun c hc => ?_⟩
   rw [h6 a' hA c (by omega)]
   rw [List.getD_eq_getElem?_getD,List.getD_eq_getElem?_getD,List.getElem?_take_of_lt hc]
 ·have hi0:i = 0:=by
   by_cases hi:i = 0
   ·exact hi
   ·rw [List.getElem?_eq_none (by simp; omega)] at hu; cases hu
  subst hi0
  have hu':Value.slice (A j) (L j) (C j) = u:=Option.some.inj hu
  subst hu'
  have e:j * Go.Proofs.YtnkkgofpifhoeaaW.PrintWords.Kd.sz Lk.bytes + 0 = j:=by rw [show Go.Proofs.YtnkkgofpifhoeaaW.PrintWords.Kd.sz Lk.bytes = 1 from rfl]; omega
  rw [e]
  exact h1
set_option maxRecDepth 100000 in
theorem lifted (os:Os) (started:os.Started) (H:Type) (enc:TypeId × Value → H) :
  ReturnsInHanded {} Try.checked os 13 .any (Rows.peerSendsSpec.pre6 enc Try.prog Try.f13 Rows.peerSendsRow.domain false) (Rows.peerSendsSpec.post enc Try.prog Try.f13 false true false false):=by
 refine returnsInHanded_of_change_sized (C:=Try.checked) own started (by kernel_rfl) Try.func13
  (ChangeSpec.witness6 (enc:=enc) (C:=Try.checked) false ⟨#[],#[.slice none 0 0],[]⟩ 8 (by kernel_rfl) (by kernel_rfl) (by kernel_rfl) (by kernel_rfl)) ?_
 intro W base args ds gs before hval0 hW hcnd hsz0 _
 have hval:∀ (j:Nat) t v,Try.f13.params[j]? = some t → args[j]? = some v → Value.okWide Try.prog W .any base t v:=hval0
 have hW':=hW
 obtain ⟨p,q,hA0,hV,rfl,hfz,hnd⟩:=hW
 have hA:DataW.TrodAll enc Try.prog W 0 (fun _ => true) true Try.f13.params.toList args.toList ds p:=hA0
 rw [Try.params13] at hA hval
 obtain ⟨v0,uX,d0,ds0,p0,q0,hargs,rfl,rfl,h0,r0⟩:=trodAll_cons hA
 obtain ⟨rfl,rfl,rfl⟩:=trodAll_nil r0
 obtain rfl:args = #[v0]:=by cases args; simp_all
 obtain ⟨rfl,rfl⟩:=trodVars_none hV
 obtain ⟨a0,len0,cap0,rfl⟩:=okWide_slice Try.underlying45 (hval 0 45 v0 rfl rfl)
 have k0:=h0
 have uF:∀ x ∈ p0,x.block < W.heap.size:=by obtain ⟨m,hm⟩:=k0; exact DataW.trod_lt m _ _ _ hm
 obtain ⟨xs,w0⟩:∃ xs,Om W a0 len0 xs:=by
  obtain ⟨fuel,hf⟩:=h0
  rcases open_int_rows Try.underlying45 Try.underlying22 Try.underlying5 (by kernel_rfl) (by kernel_rfl) hf with ⟨hcs,_⟩ | ⟨a,len,cap,A,L,C,Z,hcs,_,hl,hm,_,hrows⟩
  ·simp [Value.cells] at hcs
   obtain ⟨rfl,rfl,rfl⟩:=hcs
   exact ⟨[],Tu W⟩
  ·simp [Value.cells] at hcs
   obtain ⟨rfl,rfl,rfl⟩:=hcs
   exact ⟨_,Qi hl hm (fun r hr => by
    obtain ⟨e1,e2,e3,e4,e5,e6,e7⟩:=hrows r hr
    exact ⟨e1,e2,e3,e4,e5,e6,fun a' ha => (e7 a' ha).2⟩)⟩
 obtain ⟨hl0,hC0,hB0⟩:=w0
 subst hl0
 clear hA0 hval0 hsz0
 refine (Pe.Ol W a0 cap0 xs ⟨hC0,hB0⟩).mono fun e W' ⟨he,bel⟩ => ?_
 subst he
 exact ⟨_,rfl,_,_,_,[],_,[],hW',trodAll_mk1 (shut_bool Try.underlying4 _),(trodAll_cons_mk (Below.trod laidOut (by kernel_rfl) (of_decide_eq_true (by kernel_rfl)) k0 bel uF) trodAll_mk0),rfl,bel.frame _,fun h => by cases h⟩
theorem over:Rows.peerSendsRow.holds Try.pinned (OpenSpec.ofChange Rows.peerSendsSpec) :=
 OpenClaim.holds_of_wide 13 Try.f13 rfl rfl rfl rfl rfl rfl rfl ⟨rfl,rfl,rfl,rfl,rfl⟩ rfl rfl rfl rfl rfl (by kernel_rfl) Try.func13 (by kernel_rfl)
  (of_decide_eq_true (by kernel_rfl)) (by unfold Func.isWrapper; first | (rw [if_pos (by decide +kernel)]; kernel_rfl) | (rw [if_neg (by decide +kernel)]; exact ⟨rfl,rfl⟩))
  (fun os started H enc _ => lifted os started H enc)
theorem proved:Rows.PeerSendsSaid:=over
end Go.Proofs.Ytnkkgofpifhoeaa.peerSends
namespace Go.Proofs.Ytnkkgofpifhoeaa
theorem peerSends_holds:Rows.PeerSendsSaid:=peerSends.proved
end Go.Proofs.Ytnkkgofpifhoeaa
end
