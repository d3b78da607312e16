/- The law SSASame is true of every input up to the size. -/
import Derived.Test.YtgbeliajhccndaaRows
import Derived.Test.YtgbeliajhccndaaKAM
import Derived.SizedLaws
import Derived.WalkKit
import Derived.ProofKit
import Derived.OpenShut
import Derived.ShutString
import Derived.ChangeOld
import Derived.Below
import Derived.JoinedCond
import Derived.Deep.CondSized
namespace Go.Proofs.Ytgbeliajhccndaa.sSASameUpto
open Go.ChangeShapes Go.WideShapes Go.ChangeAt Go.RowKit
open Go.Proofs.YtgbeliajhccndaaW.PrintWords
set_option linter.unusedVariables false
set_option linter.unusedSimpArgs false
theorem own:ownKnob Try.prog.godebug = none:=by kernel_rfl
theorem laidOut:laidOutB Try.prog = true:=by kernel_rfl
set_option maxRecDepth 100000 in
theorem lifted (os:Os) (started:os.Started) (H:Type) (enc:TypeId × Value → H) (F0:Stop.Interp) :
 ReturnsInHanded {} Try.checked os 4 .any ((Rows.OpenSpec.upto Rows.sSASameSpec).pre6 enc Try.prog Try.f4 Rows.sSASameUptoRow.domain false) (((Rows.OpenSpec.upto Rows.sSASameSpec).at F0).post enc Try.prog Try.f4 false true false false):=by
 refine returnsInHanded_of_cond_sized (C:=Try.checked) (s:=Rows.OpenSpec.upto Rows.sSASameSpec) (k:=Rows.uptoSmall) rfl own started (by kernel_rfl) Try.func4
  (OpenSpec.witness (enc:=enc) (C:=Try.checked) (s:=Rows.OpenSpec.upto Rows.sSASameSpec) (k:=Rows.uptoSmall) rfl false ⟨#[],#[.agg #[.slice none 0 0,.int .i64 0],.agg #[.slice none 0 0,.int .i64 0]],[]⟩ 8 (by kernel_rfl) (by kernel_rfl) (by kernel_rfl)
   (x:=([.agg [.nil,.lit (.int .i64 0)],.agg [.nil,.lit (.int .i64 0)]],[],[])) (by kernel_rfl) (by kernel_rfl) (by kernel_rfl)) ?_
 intro W base args ds gs before hval0 hW hcnd hk hsz0 _
 have hval:∀ (j:Nat) t v,Try.f4.params[j]? = some t → args[j]? = some v → Value.okWide Try.prog W .any base t v:=hval0
 have hW':=hW
 obtain ⟨p,q,hA0,hV,rfl,hfz,hnd⟩:=hW
 have hA:DataW.TrodAll enc Try.prog W 0 (fun _=>true) true Try.f4.params.toList args.toList ds p:=hA0
 rw [Try.params4] at hA hval
 obtain ⟨v0,vs0,d0,ds0,p0,q0,hargs,rfl,rfl,h0,r0⟩:=trodAll_cons hA
 obtain ⟨v1,vs1,d1,ds1,p1,q1,rfl,rfl,rfl,h1,r1⟩:=trodAll_cons r0
 obtain ⟨rfl,rfl,rfl⟩:=trodAll_nil r1
 obtain rfl:args = #[v0,v1]:=by cases args;simp_all
 obtain ⟨rfl,rfl⟩:=trodVars_none hV
 have hk':Rows.uptoBulkAll ([d0] ++ ([d1] ++ [])) ≤ 1048576:=of_decide_eq_true hk
 have hku:Rows.uptoBulkAll ([d0] ++ ([d1] ++ [])) = Rows.uptoBulk d0 + (Rows.uptoBulk d1 + 0):=rfl
 rw [hku] at hk'
 have k0:=h0
 have lt0:∀ x ∈ p0,x.block < W.heap.size:=by obtain ⟨m,hm⟩:=k0;exact DataW.trod_lt m _ _ _ hm
 obtain ⟨cs0,rfl⟩:∃ cs,v0 = .agg cs:=by have h:=hval 0 24 v0 rfl rfl;unfold Value.okWide at h;rw [Try.underlying24] at h;obtain ⟨cs,h,_⟩:=h;exact ⟨cs,h⟩
 obtain ⟨x0,hK0,hm0⟩:∃ x,Kd.K k24 W x cs0.toList ∧ mu24 x ≤ Rows.uptoBulk d0:=by
  obtain ⟨fuel,hf⟩:=h0
  exact o24.open_ hf
 have hm0:mu24 x0 ≤ 1048576:=by omega
 obtain ⟨ca0,cb0,hcs0,⟨A0,c0,rfl,hc0,hC0⟩,rfl⟩:=hK0
 obtain rfl:cs0 = #[.slice A0 x0.1.length c0,.int .i64 x0.2]:=by cases cs0;simp_all
 have k1:=h1
 have lt1:∀ x ∈ p1,x.block < W.heap.size:=by obtain ⟨m,hm⟩:=k1;exact DataW.trod_lt m _ _ _ hm
 obtain ⟨cs1,rfl⟩:∃ cs,v1 = .agg cs:=by have h:=hval 1 24 v1 rfl rfl;unfold Value.okWide at h;rw [Try.underlying24] at h;obtain ⟨cs,h,_⟩:=h;exact ⟨cs,h⟩
 obtain ⟨x1,hK1,hm1⟩:∃ x,Kd.K k24 W x cs1.toList ∧ mu24 x ≤ Rows.uptoBulk d1:=by
  obtain ⟨fuel,hf⟩:=h1
  exact o24.open_ hf
 have hm1:mu24 x1 ≤ 1048576:=by omega
 obtain ⟨ca1,cb1,hcs1,⟨A1,c1,rfl,hc1,hC1⟩,rfl⟩:=hK1
 obtain rfl:cs1 = #[.slice A1 x1.1.length c1,.int .i64 x1.2]:=by cases cs1;simp_all
 clear hA0 hval0
 refine (SSASame_any x0.1 x1.1 A0 A1 c0 c1 x0.2 x1.2 W hC0 hc0 hC1 hc1 (size_of hm0) (size_of hm1)).mono fun e W' ⟨he,bel⟩=>?_
 subst he
 exact ⟨_,rfl,_,_,_,[],_,[],hW',trodAll_mk1 (shut_bool Try.underlying4 _),(trodAll_cons_mk (Below.trod laidOut (by kernel_rfl) (of_decide_eq_true (by kernel_rfl)) k0 bel lt0) (trodAll_cons_mk (Below.trod laidOut (by kernel_rfl) (of_decide_eq_true (by kernel_rfl)) k1 bel lt1) trodAll_mk0)),rfl,bel.frame _,fun h=>by cases h⟩
theorem over:Rows.sSASameUptoRow.holds Try.pinned (Rows.OpenSpec.upto Rows.sSASameSpec):=
 OpenClaim.holds_of_cond 4 Try.f4 rfl rfl rfl rfl rfl rfl rfl ⟨rfl,rfl,rfl,rfl,rfl⟩ rfl rfl rfl rfl rfl (by kernel_rfl) Try.func4 (by kernel_rfl)
  (of_decide_eq_true (by kernel_rfl)) (by unfold Func.isWrapper;first | (rw [if_pos (by decide +kernel)];kernel_rfl) | (rw [if_neg (by decide +kernel)];exact ⟨rfl,rfl⟩))
  (fun os started H enc _ F0=>lifted os started H enc F0)
theorem proved:Rows.SSASameUptoSaid:=over
#print axioms proved
end Go.Proofs.Ytgbeliajhccndaa.sSASameUpto
namespace Go.Proofs.Ytgbeliajhccndaa
theorem sSASameUpto_holds:Rows.SSASameUptoSaid:=sSASameUpto.proved
end Go.Proofs.Ytgbeliajhccndaa
