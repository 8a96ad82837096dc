/- ExecExecute: Execute returns the documented state and receipt for every genesis, state, transaction and height: the law returns true and leaves its arguments alone. No condition. -/
import Derived.Test.YtgmnmjeccfnmbaaGreatE27
import Derived.Test.YtgmnmjeccfnmbaaGreatLc4R
set_option maxRecDepth 100000
set_option maxHeartbeats 8000000
set_option linter.unusedVariables false
set_option linter.unusedSimpArgs false
namespace Go.Proofs.YtgmnmjeccfnmbaaGreat.execExecute
open Go.ChangeShapes Go.WideShapes Go.ChangeAt Go.RowKit
theorem own:ownKnob Tryz.prog.godebug=none:=by kernel_rfl
theorem laidOut:laidOutB Tryz.prog=true:=by kernel_rfl
theorem lifted (os:Os) (started:os.Started) (H:Type) (enc:TypeId × Value→H) :
  ReturnsInHanded {} Tryz.checked os 3 .any (Rows.execExecuteSpec.pre6 enc Tryz.prog Tryz.f3 Rows.execExecuteRow.domain false) (Rows.execExecuteSpec.post enc Tryz.prog Tryz.f3 false true false false):=by
 refine returnsInHanded_of_change (C:=Tryz.checked) own started ab Tryz.func3
  (ChangeSpec.witness6 (enc:=enc) (C:=Tryz.checked) false ⟨#[],#[.agg #[.int .i64 0,.int .i64 0,.slice none 0 0,.slice none 0 0,.slice none 0 0],.agg #[.slice none 0 0,.slice none 0 0,.slice none 0 0,.slice none 0 0,.int .i64 0],.agg #[.int .i64 0,.int .i64 0,.slice none 0 0,.slice none 0 0],.int .i64 0],[]⟩ 8 ab ab ab ab) ?_
 intro W base args ds gs before hval0 hW hcnd _
 have hval:∀ (j:Nat) t v,Tryz.f3.params[j]?=some t→args[j]?=some v→Value.okWide Tryz.prog W .any base t v:=hval0
 have hW':=hW
 obtain ⟨p,q,hA0,hV,rfl,hfz,hnd⟩:=hW
 have hA:DataW.TrodAll enc Tryz.prog W 0 (fun _=>true) true Tryz.f3.params.toList args.toList ds p:=hA0
 rw [Tryz.params3] at hA hval
 obtain ⟨v0,vs0,d0,ds0,p0,q0,hargs,rfl,rfl,h0,r0⟩:=trodAll_cons hA
 obtain ⟨v1,vs1,d1,ds1,p1,q1,rfl,rfl,rfl,h1,r1⟩:=trodAll_cons r0
 obtain ⟨v2,vs2,d2,ds2,p2,q2,rfl,rfl,rfl,h2,r2⟩:=trodAll_cons r1
 obtain ⟨v3,vs3,d3,ds3,p3,q3,rfl,rfl,rfl,h3,r3⟩:=trodAll_cons r2
 obtain ⟨rfl,rfl,rfl⟩:=trodAll_nil r3
 obtain rfl:args=#[v0,v1,v2,v3]:=by cases args;simp_all
 obtain ⟨rfl,rfl⟩:=trodVars_none hV
 have k0:=h0
 have lt0:∀ x ∈ p0,x.block < W.heap.size:=by obtain ⟨m,hm⟩:=k0;exact DataW.trod_lt m _ _ _ hm
 obtain ⟨N0,Z0,A0,n0,c0,B0,m0,d0,C0,l0,e0,V0,Ac0,Bl0,rfl,s0,t0,u0⟩:=aIL (hval 0 25 v0 rfl rfl) h0
 have k1:=h1
 have lt1:∀ x ∈ p1,x.block < W.heap.size:=by obtain ⟨m,hm⟩:=k1;exact DataW.trod_lt m _ _ _ hm
 obtain ⟨s1,rfl,z1⟩:=aEW (hval 1 30 v1 rfl rfl) h1
 have k2:=h2
 have lt2:∀ x ∈ p2,x.block < W.heap.size:=by obtain ⟨m,hm⟩:=k2;exact DataW.trod_lt m _ _ _ hm
 obtain ⟨T2,rfl,s2⟩:=aDk (hval 2 36 v2 rfl rfl) h2
 obtain ⟨a3,rfl,rfl,rfl,w3⟩:=open_int Tryz.underlying3 (hval 3 3 v3 rfl rfl) h3
 clear hA0 hval0
 refine (vK ⟨N0,Z0,A0,n0,c0,B0,m0,d0,C0,l0,e0,s1,T2.ac,T2.sq,T2.A,T2.n,T2.c,a3⟩ T2.S T2.m T2.d T2.L T2.sig V0 Ac0 Bl0 W s0.g t0.g u0 z1 s2).mono fun e W' ⟨he,bel⟩=>?_
 subst he
 exact ⟨_,rfl,_,_,_,[],_,[],hW',trodAll_mk1 (shut_bool Tryz.underlying4 _),(trodAll_cons_mk (Below.trod laidOut ab (of_decide_eq_true ab) k0 bel lt0) (trodAll_cons_mk (Below.trod laidOut ab (of_decide_eq_true ab) k1 bel lt1) (trodAll_cons_mk (Below.trod laidOut ab (of_decide_eq_true ab) k2 bel lt2) (trodAll_cons_mk (shut_int Tryz.underlying3 w3) trodAll_mk0)))),rfl,bel.frame _,fun h=>ls⟩
theorem over:Rows.execExecuteRow.holds Tryz.pinned (OpenSpec.ofChange Rows.execExecuteSpec):=over_of lifted
/-- ████ THE STATEMENT ████ -/
theorem proved:Rows.ExecExecuteSaid:=over
#print axioms proved
end Go.Proofs.YtgmnmjeccfnmbaaGreat.execExecute
