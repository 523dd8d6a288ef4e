/- The row of the law astragal/astragallaw22.PlanAll, printed by a small program of this session. -/
import Derived.Test.YtggohfhfocgilaaGreatRows
import Derived.WalkKit
import Derived.ProofKit
import Derived.OpenShut
import Derived.ShutString
import Derived.ChangeOld
import Derived.Below
import Derived.SizedLaws
import Derived.Carry
import Derived.Test.YtggohfhfocgilaaGreatM10
set_option maxHeartbeats 8000000
set_option maxRecDepth 100000
set_option linter.all false
namespace Go.Proofs.YtggohfhfocgilaaGreat.planAll
open Go.ChangeShapes Go.WideShapes Go.ChangeAt Go.RowKit Go.Proofs.YtggohfhfocgilaaGreatAw
theorem own:ownKnob Tryz.prog.godebug=none:=by kernel_rfl
theorem laid:laidOutB Tryz.prog=true:=by kernel_rfl
theorem lifted(os:Os)(started:os.Started)(H:Type)(enc:TypeId×Value→H):
  ReturnsInHanded {} Tryz.checked os 4 .any (Rows.planAllSpec.pre6 enc Tryz.prog Tryz.f4 Rows.planAllRow.domain false) (Rows.planAllSpec.post enc Tryz.prog Tryz.f4 false true false false):=by
 refine returnsInHanded_of_change_sized (C:=Tryz.checked) own started (by kernel_rfl) Tryz.func4
  (ChangeSpec.witness6 (enc:=enc) (C:=Tryz.checked) false ⟨#[],#[(.agg #[.slice none 0 0,.slice none 0 0,.slice none 0 0,.slice none 0 0,.slice none 0 0,.slice none 0 0]:Value),(.agg #[.int .i64 0,.slice none 0 0,.slice none 0 0,.slice none 0 0,.bool false,.slice none 0 0,.slice none 0 0,.int .i64 0]:Value)],[]⟩ 8 (by kernel_rfl) (by kernel_rfl) (by kernel_rfl) (by kernel_rfl)) ?_
 intro W base args ds gs before hval0 hW hcnd hsz0 _
 have hval:∀(j:Nat) t v,Tryz.f4.params[j]?=some t→args[j]?=some v→Value.okWide Tryz.prog W .any 0 t v:=hval0
 have hW':=hW
 obtain⟨p,q,hA0,hV,rfl,hfz,hnd⟩:=hW
 have hA:DataW.TrodAll enc Tryz.prog W 0 (fun _=>true) true Tryz.f4.params.toList args.toList ds p:=hA0
 rw[Tryz.params4]at hA hval hsz0
 obtain⟨v0,vs0,d0,ds0,p0,q0,hargs,rfl,rfl,h0,r0⟩:=trodAll_cons hA
 obtain⟨v1,vs1,d1,ds1,p1,q1,rfl,rfl,rfl,h1,r1⟩:=trodAll_cons r0
 obtain⟨rfl,rfl,rfl⟩:=trodAll_nil r1
 obtain rfl:args=#[v0,v1]:=by cases args;simp_all
 obtain⟨rfl,rfl⟩:=trodVars_none hV
 rw[List.all_eq_true]at hsz0
 obtain⟨x0,ok0,ra0⟩:=arg_in' (P:=Tryz.prog) (t:=54) (by kernel_rfl) (by kernel_rfl) (hval 0 54 v0 rfl rfl) h0 (fun m hm=>by have:=hsz0 m (DataW.weights_mem_each (j:=0) (t:=54) (d:=d0) rfl rfl m hm);simpa using this)
 have hlt0:∀x∈p0,x.block<W.heap.size:=fun x hx=>by have:=hW'.lt x (by simp[hx]);simpa using this
 obtain⟨x1,ok1,ra1⟩:=arg_in' (P:=Tryz.prog) (t:=30) (by kernel_rfl) (by kernel_rfl) (hval 1 30 v1 rfl rfl) h1 (fun m hm=>by have:=hsz0 m (DataW.weights_mem_each (j:=1) (t:=30) (d:=d1) rfl rfl m hm);simpa using this)
 have hlt1:∀x∈p1,x.block<W.heap.size:=fun x hx=>by have:=hW'.lt x (by simp[hx]);simpa using this
 clear hA0 hval0 hsz0
 refine((planAll_does x0 ok0 x1 ok1).walk (fn:=Tryz.f4) Tryz.func4 (by kernel_rfl) rfl (Live W) W #[v0,v1] (fun _ h=>h) (RAL.cons ra0 (RAL.cons ra1 RAL.nil)).ras).mono fun e W' ⟨he,bel⟩=>?_
 subst he
 exact⟨_,rfl,_,_,_,[],_,[],hW',trodAll_mk1 (shut_bool Tryz.underlying4 _),(trodAll_cons_mk (Below.trod laid (by kernel_rfl) (of_decide_eq_true (by kernel_rfl)) h0 bel hlt0) (trodAll_cons_mk (Below.trod laid (by kernel_rfl) (of_decide_eq_true (by kernel_rfl)) h1 bel hlt1) trodAll_mk0)),rfl,bel.frame _,fun h=>by cases h⟩
theorem over:Rows.planAllRow.holds Tryz.pinned (OpenSpec.ofChange Rows.planAllSpec):=
 OpenClaim.holds_of_wide 4 Tryz.f4 rfl rfl rfl rfl rfl rfl rfl ⟨rfl,rfl,rfl,rfl,rfl⟩ rfl rfl rfl rfl rfl (by kernel_rfl) Tryz.func4 (by kernel_rfl)
  (of_decide_eq_true (by kernel_rfl)) (by unfold Func.isWrapper;first|(rw[if_pos (by decide+kernel)];kernel_rfl)|(rw[if_neg (by decide+kernel)];exact⟨rfl,rfl⟩))
  (fun os started H enc _=>lifted os started H enc)
theorem proved:Rows.PlanAllSaid:=over
#print axioms proved
end Go.Proofs.YtggohfhfocgilaaGreat.planAll
namespace Go.Proofs.YtggohfhfocgilaaGreat
theorem planAll_holds:Rows.PlanAllSaid:=planAll.proved
end Go.Proofs.YtggohfhfocgilaaGreat
