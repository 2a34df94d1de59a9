/- The law WholePumps: called with whatever it may be called with it returns true, and what it was given reads as before. -/
import Derived.Test.YtkmamlifgbocgaaGreatRows
import Derived.Test.YtkmamlifgbocgaaGreatP30
import Derived.Test.YtkmamlifgbocgaaGreatEWholePumps32
import Derived.WalkKit
import Derived.ProofKit
import Derived.OpenShut
import Derived.ShutString
import Derived.ChangeOld
import Derived.Below
import Derived.Lib.SmallJoins
namespace Go.Proofs.YtkmamlifgbocgaaGreat.wholePumps
open Go.ChangeShapes Go.WideShapes Go.ChangeAt Go.RowKit Go.Joins
set_option linter.unusedVariables false
theorem own:ownKnob Tryz.prog.godebug=none:=by kernel_rfl
theorem laidOut:laidOutB Tryz.prog=true:=by kernel_rfl
set_option maxRecDepth 100000 in
theorem lifted(os:Os)(started:os.Started)(H:Type)(rV:TypeId×Value→H):ReturnsInHanded {} Tryz.checked os 5 .any (Rows.wholePumpsSpec.pre6 rV Tryz.prog Tryz.f5 Rows.wholePumpsRow.domain false) (Rows.wholePumpsSpec.post rV Tryz.prog Tryz.f5 false true false false):=by
 refine returnsInHanded_of_change (C:=Tryz.checked) own started (by kernel_rfl) Tryz.func5 (ChangeSpec.witness6 (enc:=rV) (C:=Tryz.checked) false ⟨#[],#[.agg #[.slice none 0 0,.slice none 0 0,.slice none 0 0],.i 0,.slice none 0 0],[]⟩ 8 (by kernel_rfl) (by kernel_rfl) (by kernel_rfl) (by kernel_rfl)) ?_;intro W base args ds gs before hval0 hW hcnd _;have hval:∀(j:Nat) t v,Tryz.f5.params[j]? =some t→args[j]? =some v→Value.okWide Tryz.prog W .any base t v:=hval0;have hW':=hW;obtain⟨p,q,hA0,hV,rfl,hfz,hnd⟩:=hW;have hA:DataW.TrodAll rV Tryz.prog W 0 (fun _=>true) true Tryz.f5.params.toList args.toList ds p:=hA0;rw[Tryz.params5]at hA hval;obtain⟨v0,vs0,d0,ds0,p0,q0,hargs,rfl,rfl,h0,r0⟩:=trodAll_cons hA;obtain⟨v1,vs1,d1,ds1,p1,q1,rfl,rfl,rfl,h1,r1⟩:=trodAll_cons r0;obtain⟨v2,vs2,d2,ds2,p2,q2,rfl,rfl,rfl,h2,r2⟩:=trodAll_cons r1;obtain⟨rfl,rfl,rfl⟩:=trodAll_nil r2;obtain rfl:args=#[v0,v1,v2]:=by cases args;simp_all
 obtain⟨rfl,rfl⟩:=trodVars_none hV;have k0:=h0;have lt0:∀x∈p0,x.block<W.heap.size:=by obtain⟨m,hm⟩:=k0;exact DataW.trod_lt m _ _ _ hm
 have k1:=h1;have lt1:∀x∈p1,x.block<W.heap.size:=by obtain⟨m,hm⟩:=k1;exact DataW.trod_lt m _ _ _ hm
 have k2:=h2;have lt2:∀x∈p2,x.block<W.heap.size:=by obtain⟨m,hm⟩:=k2;exact DataW.trod_lt m _ _ _ hm
 obtain⟨DA0,nd0,dc0,SA0,ns0,sc0,PA0,pn0,pc0,D0,S0,L0,rfl,w0⟩:=Nt (hval 0 26 v0 rfl rfl) h0;obtain⟨a1,rfl,he1,hp1,w1⟩:=open_int Tryz.underlying3 (hval 1 3 v1 rfl rfl) h1;obtain⟨A2,len2,cap2,rfl⟩:=okWide_slice Tryz.underlying27 (hval 2 27 v2 rfl rfl);have w2:=O7 24 [.int .i64,.int .i64,.int .i64,.int .i64,.int .i64,.int .i64,.int .i64] Tryz.underlying27 (by kernel_rfl) (by kernel_rfl) (by decide) h2;clear hA0 hval0;refine(wA a1 A2 len2 cap2 W w0 w1 w2).mono fun e W' ⟨he,bel⟩=>?_;subst he;exact⟨_,rfl,_,_,_,[],_,[],hW',trodAll_mk1 (shut_bool Tryz.underlying4 _),(trodAll_cons_mk (Below.trod laidOut (by kernel_rfl) (of_decide_eq_true (by kernel_rfl)) k0 bel lt0) (trodAll_cons_mk (Below.trod laidOut (by kernel_rfl) (of_decide_eq_true (by kernel_rfl)) k1 bel lt1) (trodAll_cons_mk (Below.trod laidOut (by kernel_rfl) (of_decide_eq_true (by kernel_rfl)) k2 bel lt2) trodAll_mk0))),rfl,bel.frame _,fun h=>by cases h⟩
theorem f_laid:laidOutB Tryz.pinned.checked.prog=true:=by kernel_rfl
theorem f_maps:mapsRowed Tryz.pinned.checked.prog=true:=by kernel_rfl
theorem f_inPlace:(Rows.wholePumpsRow.inPlace==Tryz.pinned.checked.prog.inPlace 5)=true:=by kernel_rfl
theorem f_unf:(Rows.wholePumpsRow.unfollowed==Tryz.pinned.checked.prog.unfollowed 5)=true:=by kernel_rfl
theorem f_rec:(Rows.wholePumpsRow.recurses==Tryz.pinned.checked.prog.recurses 5)=true:=by kernel_rfl
theorem f_named:(Rows.wholePumpsRow.named==Tryz.pinned.checked.prog.varsNamed 5)=true:=by kernel_rfl
theorem f_plain:(Rows.wholePumpsRow.plainKeys==Tryz.pinned.checked.prog.plainKeys)=true:=by kernel_rfl
theorem f_heard:Tryz.pinned.checked.prog.stopsHeard=true:=by kernel_rfl
theorem f_enter:Tryz.pinned.checked.prog.mayEnter=true:=by kernel_rfl
theorem f_lifts:(Rows.wholePumpsRow.lifted==Tryz.pinned.checked.prog.liftsFinal)=true:=by kernel_rfl
theorem f_make:(Tryz.pinned.checked.prog.make==some Rows.wholePumpsRow.make)=true:=by kernel_rfl
theorem f_func:Tryz.pinned.checked.prog.funcNamed Rows.wholePumpsRow.func=some 5:=by kernel_rfl
theorem closed:joinedFacts Tryz.pinned.checked.prog 5 Tryz.f5 Rows.wholePumpsSpec Rows.wholePumpsRow=true:=by unfold joinedFacts;rw[f_laid,f_maps,f_inPlace,f_unf,f_rec,f_named,f_plain,f_heard,f_enter,f_lifts,f_make];kernel_rfl
theorem dO:Rows.wholePumpsRow.holds Tryz.pinned (OpenSpec.ofChange Rows.wholePumpsSpec):=OpenClaim.holds_of_wide 5 Tryz.f5 rfl rfl rfl rfl rfl rfl rfl ⟨rfl,rfl,rfl,rfl,rfl⟩ rfl rfl rfl rfl rfl f_func Tryz.func5 closed (of_decide_eq_true (by kernel_rfl)) (by unfold Func.isWrapper;rw[if_neg (of_decide_eq_false (by kernel_rfl))];exact⟨rfl,rfl⟩) (fun os started H rV _=>lifted os started H rV)
theorem proved:Rows.WholePumpsSaid:=dO
#print axioms proved
end Go.Proofs.YtkmamlifgbocgaaGreat.wholePumps
