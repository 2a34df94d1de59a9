/- What the program's code does, as contracts, and what follows of it, part 2: for the law's proof. -/
import Derived.Test.YtkmamlifgbocgaaGreatP00
import Derived.Test.YtkmamlifgbocgaaGreatP01
import Derived.Deep.RegionLaw
import Derived.OrdersHeld
import Derived.StillTail
import Derived.Test.YtkmamlifgbocgaaGreatProg
import Derived.WalkKit
import Derived.Outline
import Derived.BigRegion
import Derived.KernelRfl
import Derived.Deep.QuietTactic
import Derived.BigQuiet
import Derived.WalkLawsBesides
import Derived.LoopTactic
import Derived.Lib.Hide
import Derived.Laws.CopyRow
import Derived.Laws.CopyOwn
import Derived.Laws.MakeOwn
import Derived.Lib.SliceRun
import Derived.Laws.IdiomCopy
set_option linter.unusedVariables false
set_option linter.unusedSimpArgs false
set_option maxRecDepth 100000
set_option maxHeartbeats 16000000
namespace Go.Proofs.YtkmamlifgbocgaaGreat
section
open Go
def enters(P:Program)(f:FuncId):Bool:=match P.funcs[f]? with
 |some fn=> !(fn.name== "runtime.NumGoroutine")&&fn.body.isSome
 |none=>false
theorem fm{P:Program}{o:Oper}{a:Act}{w:World}(f:FuncId)(args:Array Operand)(tys:Array TypeId)(ho:o.op=Op.call {callee:=.value (.func f),args:=args,argTypes:=tys})(hf:enters P f=true)(yV:Array Value)(hv0:(args.toList.map a.eval).toArray=yV):(execOp a.eval o).run P w=.ok (.enter f yV) w:=by
 have hv:args.map a.eval=yV:=by rw[←hv0];apply Array.toList_inj.1;rw[Array.toList_map]
 unfold enters at hf;split at hf
 ·rename_i fn hfn;simp only[zL,Bool.not_eq_true']at hf;obtain⟨h1,h2⟩:=hf;have h3:fn.body.isNone=false:=by cases hb:fn.body<;>simp_all
  unfold execOp;rw[ho];simp[resolve,invoke,hv,Act.eval,Deferred.ofValue,callFunc,hfn,h1,h3];rw[if_neg (by simpa using h1),if_neg (by intro h;rw[h]at h2;cases h2)]
 ·cases hf
def Zt(o:Oper)(a:Act)(K:Act→World→Prop)(e:Ending)(w:World):Prop:=∃v,e=.returned v∧K (a.put o.dst v) w
theorem aK{P:Program}{ops:Array Oper}{o:Oper}{a:Act}{w:World}{K:Act→World→Prop}{Q:Exit→Act→World→Prop}{E:Prop}(hg:o.guard=none)(f:FuncId)(args:Array Operand)(tys:Array TypeId)(ho:o.op=Op.call {callee:=.value (.func f),args:=args,argTypes:=tys})(hf:enters P f=true)(yV:Array Value)(hv:(args.toList.map a.eval).toArray=yV)(h:Calls P f yV w (Zt o a K)):if Region.wanted o (yielded ops a.tmps)=true then Oper.wp P o a w K Q else E:=by rw[if_pos (by simp[Region.wanted,hg])];unfold Oper.wp;rw[fm f args tys ho hf yV hv];refine Calls.mono h fun e w' he=>?_;obtain⟨v,rfl,hk⟩:=he;exact hk
namespace Perm
open Go
def pS(md:Region.Mode)(ops:Array Oper):Nat→Nat→Nat→Bool
 |0,_,_=>false
 |f+1,j,i=>match ops[j]? with
  |some o=>o.after.any fun e=>Region.binds md e&&(e.on==i||pS md ops f e.on i)
  |none=>false
def uk(md:Region.Mode)(ops:Array Oper)(yZ:Array Bool):Prop:=
 ∀j oj,ops[j]? =some oj→yZ.getD j false=true→∀e∈oj.after,Region.binds md e=true→yZ.getD e.on false=true
theorem uk.reach{md:Region.Mode}{ops:Array Oper}{yZ:Array Bool}(h:uk md ops yZ):∀(f j i:Nat) oj,ops[j]? =some oj→(∀e∈oj.after,Region.binds md e=true→yZ.getD e.on false=true)→pS md ops f j i=true→yZ.getD i false=true:=by
 intro f;induction f with
 |zero=>intro j i oj _ _ hw;cases hw
 |succ f ih=>
  intro j i oj hj hd hw;unfold pS at hw;rw[hj]at hw;obtain⟨e,he,hb⟩:=Array.any_eq_true'.1 hw;simp only[zL,Bool.or_eq_true,beq_iff_eq]at hb;have h1:=hd e he hb.1;rcases hb.2 with h2|h2
  ·rw[←h2];exact h1
  ·cases hoe:ops[e.on]? with
   |none=>
    exfalso;cases f with
    |zero=>cases h2
    |succ f=>unfold pS at h2;rw[hoe]at h2;cases h2
   |some oe=>exact ih e.on i oe hoe (h e.on oe hoe h1) h2
section
variable {P:Program} {ops:Array Oper} {md:Region.Mode} {Q:Exit→Act→World→Prop} {S:World→Prop} {need:Nat→Bool}
theorem uk.set{yZ:Array Bool}{i:Nat}(h:uk md ops yZ)(hi:i∈Region.ready md ops yZ):uk md ops (yZ.setIfInBounds i true):=by
 obtain⟨_,oi,hoi,hall⟩:=mem_ready.1 hi;intro j oj hj hl e he hb;by_cases e1:i=j
 ·subst e1;rw[hoi]at hj;cases hj;exact getD_set_true (hall e he hb)
 ·rw[getD_set_ne false e1]at hl;exact getD_set_true (h j oj hj hl e he hb)
def uY(P:Program)(md:Region.Mode)(ops:Array Oper)(Q:Exit→Act→World→Prop)(S:World→Prop)(need:Nat→Bool):Nat→Array Bool→Act→World→Prop
 |0,yZ,a,w=>Region.ready md ops yZ=[]∧Q .normal a w
 |f+1,yZ,a,w=>(Region.ready md ops yZ=[]→Q .normal a w)∧
  ∀i∈Region.ready md ops yZ,wpOp P ops Q i (fun a' w'=>(need i=true→S w→S w')∧uY P md ops Q S need f (yZ.setIfInBounds i true) a' w') a w
theorem rK:∀(f:Nat) (yZ:Array Bool) (a:Act) (w:World),uY P md ops Q S need f yZ a w→wpAny P md ops Q f yZ a w
 |0,_,_,_,h=>h
 |f+1,_,_,_,h=>⟨h.1,fun i hi=>wpOp_mono (fun a' w' h'=>rK f _ a' w' h'.2) (h.2 i hi)⟩
theorem jb{i:Nat}{oi:Oper}{v:Value}{S0:World→Prop}(hi:ops[i]? =some oi)(hsel:∀(j:Nat) (o:Oper) cs b,ops[j]? =some o→o.op≠.select cs b)(hQ:∀c (a:Act) w,Q (.panic c) (a.put oi.dst v) w→Q (.panic c) a w)(hj:∀j w w',pS md ops ops.size j i=false→(need j=true→S w→S w')→S0 w→S0 w'):∀(f:Nat) (yZ:Array Bool) (a:Act) (w:World),uk md ops yZ→(∀j oj,ops[j]? =some oj→j≠i→yZ.getD j true=false→(∀e∈oj.after,Region.binds md e=true→e.on≠i)→oi.apart ops oj=true)→i∈Region.ready md ops yZ→YieldsIf P ops S0 oi v a→S0 w→uY P md ops Q S need f (yZ.setIfInBounds i true) (a.put oi.dst v) w→uY P md ops Q S need (f+1) yZ a w:=by
 intro f;induction f with
 |zero=>
  intro yZ a w _ _ hr hy hS0 H;refine⟨fun h=>(by rw[h]at hr;cases hr),fun j hjr=>?_⟩;by_cases e:j=i
  ·subst e;exact hy.wpOp hi hS0 ⟨fun _ h=>h,H⟩
  ·have:=ready_mono hjr e;rw[H.1]at this;cases this
 |succ f ih=>
  intro yZ a w hc hfree hr hy hS0 H;refine⟨fun h=>(by rw[h]at hr;cases hr),fun j hjr=>?_⟩;by_cases e:j=i
  ·subst e;exact hy.wpOp hi hS0 ⟨fun _ h=>h,H⟩
  ·obtain⟨hjun,oj,hoj,hall⟩:=mem_ready.1 hjr;have hun:=getD_both (mem_ready.1 hr).1;have hnot:∀e∈oj.after,Region.binds md e=true→e.on≠i:=fun e he hb heq=>by have h1:=hall e he hb;rw[heq,hun]at h1;cases h1
   have hnw:pS md ops ops.size j i=false:=by
    cases hx:pS md ops ops.size j i with
    |false=>rfl
    |true=> have:=hc.reach _ j i oj hoj hall hx;rw[hun]at this;cases this
   have h1:=H.2 j (ready_mono hjr e);have h2:=wpOp_putIf hoj (hfree j oj hoj e hjun hnot) (fun cs b=>hsel i oi cs b hi) (fun cs b=>hsel j oj cs b hoj) hQ hy h1;refine wpOp_mono (fun a' w' h3=>⟨h3.2.1,?_⟩) h2;have hS1:=hj j w w' hnw h3.2.1 hS0;refine ih (yZ.setIfInBounds j true) a' w' (hc.set hjr) (fun k ok hk hki hunk hno=>?_) (ready_mono hr (Ne.symm e)) h3.1 hS1 ?_
   ·refine hfree k ok hk hki ?_ hno;by_cases hjk:j=k
    ·subst hjk;exact hjun
    ·rw[getD_set_ne true hjk]at hunk;exact hunk
   ·rw[Array.setIfInBounds_comm _ _ e];exact h3.2.2
def sD(o:Oper):Bool:=o.guard.isNone&&match o.op with
 | .move _| .assign _| .extract _ _| .pick _ _ _| .build _ _| .field _ _ _| .fieldAddr _ _ _| .nilCheck _| .binOp _ _ _ _ _| .unOp _ _ _| .makeInterface _ _=>true
 |_=>false
def tB(P:Program)(ops:Array Oper)(S:World→Prop)(K:Act→Prop):List Nat→Act→Prop
 |[],a=>K a
 |k::ks,a=>match ops[k]? with
  |some o=>∃v,(∀w,S w→(execOp a.eval o).run P w=.ok (.value v) w)∧tB P ops S K ks (a.put o.dst v)
  |none=>False
def ul(P:Program)(ops:Array Oper)(Q:Exit→Act→World→Prop)(S:World→Prop)(need:Nat→Bool):List Nat→Act→World→Prop
 |[],a,w=>Q .normal a w
 |k::ks,a,w=>match ops[k]? with
  |some o=>
   if sD o=true then ∃v,(∀w,(execOp a.eval o).run P w=.ok (.value v) w)∧ul P ops Q S need ks (a.put o.dst v) w
   else o.wp P a w (fun a' w'=>(need k=true→S w→S w')∧ul P ops Q S need ks a' w') Q
  |none=>False
def sZ(md:Region.Mode)(ops:Array Oper)(one:List Nat)(k:Nat):Bool:=one.any fun i=> !pS md ops ops.size k i
def pI(md:Region.Mode)(ops:Array Oper):List Nat→Array Bool→Bool
 |[],_=>true
 |k::ks,yZ=>((ops[k]?).map (·.guard.isNone)).getD false&&(Region.ready md ops yZ).contains k&&Region.free md ops yZ k&&pI md ops ks (yZ.setIfInBounds k true)
def eL(md:Region.Mode)(ops:Array Oper):List Nat→Array Bool→Bool
 |[],yZ=>(Region.ready md ops yZ).isEmpty
 |k::ks,yZ=>((ops[k]?).map fun o=>o.guard.isNone&&if sD o then(Region.ready md ops yZ).contains k&&Region.free md ops yZ k else Region.ready md ops yZ==[k]).getD false&&eL md ops ks (yZ.setIfInBounds k true)
def vM:List Nat→Array Bool→Array Bool
 |[],yZ=>yZ
 |k::ks,yZ=>vM ks (yZ.setIfInBounds k true)
def preB(md:Region.Mode)(l:List Oper)(one two:List Nat):Bool:=
 Region.noSelect l.toArray&&decide (one.length+two.length=l.length)&&pI md l.toArray one (Array.replicate l.length false)&&eL md l.toArray two (vM one (Array.replicate l.length false))
theorem uv{o:Oper}(h:o.guard.isNone=true)(y:Nat→Option Bool):Region.wanted o y=true:=by
 unfold Region.wanted;cases hg:o.guard with
 |none=>rfl
 |some x=>rw[hg]at h;cases h
theorem dR(hsel:Region.noSelect ops=true)(hQ:∀c (a:Act) d v w,Q (.panic c) (a.put d v) w→Q (.panic c) a w):
 ∀(ks:List Nat) (yZ:Array Bool) (a:Act) (w:World),uk md ops yZ→eL md ops ks yZ=true→ul P ops Q S need ks a w→
  uY P md ops Q S need ks.length yZ a w
 |[],yZ,a,w,_,hB,h=>⟨by simpa[eL]using hB,h⟩
 |k::ks,yZ,a,w,hc,hB,h=>by
  cases h0:ops[k]? with
  |none=>simp[eL,h0]at hB
  |some o=>
   simp only[eL,h0,yo,yt,zL]at hB
   obtain⟨⟨hg,hB1⟩,hB2⟩:=hB
   unfold ul at h
   rw[h0]at h
   dsimp only at h
   by_cases hp:sD o=true
   ·rw[if_pos hp]at hB1 h
    simp only[zL]at hB1
    obtain⟨v,hv,hrest⟩:=h
    have hr:k∈Region.ready md ops yZ:=by simpa using hB1.1
    exact jb (S0:=fun _=>True) h0 (Region.noSelect_spec hsel) (fun c a w=>hQ c a _ _ w) (fun _ _ _ _ _ _=>trivial) ks.length yZ a w hc (Region.free_spec h0 hB1.2) hr (.inl ⟨uv hg _,fun w' _=>hv w'⟩) trivial
     (dR hsel hQ ks _ _ w (hc.set hr) hB2 hrest)
   ·rw[if_neg hp]at hB1 h
    have hr:Region.ready md ops yZ=[k]:=by simpa using hB1
    have hrk:k∈Region.ready md ops yZ:=by rw[hr];simp
    refine⟨fun h1=>(by rw[hr]at h1;cases h1),fun i hi=>?_⟩
    rw[hr]at hi
    have hik:i=k:=by simpa using hi
    subst hik
    unfold wpOp
    simp only[h0,uv hg,if_true]
    exact .inl (Oper.wp_mono (fun a' w' h'=>⟨h'.1,dR hsel hQ ks _ a' w' (hc.set hrk) hB2 h'.2⟩) h)
theorem qu{one:List Nat}(hn:∀k,need k=sZ md ops one k)(hsel:Region.noSelect ops=true)(hQ:∀c (a:Act) d v w,Q (.panic c) (a.put d v) w→Q (.panic c) a w){w:World}(hS:S w){g:Nat}{K:Act→Prop}:
 ∀(ks:List Nat) (yZ:Array Bool) (a:Act),(∀k,k∈ks→k∈one)→uk md ops yZ→pI md ops ks yZ=true→
  (∀a,K a→uk md ops (vM ks yZ)→uY P md ops Q S need g (vM ks yZ) a w)→tB P ops S K ks a→uY P md ops Q S need (ks.length+g) yZ a w
 |[],yZ,a,_,hc,_,hK,h=>by rw[zY,zy];exact hK a h hc
 |k::ks,yZ,a,hk,hc,hB,hK,h=>by
  cases h0:ops[k]? with
  |none=>simp[pI,h0]at hB
  |some o=>
   simp only[pI,h0,yo,yt,zL]at hB
   obtain⟨⟨⟨hg,hr⟩,hf⟩,hB2⟩:=hB
   unfold tB at h
   rw[h0]at h
   obtain⟨v,hv,hrest⟩:=h
   have hr':k∈Region.ready md ops yZ:=by simpa using hr
   rw[show(k::ks).length+g=(ks.length+g)+1 by simp;omega]
   refine jb (S0:=S) h0 (Region.noSelect_spec hsel) (fun c a w=>hQ c a _ _ w) (fun j w1 w2 hw hp h1=>hp ?_ h1) _ yZ a w hc (Region.free_spec h0 hf) hr' (.inl ⟨uv hg _,hv⟩) hS
    (qu hn hsel hQ hS ks _ _ (fun j hj=>hk j (by simp[hj])) (hc.set hr') hB2 hK hrest)
   rw[hn j]
   unfold sZ
   rw[z7]
   exact⟨k,hk k (by simp),by rw[hw];rfl⟩
theorem QM{id:Nat}{a:Act}{w:World}(one two:List Nat)(S:World→Prop)(hm:P.follows .mixedOrders=true){l:List Oper}(hB:preB .any l one two=true)(hQ':∀c (a:Act) t v w,Q (.panic c) (a.put (some t) v) w→Q (.panic c) a w)(hS:S w.drew)(h:tB P l.toArray S (fun a'=>ul P l.toArray Q S (sZ .any l.toArray one) two a' w.drew) one a):(Code.region id l.toArray true).wp P Q a w:=by
 have hQ:∀c (a:Act) d v w,Q (.panic c) (a.put d v) w→Q (.panic c) a w:=fun c a d v w h=>by
  cases d with
  |none=>exact h
  |some t=>exact hQ' c a t v w h
 simp only[preB,zL,decide_eq_true_eq]at hB;obtain⟨⟨⟨hsel,hn⟩,h1⟩,h2⟩:=hB;have hc0:uk .any l.toArray (Array.replicate l.length false):=fun j oj _ hl=>by rw[getD_replicate_false]at hl;cases hl
 refine wp_region_any hm (rK (S:=S) (need:=sZ .any l.toArray one) _ _ _ _ ?_);have hsz:l.toArray.size=l.length:=by simp
 rw[hsz];have hg:=qu (one:=one) (fun _=>rfl) hsel hQ hS one _ a (fun _ h=>h) hc0 h1 (fun a' hK hc=>dR hsel hQ two _ a' w.drew hc h2 hK) h;rw[hn]at hg;exact hg
theorem xm{k:Nat}{ks:List Nat}{a:Act}{K:Act→Prop}{o:Oper}(h0:ops[k]? =some o)(v:Value)(hv:∀w,S w→(execOp a.eval o).run P w=.ok (.value v) w)(h:tB P ops S K ks (a.put o.dst v)):tB P ops S K (k::ks) a:=by unfold tB;rw[h0];exact⟨v,hv,h⟩
theorem xt{a:Act}{K:Act→Prop}(h:K a):tB P ops S K [] a:=h
theorem tail_nil{a:Act}{w:World}(h:Q .normal a w):ul P ops Q S need [] a w:=h
theorem Nf{k:Nat}{ks:List Nat}{a:Act}{w:World}{o:Oper}(h0:ops[k]? =some o)(hp:sD o=true)(v:Value)(hv:∀w,(execOp a.eval o).run P w=.ok (.value v) w)(h:ul P ops Q S need ks (a.put o.dst v) w):ul P ops Q S need (k::ks) a w:=by unfold ul;rw[h0];dsimp only;rw[if_pos hp];exact⟨v,hv,h⟩
theorem Nz{k:Nat}{ks:List Nat}{a:Act}{w w':World}{o:Oper}(h0:ops[k]? =some o)(hp:sD o=false)(n:Next)(v:Value)(hn:n=.value v∨n=.skip∧v=undef)(hv:(execOp a.eval o).run P w=.ok n w')(hS:need k=true→S w→S w')(h:ul P ops Q S need ks (a.put o.dst v) w'):ul P ops Q S need (k::ks) a w:=by unfold ul;rw[h0];dsimp only;rw[if_neg (by rw[hp];decide)];unfold Oper.wp;rw[hv];rcases hn with rfl|⟨rfl,rfl⟩<;>exact⟨hS,h⟩
def XM(P:Program)(ops:Array Oper)(Q:Exit→Act→World→Prop)(S:World→Prop)(need:Nat→Bool)(k:Nat)(ks:List Nat)(o:Oper)(a:Act)(w:World)(e:Ending)(w':World):Prop:=
 ∃v,e=.returned v∧(need k=true→S w→S w')∧ul P ops Q S need ks (a.put o.dst v) w'
theorem Nc{k:Nat}{ks:List Nat}{a:Act}{w:World}{o:Oper}(h0:ops[k]? =some o)(hp:sD o=false)(f:FuncId)(args:Array Operand)(tys:Array TypeId)(ho:o.op=Op.call {callee:=.value (.func f),args:=args,argTypes:=tys})(hf:enters P f=true)(yV:Array Value)(hv:(args.toList.map a.eval).toArray=yV)(h:Calls P f yV w (XM P ops Q S need k ks o a w)):ul P ops Q S need (k::ks) a w:=by unfold ul;rw[h0];dsimp only;rw[if_neg (by rw[hp];decide)];unfold Oper.wp;rw[fm f args tys ho hf yV hv];refine Calls.mono h fun e w' he=>?_;obtain⟨v,rfl,hk⟩:=he;exact hk
theorem Ny{k:Nat}{ks:List Nat}{a:Act}{w:World}{o:Oper}(h0:ops[k]? =some o)(hp:sD o=false)(h:∀K:Act→World→Prop,(∀a' w',(need k=true→S w→S w')→ul P ops Q S need ks a' w'→K a' w')→o.wp P a w K Q):ul P ops Q S need (k::ks) a w:=by unfold ul;rw[h0];dsimp only;rw[if_neg (by rw[hp];decide)];exact h _ fun a' w' h1 h2=>⟨h1,h2⟩
theorem xx{b:Bool}{p:Prop}(hb:b=false):b=true→p:=by rw[hb];intro h;cases h
end
end Perm
open Go
inductive yP where
 |done
 |step (k:Nat) (p:yP)
 |fork (k1:Nat) (p1:yP) (k2:Nat) (p2:yP)
def yP.len:yP→Nat
 | .done=>0
 | .step _ p=>p.len+1
 | .fork _ p1 _ p2=>max p1.len p2.len+1
namespace yP
open Perm
section
variable {P:Program} {ops:Array Oper} {md:Region.Mode} {Q:Exit→Act→World→Prop} {S:World→Prop} {need:Nat→Bool}
def wp(P:Program)(ops:Array Oper)(Q:Exit→Act→World→Prop)(S:World→Prop)(need:Nat→Bool):yP→Act→World→Prop
 | .done,a,w=>Q .normal a w
 | .step k p,a,w=>match ops[k]? with
  |some o=>
   if sD o=true then ∃v,(∀w,(execOp a.eval o).run P w=.ok (.value v) w)∧wp P ops Q S need p (a.put o.dst v) w
   else o.wp P a w (fun a' w'=>(need k=true→S w→S w')∧wp P ops Q S need p a' w') Q
  |none=>False
 | .fork k1 p1 k2 p2,a,w=>(match ops[k1]? with
  |some o=>o.wp P a w (fun a' w'=>(need k1=true→S w→S w')∧wp P ops Q S need p1 a' w') Q
  |none=>False)∧(match ops[k2]? with
  |some o=>o.wp P a w (fun a' w'=>(need k2=true→S w→S w')∧wp P ops Q S need p2 a' w') Q
  |none=>False)
def ok(md:Region.Mode)(ops:Array Oper):yP→Array Bool→Bool
 | .done,yZ=>(Region.ready md ops yZ).isEmpty
 | .step k p,yZ=>((ops[k]?).map fun o=>o.guard.isNone&&if sD o then(Region.ready md ops yZ).contains k&&Region.free md ops yZ k else Region.ready md ops yZ==[k]).getD false&&ok md ops p (yZ.setIfInBounds k true)
 | .fork k1 p1 k2 p2,yZ=>(Region.ready md ops yZ==[k1,k2])&&((ops[k1]?).map fun o=>o.guard.isNone&& !sD o).getD false&&((ops[k2]?).map fun o=>o.guard.isNone&& !sD o).getD false&&
  ok md ops p1 (yZ.setIfInBounds k1 true)&&ok md ops p2 (yZ.setIfInBounds k2 true)
theorem Zz:∀(f:Nat) (yZ:Array Bool) (a:Act) (w:World),uY P md ops Q S need f yZ a w→uY P md ops Q S need (f+1) yZ a w
 |0,yZ,a,w,h=>⟨fun _=>h.2,fun i hi=>(by rw[h.1]at hi;cases hi)⟩
 |f+1,yZ,a,w,h=>⟨h.1,fun i hi=>wpOp_mono (fun a' w' h'=>⟨h'.1,Zz f _ a' w' h'.2⟩) (h.2 i hi)⟩
theorem gH{f g:Nat}(hfg:f≤g){yZ:Array Bool}{a:Act}{w:World}(h:uY P md ops Q S need f yZ a w):uY P md ops Q S need g yZ a w:=by
 induction g with
 |zero=>
  have:f=0:=by omega
  subst this;exact h
 |succ g ih=>
  by_cases e:f=g+1
  ·subst e;exact h
  ·exact Zz g _ _ _ (ih (by omega))
theorem pE(hsel:Region.noSelect ops=true)(hQ:∀c (a:Act) d v w,Q (.panic c) (a.put d v) w→Q (.panic c) a w):
 ∀(p:yP) (yZ:Array Bool) (a:Act) (w:World),uk md ops yZ→ok md ops p yZ=true→wp P ops Q S need p a w→
  uY P md ops Q S need p.len yZ a w
 | .done,yZ,a,w,_,hB,h=>⟨by simpa[ok]using hB,h⟩
 | .step k p,yZ,a,w,hc,hB,h=>by
  cases h0:ops[k]? with
  |none=>simp[ok,h0]at hB
  |some o=>
   simp only[ok,h0,yo,yt,zL]at hB
   obtain⟨⟨hg,hB1⟩,hB2⟩:=hB
   unfold wp at h
   rw[h0]at h
   dsimp only at h
   by_cases hp:sD o=true
   ·rw[if_pos hp]at hB1 h
    simp only[zL]at hB1
    obtain⟨v,hv,hrest⟩:=h
    have hr:k∈Region.ready md ops yZ:=by simpa using hB1.1
    exact jb (S0:=fun _=>True) h0 (Region.noSelect_spec hsel) (fun c a w=>hQ c a _ _ w) (fun _ _ _ _ _ _=>trivial) p.len yZ a w hc (Region.free_spec h0 hB1.2) hr (.inl ⟨uv hg _,fun w' _=>hv w'⟩) trivial
     (pE hsel hQ p _ _ w (hc.set hr) hB2 hrest)
   ·rw[if_neg hp]at hB1 h
    have hr:Region.ready md ops yZ=[k]:=by simpa using hB1
    have hrk:k∈Region.ready md ops yZ:=by rw[hr];simp
    refine⟨fun h1=>(by rw[hr]at h1;cases h1),fun i hi=>?_⟩
    rw[hr]at hi
    have hik:i=k:=by simpa using hi
    subst hik
    unfold wpOp
    simp only[h0,uv hg,if_true]
    exact .inl (Oper.wp_mono (fun a' w' h'=>⟨h'.1,pE hsel hQ p _ a' w' (hc.set hrk) hB2 h'.2⟩) h)
 | .fork k1 p1 k2 p2,yZ,a,w,hc,hB,h=>by
  cases h1:ops[k1]? with
  |none=>simp[ok,h1]at hB
  |some o1=>
   cases h2:ops[k2]? with
   |none=>simp[ok,h2]at hB
   |some o2=>
    simp only[ok,h1,h2,yo,yt,zL]at hB
    obtain⟨⟨⟨⟨hr0,hg1,_⟩,hg2,_⟩,hB1⟩,hB2⟩:=hB
    have hr:Region.ready md ops yZ=[k1,k2]:=by simpa using hr0
    unfold wp at h
    rw[h1,h2]at h
    dsimp only at h
    refine⟨fun h1=>(by rw[hr]at h1;cases h1),fun i hi=>?_⟩
    have hi0:=hi
    rw[hr]at hi
    have hik:i=k1∨i=k2:=by simpa using hi
    rcases hik with rfl|rfl
    ·unfold wpOp
     simp only[h1,uv hg1,if_true]
     exact .inl (Oper.wp_mono (fun a' w' h'=>⟨h'.1,gH (Nat.le_max_left _ _) (pE hsel hQ p1 _ a' w' (hc.set hi0) hB1 h'.2)⟩) h.1)
    ·unfold wpOp
     simp only[h2,uv hg2,if_true]
     exact .inl (Oper.wp_mono (fun a' w' h'=>⟨h'.1,gH (Nat.le_max_right _ _) (pE hsel hQ p2 _ a' w' (hc.set hi0) hB2 h'.2)⟩) h.2)
def XP(md:Region.Mode)(l:List Oper)(one:List Nat)(p:yP):Bool:=
 Region.noSelect l.toArray&&decide (one.length+p.len=l.length)&&pI md l.toArray one (Array.replicate l.length false)&&ok md l.toArray p (vM one (Array.replicate l.length false))
theorem region{id:Nat}{a:Act}{w:World}(one:List Nat)(p:yP)(S:World→Prop)(hm:P.follows .mixedOrders=true){l:List Oper}(hB:XP .any l one p=true)(hQ':∀c (a:Act) t v w,Q (.panic c) (a.put (some t) v) w→Q (.panic c) a w)(hS:S w.drew)(h:tB P l.toArray S (fun a'=>wp P l.toArray Q S (sZ .any l.toArray one) p a' w.drew) one a):(Code.region id l.toArray true).wp P Q a w:=by
 have hQ:∀c (a:Act) d v w,Q (.panic c) (a.put d v) w→Q (.panic c) a w:=fun c a d v w h=>by
  cases d with
  |none=>exact h
  |some t=>exact hQ' c a t v w h
 simp only[XP,zL,decide_eq_true_eq]at hB;obtain⟨⟨⟨hsel,hn⟩,h1⟩,h2⟩:=hB;have hc0:uk .any l.toArray (Array.replicate l.length false):=fun j oj _ hl=>by rw[getD_replicate_false]at hl;cases hl
 refine wp_region_any hm (rK (S:=S) (need:=sZ .any l.toArray one) _ _ _ _ ?_);have hsz:l.toArray.size=l.length:=by simp
 rw[hsz];have hg:=qu (one:=one) (fun _=>rfl) hsel hQ hS one _ a (fun _ h=>h) hc0 h1 (fun a' hK hc=>pE hsel hQ p _ a' w.drew hc h2 hK) h;rw[hn]at hg;exact hg
theorem xC{a:Act}{w:World}(h:Q .normal a w):wp P ops Q S need .done a w:=h
theorem xA{k:Nat}{p:yP}{a:Act}{w:World}{o:Oper}(h0:ops[k]? =some o)(hp:sD o=true)(v:Value)(hv:∀w,(execOp a.eval o).run P w=.ok (.value v) w)(h:wp P ops Q S need p (a.put o.dst v) w):wp P ops Q S need (.step k p) a w:=by unfold wp;rw[h0];dsimp only;rw[if_pos hp];exact⟨v,hv,h⟩
def At(P:Program)(ops:Array Oper)(Q:Exit→Act→World→Prop)(S:World→Prop)(need:Nat→Bool)(k:Nat)(p:yP)(a:Act)(w:World):Prop:=
 match ops[k]? with
 |some o=>o.wp P a w (fun a' w'=>(need k=true→S w→S w')∧wp P ops Q S need p a' w') Q
 |none=>False
theorem yY{k:Nat}{p:yP}{a:Act}{w:World}{o:Oper}(h0:ops[k]? =some o)(hp:sD o=false)(h:At P ops Q S need k p a w):wp P ops Q S need (.step k p) a w:=by unfold At at h;unfold wp;rw[h0]at h⊢;dsimp only at h⊢;rw[if_neg (by rw[hp];decide)];exact h
theorem fQ{k1 k2:Nat}{p1 p2:yP}{a:Act}{w:World}(h1:At P ops Q S need k1 p1 a w)(h2:At P ops Q S need k2 p2 a w):wp P ops Q S need (.fork k1 p1 k2 p2) a w:=by unfold wp;exact⟨h1,h2⟩
theorem xy{k:Nat}{p:yP}{a:Act}{w w':World}{o:Oper}(h0:ops[k]? =some o)(n:Next)(v:Value)(hn:n=.value v∨n=.skip∧v=undef)(hv:(execOp a.eval o).run P w=.ok n w')(hS:need k=true→S w→S w')(h:wp P ops Q S need p (a.put o.dst v) w'):At P ops Q S need k p a w:=by unfold At;rw[h0];dsimp only;unfold Oper.wp;rw[hv];rcases hn with rfl|⟨rfl,rfl⟩<;>exact⟨hS,h⟩
theorem rP{k:Nat}{p:yP}{a:Act}{w:World}{o:Oper}(h0:ops[k]? =some o)(v:Value)(hv:(execOp a.eval o).run P w=.ok (.value v) w)(h:wp P ops Q S need p (a.put o.dst v) w):At P ops Q S need k p a w:=by unfold At;rw[h0];dsimp only;unfold Oper.wp;rw[hv];exact⟨fun _ h=>h,h⟩
def Zt(P:Program)(ops:Array Oper)(Q:Exit→Act→World→Prop)(S:World→Prop)(need:Nat→Bool)(k:Nat)(p:yP)(o:Oper)(a:Act)(w:World)(e:Ending)(w':World):Prop:=
 ∃v,e=.returned v∧(need k=true→S w→S w')∧wp P ops Q S need p (a.put o.dst v) w'
theorem xJ{k:Nat}{p:yP}{a:Act}{w:World}{o:Oper}(h0:ops[k]? =some o)(f:FuncId)(args:Array Operand)(tys:Array TypeId)(ho:o.op=Op.call {callee:=.value (.func f),args:=args,argTypes:=tys})(hf:enters P f=true)(yV:Array Value)(hv:(args.toList.map a.eval).toArray=yV)(h:Calls P f yV w (Zt P ops Q S need k p o a w)):At P ops Q S need k p a w:=by unfold At;rw[h0];dsimp only;unfold Oper.wp;rw[fm f args tys ho hf yV hv];refine Calls.mono h fun e w' he=>?_;obtain⟨v,rfl,hk⟩:=he;exact hk
theorem pF{k:Nat}{p:yP}{a:Act}{w:World}{o:Oper}(h0:ops[k]? =some o)(h:∀K:Act→World→Prop,(∀a' w',(need k=true→S w→S w')→wp P ops Q S need p a' w'→K a' w')→o.wp P a w K Q):At P ops Q S need k p a w:=by unfold At;rw[h0];dsimp only;exact h _ fun a' w' h1 h2=>⟨h1,h2⟩
end
end yP
end
section
open Go.RowKit
def ans(v:Value):Ending:=.returned v
theorem Tryz.tF:(Tryz.prog.info? 3).map (fun i=>(i.zero,i.size,i.bytes))=some (some (.i 0),1,8):=by kernel_rfl
theorem Tryz.Om:(Tryz.prog.info? 4).map (fun i=>(i.zero,i.size,i.bytes))=some (some (.bool false),1,1):=by kernel_rfl
theorem Tryz.RG:(Tryz.prog.info? 165).map (fun i=>(i.zero,i.size,i.bytes))=some (some (.agg #[.i 0,.i 0,.bool false]),3,24):=by kernel_rfl
end
section
open Go.RowKit Go.WideShapes
def sB(l:List Int)(x:Int):Int:=if x∈l then(l.idxOf x:Int)else -1
section
variable {w0 w:World} {γ:U} {t n:Nat} {v:Value} {l:List Int}
theorem aq(hs:xK γ t 3 1 v n (ints l))(ho:Own w0 w γ)(hn:n≤1000)(x:Int):Calls Tryz.prog 132 #[v,.i x] w fun e w'=>e=.returned (.i (sB l x))∧w=w':=by
 have hl:l.length=n:=by have:=hs.1;rw[us]at this;omega
 have HS:=I hs;have HO:=I ho;obtain⟨A,cap,rfl⟩:=hs.form;clear hs ho;go_in;go_wp2_with fail;go_loopw [8] (fun i wr=>∃j:Nat,i=.i j∧j≤n∧wr=w∧x∉l.take j) (fun i _=>n-(intOf i).toNat);case atStart=>exact⟨0,rfl,by omega,rfl,by simp⟩
 case round=>
  obtain⟨j,rfl,hj,rfl,hnot⟩:=hrel;by_cases hlt:j<n
  ·have dl:decide ((j:Int)<n)=true:=by simpa using hlt
   obtain⟨g,cap',hv,-,hcc⟩:=HS.out.row HO.out (by omega);cases hv;have hc:=hcc j (.i (l.getD j 0)) (by rw[ints,zx,zn,zl (by omega)];rfl);clear hcc;have hjn:(j:Int)<n:=by omega
   have hdr:l.drop j=l.getD j 0::l.drop (j+1):=by rw[List.drop_eq_getElem_cons (by omega),zn,zl (by omega)];rfl
   by_cases he:x=l.getD j 0
   ·have db:(x==l.getD j 0)=true:=by simpa using he
    have hr:sB l x=j:=by
     unfold sB;have hm:x∈l:=by rw[←List.take_append_drop j l,hdr,he];simp
     rw[if_pos hm];have:l.idxOf x=j:=by have h3:=congrArg (List.idxOf x) (List.take_append_drop j l);rw[List.idxOf_append,if_neg hnot,hdr,←he,List.idxOf_cons_self,zE]at h3;omega
     omega
    have HR:=I hr;clear hr hdr;generalize l.getD j 0=y at*;go_wp2_with fail;go_ret;exact⟨by rw[HR.out];rfl,rfl⟩
   ·have db:(x==l.getD j 0)=false:=by simpa using he
    have hnot':x∉l.take (j+1):=by
     rw[yk,zB];rintro(h|h)
     ·exact hnot h
     ·rw[zl (by omega)]at h;refine he ?_;rw[zn,zl (by omega)];simpa using h
    generalize l.getD j 0=y at*;clear hdr;go_wp2_with fail;go_roundw;case rel=>exact⟨j+1,rfl,by omega,by trivial,hnot'⟩
    case measure=>simp[intOf];omega
  ·obtain rfl:j=n:=by omega
   have dl:decide ((j:Int)<j)=false:=by simp
   have hr:sB l x= -1:=by unfold sB;rw[zO (by omega)]at hnot;exact if_neg hnot
   have HR:=I hr;clear hr;go_wp2_with fail;go_ret;exact⟨by rw[HR.out];rfl,rfl⟩
theorem kI(hs:yR γ t 3 1 v n (ints l))(ho:Own w0 w γ)(hn:n≤1000)(x:Int):Calls Tryz.prog 132 #[v,.i x] w fun e w'=>e=.returned (.i (sB l x))∧w=w':=aq hs.qN ho hn x
theorem pq(hs:xK γ t 3 1 v n (ints l))(ho:Own w0 w γ)(hn:n≤1000)(x:Int):Calls Tryz.prog 93 #[v,.i x] w fun e w'=>e=.returned (.bool (decide (x∈l)))∧w=w':=by
 have hi:=aq hs ho hn x;have hd:decide (x∈l)=decide (0≤sB l x):=by
  unfold sB;by_cases h:x∈l
  ·rw[if_pos h];simp[h]
  ·rw[if_neg h];simp[h]
 rw[hd];obtain⟨A,cap,rfl⟩:=hs.form;generalize sB l x=y at*;clear hs ho hd;go_in;go_wp2_with fail;refine hi.mono ?_;rintro e w' ⟨rfl,rfl⟩;go_wp2_with fail;go_ret;exact⟨rfl,rfl⟩
theorem st(hs:yR γ t 3 1 v n (ints l))(ho:Own w0 w γ)(hn:n≤1000)(x:Int):Calls Tryz.prog 93 #[v,.i x] w fun e w'=>e=.returned (.bool (decide (x∈l)))∧w=w':=pq hs.qN ho hn x
end
end
section
open Go.RowKit Go.WideShapes
structure Mu where
 h:Int
 ws:List Int
def Ng(γ:U)(b g:Nat)(v:Value)(m:Mu):Prop:=
 γ b=some (g,.cells #[.i m.h,v] 261 (0,0))∧yR γ (b+1) 3 1 v m.ws.length (ints m.ws)∧m.ws.length≤100
def tj(γ:U)(b g:Nat)(m:Mu):Prop:=∃v,Ng γ b g v m
theorem tj.keep{γ γ':U}{b g:Nat}{m:Mu}(h:tj γ b g m)(hk:∀k,b≤k→k<b+2→γ' k=γ k):tj γ' b g m:=by obtain⟨v,h1,h2,h3⟩:=h;exact⟨v,by rw[hk _ (by omega) (by omega)];exact h1,h2.keep (hk _ (by omega) (by omega)),h3⟩
def Mu.xV(m:Mu)(x:Int):Int:=if x<1 then 1 else if m.h=x∨x∈m.ws then 11 else 0
def Mu.xP(m:Mu)(x:Int):Int:=if m.xV x≠0 then m.xV x else if m.h≠0 then 12 else 0
def Mu.wi(m:Mu)(x:Int):Mu:=if m.xP x=0 then{m with h:=x}else m
section
variable {w0 w:World} {γ:U} {b g:Nat} {m:Mu}
theorem Ox(ho:Own w0 w γ)(b:Nat):Calls Tryz.prog 212 #[] w fun e w'=>∃g γ',e=.returned (.p g)∧Own w0 w' γ'∧tj γ' b g ⟨0,[]⟩∧∀k,k≠b→γ' k=γ k:=by have HF:Hid (∃g γ',Ending.returned (.p w.heap.size)=.returned (.p g)∧Own w0 (w.alloc (.cells #[.i 0,.slice none 0 0] 261)) γ'∧tj γ' b g ⟨0,[]⟩∧∀k,k≠b→γ' k=γ k):=I ⟨_,_,rfl,ho.new b _,⟨_,yQ _ _ _ _,yR.nil _ _ _ _,by simp⟩,fun k hk=>yO _ _ _ hk⟩;clear ho;go_in;go_wp2_with fail;go_ret;exact HF.out
theorem gW(h:tj γ b g m)(ho:Own w0 w γ):Calls Tryz.prog 208 #[.p g] w fun e w'=>e=.returned (.i m.h)∧w=w':=by obtain⟨v,h1,-⟩:=h;have c0:=ho.cell h1 (i:=0) rfl;clear h1 ho;go_in;go_wp2_with fail;go_ret;exact⟨rfl,rfl⟩
theorem RT(h:tj γ b g m)(ho:Own w0 w γ)(x:Int):Calls Tryz.prog 262 #[.p g,.i x] w fun e w'=>e=.returned (.i (m.xV x))∧w=w':=by
 obtain⟨v,h1,h2,h3⟩:=h;have c0:=ho.cell h1 (i:=0) (v:=.i m.h) rfl;have c1:=ho.cell h1 (i:=1) (v:=v) rfl;have hc:=st h2 ho (by omega) x;obtain⟨A,cap,rfl,-⟩:=h2.form;by_cases hx:x<1
 ·have d1:decide (x<1)=true:=by simpa using hx
  have HR:=I (show m.xV x=1 from if_pos hx);clear h1 h2 ho hc hx;go_in;go_wp2_with fail;go_ret;exact⟨by rw[HR.out];rfl,rfl⟩
 ·have d1:decide (x<1)=false:=by simpa using hx
  by_cases he:m.h=x
  ·have d2:(m.h==x)=true:=by simpa using he
   have HR:=I (show m.xV x=11 from(if_neg hx).trans (if_pos (.inl he)));generalize m.xV x=r at*;generalize m.h=y at*;generalize m.ws.length=k at*;clear h1 h2 ho hc hx he;go_in;go_wp2_with fail;go_ret;exact⟨by rw[HR.out];rfl,rfl⟩
  ·have d2:(m.h==x)=false:=by simpa using he
   have hr:m.xV x=if decide (x∈m.ws)=true then 11 else 0:=by
    unfold Mu.xV;rw[if_neg hx];by_cases hm:x∈m.ws
    ·rw[if_pos (.inr hm),if_pos (by simpa using hm)]
    ·rw[if_neg (fun h=>h.elim he hm),if_neg (by simpa using hm)]
   generalize decide (x∈m.ws)=bb at*;have HR:=I hr;generalize m.xV x=r at*;generalize m.h=y at*;generalize m.ws.length=k at*;clear h1 h2 ho hx he hr;cases bb;all_goals go_in;go_wp2_with fail;refine hc.mono ?_;rintro e w' ⟨rfl,rfl⟩;go_wp2_with fail;go_ret;exact⟨by rw[HR.out];rfl,rfl⟩
def sa(w0:World)(γ:U)(b g:Nat)(m:Mu)(r:Value)(e:Ending)(w':World):Prop:=
 e=.returned r∧∃γ',Own w0 w' γ'∧tj γ' b g m∧∀k,(k<b∨b+4≤k)→γ' k=γ k
theorem Sz(h:tj γ b g m)(ho:Own w0 w γ)(x:Int):Calls Tryz.prog 201 #[.p g,.i x] w (sa w0 γ b g (m.wi x) (.i (m.xP x))):=by
 have hwr:=RT h ho x;have hsame:Hid (∀r,sa w0 γ b g m r (.returned r) w):=I fun r=>⟨rfl,γ,ho,h,fun _ _=>rfl⟩;obtain⟨v,h1,h2,h3⟩:=h;have c0:=ho.cell h1 (i:=0) (v:=.i m.h) rfl;have f0:=ho.free h1 0;by_cases hw:m.xV x=0
 ·by_cases hh:m.h=0
  ·have e1:m.xP x=0:=by unfold Mu.xP;rw[if_neg (by simpa using hw),if_neg (by simpa using hh)]
   have e2:m.wi x={m with h:=x}:=if_pos e1;have d2:(m.h != 0)=false:=by simpa using hh
   have HF:Hid (sa w0 γ b g {m with h:=x} (.i 0) (.returned (.i 0)) (w.setCell (zc g 0) (.i x))):=I ⟨rfl,_,ho.set h1 0 (.i x),⟨v,yQ _ _ _ _,h2.keep (yO _ _ _ (by omega)),h3⟩,fun k hk=>yO _ _ _ (by omega)⟩;rw[e1,e2];rw[hw]at hwr;generalize m.h=y at*;clear h1 h2 ho hw hh e1 e2;go_in;go_wp2_with fail;refine hwr.mono ?_;rintro e w' ⟨rfl,rfl⟩;go_wp2_with fail;go_ret;exact HF.out
  ·have e1:m.xP x=12:=by unfold Mu.xP;rw[if_neg (by simpa using hw),if_pos hh]
   have e2:m.wi x=m:=if_neg (by rw[e1];decide);have d2:(m.h != 0)=true:=by simpa using hh
   rw[e1,e2];rw[hw]at hwr;generalize m.h=y at*;clear h1 h2 ho hw hh e1 e2;go_in;go_wp2_with fail;refine hwr.mono ?_;rintro e w' ⟨rfl,rfl⟩;go_wp2_with fail;go_ret;exact hsame.out _
 ·have e1:m.xP x=m.xV x:=if_pos hw;have e2:m.wi x=m:=if_neg (by rw[e1];exact hw);have d2:(m.xV x != 0)=true:=by simpa using hw
  rw[e1,e2];generalize m.xV x=y at*;clear h1 h2 ho hw e1 e2;go_in;go_wp2_with fail;refine hwr.mono ?_;rintro e w' ⟨rfl,rfl⟩;go_wp2_with fail;go_ret;exact hsame.out _
def Mu.wL(m:Mu)(x:Int):Int:=if m.xP x=12 then 14 else m.xP x
def Mu.lock(m:Mu)(x:Int):Mu:=if m.xP x=12 then{m with ws:=m.ws++[x]}else m.wi x
theorem qv{γ:U}{w0 w:World}(ho:Own w0 w γ)(t:Nat)(x:Int):Own w0 (w.alloc (.cells #[.i x] 3)) (put γ t w.heap.size (.cells #[.i x] 3))∧Reads (w.alloc (.cells #[.i x] 3)) 1 (.slice (zb w.heap.size) 1 1) 1 [.i x]:=by have h:=ho.new t (.cells #[.i x] 3);exact⟨h,.inr ⟨_,1,rfl,rfl,fun j u hj=>by rw[add_plain,zy];exact h.cell (yQ _ _ _ _) (i:=j) (by simpa using hj),by simp[Value.oneCell']⟩⟩
theorem Z2(h:tj γ b g m)(ho:Own w0 w γ)(x:Int)(hlt:m.ws.length<100):Calls Tryz.prog 163 #[.p g,.i x] w (sa w0 γ b g (m.lock x) (.i (m.wL x))):=by
 have htr:=Sz h ho x;by_cases h12:m.xP x=12
 ·have e1:m.wL x=14:=if_pos h12;have e2:m.lock x={m with ws:=m.ws++[x]}:=if_pos h12;have e3:m.wi x=m:=if_neg (by rw[h12];decide);rw[e1,e2];rw[h12,e3]at htr;clear e1 e2 e3 h12 h ho;go_in;go_wp2_with fail;refine htr.mono ?_;rintro e w1 ⟨rfl,γ1,ho1,⟨v,h1,h2,h3⟩,hk1⟩;have c1:=ho1.cell h1 (i:=1) (v:=v) rfl;obtain⟨A,cap,rfl,-⟩:=h2.form;obtain⟨ho2,hrd⟩:=qv ho1 (b+2) x;have h12':=(yO γ1 (t:=b+2) (k:=b) w1.heap.size (.cells #[.i x] 3) (by omega)).trans h1;have hs2:=h2.keep (γ':=put γ1 (b+2) w1.heap.size (.cells #[.i x] 3)) (yO _ _ _ (by omega));have HO:=I ho2;have HS:=I hs2;have HR:=I hrd;have H1:=I h12';have HK:=I hk1;have hl:(m.ws++[x]).length=m.ws.length+1:=by simp
  have HL:=I hl;generalize hn:m.ws.length=k at*;have HN:=I hn;clear ho1 h1 h2 ho2 hrd h12' hs2 hk1 htr hl hn;go_wp2_with (at_builtin;refine xG rfl (.tmp 16) (.tmp 18) 61 rfl 3 _ 1 8 Tryz.underlying61 Tryz.tF rfl (by decide) HO.out HS.out rfl HR.out rfl ?_ ?_ ?_)
  ·unfold maxLen;omega
  ·omega
  intro A' cap' w2 γ3 hA2 ho4 hs4 hk4;rw[qt]at hs4;have hb:=(hk4 b (by omega)).trans H1.out;have c1':=ho4.cell hb (i:=1) (v:=.slice A k cap) rfl;have f1':=ho4.free hb 1;have HF:Hid (sa w0 γ b g {m with ws:=m.ws++[x]} (.i 14) (.returned (.i 14)) (w2.setCell (zc g 1) (.slice A' (k+1) cap'))):=I ⟨rfl,_,ho4.set hb 1 (.slice A' (k+1) cap'),⟨_,yQ _ _ _ _,by show yR _ (b+1) 3 1 _ (m.ws++[x]).length (ints (m.ws++[x]));rw[HL.out];exact hs4.keep (yO _ _ _ (by omega)),by show(m.ws++[x]).length≤100;rw[HL.out];omega⟩,fun j hj=>(yO _ _ _ (by omega)).trans ((hk4 j (by omega)).trans ((yO _ _ _ (by omega)).trans (HK.out j hj)))⟩;clear ho4 hs4 hb hk4 hA2 c1;go_wp2_with fail;go_ret;exact HF.out
 ·have e1:m.wL x=m.xP x:=if_neg h12;have e2:m.lock x=m.wi x:=if_neg h12;have d1:(m.xP x != 12)=true:=by simpa using h12
  rw[e1,e2];generalize m.xP x=y at*;generalize m.wi x=m2 at*;clear e1 e2 h12 h ho;go_in;go_wp2_with fail;refine htr.mono ?_;rintro e w1 he;have he':=he;obtain⟨rfl,-⟩:=he;go_wp2_with fail;go_ret;exact he'
end
end
section
open Go.RowKit Go.WideShapes
theorem Own.row{w0 w:World}{γ:U}(h:Own w0 w γ){t g:Nat}{ty:TypeId}{cs:Array Value}{fr:Nat×Nat}(hg:γ t=some (g,.cells cs ty fr))(cs':Array Value):Own w0 (w.setRow g cs') (Go.Proofs.YtkmamlifgbocgaaGreat.put γ t g (.cells cs' ty fr)):=by
 have hb:=(h.own t g _ hg).1;refine⟨below_setRow h.below hb cs',fun k g' o' hk=>?_,fun k k' g' o1 o2 h1 h2=>?_⟩
 ·by_cases e:k=t
  ·subst e;rw[yQ]at hk;cases hk;exact⟨hb,setRow_heap w g _ _ _ _ (h.own k _ _ hg).2⟩
  ·rw[yO _ _ _ e]at hk;have hne:g'≠g:=fun e2=>by subst e2;exact e (h.inj _ _ _ _ _ hk hg)
   exact⟨(h.own k g' o' hk).1,(setRow_other w g g' _ hne).trans (h.own k g' o' hk).2⟩
 ·by_cases e:k=t
  ·by_cases e':k'=t
   ·rw[e,e']
   ·subst e;rw[yQ]at h1;rw[yO _ _ _ e']at h2;cases h1;exact(h.inj _ _ _ _ _ h2 hg).symm
  ·by_cases e':k'=t
   ·subst e';rw[yQ]at h2;rw[yO _ _ _ e]at h1;cases h2;exact h.inj _ _ _ _ _ h1 hg
   ·rw[yO _ _ _ e]at h1;rw[yO _ _ _ e']at h2;exact h.inj k k' g' o1 o2 h1 h2
section
variable {P:Program}
theorem kc(w:World)(dT sT ty elem:TypeId)(m:Nat)(g o dLen dCap:Nat)(a:Addr)(sLen sCap:Nat)(cur:Array Value)(t:TypeId)(cs:List Value)(hu:P.underlying dT=some (.slice elem))(hs:(P.info? elem).map (·.size)=some m)(hg:w.heap[g]? =some (.cells cur t (0,0))){k:Nat}(hk:k=Nat.min sLen dLen)(hn:cs.length=k*m)(hsrc:∀j v,cs[j]? =some v→w.cell? (a.add j)=some v)(hfit:o+cs.length≤cur.size)(h1:∀v∈cs,v.oneCell'=true):(Builtin.copy_ #[dT,sT] ty #[.slice (some (zc g o)) dLen dCap,.slice (some a) sLen sCap]).run P w=.ok (goInt k) (w.setRow g (cur.toList.take o++cs++cur.toList.drop (o+cs.length)).toArray):=by
 subst hk;have hl:=run_loadCells_list (P:=P) w a cs hsrc;have hst:=run_storeCells_at P g o t cs 0 cur w hg (by simpa using hfit) h1;cases hq:P.info? elem with
 |none=>simp[hq]at hs
 |some i=>
  have hi:i.size=m:=by simpa[hq]using hs
  simp[Builtin.copy_,run_underlying hu,Builtin.lenOf,Builtin.firstCells,sizeOf,typeInfo,hq,hi,←hn,hl,hst]
theorem qO{o:Oper}{a:Act}{K:Act→World→Prop}{Q:Exit→Act→World→Prop}{w:World}(d s:Operand)(dT:TypeId)(ho:o.op=.call {callee:=.builtin .copy,args:=#[d,s],argTypes:=#[dT,dT]})(elem:TypeId)(m:Nat)(hu:P.underlying dT=some (.slice elem))(hs:(P.info? elem).map (·.size)=some m){g off dLen dCap:Nat}{ad:Addr}{sLen sCap:Nat}{cur:Array Value}{t:TypeId}{cs:List Value}(hd:a.eval d=.slice (some (zc g off)) dLen dCap)(hsr:a.eval s=.slice (some ad) sLen sCap)(hg:w.heap[g]? =some (.cells cur t (0,0))){k:Nat}(hk:k=Nat.min sLen dLen)(hn:cs.length=k*m)(hsrc:∀j v,cs[j]? =some v→w.cell? (ad.add j)=some v)(hfit:off+cs.length≤cur.size)(h1:∀v∈cs,v.oneCell'=true)(h:K (a.put o.dst (goInt k)) (w.setRow g (cur.toList.take off++cs++cur.toList.drop (off+cs.length)).toArray)):o.wp P a w K Q:=by have hrun:=kc (P:=P) w dT dT o.type elem m g off dLen dCap ad sLen sCap cur t cs hu hs hg hk hn hsrc hfit h1;unfold Oper.wp execOp;simp only[ho,resolve,invoke,builtin,Sem.run_bind,Sem.run_pure,Result.andThen_ok,List.map_toArray,yK,List.map_nil,hd,hsr,hrun];exact h
theorem Sk{ops:Array Oper}{rest:List Oper}{o:Oper}{a:Act}{Q:Exit→Act→World→Prop}{w:World}(hgd:o.guard=none)(d s:Operand)(dT:TypeId)(ho:o.op=.call {callee:=.builtin .copy,args:=#[d,s],argTypes:=#[dT,dT]})(elem:TypeId)(m:Nat)(hu:P.underlying dT=some (.slice elem))(hs:(P.info? elem).map (·.size)=some m){g off dLen dCap:Nat}{ad:Addr}{sLen sCap:Nat}{cur:Array Value}{t:TypeId}{cs:List Value}(hd:a.eval d=.slice (some (zc g off)) dLen dCap)(hsr:a.eval s=.slice (some ad) sLen sCap)(hg:w.heap[g]? =some (.cells cur t (0,0))){k:Nat}(hk:k=Nat.min sLen dLen)(hn:cs.length=k*m)(hsrc:∀j v,cs[j]? =some v→w.cell? (ad.add j)=some v)(hfit:off+cs.length≤cur.size)(h1:∀v∈cs,v.oneCell'=true)(h:wpList P ops Q rest (a.put o.dst (goInt k)) (w.setRow g (cur.toList.take off++cs++cur.toList.drop (off+cs.length)).toArray)):wpList P ops Q (o::rest) a w:=wpList_plain hgd fun _ hK=>qO d s dT ho elem m hu hs hd hsr hg hk hn hsrc hfit h1 (hK _ _ h)
end
theorem Tryz.bL:(Tryz.prog.info? 206).map (fun i=>(i.zero,i.size,i.bytes))=some (some (.agg #[.i 0,.i 0,.i 0]),3,24):=by kernel_rfl
theorem Tryz.bM:(Tryz.prog.info? 210).map (fun i=>(i.zero,i.size,i.bytes))=some (some (.agg #[.i 0,.i 0,.i 0]),3,24):=by kernel_rfl
theorem Y7(n:Nat)(hn:n≤4096)(w:World):∃cs:Array Value,cs.size=n*3∧(Instr.makeSlice 203 (.i n) (.i n)).run Tryz.prog w=.ok (.slice (zb w.heap.size) n n) (w.alloc (.cells cs 206)):=by obtain⟨i0,hi,hz0,hz1,hz2⟩:=info_parts Tryz.bL;have:=run_makeSlice w (P:=Tryz.prog) 203 206 i0 _ Tryz.underlying203 hi hz0 .i64 .i64 n n (by omega) (by omega) (by rw[hz1];simp;omega) (by rw[hz2];omega) (by omega);rw[hz1]at this;exact⟨_,size_madeCells _ _,by simpa using this⟩
theorem Y8(n:Nat)(hn:n≤4096)(w:World):∃cs:Array Value,cs.size=n*3∧(Instr.makeSlice 207 (.i n) (.i n)).run Tryz.prog w=.ok (.slice (zb w.heap.size) n n) (w.alloc (.cells cs 210)):=by obtain⟨i0,hi,hz0,hz1,hz2⟩:=info_parts Tryz.bM;have:=run_makeSlice w (P:=Tryz.prog) 207 210 i0 _ Tryz.underlying207 hi hz0 .i64 .i64 n n (by omega) (by omega) (by rw[hz1];simp;omega) (by rw[hz2];omega) (by omega);rw[hz1]at this;exact⟨_,size_madeCells _ _,by simpa using this⟩
end
section
open Go.RowKit Go.WideShapes
theorem Own.setCells{w0:World}{t g:Nat}{ty:TypeId}{fr:Nat×Nat}:∀(vs:List Value) (o:Nat) (w:World) (γ:U) (cs:Array Value),Own w0 w γ→γ t=some (g,.cells cs ty fr)→o+vs.length≤cs.size→
 ∃cs':Array Value,cs'.size=cs.size∧cs'.toList=cs.toList.take o++vs++cs.toList.drop (o+vs.length)∧∃γ',Own w0 (w.setCells g o vs) γ'∧γ' t=some (g,.cells cs' ty fr)∧∀k,k≠t→γ' k=γ k
 |[],o,w,γ,cs,ho,hg,_=>⟨cs,rfl,by simp,γ,ho,hg,fun _ _=>rfl⟩
 |v::vs,o,w,γ,cs,ho,hg,hl=>by
  simp at hl
  obtain⟨cs',h1,h2,γ',h3,h4,h5⟩:=Own.setCells vs (o+1) _ _ _ (ho.set hg o v) (yQ _ _ _ _) (by simp;omega)
  refine⟨cs',by rw[h1];simp,?_,γ',h3,h4,fun k hk=>(h5 k hk).trans (yO _ _ _ hk)⟩
  rw[h2]
  have e:=list_seg_step cs.toList o v vs (by simp;omega)
  simpa[yE,Nat.add_assoc]using e
theorem sh{w0 w:World}{γ:U}{t n i:Nat}{v:Value}{l:List Int}(hs:yR γ t 3 1 v n (ints l))(ho:Own w0 w γ)(hn:n≤1000)(hi:i<n):Calls Tryz.prog 155 #[v,.i i,.i ((i:Int)+1)] w fun e w'=>∃v' γ',e=.returned v'∧Own w0 w' γ'∧yR γ' t 3 1 v' (n-1) (ints (l.eraseIdx i))∧∀k,k≠t→γ' k=γ k:=by
 have hll:l.length=n:=by have:=hs.1;rw[us]at this;omega
 obtain⟨g,cap,cur,rfl,hg,hcap,hmax,hsz,htk,hheap,hcell⟩:=hs.gJ ho (by omega);have hcl:∀j x,l[j]? =some x→w.cell? (zc g j)=some (.i x):=fun j x hj=>by have:=hcell j (.i x) (by simp[ints,hj]);rwa[add_plain,zy]at this
 obtain⟨news,hnews⟩:∃news,news=ints (l.drop (i+1)):=⟨_,rfl⟩;have hlen:news.length=n-(i+1):=by rw[hnews,us,ya,hll]
 obtain⟨cs1,z1,z2,γ1,o1,h1,k1⟩:=Own.setCells news i w.drew γ cur ho.drew hg (by rw[hlen];omega);obtain⟨cs2,y1,y2,γ2,o2,h2,k2⟩:=Own.setCells (List.replicate 1 (.i 0)) (n-1) _ γ1 cs1 o1 h1 (by simp;omega);have hfin:∃v' γ',Ending.returned (.slice (zb g) (n-1) cap)=.returned v'∧Own w0 (((w.drew).setCells g i news).setCells g (n-1) (List.replicate 1 (.i 0))) γ'∧yR γ' t 3 1 v' (n-1) (ints (l.eraseIdx i))∧∀k,k≠t→γ' k=γ k:=by
  refine⟨_,γ2,rfl,o2,⟨by rw[us,List.length_eraseIdx_of_lt (by omega)];omega,.inr ⟨g,cap,cs2,rfl,h2,by omega,hmax,by omega,?_⟩⟩,fun k hk=>(k2 k hk).trans (k1 k hk)⟩;have hti:cur.toList.take i=ints (l.take i):=by
   have:cur.toList.take i=(cur.toList.take n).take i:=by rw[List.take_take,Nat.min_eq_left (by omega)]
   rw[this,htk];simp[ints,List.map_take]
  have hl1:(cur.toList.take i++news).length=n-1:=by rw[hti,zr,us,zE,hlen];omega
  have e1:cs1.toList.take (n-1)=cur.toList.take i++news:=by rw[z2];exact yz hl1
  have hl2:(cs1.toList.take (n-1)).length=n-1:=by rw[e1];exact hl1
  rw[yG,y2,zU,yz hl2,e1,hti,hnews,List.eraseIdx_eq_take_drop_succ];simp[ints]
 obtain⟨i0,hi0,hz0,hz1,hz2⟩:=info_parts Tryz.tF;have hone:∀u∈news,u.oneCell'=true:=by rw[hnews];intro u hu;obtain⟨x,_,rfl⟩:=yc.1 hu;rfl
 obtain⟨A,hA,hsrc⟩:∃A:Addr,(if cap=i+1 then some ((zc g 0):Addr)else some (zc g (i+1)))=some A∧Hid (∀(j:Nat) u,news[j]? =some u→w.drew.cell? (A.add j)=some u):=by
  by_cases h:cap=i+1
  ·refine⟨_,if_pos h,I fun j u hu=>?_⟩;have:=(zk.1 hu).1;omega
  ·refine⟨_,if_neg h,I fun j u hu=>?_⟩;rw[hnews]at hu;simp only[ints,zx,yF]at hu;cases hq:l[i+1+j]? with
   |none=>rw[hq]at hu;cases hu
   |some x=> rw[hq]at hu;cases hu;rw[add_plain];exact hcl _ x hq
 have hspare:Hid (∀j,j<news.length→(w.drew.cell? (zc g (0+i*1+j))).isSome=true∧w.drew.frozen? (zc g (0+i*1+j))=false):=I fun j hj=>by have hx:∃x,cur[i+j]? =some x:=⟨_,zv (by omega)⟩;obtain⟨x,hx⟩:=hx;rw[show 0+i*1+j=i+j by omega];exact⟨by rw[ho.drew.cell hg hx];rfl,ho.drew.free hg _⟩
 have hcz:∃x,cs1[n-1]? =some x:=⟨_,zv (by omega)⟩;obtain⟨xz,hxz⟩:=hcz;have hz0':∀j,j<1→((w.drew.setCells g i news).cell? (zc g (n-1+j))).isSome=true:=fun j hj=>by rw[show n-1+j=n-1 by omega,o1.cell h1 hxz];rfl
 have hclr:=fun ty=>Lib.run_clear_slice (P:=Tryz.prog) (w.drew.setCells g i news) 61 3 ty (.i 0) Tryz.underlying61 (by intro w;go_simp) rfl rfl g (n-1) 1 (cap-(n-1)) (by omega) hz0' (fun j _=>o1.free h1 _);have HF:=I hfin;have s1:Hid (news.length=(n-(i+1))*1):=I (by rw[hlen];omega);have s2:=I hone;have s4:Hid (0+i*1=i):=I (by omega);have s5:Hid (i+(n-(i+1))=n-1):=I (by omega);obtain⟨W1,hW1⟩:∃W1,W1=w.drew.setCells g i news:=⟨_,rfl⟩;rw[←hW1]at hclr HF;have hW:=I hW1;have hclr':(Builtin.clear_ #[61] 0 #[.slice (some (zc g (n-1))) (n-(n-1)) (cap-(n-1))]).run Tryz.prog W1=.ok (.tuple #[]) (W1.setCells g (n-1) (List.replicate 1 (.i 0))):=by rw[show n-(n-1)=1 by omega];exact hclr 0
 generalize W1.setCells g (n-1) (List.replicate 1 (.i 0))=W2 at*;have hin:(i:Int)≤(i:Int)+1:=by omega
 have hic:i≤cap:=by omega
 have hi1:(i:Int)+1≤n:=by omega
 have hi2:(0:Int)≤(i:Int)+1:=by omega
 have hjc:i+1≤cap:=by omega
 clear hfin hone hz0' hxz k2 h2 o2 y2 y1 k1 h1 o1 z2 z1 hcl hcell hheap htk hsz hg hs ho hnews hlen hW1;go_in;go_wp2_with fail;go_region_law (refine step_append_room rfl (.tmp 22) (.tmp 25) 61 rfl 3 i0 1 Tryz.underlying61 hi0 hz1 g 0 i cap (by simp[Act.eval,Act.put]) A (n-(i+1)) (cap-(i+1)) news (by simp[Act.eval,Act.put,hA]) s1.out hsrc.out s2.out (by omega) hspare.out ?_;rw[s4.out,s5.out,←hW.out]);go_wp2_with fail;go_ret;exact HF.out
end
end Go.Proofs.YtkmamlifgbocgaaGreat
