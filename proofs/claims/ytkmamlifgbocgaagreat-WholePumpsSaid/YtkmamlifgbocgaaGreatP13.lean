/- What the program's code does, as contracts, and what follows of it, part 13: for the law's proof. -/
import Derived.Test.YtkmamlifgbocgaaGreatP00
import Derived.Test.YtkmamlifgbocgaaGreatP12
import Derived.Deep.MidRow
import Derived.Deep.WholeRow
import Derived.StillTailTactics
import Derived.Lib.AppendZerosOnto
import Derived.Laws.BytesArg
import Derived.Lib.ConvBytes
import Derived.Lib.FrozenHead2
import Derived.RangeFuncCalls
import Derived.OrdersIn
set_option linter.unusedVariables false
set_option linter.unusedSimpArgs false
set_option maxRecDepth 100000
set_option maxHeartbeats 16000000
namespace Go.Proofs.YtkmamlifgbocgaaGreat
section
open Go.RowKit Go.WideShapes
def Dm.alone(D:Dm)(t:Int)(x:En)(h:Int)(m:Mu):Dm×Int:=
 if x.op=8 then(D.xg h (.mu (m.wi t)),m.xP t)else if x.op=9 then(D.unlock t h m,m.wB t)else(D.xO t x (m.wL t) (D.xg h (.mu (m.lock t))),x.vL D.clock (m.wL t))
section
variable {w0 w:World} {γ γ':U} {B g:Nat} {p:vG} {D:Dm}
theorem vv(ho:Own w0 w γ)(T1 T2:Nat)(hne:T1≠T2)(A X:Array Value)(ta tx:TypeId):∃γ',Own w0 ((w.alloc (.cells A ta)).alloc (.cells X tx)) γ'∧γ' T1=some (w.heap.size,.cells A ta (0,0))∧γ' T2=some (w.heap.size+1,.cells X tx (0,0))∧∀k,k≠T1→k≠T2→γ' k=γ k:=by
 have o1:=ho.new T1 (.cells A ta);have o2:=o1.new T2 (.cells X tx);have hs:(w.alloc (.cells A ta)).heap.size=w.heap.size+1:=by simp
 rw[hs]at o2;exact⟨_,o2,(yO _ _ _ hne).trans (yQ _ _ _ _),yQ _ _ _ _,fun k q1 q2=>(yO _ _ _ q2).trans (yO _ _ _ q1)⟩
theorem rp(ho:Own w0 w γ)(T1 T2 T3:Nat)(h1:T1≠T2)(h2:T1≠T3)(h3:T2≠T3)(A X P:Array Value)(ta tx tp:TypeId):∃γ',Own w0 (((w.alloc (.cells A ta)).alloc (.cells X tx)).alloc (.cells P tp)) γ'∧γ' T1=some (w.heap.size,.cells A ta (0,0))∧γ' T2=some (w.heap.size+1,.cells X tx (0,0))∧γ' T3=some (w.heap.size+1+1,.cells P tp (0,0))∧∀k,k≠T1→k≠T2→k≠T3→γ' k=γ k:=by
 obtain⟨γ1,o1,a1,a2,a3⟩:=vv ho T1 T2 h1 A X ta tx;have o2:=o1.new T3 (.cells P tp);have hs:((w.alloc (.cells A ta)).alloc (.cells X tx)).heap.size=w.heap.size+1+1:=by simp
 rw[hs]at o2;exact⟨_,o2,(yO _ _ _ h2).trans a1,(yO _ _ _ h3).trans a2,yQ _ _ _ _,fun k q1 q2 q3=>(yO _ _ _ q3).trans (a3 k q1 q2)⟩
theorem S9(h:yT γ B g p D)(ho:Own w0 w γ){t hh:Int}(x:En)(ht:D.Live t)(hc:0≤D.clock∧D.clock≤4611686018427387904)(hx:D.Has hh){m:Mu}(hob:D.ob hh=some (.mu m)){gm:Nat}(hos:p.os.getD (D.at_ hh) undef=.iface 217 (.p gm))(hlt:m.ws.length<100)(hl:m.wF t≠0→D.Live (m.wF t)):Calls Tryz.prog 225 #[.p g,.i t,x.val,.p gm] w (xj 8 w0 γ B g p (D.alone t x hh m).1 (.i (D.alone t x hh m).2)):=by
 have hmf:∀(fn:Fn) (first cap:Array Value) (w:World),(Instr.makeFunc fn first cap).run Tryz.prog w=.ok (.func fn first cap) w:=fun _ _ _ _=>rfl;obtain⟨γ1,o1,b1,b2,b3,k1⟩:=rp ho (B+65) (B+66) (B+67) (by omega) (by omega) (by omega) #[.i t] x.xq #[.p gm] 3 38 217;have h1:yT γ1 B g p D:=h.wK fun k hk=>k1 k (by unfold xi at hk;omega) (by unfold xi at hk;omega) (by unfold xi at hk;omega);have kk:∀k,yU 8 B k→γ1 k=γ k:=fun k hk=>k1 k (by unfold yU at hk;omega) (by unfold yU at hk;omega) (by unfold yU at hk;omega);have q0:=o1.cell b1 (i:=0) (v:=.i t) rfl;have r0:=o1.cell b2 (i:=0) (v:=.i x.kind) rfl;have r1:=o1.cell b2 (i:=1) (v:=.i x.xr) rfl;have r2:=o1.cell b2 (i:=2) (v:=.i x.pick) rfl;have r3:=o1.cell b2 (i:=3) (v:=.i x.op) rfl;have r4:=o1.cell b2 (i:=4) (v:=.i x.a) rfl;have r5:=o1.cell b2 (i:=5) (v:=.i x.b) rfl;have r6:=o1.cell b2 (i:=6) (v:=.i x.c) rfl;have s0:=o1.cell b3 (i:=0) (v:=.p gm) rfl;have hat:=xX h1 hx.2;rw[hob]at hat;obtain⟨gm',e,hat⟩:=hat;have e':=hos.symm.trans e;cases e';have htry:=Sz hat o1 t;have hun:=ZK h1 o1 hx hob hos hl (t:=t);have hen:=ku h1 o1 t x ht.1 hc 274 #[.p (w.heap.size+1+1),.p w.heap.size] (enters_of Tryz.func274 (by kernel_rfl) rfl) (m.wL t) (D.xg hh (.mu (m.lock t))) (fun _=>ht.2) (QF hx hob hlt hos b3 b1 (by unfold yU;omega) (by unfold yU;omega));have HT:Hid (∀w2 γ2,Own w0 w2 γ2→tj γ2 (B+100+8*D.at_ hh) gm (m.wi t)→(∀k,(k<B+100+8*D.at_ hh∨B+100+8*D.at_ hh+4≤k)→γ2 k=γ1 k)→∃γ',Own w0 w2 γ'∧yT γ' B g p (D.xg hh (.mu (m.wi t)))∧∀k,yU 8 B k→γ' k=γ k):=I fun w2 γ2 o2 a2 k2=>⟨γ2,o2,h1.uX hx ⟨gm,hos,a2⟩ (fun k q _=>k2 k (by omega)),fun k q=>(k2 k (by unfold yU at q;have:=(xv h hh hx.2).2;omega)).trans (kk k q)⟩;have KK:=I kk;have hval:x.val=.agg #[.i x.kind,.i x.xr,.i x.pick,.i x.op,.i x.a,.i x.b,.i x.c]:=rfl;have harr:x.xq=#[.i x.kind,.i x.xr,.i x.pick,.i x.op,.i x.a,.i x.b,.i x.c]:=rfl;have hal:D.alone t x hh m=if x.op=8 then(D.xg hh (.mu (m.wi t)),m.xP t)else if x.op=9 then(D.unlock t hh m,m.wB t)else(D.xO t x (m.wL t) (D.xg hh (.mu (m.lock t))),x.vL D.clock (m.wL t)):=rfl;rw[hal];rw[hval]at hen⊢;rw[harr]at q0 r0 r1 r2 r3 r4 r5 r6 s0 hen hun htry;clear hal h ho o1 b1 b2 b3 k1 h1 kk hat e hos hob hx hlt hl hval harr;by_cases h8:x.op=8
 ·rw[if_pos h8];have d8:(x.op==8)=true:=by simpa using h8
  generalize x.op=op at*;clear h8;go_in;go_wp2_with fail;refine htry.mono ?_;rintro e w2 ⟨rfl,γ2,o2,a2,k2⟩;have HF:=I (HT.out _ _ o2 a2 k2);clear o2 a2 k2 htry hun hen;go_wp2_with fail;go_ret;exact⟨rfl,HF.out⟩
 ·rw[if_neg h8];have d8:(x.op==8)=false:=by simpa using h8
  by_cases h9:x.op=9
  ·rw[if_pos h9];have d9:(x.op==9)=true:=by simpa using h9
   generalize x.op=op at*;clear h8 h9;go_in;go_wp2_with fail;refine hun.mono ?_;rintro e w2 hp2;have HF:=I ((hp2.up (m:=8) (by omega)).of KK.out);obtain⟨rfl,-⟩:=hp2;clear htry hun hen;go_wp2_with fail;go_ret;exact HF.out
  ·rw[if_neg h9];have d9:(x.op==9)=false:=by simpa using h9
   generalize x.op=op at*;go_in;go_wp2_with fail;refine hen.mono ?_;rintro e w2 hp2;have HF:=I ((hp2.up (m:=8) (by omega)).of KK.out);obtain⟨rfl,-⟩:=hp2;clear htry hun hen;go_wp2_with fail;go_ret;exact HF.out
end
end
section
open Go.RowKit Go.WideShapes
def xu(n:Nat)(f:Nat→Int):Array Value:=Array.ofFn (n:=n) fun i=>.int .u64 (f i.val)
def fO(f:Nat→Int)(i:Nat)(x:Int):Nat→Int:=fun k=>if k=i then x else f k
theorem uU(n:Nat)(f:Nat→Int):(xu n f).size=n:=by simp[xu]
theorem vz(n:Nat)(f:Nat→Int){i:Nat}(h:i<n):(xu n f)[i]? =some (.int .u64 (f i)):=by simp[xu,h]
theorem qY(n:Nat)(f:Nat→Int){i:Nat}(h:i<n)(x:Int):(xu n f).setIfInBounds i (.int .u64 x)=xu n (fO f i x):=by
 apply Array.ext_getElem?;intro k;rw[yf];by_cases hk:k<n
 ·rw[vz _ (fO f i x) hk];by_cases e:i=k
  ·subst e;rw[if_pos rfl,if_pos (by rw[uU];exact h)];simp[fO]
  ·rw[if_neg e,vz _ _ hk];simp[fO,Ne.symm e]
 ·have h1:∀f',(xu n f')[k]? =none:=fun f'=>Array.getElem?_eq_none (by rw[uU];omega);rw[h1,h1,if_neg (by omega)]
theorem RN(n:Nat)(f:Nat→Int):(xu n f).all (·.oneCell')=true:=by rw[Array.all_eq_true];intro i hi;simp only[xu,Array.getElem_ofFn];rfl
noncomputable def LD (T:TypeId) (x:Value):Sem Value:=Instr.loadAt T x
noncomputable def ST (T:TypeId) (x v:Value):Sem Unit:=Instr.storeAt T x v
theorem cF(x:Value):Instr.loadAt 349 x=LD 349 x:=rfl
theorem cZ(x v:Value):Instr.storeAt 349 x v=ST 349 x v:=rfl
theorem Oo(f:Nat→Int)(j:Nat)(hj:j<25)(W:World):(Instr.index 349 (.agg (xu 25 f)) (.i j)).run Tryz.prog W=.ok (.int .u64 (f j)) W:=by
 have hs:=vz 25 f hj;have h1:(j:Int)<25:=by omega
 have h0:0≤(j:Int):=by omega
 simp[Instr.index,asIntOf,part,hs,h1,h0];intro hc;omega
theorem bi(w:World):(zeroValue 349).run Tryz.prog w=.ok (.agg (xu 25 fun _=>0)) w:=by rw[show xu 25 (fun _=>0)=#[.int .u64 0,.int .u64 0,.int .u64 0,.int .u64 0,.int .u64 0,.int .u64 0,.int .u64 0,.int .u64 0,.int .u64 0,.int .u64 0,.int .u64 0,.int .u64 0,.int .u64 0,.int .u64 0,.int .u64 0,.int .u64 0,.int .u64 0,.int .u64 0,.int .u64 0,.int .u64 0,.int .u64 0,.int .u64 0,.int .u64 0,.int .u64 0,.int .u64 0]by kernel_rfl];exact Tryz.zeroValue349 w
theorem bj(w:World):(zeroValue 373).run Tryz.prog w=.ok (.agg (xu 5 fun _=>0)) w:=by rw[show xu 5 (fun _=>0)=#[.int .u64 0,.int .u64 0,.int .u64 0,.int .u64 0,.int .u64 0]by kernel_rfl];exact Tryz.zeroValue373 w
theorem OY{w0 w:World}{γ:U}{t g:Nat}{f:Nat→Int}(ho:Own w0 w γ)(h:γ t=some (g,.cells (xu 25 f) 349 (0,0))):(loadVar 349 (zc g 0)).run Tryz.prog w=.ok (.agg (xu 25 f)) w:=by
 have hr:w.rangeAt g 0 (xu 25 f).toList:=fun j v hj=>by rw[zy];exact ho.cell h (by simpa using hj)
 have:=run_loadVar_mid (P:=Tryz.prog) w g 0 349 (xu 25 f).toList _ hr Tryz.underlying349 rfl (by rw[yp,uU];kernel_rfl);rw[Array.toArray_toList]at this;exact this
theorem sS{w0 w:World}{γ:U}{t g:Nat}{f:Nat→Int}(ho:Own w0 w γ)(h:γ t=some (g,.cells (xu 25 f) 349 (0,0))):(LD 349 (.p g)).run Tryz.prog w=.ok (.agg (xu 25 f)) w:=by
 have hr:w.rangeAt g 0 (xu 25 f).toList:=fun j v hj=>by rw[zy];exact ho.cell h (by simpa using hj)
 have:=run_loadAt_mid (P:=Tryz.prog) w g 0 349 (xu 25 f).toList _ hr Tryz.underlying349 rfl (by rw[yp,uU];kernel_rfl);rw[Array.toArray_toList]at this;exact this
theorem sU{w0 w:World}{γ:U}{t g:Nat}{f:Nat→Int}(f':Nat→Int)(ho:Own w0 w γ)(h:γ t=some (g,.cells (xu 25 f) 349 (0,0))):(ST 349 (.p g) (.agg (xu 25 f'))).run Tryz.prog w=.ok () (w.setRow g (xu 25 f'))∧Own w0 (w.setRow g (xu 25 f')) (put γ t g (.cells (xu 25 f') 349)):=by refine⟨?_,ho.row h _⟩;unfold ST;simp only[Instr.storeAt,Instr.sureAddr,Sem.run_bind,Sem.run_pure,Result.andThen];exact run_storeVar_row _ _ 349 349 _ _ (ho.own t g _ h).2 (by rw[uU];kernel_rfl) (by rw[uU,uU]) (RN _ _)
def Ends(g:Nat)(f:Nat→Int)(w:World):Prop:=∀(fn:Func) (p:Tmp) (tmps:Array Value),fn.results=#[.cell p 349]→tmps.getD p undef=.p g→(results fn tmps).run Tryz.prog w=.ok (.agg (xu 25 f)) w
theorem kD{w0 w:World}{γ:U}{t g:Nat}{f:Nat→Int}(ho:Own w0 w γ)(h:γ t=some (g,.cells (xu 25 f) 349 (0,0))):Ends g f w:=fun fn p tmps h1 h2=>results_cell_row h1 tmps w g 349 _ (0,0) _ h2 (ho.own t g _ h).2 Tryz.underlying349 rfl (by rw[uU];kernel_rfl)
end
section
open Go.RowKit Go.WideShapes
attribute [local go_sem ↓] cF cZ bi bj
attribute [local irreducible] xu LD ST
theorem RK{w:World}(f:Nat→Int):Calls Tryz.prog 288 #[.agg (xu 25 f)] w fun e w'=>(∃f',e=.returned (.agg (xu 25 f')))∧Below w.heap.size w w':=by
 obtain⟨γ,o,b1,b2,b3⟩:∃γ,Own w (((w.alloc (.cells (xu 25 f) 349)).alloc (.cells (xu 25 fun _=>0) 349)).alloc (.cells (xu 5 fun _=>0) 373)) γ∧γ 1=some (w.heap.size,.cells (xu 25 f) 349 (0,0))∧γ 2=some (w.heap.size+1,.cells (xu 25 fun _=>0) 349 (0,0))∧γ 3=some (w.heap.size+1+1,.cells (xu 5 fun _=>0) 373 (0,0)):=by obtain⟨γ,o,b1,b2,b3,-⟩:=rp (Own.start w) 1 2 3 (by omega) (by omega) (by omega) (xu 25 f) (xu 25 fun _=>0) (xu 5 fun _=>0) 349 349 373;exact⟨γ,o,b1,b2,b3⟩
 have l1:=sS o b1;go_in;go_wp2_with fail;have H0:Hid (∃c γ',Own w (((w.alloc (.cells (xu 25 f) 349)).alloc (.cells (xu 25 fun _=>0) 349)).alloc (.cells (xu 5 fun _=>0) 373)) γ'∧γ' 1=some (w.heap.size,.cells (xu 25 f) 349 (0,0))∧γ' 2=some (w.heap.size+1,.cells (xu 25 fun _=>0) 349 (0,0))∧γ' 3=some (w.heap.size+1+1,.cells (xu 5 c) 373 (0,0))):=I ⟨_,γ,o,b1,b2,b3⟩;generalize((w.alloc (.cells (xu 25 f) 349)).alloc (.cells (xu 25 fun _=>0) 349)).alloc (.cells (xu 5 fun _=>0) 373)=W0 at*;clear o b1 b2 b3 l1;have hsz:=uU 25 f;go_loopw [9] (fun i wr=>∃(j:Nat),i=.i j∧j≤25∧∃c γ',Own w wr γ'∧γ' 1=some (w.heap.size,.cells (xu 25 f) 349 (0,0))∧γ' 2=some (w.heap.size+1,.cells (xu 25 fun _=>0) 349 (0,0))∧γ' 3=some (w.heap.size+1+1,.cells (xu 5 c) 373 (0,0))) (fun i _=>25-(intOf i).toNat);case atStart=>exact⟨0,rfl,by omega,H0.out⟩
 case round=>
  obtain⟨j,rfl,hj,c,γ',o,b1,b2,b3⟩:=hrel;by_cases hlt:j<25
  ·have dl:decide ((j:Int)<25)=true:=by simp;omega
   have hlt':(j:Int)<25:=by omega
   have hix:=Oo f j hlt;have h5:j%5<5:=Nat.mod_lt _ (by omega);have h5':(j:Int)%5<5:=by omega
   have h5n:0≤(j:Int)%5:=by omega
   have c3:=o.cell b3 (i:=j%5) (vz 5 c h5);have f3:=o.free b3 (j%5);go_wp2_with fail;have o2:=o.set b3 (j%5) (.int .u64 (bits .xor .u64 (c (j%5)) (f j)));rw[qY 5 c h5]at o2;have HF:Hid (∃c' γ'',Own w (wr.setCell (zc (w.heap.size+1+1) (j%5)) (.int .u64 (bits .xor .u64 (c (j%5)) (f j)))) γ''∧γ'' 1=some (w.heap.size,.cells (xu 25 f) 349 (0,0))∧γ'' 2=some (w.heap.size+1,.cells (xu 25 fun _=>0) 349 (0,0))∧γ'' 3=some (w.heap.size+1+1,.cells (xu 5 c') 373 (0,0))):=I ⟨_,_,o2,(yO _ _ _ (by omega)).trans b1,(yO _ _ _ (by omega)).trans b2,yQ _ _ _ _⟩;exact⟨⟨j+1,rfl,by omega,HF.out⟩,by simp[intOf];omega⟩
  ·have dl:decide ((j:Int)<25)=false:=by simp;omega
   have H1:Hid (∃f' c γ',Own w wr γ'∧γ' 1=some (w.heap.size,.cells (xu 25 f') 349 (0,0))∧γ' 2=some (w.heap.size+1,.cells (xu 25 fun _=>0) 349 (0,0))∧γ' 3=some (w.heap.size+1+1,.cells (xu 5 c) 373 (0,0))):=I ⟨_,_,γ',o,b1,b2,b3⟩;clear o b1 b2 b3 H0;go_wp2_with fail;go_loopw [21] (fun i wr=>∃(j:Nat),i=.i j∧j≤25∧∃f' c γ',Own w wr γ'∧γ' 1=some (w.heap.size,.cells (xu 25 f') 349 (0,0))∧γ' 2=some (w.heap.size+1,.cells (xu 25 fun _=>0) 349 (0,0))∧γ' 3=some (w.heap.size+1+1,.cells (xu 5 c) 373 (0,0))) (fun i _=>25-(intOf i).toNat);case atStart=>exact⟨0,rfl,by omega,H1.out⟩
   case round=>
    clear H1;obtain⟨j,rfl,hj,f',c,γ',o,b1,b2,b3⟩:=hrel;by_cases hlt:j<25
    ·have dl:decide ((j:Int)<25)=true:=by simp;omega
     have hlt':(j:Int)<25:=by omega
     have HC:Hid (∀W,Own w W γ'→W.cell? (zc w.heap.size j)=some (.int .u64 (f' j))∧W.cell? (zc (w.heap.size+1+1) 0)=some (.int .u64 (c 0))∧W.cell? (zc (w.heap.size+1+1) 1)=some (.int .u64 (c 1))∧W.cell? (zc (w.heap.size+1+1) 2)=some (.int .u64 (c 2))∧W.cell? (zc (w.heap.size+1+1) 3)=some (.int .u64 (c 3))∧W.cell? (zc (w.heap.size+1+1) 4)=some (.int .u64 (c 4))):=I fun W hW=>⟨hW.cell b1 (vz 25 f' hlt),hW.cell b3 (vz 5 c (by omega)),hW.cell b3 (vz 5 c (by omega)),hW.cell b3 (vz 5 c (by omega)),hW.cell b3 (vz 5 c (by omega)),hW.cell b3 (vz 5 c (by omega))⟩;have HO:=I o.drew;have HS:Hid (∀x,∃f' c γ'',Own w (wr.drew.setCell (zc w.heap.size j) (.int .u64 x)) γ''∧γ'' 1=some (w.heap.size,.cells (xu 25 f') 349 (0,0))∧γ'' 2=some (w.heap.size+1,.cells (xu 25 fun _=>0) 349 (0,0))∧γ'' 3=some (w.heap.size+1+1,.cells (xu 5 c) 373 (0,0))):=I fun x=>by have o2:=o.drew.set b1 j (.int .u64 x);rw[qY 25 f' hlt]at o2;exact⟨_,_,_,o2,yQ _ _ _ _,(yO _ _ _ (by omega)).trans b2,(yO _ _ _ (by omega)).trans b3⟩
     have hfz:=o.drew.free b1 j;have hcell:=o.drew.cell b1 (vz 25 f' hlt);clear o b1 b2 b3;go_wp2_with fail;generalize hx:(j:Int)%5=x;have n1:IntKind.i64.wrap 1=1:=by decide
     have n2:IntKind.i64.wrap 2=2:=by decide
     have n3:IntKind.i64.wrap 3=3:=by decide
     have n4:IntKind.i64.wrap 4=4:=by decide
     have n5:IntKind.i64.wrap 5=5:=by decide
     have n6:IntKind.i64.wrap 6=6:=by decide
     have n7:IntKind.i64.wrap 7=7:=by decide
     have n8:IntKind.i64.wrap 8=8:=by decide
     have n9:IntKind.i64.wrap 9=9:=by decide
     have n41:IntKind.i64.wrap (5-1)=4:=by decide
     rcases(by omega:x=0∨x=1∨x=2∨x=3∨x=4)with rfl|rfl|rfl|rfl|rfl;all_goals
      refine yP.region [0,1,2,3,4,5,6,7,8,9,10,11,12,13] (.step 14 (.step 15 (.step 16 (.step 17 (.step 18 .done))))) (fun w'=>Own w w' γ') (by kernel_rfl) (by kernel_rfl) (fun _ _ _ _ _ h=>h) HO.out ?_;repeat
       refine Perm.xm rfl ?_ (fun w' hS=>?_) ?_;rotate_left
       ·(obtain⟨q,q0,q1,q2,q3,q4⟩:=HC.out _ hS;clear hS;go_simp;try with_reducible rfl)
       simp only[pt]
      refine Perm.xt ?_;generalize wr.drew=wd at*;refine yP.yY rfl (by rfl) ?_;refine yP.xJ rfl 291 _ _ rfl (by kernel_rfl) _ rfl ((Sw _ 1 (by omega)).mono ?_);rintro e w5 ⟨⟨n,rfl⟩,rfl⟩;refine⟨_,rfl,fun _ h=>h,?_⟩;simp only[pt];repeat
       refine yP.xA rfl (by rfl) ?_ (fun w'=>?_) ?_;rotate_left
       ·(go_simp;try with_reducible rfl)
       simp only[pt]
      refine yP.yY rfl (by rfl) ?_;refine yP.rP rfl (.pointer (some (zc w.heap.size j))) (by go_simp;try with_reducible rfl) ?_;simp only[pt];refine yP.yY rfl (by rfl) ?_;refine yP.xy rfl .skip undef (.inr ⟨rfl,rfl⟩) (w':=wd.setCell (zc w.heap.size j) (.int .u64 _)) (by go_simp;try with_reducible rfl) (Perm.xx (by kernel_rfl)) ?_;simp only[pt];refine yP.xC ?_;clear hfz hcell HC HO;go_wp2_with fail;exact⟨⟨j+1,rfl,by omega,HS.out _⟩,by simp[intOf];omega⟩
    ·have dl:decide ((j:Int)<25)=false:=by simp;omega
     have l1:=sS o b1;obtain⟨s2,o2⟩:=sU f' o b2;have HE:=I (kD o2 (yQ _ _ _ _));have HB:=I o2.1;clear o o2 b1 b2 b3;go_wp2_with fail;exact bodyPost_ret (HE.out _ _ _ rfl rfl) rfl ⟨⟨f',rfl⟩,HB.out⟩
end
section
open Go.RowKit Go.WideShapes
attribute [local go_sem ↓] cF cZ bi bj
attribute [local irreducible] xu LD ST
theorem Zl(x y:Int)(hx:0≤x∧x≤1000)(hy:0≤y∧y≤1000):∃n:Nat,n<25∧∀w,Calls Tryz.prog 290 #[.i x,.i y] w fun e w'=>e=.returned (.i n)∧w'=w:=by obtain⟨a,rfl⟩:∃a:Nat,x=a:=⟨x.toNat,by omega⟩;obtain⟨b,rfl⟩:∃b:Nat,y=b:=⟨y.toNat,by omega⟩;exact⟨a%5+5*(b%5),by omega,fun w=>(Np a b (by omega) (by omega)).mono fun e w' ⟨h1,h2⟩=>⟨h1,h2.symm⟩⟩
theorem Oq{w:World}(f:Nat→Int):Calls Tryz.prog 286 #[.agg (xu 25 f)] w fun e w'=>(∃f',e=.returned (.agg (xu 25 f')))∧Below w.heap.size w w':=by
 obtain⟨γ,o,b1,b2,b3⟩:∃γ,Own w (((w.alloc (.cells (xu 25 f) 349)).alloc (.cells (xu 25 fun _=>0) 349)).alloc (.cells (xu 25 fun _=>0) 349)) γ∧γ 1=some (w.heap.size,.cells (xu 25 f) 349 (0,0))∧γ 2=some (w.heap.size+1,.cells (xu 25 fun _=>0) 349 (0,0))∧γ 3=some (w.heap.size+1+1,.cells (xu 25 fun _=>0) 349 (0,0)):=by obtain⟨γ,o,b1,b2,b3,-⟩:=rp (Own.start w) 1 2 3 (by omega) (by omega) (by omega) (xu 25 f) (xu 25 fun _=>0) (xu 25 fun _=>0) 349 349 349;exact⟨γ,o,b1,b2,b3⟩
 have l1:=sS o b1;obtain⟨γ0,o0,b0⟩:∃γ0,Own w ((w.alloc (.cells (xu 25 f) 349)).alloc (.cells (xu 25 fun _=>0) 349)) γ0∧γ0 1=some (w.heap.size,.cells (xu 25 f) 349 (0,0)):=by obtain⟨γ,o,b1,-⟩:=vv (Own.start w) 1 2 (by omega) (xu 25 f) (xu 25 fun _=>0) 349 349;exact⟨γ,o,b1⟩
 have l0:=sS o0 b0;obtain⟨s3,o3⟩:=sU f o b3;have H0:Hid (∃f' γ',Own w ((((w.alloc (.cells (xu 25 f) 349)).alloc (.cells (xu 25 fun _=>0) 349)).alloc (.cells (xu 25 fun _=>0) 349)).setRow (w.heap.size+1+1) (xu 25 f)) γ'∧γ' 1=some (w.heap.size,.cells (xu 25 f) 349 (0,0))∧γ' 2=some (w.heap.size+1,.cells (xu 25 fun _=>0) 349 (0,0))∧γ' 3=some (w.heap.size+1+1,.cells (xu 25 f') 349 (0,0))):=I ⟨_,_,o3,(yO _ _ _ (by omega)).trans b1,(yO _ _ _ (by omega)).trans b2,yQ _ _ _ _⟩;clear o b1 b2 b3 o0 b0 o3;go_in;go_wp2_with fail;generalize(((w.alloc (.cells (xu 25 f) 349)).alloc (.cells (xu 25 fun _=>0) 349)).alloc (.cells (xu 25 fun _=>0) 349)).setRow (w.heap.size+1+1) (xu 25 f)=W0 at*;clear l1 l0 s3;go_loopw [8] (fun i wr=>∃(j:Nat),i=.i j∧j≤25∧∃f' γ',Own w wr γ'∧γ' 1=some (w.heap.size,.cells (xu 25 f) 349 (0,0))∧γ' 2=some (w.heap.size+1,.cells (xu 25 fun _=>0) 349 (0,0))∧γ' 3=some (w.heap.size+1+1,.cells (xu 25 f') 349 (0,0))) (fun i _=>25-(intOf i).toNat)
 case atStart=>exact⟨0,rfl,by omega,H0.out⟩
 case round=>
  clear H0;obtain⟨j,rfl,hj,f',γ',o,b1,b2,b3⟩:=hrel;by_cases hlt:j<25
  ·have dl:decide ((j:Int)<25)=true:=by simp;omega
   have hlt':(j:Int)<25:=by omega
   have HO:=I o.drew;have HC:Hid (∀n:Nat,n<25→wr.cell? (zc w.heap.size n)=some (.int .u64 (f n))):=I fun n hn=>o.cell b1 (vz 25 f hn);have c3:=o.cell b3 (vz 25 f' hlt);have f3:=o.free b3 j;have HS:Hid (∀x,∃f' γ'',Own w (wr.drew.setCell (zc (w.heap.size+1+1) j) (.int .u64 x)) γ''∧γ'' 1=some (w.heap.size,.cells (xu 25 f) 349 (0,0))∧γ'' 2=some (w.heap.size+1,.cells (xu 25 fun _=>0) 349 (0,0))∧γ'' 3=some (w.heap.size+1+1,.cells (xu 25 f') 349 (0,0))):=I fun x=>by have o2:=o.drew.set b3 j (.int .u64 x);rw[qY 25 f' hlt]at o2;exact⟨_,_,o2,(yO _ _ _ (by omega)).trans b1,(yO _ _ _ (by omega)).trans b2,yQ _ _ _ _⟩
   clear o b1 b2 b3;go_wp2_with fail;have hx1:0≤(j:Int)%5:=by omega
   have hx2:(j:Int)%5<5:=by omega
   have hy1:0≤(j:Int)/5:=by omega
   have hy2:(j:Int)/5<5:=by omega
   generalize(j:Int)%5=x at*;generalize(j:Int)/5=y at*;have w2:IntKind.i64.wrap (x+2)=x+2:=by rw[IntKind.wrap_i64];omega
   have w1:IntKind.i64.wrap (x+1)=x+1:=by rw[IntKind.wrap_i64];omega
   obtain⟨n,hn,hcn⟩:=Zl (x+2) y (by omega) (by omega);obtain⟨m,hm,hcm⟩:=Zl (x+1) y (by omega) (by omega);have c1:=HC.out n hn;have hn':(n:Int)<25:=by omega
   have c2:=HC.out m hm;have hm':(m:Int)<25:=by omega
   clear HC HO;go_still_tail 17,(by kernel_rfl);still_call (hcn _);repeat still_step
   still_call (hcm _);repeat still_step
   try refine wpStill_nil ?_
   go_wp2_with fail;trace_state;exact⟨⟨j+1,rfl,by omega,HS.out _⟩,by simp[intOf];omega⟩
  ·have dl:decide ((j:Int)<25)=false:=by simp;omega
   have l1:=sS o b3;obtain⟨s2,o2⟩:=sU f' o b2;have HE:=I (kD o2 (yQ _ _ _ _));have HB:=I o2.1;clear o o2 b1 b2 b3;go_wp2_with fail;exact bodyPost_ret (HE.out _ _ _ rfl rfl) rfl ⟨⟨f',rfl⟩,HB.out⟩
end
section
open Go.RowKit Go.WideShapes
attribute [local go_sem ↓] cF cZ bi bj
attribute [local irreducible] xu LD ST
theorem Py{w:World}(x y:Int)(hy:0≤y∧y<64):Calls Tryz.prog 291 #[.int .u64 x,.i y] w fun e w'=>(∃n:Int,e=.returned (.int .u64 n))∧w=w':=by obtain⟨b,rfl⟩:∃b:Nat,y=b:=⟨y.toNat,by omega⟩;exact Sw x b (by omega)
theorem Px{w:World}(f:Nat→Int):Calls Tryz.prog 287 #[.agg (xu 25 f)] w fun e w'=>(∃f',e=.returned (.agg (xu 25 f')))∧Below w.heap.size w w':=by
 obtain⟨γ,o,b1,b2⟩:∃γ,Own w ((w.alloc (.cells (xu 25 f) 349)).alloc (.cells (xu 25 fun _=>0) 349)) γ∧γ 1=some (w.heap.size,.cells (xu 25 f) 349 (0,0))∧γ 2=some (w.heap.size+1,.cells (xu 25 fun _=>0) 349 (0,0)):=by obtain⟨γ,o,b1,b2,-⟩:=vv (Own.start w) 1 2 (by omega) (xu 25 f) (xu 25 fun _=>0) 349 349;exact⟨γ,o,b1,b2⟩
 have c0:=o.cell b1 (vz 25 f (i:=0) (by omega));have hne:¬(xu 25 fun _=>0)=#[]:=fun h=>by have:=congrArg Array.size h;rw[uU]at this;simp at this
 have hsz:=uU 25 fun _=>0;have hs0:=qY 25 (fun _=>0) (i:=0) (by omega) (f 0);obtain⟨γ3,o3,k1,k2,k3⟩:∃γ,Own w (((w.alloc (.cells (xu 25 f) 349)).alloc (.cells (xu 25 fun _=>0) 349)).alloc (.cells (xu 25 fun _=>0) 349)) γ∧γ 1=some (w.heap.size,.cells (xu 25 f) 349 (0,0))∧γ 2=some (w.heap.size+1,.cells (xu 25 fun _=>0) 349 (0,0))∧γ 3=some (w.heap.size+1+1,.cells (xu 25 fun _=>0) 349 (0,0)):=by obtain⟨γ,o,b1,b2,b3,-⟩:=rp (Own.start w) 1 2 3 (by omega) (by omega) (by omega) (xu 25 f) (xu 25 fun _=>0) (xu 25 fun _=>0) 349 349 349;exact⟨γ,o,b1,b2,b3⟩
 obtain⟨s3,o3⟩:=sU (fO (fun _=>0) 0 (f 0)) o3 k3;have H0:Hid (∃f' γ',Own w ((((w.alloc (.cells (xu 25 f) 349)).alloc (.cells (xu 25 fun _=>0) 349)).alloc (.cells (xu 25 fun _=>0) 349)).setRow (w.heap.size+1+1) (xu 25 (fO (fun _=>0) 0 (f 0)))) γ'∧γ' 1=some (w.heap.size,.cells (xu 25 f) 349 (0,0))∧γ' 2=some (w.heap.size+1,.cells (xu 25 fun _=>0) 349 (0,0))∧γ' 3=some (w.heap.size+1+1,.cells (xu 25 f') 349 (0,0))):=I ⟨_,_,o3,(yO _ _ _ (by omega)).trans k1,(yO _ _ _ (by omega)).trans k2,yQ _ _ _ _⟩;clear o b1 b2 o3 k1 k2 k3;go_in;go_wp2_with fail;generalize(((w.alloc (.cells (xu 25 f) 349)).alloc (.cells (xu 25 fun _=>0) 349)).alloc (.cells (xu 25 fun _=>0) 349)).setRow (w.heap.size+1+1) (xu 25 (fO (fun _=>0) 0 (f 0)))=W0 at*;clear s3 hs0 hsz hne c0;go_loopw [4,5,12] (fun x y i wr=>∃(j:Nat) (a b:Int),x=.i a∧y=.i b∧(0≤a∧a<5)∧(0≤b∧b<5)∧i=.i j∧j≤24∧∃f' γ',Own w wr γ'∧γ' 1=some (w.heap.size,.cells (xu 25 f) 349 (0,0))∧γ' 2=some (w.heap.size+1,.cells (xu 25 fun _=>0) 349 (0,0))∧γ' 3=some (w.heap.size+1+1,.cells (xu 25 f') 349 (0,0))) (fun _ _ i _=>24-(intOf i).toNat)
 case atStart=>exact⟨0,1,0,rfl,rfl,by omega,by omega,rfl,by omega,H0.out⟩
 case round=>
  clear H0;obtain⟨j,a,b,rfl,rfl,ha,hb,rfl,hj,f',γ',o,b1,b2,b3⟩:=hrel;by_cases hlt:j<24
  ·have dl:decide ((j:Int)<24)=true:=by simp;omega
   have hlt':(j:Int)<24:=by omega
   have HC:Hid (∀n:Nat,n<25→wr.cell? (zc w.heap.size n)=some (.int .u64 (f n))):=I fun n hn=>o.cell b1 (vz 25 f hn);have HD:Hid (∀n:Nat,n<25→wr.cell? (zc (w.heap.size+1+1) n)=some (.int .u64 (f' n))∧wr.frozen? (zc (w.heap.size+1+1) n)=false):=I fun n hn=>⟨o.cell b3 (vz 25 f' hn),o.free b3 n⟩;have HS:Hid (∀n x,n<25→∃f' γ'',Own w (wr.setCell (zc (w.heap.size+1+1) n) (.int .u64 x)) γ''∧γ'' 1=some (w.heap.size,.cells (xu 25 f) 349 (0,0))∧γ'' 2=some (w.heap.size+1,.cells (xu 25 fun _=>0) 349 (0,0))∧γ'' 3=some (w.heap.size+1+1,.cells (xu 25 f') 349 (0,0))):=I fun n x hn=>by have o2:=o.set b3 n (.int .u64 x);rw[qY 25 f' hn]at o2;exact⟨_,_,o2,(yO _ _ _ (by omega)).trans b1,(yO _ _ _ (by omega)).trans b2,yQ _ _ _ _⟩
   clear o b1 b2 b3;obtain⟨P,hP,hP0⟩:∃P:Int,((j:Int)+1)*((j:Int)+2)=P∧0≤P∧P≤1000:=by
    refine⟨_,rfl,Int.mul_nonneg (by omega) (by omega),?_⟩;have:=Nat.mul_le_mul (show j+1≤24 by omega) (show j+2≤25 by omega);have e:((j:Int)+1)*((j:Int)+2)=(((j+1)*(j+2):Nat):Int):=by push_cast;rfl
    rw[e];omega
   have hq1:0≤(2*a+3*b)%5:=by omega
   have hq2:(2*a+3*b)%5<5:=by omega
   go_wp2_with fail;obtain⟨n,hn,hcn⟩:=Zl b ((2*a+3*b)%5) (by omega) (by omega);obtain⟨m,hm,hcm⟩:=Zl a b (by omega) (by omega);generalize(2*a+3*b)%5=q at*;refine(hcn _).mono ?_;rintro e w2 ⟨rfl,rfl⟩;go_wp2_with fail;refine(hcm _).mono ?_;rintro e w2 ⟨rfl,rfl⟩;have c1:=HC.out m hm;have hm':(m:Int)<25:=by omega
   obtain⟨d1,d2⟩:=HD.out n hn;have hn':(n:Int)<25:=by omega
   clear HC HD;go_wp2_with fail;refine(Py _ _ (by omega)).mono ?_;rintro e w2 ⟨⟨z,rfl⟩,rfl⟩;go_wp2_with fail;exact⟨⟨j+1,_,_,rfl,rfl,by omega,by omega,rfl,by omega,HS.out _ _ hn⟩,by simp[intOf];omega⟩
  ·have dl:decide ((j:Int)<24)=false:=by simp;omega
   have l1:=sS o b3;obtain⟨s2,o2⟩:=sU f' o b2;have HE:=I (kD o2 (yQ _ _ _ _));have HB:=I o2.1;clear o o2 b1 b2 b3;go_wp2_with fail;exact bodyPost_ret (HE.out _ _ _ rfl rfl) rfl ⟨⟨f',rfl⟩,HB.out⟩
end
section
open Go.RowKit Go.WideShapes
attribute [local go_sem ↓] cF cZ bi bj
attribute [local irreducible] xu LD ST
theorem RJ{w:World}(f:Nat→Int)(y:Nat)(hy:y<24):Calls Tryz.prog 282 #[.agg (xu 25 f),.i y] w fun e w'=>(∃f',e=.returned (.agg (xu 25 f')))∧Below w.heap.size w w':=by
 obtain⟨γ,o,b1,b2⟩:∃γ,Own w ((w.alloc (.cells (xu 25 f) 349)).alloc (.cells (xu 25 fun _=>0) 349)) γ∧γ 1=some (w.heap.size,.cells (xu 25 f) 349 (0,0))∧γ 2=some (w.heap.size+1,.cells (xu 25 fun _=>0) 349 (0,0)):=by obtain⟨γ,o,b1,b2,-⟩:=vv (Own.start w) 1 2 (by omega) (xu 25 f) (xu 25 fun _=>0) 349 349;exact⟨γ,o,b1,b2⟩
 have l1:=sS o b1;have hy':(y:Int)<24:=by omega
 have hd:decide ((24:Int)≤y)=false:=by simp;omega
 have hd0:decide ((y:Int)<0)=false:=by simp
 have H0:=I o;have H1:=I b1;have H2:=I b2;clear o b1 b2;go_in;go_wp2_with fail;refine(RK f).mono ?_;rintro e w1 ⟨⟨f1,rfl⟩,hb1⟩;have O1:=I (H0.out.xh hb1);clear hb1 l1;go_wp2_with fail;refine(Px f1).mono ?_;rintro e w2 ⟨⟨f2,rfl⟩,hb2⟩;have O2:=I (O1.out.xh hb2);clear hb2;go_wp2_with fail;refine(Oq f2).mono ?_;rintro e w3 ⟨⟨f3,rfl⟩,hb3⟩;have o3:=O2.out.xh hb3;obtain⟨s3,o4⟩:=sU f3 o3 H1.out;have b1:=yQ γ 1 w.heap.size (.cells (xu 25 f3) 349 (0,0));have b2:=(yO γ w.heap.size (.cells (xu 25 f3) 349 (0,0)) (show 2≠1 by omega)).trans H2.out;have HO:=I o4.drew;generalize put γ 1 w.heap.size (.cells (xu 25 f3) 349 (0,0))=γ4 at*;have HC:Hid (∀W,Own w W γ4→W.cell? (zc w.heap.size 0)=some (.int .u64 (f3 0))):=I fun W hW=>hW.cell b1 (vz 25 f3 (by omega));have hfz:=o4.drew.free b1 0;have hcell:=o4.drew.cell b1 (vz 25 f3 (i:=0) (by omega));have HE:Hid (∀x,∃f4 W,(LD 349 (.p w.heap.size)).run Tryz.prog ((w3.setRow w.heap.size (xu 25 f3)).drew.setCell (zc w.heap.size 0) (.int .u64 x))=.ok (.agg (xu 25 f4)) ((w3.setRow w.heap.size (xu 25 f3)).drew.setCell (zc w.heap.size 0) (.int .u64 x))∧(ST 349 (.p (w.heap.size+1)) (.agg (xu 25 f4))).run Tryz.prog ((w3.setRow w.heap.size (xu 25 f3)).drew.setCell (zc w.heap.size 0) (.int .u64 x))=.ok () W∧Ends (w.heap.size+1) f4 W∧Below w.heap.size w W):=I fun x=>by have o5:=o4.drew.set b1 0 (.int .u64 x);rw[qY 25 f3 (by omega)]at o5;obtain⟨s6,o6⟩:=sU (fO f3 0 x) o5 ((yO _ _ _ (by omega)).trans b2);exact⟨_,_,sS o5 (yQ _ _ _ _),s6,kD o6 (yQ _ _ _ _),o6.1⟩
 clear o3 o4 b1 b2 hb3 H0 H1 H2 O1 O2;go_wp2_with fail;clear s3;refine yP.region [0,1,2] (.step 3 (.step 4 (.step 5 (.step 6 .done)))) (fun w'=>Own w w' γ4) (by kernel_rfl) (by kernel_rfl) (fun _ _ _ _ _ h=>h) HO.out ?_;repeat
  refine Perm.xm rfl ?_ (fun w' hS=>?_) ?_;rotate_left
  ·(have q:=HC.out _ hS;clear hS;go_simp;try with_reducible rfl)
  simp only[pt]
 refine Perm.xt ?_;generalize(w3.setRow w.heap.size (xu 25 f3)).drew=wd at*;refine yP.yY rfl (by rfl) ?_;refine yP.xJ rfl 289 _ _ rfl (by kernel_rfl) _ rfl ((Pw y hy).mono ?_);rintro e w5 ⟨⟨n,rfl⟩,rfl⟩;refine⟨_,rfl,fun _ h=>h,?_⟩;simp only[pt];repeat
  refine yP.xA rfl (by rfl) ?_ (fun w'=>?_) ?_;rotate_left
  ·(go_simp;try with_reducible rfl)
  simp only[pt]
 refine yP.yY rfl (by rfl) ?_;refine yP.rP rfl (.p w.heap.size) (by go_simp;try with_reducible rfl) ?_;simp only[pt];refine yP.yY rfl (by rfl) ?_;refine yP.xy rfl .skip undef (.inr ⟨rfl,rfl⟩) (w':=wd.setCell (zc w.heap.size 0) (.int .u64 _)) (by go_simp;try with_reducible rfl) (Perm.xx (by kernel_rfl)) ?_;simp only[pt];refine yP.xC ?_;obtain⟨f4,W,l1,s2,hE,hB⟩:=HE.out (bits .xor .u64 (f3 0) n);replace hE:=I hE;replace hB:=I hB;clear hfz hcell HC HO HE;go_wp2_with fail;exact bodyPost_ret (hE.out _ _ _ rfl rfl) rfl ⟨⟨f4,rfl⟩,hB.out⟩
theorem V6{w:World}(f:Nat→Int):Calls Tryz.prog 267 #[.agg (xu 25 f)] w fun e w'=>(∃f',e=.returned (.agg (xu 25 f')))∧Below w.heap.size w w':=by
 obtain⟨γ,o,b1,b2⟩:∃γ,Own w ((w.alloc (.cells (xu 25 f) 349)).alloc (.cells (xu 25 fun _=>0) 349)) γ∧γ 1=some (w.heap.size,.cells (xu 25 f) 349 (0,0))∧γ 2=some (w.heap.size+1,.cells (xu 25 fun _=>0) 349 (0,0)):=by obtain⟨γ,o,b1,b2,-⟩:=vv (Own.start w) 1 2 (by omega) (xu 25 f) (xu 25 fun _=>0) 349 349;exact⟨γ,o,b1,b2⟩
 have H0:Hid (∃f' γ',Own w ((w.alloc (.cells (xu 25 f) 349)).alloc (.cells (xu 25 fun _=>0) 349)) γ'∧γ' 1=some (w.heap.size,.cells (xu 25 f') 349 (0,0))∧γ' 2=some (w.heap.size+1,.cells (xu 25 fun _=>0) 349 (0,0))):=I ⟨_,_,o,b1,b2⟩;clear o b1 b2;go_in;go_wp2_with fail;generalize(w.alloc (.cells (xu 25 f) 349)).alloc (.cells (xu 25 fun _=>0) 349)=W0 at*;go_loopw [4] (fun i wr=>∃(j:Nat),i=.i j∧j≤24∧∃f' γ',Own w wr γ'∧γ' 1=some (w.heap.size,.cells (xu 25 f') 349 (0,0))∧γ' 2=some (w.heap.size+1,.cells (xu 25 fun _=>0) 349 (0,0))) (fun i _=>24-(intOf i).toNat);case atStart=>exact⟨0,rfl,by omega,H0.out⟩
 case round=>
  clear H0;obtain⟨j,rfl,hj,f',γ',o,b1,b2⟩:=hrel;have l1:=sS o b1;by_cases hlt:j<24
  ·have dl:decide ((j:Int)<24)=true:=by simp;omega
   have HH:Hid (∀f2 W,Below wr.heap.size wr W→∃W2,(ST 349 (.p w.heap.size) (.agg (xu 25 f2))).run Tryz.prog W=.ok () W2∧∃f' γ',Own w W2 γ'∧γ' 1=some (w.heap.size,.cells (xu 25 f') 349 (0,0))∧γ' 2=some (w.heap.size+1,.cells (xu 25 fun _=>0) 349 (0,0))):=I fun f2 W hW=>by obtain⟨s,o2⟩:=sU f2 (o.xh hW) b1;exact⟨_,s,_,_,o2,yQ _ _ _ _,(yO _ _ _ (by omega)).trans b2⟩
   clear o b1 b2;go_wp2_with fail;refine(RJ f' j hlt).mono ?_;rintro e w2 ⟨⟨f2,rfl⟩,hb⟩;obtain⟨W2,s2,hex⟩:=HH.out f2 w2 hb;replace hex:=I hex;clear HH hb l1;go_wp2_with fail;exact⟨⟨j+1,rfl,by omega,hex.out⟩,by simp[intOf];omega⟩
  ·have dl:decide ((j:Int)<24)=false:=by simp;omega
   obtain⟨s2,o2⟩:=sU f' o b2;have HE:=I (kD o2 (yQ _ _ _ _));have HB:=I o2.1;clear o o2 b1 b2;go_wp2_with fail;exact bodyPost_ret (HE.out _ _ _ rfl rfl) rfl ⟨⟨f',rfl⟩,HB.out⟩
end
section
open Go.RowKit Go.WideShapes
def wv(l:List Int):List Value:=l.map (Value.int .u8)
theorem tG(l:List Int):(wv l).length=l.length:=by simp[wv]
theorem eN(l:List Int):∀u∈wv l,u.oneCell'=true:=by intro u hu;obtain⟨x,-,rfl⟩:=yc.1 hu;rfl
theorem Tc{w:World}(g i n cap:Nat)(hn:n≤8)(hc:∀j,j<n→∃x,w.cell? (zc g (i+j))=some (.int .u8 x))(hcap:n≤cap):Calls Tryz.prog 266 #[.slice (some (zc g i)) n cap] w fun e w'=>(∃r:Int,e=.returned (.int .u64 r))∧w=w':=by
 have h8:(n:Int)≤8:=by omega
 go_in;go_wp2_with fail;go_loopw [3,8] (fun r k wr=>w=wr∧∃(j:Nat) (a:Int),r=.int .u64 a∧k=.i j∧j≤n) (fun _ k _=>n-(intOf k).toNat);case atStart=>exact⟨rfl,0,0,rfl,rfl,by omega⟩
 case round=>
  obtain⟨rfl,j,a,rfl,rfl,hj⟩:=hrel;by_cases hlt:j<n
  ·have dl:decide ((j:Int)<n)=true:=by simp;omega
   obtain⟨x,hx⟩:=hc j hlt;go_wp2_with fail;exact⟨⟨trivial,j+1,_,rfl,rfl,by omega⟩,by simp[intOf];omega⟩
  ·have dl:decide ((j:Int)<n)=false:=by simp;omega
   go_wp2_with fail;go_ret;exact⟨⟨_,rfl⟩,rfl⟩
end
section
open Go.RowKit Go.WideShapes
theorem Tryz.eF:(Tryz.prog.info? 5).map (fun i=>(i.zero,i.size,i.bytes))=some (some (.int .u8 0),1,1):=by kernel_rfl
theorem Wa(a:Addr)(n cap:Nat)(w:World):(binOp .eql 245 (.slice (some a) n cap) (.slice none 0 0)).run Tryz.prog w=.ok (.bool false) w:=by kernel_rfl
theorem Sb(l:List Int)(x:Int):wv l++[.int .u8 x]=wv (l++[x]):=by simp[wv]
theorem Qt(l:List Int)(i:Nat)(h:i<l.length):(wv l).getD i undef=.int .u8 (l.getD i 0):=by simp[wv,zn,h]
theorem Qv(l:List Int)(i:Nat)(x:Int):(wv l).set i (.int .u8 x)=wv (l.set i x):=by simp[wv,List.map_set]
section
variable {w0 w:World} {γ:U} {n:Nat} {l:List Int}
theorem U9{g off cap:Nat}(hr:Reads w 1 (.slice (some (zc g off)) n cap) n (wv l))(ho:Own w0 w γ)(hn:n≤1000)(t:Nat):Calls Tryz.prog 281 #[.slice (some (zc g off)) n cap] w fun e w'=>∃g' c' γ',e=.returned (.slice g' n c')∧Own w0 w' γ'∧yR γ' t 5 1 (.slice g' n c') n (wv l)∧∀k,k≠t→γ' k=γ k:=by
 have h1:=ho.new t (.cells #[] 5);have hb:=Wa (zc g off) n cap w;have HO:=I h1;have HR:Hid (Reads (w.alloc (.cells #[] 5)) 1 (.slice (some (zc g off)) n cap) n (wv l)):=I (hr.keep fun p u hp=>xU hp _);have HS:Hid (yR (put γ t w.heap.size (.cells #[] 5)) t 5 1 (.slice (zb w.heap.size) 0 0) 0 []):=I ⟨rfl,.inr ⟨_,0,_,rfl,yQ _ _ _ _,zm _,by unfold maxLen;omega,rfl,rfl⟩⟩;clear hr ho h1;go_in;go_wp2_with (at_builtin;refine xG rfl (.tmp 5) (.tmp 6) 245 rfl 5 _ 1 1 Tryz.underlying245 Tryz.eF rfl (by decide) HO.out HS.out rfl HR.out rfl ?_ ?_ ?_)
 ·unfold maxLen;omega
 ·omega
 intro A' cap' w2 γ3 hA2 ho4 hs4 hk4;have HF:Hid (∃g' c' γ',Ending.returned (.slice A' n cap')=.returned (.slice g' n c')∧Own w0 w2 γ'∧yR γ' t 5 1 (.slice g' n c') n (wv l)∧∀k,k≠t→γ' k=γ k):=by exact I ⟨_,_,γ3,rfl,ho4,hs4,fun k hk=>(hk4 k hk).trans (yO _ _ _ hk)⟩
 clear hs4 ho4 hk4 hA2;go_wp2_with fail;go_ret;exact HF.out
theorem ZA{t:Nat}{v:Value}{xs:List Value}(ho:Own w0 w γ)(hs:yR γ t 5 1 v n xs)(hx:∀u∈xs,u.oneCell'=true)(hn:0<n)(k:Nat)(hk:0<k)(hnk:n+k≤1000):∃g cap w' γ',(Builtin.append_ #[245,3] 245 #[v,.i k]).run Tryz.prog w=.ok (.slice (zb g) (n+k) cap) w'∧Own w0 w' γ'∧yR γ' t 5 1 (.slice (zb g) (n+k) cap) (n+k) (xs++List.replicate k (.int .u8 0))∧∀j,j≠t→γ' j=γ j:=by
 obtain⟨i,h0,hz,hsize,hby⟩:=info_parts Tryz.eF;obtain⟨g,cap,cur,rfl,hg,h3,h4,h5,h6,hgw,hcells⟩:=hs.gJ ho (by omega);have hb:=(ho.own t g _ hg).1;have hrun:Tryz.prog.underlying 3=some (.int .i64):=Tryz.underlying3;have hxl:xs.length=n:=by simpa using hs.1
 by_cases hroom:n+k≤cap
 ·have hst:=run_storeCells_at Tryz.prog g n 5 (List.replicate k (Value.int .u8 0)) 0 cur w hgw (by rw[zz];omega) (by intro u hu;rw[List.eq_of_mem_replicate hu];rfl);simp only[yv,zz]at hst;have hz':(Builtin.zeroCells (Value.int .u8 0).cells k).toList=List.replicate k (Value.int .u8 0):=by
   apply yb;intro j;simp[Builtin.zeroCells,Value.cells];by_cases hj:j<k
   ·simp[hj,zR,Nat.mod_one]
   ·simp[hj,zR]
  have hw:IntKind.i64.wrap (k:Int)=k:=by rw[IntKind.wrap_i64];omega
  have h48i:¬(281474976710656<(k:Int)):=by omega
  have hneg:¬((k:Int)<0):=by omega
  have hr:(Builtin.append_ #[245,3] 245 #[.slice (zb g) n cap,.i k]).run Tryz.prog w=.ok (.slice (zb g) (n+k) cap) (w.setRow g (cur.toList.take n++List.replicate k (Value.int .u8 0)++cur.toList.drop (n+k)).toArray):=by simp[Builtin.append_,run_underlying Tryz.underlying245,run_underlying hrun,sizeOf,typeInfo,zeroValue,h0,hz,hsize,hby,asInt,asIntOf,hw,hneg,h48i,show k≠0 by omega,hroom,hz',Addr.add_lit,hst]
  have hsz:(cur.toList.take n++List.replicate k (Value.int .u8 0)++cur.toList.drop (n+k)).toArray.size=cap:=by simp only[zH,zr,zE,ya,zz,yp];omega
  refine⟨g,cap,_,_,hr,ho.row hg _,⟨by rw[zr,zz,hxl,yG],.inr ⟨g,cap,_,rfl,yQ _ _ _ _,hroom,h4,by rw[hsz,yG],?_⟩⟩,fun j hj=>yO _ _ _ hj⟩;rw[yG,h6];show(xs++List.replicate k (Value.int .u8 0)++cur.toList.drop (n+k)).take (n+k)=_;rw[yz (by rw[zr,zz,hxl])]
 ·have hold:(Builtin.firstCells i.size n (.slice (zb g) n cap)).run Tryz.prog w.drew=.ok xs.toArray w.drew:=by rw[hsize];exact run_firstCells_some (P:=Tryz.prog) w.drew 1 n (zc g 0) n cap xs (by omega) hcells
  have hr:=Go.Lib.run_append_grow_zeros (P:=Tryz.prog) w 245 3 245 5 i (.int .u8 0) .i64 .i64 Tryz.underlying245 hrun h0 hz (zb g) n cap xs hold k hk (by omega) (by omega) (by omega) (by rw[hby];omega) (growslice_fits (by omega) (by rw[hby];omega));have hge:=grownCap_ge w (n+k) cap 5;have hcm:=grownCap_le_maxLen w (n+k) cap 5 (by unfold maxLen;omega)
  obtain⟨γ',o',s',kk⟩:=qJ (m:=k) (news:=List.replicate k (.int .u8 0)) ho hs rfl (v':=.slice (zb w.heap.size) (n+k) (grownCap w (n+k) cap 5)) (w':=w.drew.alloc (.cells (xs.toArray++Builtin.zeroCells (Value.int .u8 0).cells k++Builtin.zeroCells (Value.int .u8 0).cells (grownCap w (n+k) cap 5-(n+k))) 5)) ⟨by rw[zr,zz,hxl,yG],.inr ⟨w.heap.size,_,_,rfl,ho.below.size,heap_alloc_new w.drew _,hge,hcm,by
   simp only[Array.size_append,zH,size_zeroCells,hxl];show n+k*1+(grownCap w (n+k) cap 5-(n+k))*1=_;omega,by
   have hz':(Builtin.zeroCells (Value.int .u8 0).cells k).toList=List.replicate k (Value.int .u8 0):=by
    apply yb;intro j;simp[Builtin.zeroCells,Value.cells];by_cases hj:j<k
    ·simp[hj,zR,Nat.mod_one]
    ·simp[hj,zR]
   simp only[Array.toList_append,hz'];rw[yG];exact yz (by rw[zr,zz,hxl])⟩⟩
   ⟨rfl,rfl,rfl,by simp,fun j hj _=>heap_alloc_old w.drew _ hj⟩ (.inr rfl)
  exact⟨_,_,_,γ',hr,o',s',kk⟩
end
end
section
open Go.RowKit
section
variable {P:Program} {ops:Array Oper} {Q:Exit→Act→World→Prop} {l n:Nat}
theorem QH(hnd:∀(i:Nat) (o:Oper),ops[i]? =some o→∀c,o.op≠Op.defer c)(hL:¬LetsOut Q){i:Nat}{K K':Act→World→Prop}{a:Act}{w:World}(hK:∀a w,K a w→K' a w)(h:wpOp P ops Q i K a w):wpOpIn (Fence.wide.inRound l) n P ops Q i K' a w:=by
 unfold wpOp at h;unfold wpOpIn;cases ho:ops[i]? with
 |none=>simp only[ho]at h⊢;exact hK _ _ h
 |some o=>
  simp only[ho]at h⊢;by_cases hw:Region.wanted o (yielded ops a.tmps)=true
  ·rw[if_pos hw]at h⊢;rcases h with h|⟨_,h⟩
   ·refine⟨fun _ _=>trivial,?_⟩;rw[Oper.semAt_eq _ _ _ (hnd i o ho)];unfold Oper.wp at h;generalize(execOp a.eval o).run P w=r at h⊢;cases r with
    |ok x w'=>
     cases x with
     |value v=>exact hK _ _ h
     |skip=>exact hK _ _ h
     |defer d=>exact hK _ _ h
     |enter f args=>
      refine⟨fun hd=>(nomatch(show(false=true)from hd)),?_⟩;refine CallsIn.inRound l (callsIn_wide.2 (Calls.mono h fun e w'' he=>?_));cases e with
      |returned v=>exact hK _ _ he
      |panicked chain=>exact he
      |outgrown=>exact he
     |row row args=> refine⟨fun hd=>(nomatch(show(false=true)from hd)),?_⟩;exact fun c cs _=>let⟨v,w'',r,s⟩:=h c cs;⟨v,w'',hK _ _ r,stepsIn_wide.2 s⟩
     |_=>exact h.elim
    |halt x w'=>
     cases x with
     |panic v=>exact h
     |_=>exact h.elim
   ·exact absurd h hL
  ·rw[if_neg hw]at h⊢;exact⟨fun _ _=>trivial,hK _ _ h⟩
theorem Yu(hnd:∀(i:Nat) (o:Oper),ops[i]? =some o→∀c,o.op≠Op.defer c)(hL:¬LetsOut Q)(md:Region.Mode):∀(fuel:Nat) (yZ:Array Bool) (a:Act) (w:World),wpAny P md ops Q fuel yZ a w→wpAnyIn (Fence.wide.inRound l) n P md ops Q fuel yZ a w
 |0,_,_,_,h=>h
 |fuel+1,_,a,w,h=>⟨h.1,fun i hi=>QH hnd hL (fun a w=>Yu hnd hL md fuel _ a w) (h.2 i hi)⟩
end
def Xu(l:List Oper):Bool:=l.all fun o=>match o.op with| .defer _=>false|_=>true
theorem Ws{l:List Oper}(h:Xu l=true):∀(i:Nat) (o:Oper),l.toArray[i]? =some o→∀c,o.op≠Op.defer c:=by intro i o ho c hc;have:=List.all_eq_true.1 h o (zo (by simpa using ho));rw[hc]at this;cases this
namespace yP
open Perm
theorem Yc{P:Program}{Q:Exit→Act→World→Prop}{rl n:Nat}{id:Nat}{a:Act}{w:World}(one:List Nat)(p:yP)(S:World→Prop)(hm:P.follows .mixedOrders=true){l:List Oper}(hd:Xu l=true)(hL:¬LetsOut Q)(hB:XP .any l one p=true)(hQ':∀c (a:Act) t v w,Q (.panic c) (a.put (some t) v) w→Q (.panic c) a w)(hS:S w.drew)(h:tB P l.toArray S (fun a'=>wp P l.toArray Q S (sZ .any l.toArray one) p a' w.drew) one a):(Code.region id l.toArray true).wpIn (Fence.wide.inRound rl) n P Q a w:=by
 have hQ:∀c (a:Act) d v w,Q (.panic c) (a.put d v) w→Q (.panic c) a w:=fun c a d v w h=>by
  cases d with
  |none=>exact h
  |some t=>exact hQ' c a t v w h
 simp only[XP,zL,decide_eq_true_eq]at hB;obtain⟨⟨⟨hsel,hn⟩,h1⟩,h2⟩:=hB;have hc0:uk .any l.toArray (Array.replicate l.length false):=fun j oj _ hl=>by rw[getD_replicate_false]at hl;cases hl
 refine wpIn_region_any hm (Yu (Ws hd) hL _ _ _ _ _ (rK (S:=S) (need:=sZ .any l.toArray one) _ _ _ _ ?_));have hsz:l.toArray.size=l.length:=by simp
 rw[hsz];have hg:=qu (one:=one) (fun _=>rfl) hsel hQ hS one _ a (fun _ h=>h) hc0 h1 (fun a' hK hc=>pE hsel hQ p _ a' w.drew hc h2 hK) h;rw[hn]at hg;exact hg
end yP
end
section
open Go.RowKit Go.WideShapes
section
variable {w0 w:World} {γ:U} {n:Nat} {l:List Int}
theorem kS(ho:Own w0 w γ)(x:Int):Own w0 (w.alloc (.cells #[.int .u8 x] 5)) γ∧Reads (w.alloc (.cells #[.int .u8 x] 5)) 1 (.slice (zb w.heap.size) 1 1) 1 (wv [x]):=⟨ho.xh ((Below.refl _ _).alloc (zm _) _),.inr ⟨_,1,rfl,rfl,dM,eN _⟩⟩
theorem Td{g off cap:Nat}(hr:Reads w 1 (.slice (some (zc g off)) 112 cap) 112 (wv l))(ho:Own w0 w γ)(t:Nat):Calls Tryz.prog 265 #[.slice (some (zc g off)) 112 cap] w fun e w'=>∃g' c' γ' l',e=.returned (.slice (zb g') 136 c')∧Own w0 w' γ'∧yR γ' t 5 1 (.slice (zb g') 136 c') 136 (wv l')∧∀k,k≠t→γ' k=γ k:=by
 have hc:=U9 hr ho (by omega) t;clear hr ho;go_in;go_wp2_with fail;refine hc.mono ?_;rintro e w1 ⟨A1,c1,γ1,rfl,o1,s1,k1⟩;obtain⟨o2,r2⟩:=kS o1 6;have HO:=I o2;have HR:=I r2;have HS:=I s1;have HK:=I k1;clear hc o1 o2 r2 s1 k1;go_wp2_with (at_builtin;refine xG rfl (.tmp 5) (.tmp 6) 245 rfl 5 _ 1 1 Tryz.underlying245 Tryz.eF rfl (by decide) HO.out HS.out rfl HR.out rfl ?_ ?_ ?_)
 ·unfold maxLen;omega
 ·omega
 intro A2 cap2 w2 γ2 hA2 o3 s3 k3;have s3':yR γ2 t 5 1 (.slice A2 113 cap2) 113 (wv (l++[6])):=by rw[←Sb];exact s3
 obtain⟨g3,cap3,w3,γ3,hrun,o4,s4,k4⟩:=ZA o3 s3' (eN _) (by omega) 23 (by omega) (by omega);have s4':yR γ3 t 5 1 (.slice (zb g3) 136 cap3) 136 (wv (l++[6]++List.replicate 23 0)):=by
  have e:wv (l++[6]++List.replicate 23 0)=wv (l++[6])++List.replicate 23 (.int .u8 0):=by simp[wv]
  rw[e];exact s4
 obtain⟨g5,cap5,hv5,hcell,hfz,hset⟩:=s4'.jP o4 (i:=135) (by omega);cases hv5;have hl:(l++[6]++List.replicate 23 0).length=136:=by have:=s4'.1;rw[tG]at this;omega
 rw[Qt _ _ (by rw[hl];omega)]at hcell;have HF:Hid (∀x,∃g' c' γ' l',Ending.returned (.slice (zb g3) 136 cap3)=.returned (.slice (zb g') 136 c')∧Own w0 (w3.setCell (zc g3 135) (.int .u8 x)) γ'∧yR γ' t 5 1 (.slice (zb g') 136 c') 136 (wv l')∧∀k,k≠t→γ' k=γ k):=I fun x=>by obtain⟨γ6,o6,s6,k6⟩:=hset (.int .u8 x);rw[Qv]at s6;exact⟨_,_,γ6,_,rfl,o6,s6,fun k hk=>(k6 k hk).trans ((k4 k hk).trans ((k3 k hk).trans (HK.out k hk)))⟩
 have HRUN:=I hrun;generalize(l++[6]++List.replicate 23 0).getD 135 0=xb at*;clear s3 s3' o3 o4 s4 s4' k3 k4 hset hrun hA2 HO HR HS HK;go_wp2_with (at_builtin;refine Go.Lib.wpList_append_run _ rfl (.tmp 8) (.tmp 13) 245 3 rfl _ _ rfl rfl _ _ HRUN.out ?_);go_ret;exact HF.out _
end
end
section
open Go.RowKit Go.Shelf Go.WideShapes
theorem U8(n g c:Nat)(w:World):CallsIn Fence.wide n Tryz.prog 264 #[.slice (zb g) 136 c,.i 136] w fun e w'=>e=.returned (.func (.func 280) #[] #[.p w.heap.size,.p (w.heap.size+1)])∧w'=(w.alloc (.cells #[.slice (zb g) 136 c] 245)).alloc (.cells #[.i 136] 3):=by have hro:Fence.wide.round=none:=rfl;refine callsIn_of_wp Tryz.func264 rfl trivial ?_ hro;simp only[Tryz.ntmps264,zH,zM,zY,Nat.reduceAdd,Nat.reduceSub,zV,zW,yj,zZ,zD,zT];gi_wp2;go_ret;exact⟨rfl,rfl⟩
def Zv(B1 B2:Nat)(W W':World):Prop:=W'.heap[B1]? =W.heap[B1]? ∧W'.heap[B2]? =W.heap[B2]?
theorem Zv.cell{B1 B2:Nat}{W W':World}(h:Zv B1 B2 W W'):W'.cell? (zc B1 0)=W.cell? (zc B1 0)∧W'.cell? (zc B2 0)=W.cell? (zc B2 0):=by simp only[World.cell?,h.1,h.2,and_self]
theorem Ve(g c n l B1 B2:Nat)(hc:136≤c)(hn:1≤n)(J Jx:List Unit→World→Prop)(hY:∀pre y W,J pre W→pre.length<1→YieldAt Fence.wide (n-1) Tryz.prog l #[.slice (zb g) 136 136] W fun e W'=>(e=.returned (.bool true)∧J (pre++[y]) W'∧Zv B1 B2 W W')∨(e=.returned (.bool false)∧Jx (pre++[y]) W'))(W:World)(hJ:AbidesFrom W.heap.size J)(h1:W.cell? (zc B1 0)=some (.slice (zb g) 136 c))(h2:W.cell? (zc B2 0)=some (.i 136))(h0:J [] W):CallsIn Fence.wide n Tryz.prog 280 #[.func (.yield l) #[] #[],.p B1,.p B2] W fun e W'=>(∃v,e=.returned v)∧((∃ys,ys=[()]∧J ys W')∨(∃pre:List Unit,True∧Jx pre W')):=by
 have hro:Fence.wide.round=none:=rfl;have hc':(136:Int)≤c:=by omega
 have hJd:∀k,J [] (W.drewN k):=fun k=>hJ [] W (W.drewN k) none h0 ⟨rfl,rfl,rfl,zm _,fun _ _ _=>rfl⟩ (fun r e=>by cases e);refine callsIn_of_wp Tryz.func280 rfl trivial ?_ hro;simp only[Tryz.ntmps280,zH,zM,zY,Nat.reduceAdd,Nat.reduceSub,zV,zW,yj,zZ,zD,zT];gi_wp2_with fail;gi_loopw [4] (fun i wr=>(i=.i 0∧wr=W)∨(i=.i 136∧J [()] wr∧wr.cell? (zc B1 0)=some (.slice (zb g) 136 c)∧wr.cell? (zc B2 0)=some (.i 136))) (fun i _=>200-(intOf i).toNat);case atStart=>exact .inl ⟨rfl,rfl⟩
 case round=>
  rcases hrel with⟨rfl,rfl⟩|⟨rfl,hj,q1,q2⟩
  ·gi_wp2_with fail;refine wpIn_wide.2 ?_;go_quiet (fail);obtain⟨fn,tmps,assign,body,hyy,hR⟩:=hY [] () (wr.drewN nq) (hJd nq) (by simp);gi_wp2;refine hR.mono ?_;rintro e W3 (⟨rfl,hJ3,hk3⟩|⟨rfl,hJx3⟩)
   ·obtain⟨k1,k2⟩:=hk3.cell;have q1:W3.cell? (zc B1 0)=some (.slice (zb g) 136 c):=k1.trans h1;have q2:W3.cell? (zc B2 0)=some (.i 136):=k2.trans h2;clear k1 k2 h1 h2;gi_wp2;exact⟨.inr ⟨rfl,hJ3,q1,q2⟩,by simp[intOf]⟩
   ·gi_wp2;refine bodyPost_ret (results_none rfl _ _ _) rfl ?_;exact⟨⟨_,rfl⟩,.inr ⟨[()],trivial,hJx3⟩⟩
  ·gi_wp2;go_end0;exact⟨⟨_,rfl⟩,.inl ⟨_,rfl,hj⟩⟩
end
end Go.Proofs.YtkmamlifgbocgaaGreat
