/- What the program's code does, as contracts, and what follows of it, part 18: for the law's proof. -/
import Derived.Test.YtkmamlifgbocgaaGreatP00
import Derived.Test.YtkmamlifgbocgaaGreatP17
set_option linter.unusedVariables false
set_option linter.unusedSimpArgs false
set_option maxRecDepth 100000
set_option maxHeartbeats 16000000
namespace Go.Proofs.YtkmamlifgbocgaaGreat
section
open Go.RowKit Go.WideShapes
theorem Dm.jQ(D:Dm)(t x:Int)(m:Mu):(D.unlock t x m).av=D.av∧(D.unlock t x m).sv=D.sv∧∀i,i≠D.at_ x→(D.unlock t x m).yX.getD i none=D.yX.getD i none:=by
 unfold Dm.unlock;split
 ·exact⟨rfl,rfl,fun i hi=>ub (Ne.symm hi)⟩
 ·exact⟨rfl,rfl,fun i hi=>ub (Ne.symm hi)⟩
def uw(mm:Mu)(ws:List Int)(t:Int):Int:=if mm.h≠t then 11 else uL ws t
def Dm.tQ(D:Dm)(t x mh:Int)(mm:Mu)(ws:List Int):Dm:=if mm.h≠t then D else(D.unlock t mh mm).xg x (.cd (qS ws t) mh)
section
variable {w0 w:World} {γ:U} {B g:Nat} {p:vG} {D:Dm}
theorem QD{x:Int}(hx:D.Has x){ws:List Int}{mh:Int}(hk:D.ob x=some (.cd ws mh))(hmh:D.Has mh)(hne:D.at_ mh≠D.at_ x){mm:Mu}(hob:D.ob mh=some (.mu mm)){t:Int}(hl:mm.wF t≠0→D.Live (mm.wF t))(hwl:ws.length<100){gw b1 b2 b3 T1 T2 T3:Nat}(hos:p.os.getD (D.at_ x) undef=.iface 224 (.p gw))(h1:γ T1=some (b1,.cells #[.p g] 97 (0,0)))(h2:γ T2=some (b2,.cells #[.p gw] 224 (0,0)))(h3:γ T3=some (b3,.cells #[.i t] 3 (0,0)))(e1:yU 5 B T1)(e2:yU 5 B T2)(e3:yU 5 B T3):kx w0 γ B g p D 245 #[.p b1,.p b2,.p b3] (uw mm ws t) (D.tQ t x mh mm ws):=by
 intro W γ' hW hD hkk;have g1:=(hkk T1 e1).trans h1;have g2:=(hkk T2 e2).trans h2;have g3:=(hkk T3 e3).trans h3;have c1:=hW.cell g1 (i:=0) (v:=.p g) rfl;have c2:=hW.cell g2 (i:=0) (v:=.p gw) rfl;have c3:=hW.cell g3 (i:=0) (v:=.i t) rfl;have hat:=xX hD hx.2;rw[hk]at hat;obtain⟨gw',gc,e,hgw,hat⟩:=hat;have e':=hos.symm.trans e;cases e';obtain⟨gm,hosm,hmu⟩:=SD hD hmh.2 hob;have hmx:=fun(W':World) (hW':Own w0 W' γ')=>bH (w:=W') hD hW' (hW'.cell hgw (i:=1) (v:=.i mh) rfl) hmh.1 hmh.2 hosm;have hho:=fun(W':World) (hW':Own w0 W' γ')=>gW (w:=W') hmu hW';have HW:=I hW;have HMX:=I hmx;have HHO:=I hho;by_cases hh:mm.h=t
 ·have dh:(t != t)=false:=by simp
  have E1:uw mm ws t=uL ws t:=if_neg (by simpa using hh);have E2:D.tQ t x mh mm ws=(D.unlock t mh mm).xg x (.cd (qS ws t) mh):=if_neg (by simpa using hh);rw[E1,E2];rw[hh]at HHO;have hun:=fun(W':World) (hW':Own w0 W' γ')=>ZK (w:=W') hD hW' hmh hob hosm hl;have HUN:=I hun;have HC1:Hid (∀W',Own w0 W' γ'→W'.cell? (zc b1 0)=some (.p g)∧W'.cell? (zc b2 0)=some (.p gw)∧W'.cell? (zc b3 0)=some (.i t)):=I fun W' hW'=>⟨hW'.cell g1 rfl,hW'.cell g2 rfl,hW'.cell g3 rfl⟩;obtain⟨u1,u2,u3⟩:=D.jQ t mh mm;have HST:Hid (∀W2 γ2,Own w0 W2 γ2→yT γ2 B g p (D.unlock t mh mm)→(∀k,yU 0 B k→γ2 k=γ' k)→∃gc',γ2 (B+100+8*D.at_ x+7)=some (gw,.cells #[.p gc',.i mh] 227 (0,0))∧vQ γ2 (B+100+8*D.at_ x) gc' ws∧γ2 T2=some (b2,.cells #[.p gw] 224 (0,0))∧γ2 T3=some (b3,.cells #[.i t] 3 (0,0))):=I fun W2 γ2 o2 d2 k2=>by have hat2:=d2.each _ (xv hD x hx.2).2;rw[u3 _ (Ne.symm hne),show D.yX.getD (D.at_ x) none=some (.cd ws mh)from hk]at hat2;obtain⟨gw2,gc2,q1,q2,q3⟩:=hat2;have q4:=hos.symm.trans q1;cases q4;exact⟨gc2,q2,q3,(k2 T2 (by unfold yU at e2⊢;omega)).trans g2,(k2 T3 (by unfold yU at e3⊢;omega)).trans g3⟩
  have HFIN:Hid (∀γ2 W3 γ3 gc',yT γ2 B g p (D.unlock t mh mm)→(∀k,yU 0 B k→γ2 k=γ' k)→γ2 (B+100+8*D.at_ x+7)=some (gw,.cells #[.p gc',.i mh] 227 (0,0))→Own w0 W3 γ3→vQ γ3 (B+100+8*D.at_ x) gc' (qS ws t)→(∀k,(k<B+100+8*D.at_ x∨B+100+8*D.at_ x+7≤k)→γ3 k=γ2 k)→∃γ4,Own w0 W3 γ4∧yT γ4 B g p ((D.unlock t mh mm).xg x (.cd (qS ws t) mh))∧∀k,yU 1 B k→γ4 k=γ' k):=I fun γ2 W3 γ3 gc' d2 k2 hw2 o3 a3 k3=>by
   have hax:(D.unlock t mh mm).at_ x=D.at_ x:=by unfold Dm.at_;rw[u1]
   have hx8:=(xv hD x hx.2).2;refine⟨γ3,o3,?_,fun k q=>(k3 k (by unfold yU at q;omega)).trans (k2 k (by unfold yU at q⊢;omega))⟩;unfold Dm.xg;rw[hax];exact d2.setObj hx8 (o:=some (.cd (qS ws t) mh)) ⟨gw,gc',hos,(k3 _ (by omega)).trans hw2,a3⟩ (fun k q1 _=>k3 k (by omega))
  clear hat hW hD hkk h1 h2 h3 e hos hk hgw hmu hmx hho hun E1 E2 u1 u2 u3 hosm hob g1 g2 g3 hl;go_in;go_wp2_with fail;go_quiet (first|(go_at_call 162;exact Calls.quiet_of (HMX.out _ (HW.out.drewN _)))|(go_at_call 208;exact Calls.quiet_of_same ((HHO.out _ (HW.out.drewN _)).mono fun e w' ⟨h1,h2⟩=>⟨h1,h2.symm⟩)));have o2:=HW.out.drewN nq;generalize W.drewN nq=W2 at*;clear HHO HW c1 c2 c3;go_wp2_with fail;refine yP.region [0,1,2,3] (.step 4 (.step 5 .done)) (fun w'=>Own w0 w' γ') (by kernel_rfl) (by kernel_rfl) (fun _ _ _ _ _ h=>h) o2.drew ?_;repeat
   refine Perm.xm rfl ?_ (fun w' hS=>?_) ?_;rotate_left
   ·(obtain⟨q1,q2,q3⟩:=HC1.out _ hS;clear hS;go_simp;try with_reducible rfl)
   simp only[pt]
  refine Perm.xt ?_;have o3:=o2.drew;generalize W2.drew=W3 at*;refine yP.yY rfl (by rfl) ?_;refine yP.xJ rfl 162 _ _ rfl (by kernel_rfl) _ rfl ((HMX.out _ o3).mono ?_);rintro e w5 ⟨rfl,nq2,rfl⟩;refine⟨_,rfl,fun _ h=>h.drewN _,?_⟩;simp only[pt];have o4:=o3.drewN nq2;generalize W3.drewN nq2=W4 at*;refine yP.yY rfl (by rfl) ?_;refine yP.xJ rfl 246 _ _ rfl (by kernel_rfl) _ rfl ((HUN.out _ o4).mono ?_);rintro e w5 ⟨rfl,γ5,o5,d5,k5⟩;refine⟨_,rfl,Perm.xx (by kernel_rfl),?_⟩;simp only[pt];refine yP.xC ?_;obtain⟨gc',hw5,hc5,ht2,ht3⟩:=HST.out _ _ o5 d5 k5;have hcw:=fun(W':World) (hW':Own w0 W' γ5)=>S2 (w:=W') hc5 hW' t hwl;have HCW:=I hcw;have HC2:Hid (∀W',Own w0 W' γ5→W'.cell? (zc b2 0)=some (.p gw)∧W'.cell? (zc gw 0)=some (.p gc')∧W'.cell? (zc b3 0)=some (.i t)):=I fun W' hW'=>⟨hW'.cell ht2 rfl,hW'.cell hw5 rfl,hW'.cell ht3 rfl⟩;have HFI:=I (fun W3 γ3 o3 a3 k3=>HFIN.out γ5 W3 γ3 gc' d5 k5 hw5 o3 a3 k3);have O5:=I o5.drew;clear o2 o3 o4 o5 d5 k5 hw5 hc5 ht2 ht3 hcw HST HFIN HUN HMX HC1;go_wp2_with fail;refine yP.region [0,1,2,3,4] (.step 5 (.step 6 .done)) (fun w'=>Own w0 w' γ5) (by kernel_rfl) (by kernel_rfl) (fun _ _ _ _ _ h=>h) O5.out ?_;repeat
   refine Perm.xm rfl ?_ (fun w' hS=>?_) ?_;rotate_left
   ·(obtain⟨q1,q2,q3⟩:=HC2.out _ hS;clear hS;go_simp;try with_reducible rfl)
   simp only[pt]
  refine Perm.xt ?_;generalize w5.drew=W5 at*;refine yP.yY rfl (by rfl) ?_;refine yP.xJ rfl 247 _ _ rfl (by kernel_rfl) _ rfl ((HCW.out _ O5.out).mono ?_);rintro e w6 ⟨rfl,γ6,o6,a6,k6⟩;have HZ:=I (HFI.out _ _ o6 a6 k6);refine⟨_,rfl,Perm.xx (by kernel_rfl),?_⟩;simp only[pt];clear o6 a6 k6;repeat
   refine yP.xA rfl (by rfl) ?_ (fun w'=>?_) ?_;rotate_left
   ·(go_simp;try with_reducible rfl)
   simp only[pt]
  refine yP.xC ?_;go_wp2_with fail;go_ret;exact⟨rfl,HZ.out⟩
 ·have dh:(mm.h != t)=true:=by simpa using hh
  have E1:uw mm ws t=11:=if_pos hh;have E2:D.tQ t x mh mm ws=D:=if_pos hh;rw[E1,E2];have HF:Hid (∀n,∃γ4,Own w0 (W.drewN n) γ4∧yT γ4 B g p D∧∀k,yU 1 B k→γ4 k=γ' k):=I fun n=>⟨γ',hW.drewN n,hD,fun _ _=>rfl⟩;generalize mm.h=y at*;clear hat hW hD hkk h1 h2 h3 e hos hk hgw hmu hmx hho E1 E2 hosm hob g1 g2 g3 hl;go_in;go_wp2_with fail;go_quiet (first|(go_at_call 162;exact Calls.quiet_of (HMX.out _ (HW.out.drewN _)))|(go_at_call 208;exact Calls.quiet_of_same ((HHO.out _ (HW.out.drewN _)).mono fun e w' ⟨h1,h2⟩=>⟨h1,h2.symm⟩)));go_wp2_with fail;go_ret;exact⟨rfl,HF.out _⟩
end
end
section
open Go.RowKit Go.WideShapes
section
variable {w0 w:World} {γ:U} {B g:Nat} {p:vG} {D:Dm}
theorem VE(h:yT γ B g p D)(ho:Own w0 w γ){t:Int}(x:En)(ht:D.Live t)(hc:0≤D.clock∧D.clock≤4611686018427387904)(hx:D.Has x.a){m:Gp}(hob:D.ob x.a=some (.gp m))(hlt:m.ws.length<100):Calls Tryz.prog 177 #[.p g,.i t,x.val] w (xj 15 w0 γ B g p (D.xO t x (m.uj t) (D.xg x.a (.gp (m.wait t)))) (.i (x.vL D.clock (m.uj t)))):=by
 have hmf:∀(fn:Fn) (first cap:Array Value) (w:World),(Instr.makeFunc fn first cap).run Tryz.prog w=.ok (.func fn first cap) w:=fun _ _ _ _=>rfl;have hat0:=xX h hx.2;rw[hob]at hat0;obtain⟨gm,hos,-⟩:=id hat0;obtain⟨γ1,o1,b1,b2,b3,k1⟩:=rp ho (B+68) (B+69) (B+70) (by omega) (by omega) (by omega) #[.p g] #[.i t] x.xq 97 3 38;have h1:yT γ1 B g p D:=h.wK fun k hk=>k1 k (by unfold xi at hk;omega) (by unfold xi at hk;omega) (by unfold xi at hk;omega);have kk:∀k,yU 15 B k→γ1 k=γ k:=fun k hk=>k1 k (by unfold yU at hk;omega) (by unfold yU at hk;omega) (by unfold yU at hk;omega);have d0:=o1.cell b1 (i:=0) (v:=.p g) rfl;have q0:=o1.cell b2 (i:=0) (v:=.i t) rfl;have r4:=o1.cell b3 (i:=4) (v:=.i x.a) rfl;have hf0:=rX (x:=x.a) h1 o1 hx.1 hx.2 true (v:=.iface 223 (.p gm)) hos (fun W=>jG _ W) (by simp);have o4:=o1.new (B+71) (.cells #[.p gm] 223);have hsz4:(((w.alloc (.cells #[.p g] 97)).alloc (.cells #[.i t] 3)).alloc (.cells x.xq 38)).heap.size=w.heap.size+1+1+1:=by simp
 rw[hsz4]at o4;have kp:∀k,k≠B+71→put γ1 (B+71) (w.heap.size+1+1+1) (.cells #[.p gm] 223) k=γ1 k:=fun k hk=>yO _ _ _ hk;have g4:=yQ γ1 (B+71) (w.heap.size+1+1+1) (.cells #[.p gm] 223);have h4:yT (put γ1 (B+71) (w.heap.size+1+1+1) (.cells #[.p gm] 223)) B g p D:=h1.on (by unfold xi;omega);generalize put γ1 (B+71) (w.heap.size+1+1+1) (.cells #[.p gm] 223)=γ4 at*;have d0':=o4.cell ((kp _ (by omega)).trans b1) (i:=0) (v:=.p g) rfl;have q0':=o4.cell ((kp _ (by omega)).trans b2) (i:=0) (v:=.i t) rfl;have r0':=o4.cell ((kp _ (by omega)).trans b3) (i:=0) (v:=.i x.kind) rfl;have r1':=o4.cell ((kp _ (by omega)).trans b3) (i:=1) (v:=.i x.xr) rfl;have r2':=o4.cell ((kp _ (by omega)).trans b3) (i:=2) (v:=.i x.pick) rfl;have r3':=o4.cell ((kp _ (by omega)).trans b3) (i:=3) (v:=.i x.op) rfl;have r4':=o4.cell ((kp _ (by omega)).trans b3) (i:=4) (v:=.i x.a) rfl;have r5':=o4.cell ((kp _ (by omega)).trans b3) (i:=5) (v:=.i x.b) rfl;have r6':=o4.cell ((kp _ (by omega)).trans b3) (i:=6) (v:=.i x.c) rfl;have hen:=ku h4 o4 t x ht.1 hc 242 #[.p (w.heap.size+1+1+1),.p (w.heap.size+1)] (enters_of Tryz.func242 (by kernel_rfl) rfl) (m.uj t) (D.xg x.a (.gp (m.wait t))) (fun _=>ht.2) (QC hx hob hlt hos g4 ((kp _ (by omega)).trans b2) (by unfold yU;omega) (by unfold yU;omega));have KK:=I kk;have KP:=I kp;have hval:x.val=.agg #[.i x.kind,.i x.xr,.i x.pick,.i x.op,.i x.a,.i x.b,.i x.c]:=rfl;have harr:x.xq=#[.i x.kind,.i x.xr,.i x.pick,.i x.op,.i x.a,.i x.b,.i x.c]:=rfl;rw[hval]at hen⊢;rw[harr]at q0 r4 d0 hen hf0 d0' q0' r0' r1' r2' r3' r4' r5' r6';clear h ho o1 b1 b2 b3 k1 h1 kk hat0 hos hob hx hlt hval harr o4 kp g4 h4 hsz4;generalize x.vL D.clock (m.uj t)=ee at*;generalize D.xO t x (m.uj t) (D.xg x.a (.gp (m.wait t)))=DD at*;go_in;go_wp2_with fail;refine hf0.mono ?_;rintro e w' ⟨rfl,rfl⟩;clear hf0;go_wp2_with fail;refine hen.mono ?_;rintro e w2 ⟨rfl,γ2,o2,h2,k2⟩;have HF:Hid (∃γ',Own w0 w2 γ'∧yT γ' B g p DD∧∀k,yU 15 B k→γ' k=γ k):=I ⟨γ2,o2,h2,fun k hk=>(k2 k (by unfold yU at hk⊢;omega)).trans ((KP.out k (by unfold yU at hk;omega)).trans (KK.out k hk))⟩;clear o2 h2 k2 hen;go_wp2_with fail;go_ret;exact⟨rfl,HF.out⟩
theorem VD(h:yT γ B g p D)(ho:Own w0 w γ){t:Int}(x:En)(ht:D.Live t)(hc:0≤D.clock∧D.clock≤4611686018427387904)(hx:D.Has x.a){ws:List Int}{mh:Int}(hob:D.ob x.a=some (.cd ws mh))(hmh:D.Has mh)(hne:D.at_ mh≠D.at_ x.a){mm:Mu}(hmm:D.ob mh=some (.mu mm))(hl:mm.wF t≠0→D.Live (mm.wF t))(hlt:ws.length<100)(hD1:(D.tQ t x.a mh mm ws).sv=D.sv):Calls Tryz.prog 177 #[.p g,.i t,x.val] w (xj 15 w0 γ B g p (D.xO t x (uw mm ws t) (D.tQ t x.a mh mm ws)) (.i (x.vL D.clock (uw mm ws t)))):=by
 have hmf:∀(fn:Fn) (first cap:Array Value) (w:World),(Instr.makeFunc fn first cap).run Tryz.prog w=.ok (.func fn first cap) w:=fun _ _ _ _=>rfl;have hat0:=xX h hx.2;rw[hob]at hat0;obtain⟨gm,gcc,hos,-⟩:=id hat0;obtain⟨γ1,o1,b1,b2,b3,k1⟩:=rp ho (B+68) (B+69) (B+70) (by omega) (by omega) (by omega) #[.p g] #[.i t] x.xq 97 3 38;have h1:yT γ1 B g p D:=h.wK fun k hk=>k1 k (by unfold xi at hk;omega) (by unfold xi at hk;omega) (by unfold xi at hk;omega);have kk:∀k,yU 15 B k→γ1 k=γ k:=fun k hk=>k1 k (by unfold yU at hk;omega) (by unfold yU at hk;omega) (by unfold yU at hk;omega);have d0:=o1.cell b1 (i:=0) (v:=.p g) rfl;have q0:=o1.cell b2 (i:=0) (v:=.i t) rfl;have r4:=o1.cell b3 (i:=4) (v:=.i x.a) rfl;have hf0:=rX (x:=x.a) h1 o1 hx.1 hx.2 false rfl (bS (xX h1 hx.2) (by simp[hob])) (by simp);have o1b:=o1.xh ((Below.refl _ _).alloc (zm _) (.cells #[.pointer none] 223));have hf1:=sP (x:=x.a) h1 o1b hx.1 hx.2 true (v:=.iface 224 (.p gm)) hos (fun W=>pR _ W) (by simp);have r4b:=o1b.cell b3 (i:=4) (v:=.i x.a) rfl;have d0b:=o1b.cell b1 (i:=0) (v:=.p g) rfl;have o4:=o1b.new (B+72) (.cells #[.p gm] 224);have hsz4:((((w.alloc (.cells #[.p g] 97)).alloc (.cells #[.i t] 3)).alloc (.cells x.xq 38)).alloc (.cells #[.pointer none] 223)).heap.size=w.heap.size+1+1+1+1:=by simp
 rw[hsz4]at o4;have kp:∀k,k≠B+72→put γ1 (B+72) (w.heap.size+1+1+1+1) (.cells #[.p gm] 224) k=γ1 k:=fun k hk=>yO _ _ _ hk;have g4:=yQ γ1 (B+72) (w.heap.size+1+1+1+1) (.cells #[.p gm] 224);have h4:yT (put γ1 (B+72) (w.heap.size+1+1+1+1) (.cells #[.p gm] 224)) B g p D:=h1.on (by unfold xi;omega);generalize put γ1 (B+72) (w.heap.size+1+1+1+1) (.cells #[.p gm] 224)=γ4 at*;have d0':=o4.cell ((kp _ (by omega)).trans b1) (i:=0) (v:=.p g) rfl;have q0':=o4.cell ((kp _ (by omega)).trans b2) (i:=0) (v:=.i t) rfl;have r0':=o4.cell ((kp _ (by omega)).trans b3) (i:=0) (v:=.i x.kind) rfl;have r1':=o4.cell ((kp _ (by omega)).trans b3) (i:=1) (v:=.i x.xr) rfl;have r2':=o4.cell ((kp _ (by omega)).trans b3) (i:=2) (v:=.i x.pick) rfl;have r3':=o4.cell ((kp _ (by omega)).trans b3) (i:=3) (v:=.i x.op) rfl;have r4':=o4.cell ((kp _ (by omega)).trans b3) (i:=4) (v:=.i x.a) rfl;have r5':=o4.cell ((kp _ (by omega)).trans b3) (i:=5) (v:=.i x.b) rfl;have r6':=o4.cell ((kp _ (by omega)).trans b3) (i:=6) (v:=.i x.c) rfl;have hen:=ku h4 o4 t x ht.1 hc 245 #[.p w.heap.size,.p (w.heap.size+1+1+1+1),.p (w.heap.size+1)] (enters_of Tryz.func245 (by kernel_rfl) rfl) (uw mm ws t) (D.tQ t x.a mh mm ws) (fun _=>by rw[hD1];exact ht.2) (QD hx hob hmh hne hmm hl hlt hos ((kp _ (by omega)).trans b1) g4 ((kp _ (by omega)).trans b2) (by unfold yU;omega) (by unfold yU;omega) (by unfold yU;omega));have KK:=I kk;have KP:=I kp;have hval:x.val=.agg #[.i x.kind,.i x.xr,.i x.pick,.i x.op,.i x.a,.i x.b,.i x.c]:=rfl;have harr:x.xq=#[.i x.kind,.i x.xr,.i x.pick,.i x.op,.i x.a,.i x.b,.i x.c]:=rfl;rw[hval]at hen⊢;rw[harr]at q0 r4 d0 hen hf0 hf1 r4b d0b d0' q0' r0' r1' r2' r3' r4' r5' r6';clear h ho o1 b1 b2 b3 k1 h1 kk hat0 hos hob hx hlt hval harr o4 kp g4 h4 hsz4 o1b hmh hne hmm hl hD1;generalize x.vL D.clock (uw mm ws t)=ee at*;generalize D.xO t x (uw mm ws t) (D.tQ t x.a mh mm ws)=DD at*;go_in;go_wp2_with fail;refine hf0.mono ?_;rintro e w' ⟨rfl,rfl⟩;clear hf0;go_wp2_with fail;refine hf1.mono ?_;rintro e w' ⟨rfl,rfl⟩;clear hf1;go_wp2_with fail;refine hen.mono ?_;rintro e w2 ⟨rfl,γ2,o2,h2,k2⟩;have HF:Hid (∃γ',Own w0 w2 γ'∧yT γ' B g p DD∧∀k,yU 15 B k→γ' k=γ k):=I ⟨γ2,o2,h2,fun k hk=>(k2 k (by unfold yU at hk⊢;omega)).trans ((KP.out k (by unfold yU at hk;omega)).trans (KK.out k hk))⟩;clear o2 h2 k2 hen;go_wp2_with fail;go_ret;exact⟨rfl,HF.out⟩
end
end
section
open Go.RowKit Go.WideShapes
def Dm.gZ(D:Dm)(t:Int)(x:En):Dm×Int×Int:=
 if D.av.place x.a= -1 then(D,0,7)else match D.ob x.a with
 |some (.on m)=>D.pw t x m
 |_=>(D,0,8)
def Dm.wait(D:Dm)(t:Int)(x:En):Dm×Int:=
 if D.av.place x.a= -1 then(D,7)else match D.ob x.a with
 |some (.gp m)=>(D.xO t x (m.uj t) (D.xg x.a (.gp (m.wait t))),x.vL D.clock (m.uj t))
 |some (.cd ws mh)=>(match D.ob mh with
  |some (.mu mm)=>(D.xO t x (uw mm ws t) (D.tQ t x.a mh mm ws),x.vL D.clock (uw mm ws t))
  |_=>(D,8))
 |_=>(D,8)
structure Dm.tT (D:Dm) (t:Int) (x:En):Prop extends D.UseOk t x where
 cd:∀ws mh,D.ob x.a=some (.cd ws mh)→D.Has mh∧D.at_ mh≠D.at_ x.a∧ws.length<100∧(∃mm,D.ob mh=some (.mu mm)∧mm.ws.length+ws.length<100∧(mm.wF t≠0→D.Live (mm.wF t)))∧∀y∈ws,D.Live y
 on:∀m,D.ob x.a=some (.on m)→m.ws.length<100∧(m.su t).length≤100∧∀y∈m.su t,D.Live y
 gp:∀m,D.ob x.a=some (.gp m)→m.ws.length<100∧0≤m.n∧m.n≤1048576∧(m.tv x.b).length≤100∧∀y∈m.tv x.b,D.Live y
theorem Dm.Sj(D:Dm)(t x mh:Int)(mm:Mu)(ws:List Int):(D.tQ t x mh mm ws).sv=D.sv:=by
 unfold Dm.tQ;split
 ·rfl
 ·exact(D.jQ t mh mm).2.1
section
variable {w0 w:World} {γ:U} {B g:Nat} {p:vG} {D:Dm}
theorem Tg(h:yT γ B g p D)(ho:Own w0 w γ){t:Int}(x:En)(hu:D.tT t x):Calls Tryz.prog 178 #[.p g,x.val] w (xj 15 w0 γ B g p (D.qM x).1 (.tuple #[.i (D.qM x).2.1,.i (D.qM x).2.2])):=by
 unfold Dm.qM;by_cases hp:D.av.place x.a= -1
 ·rw[if_pos hp];exact YN h ho x hu.xa hp
 ·rw[if_neg hp];cases hk:D.ob x.a with
  |none=>exact uN h ho x hu.xa hp (by simp[hk])
  |some o=>
   cases o with
   |cd ws mh=> obtain⟨a1,a2,a3,⟨mm,a4,a5,a6⟩,a7⟩:=hu.cd ws mh hk;exact YM h ho x ⟨hu.xa,hp⟩ hk a1 a2 a4 a5 a7
   |mu m=>exact uN h ho x hu.xa hp (by simp[hk])
   |rw m=>exact uN h ho x hu.xa hp (by simp[hk])
   |sm m=>exact uN h ho x hu.xa hp (by simp[hk])
   |on m=>exact uN h ho x hu.xa hp (by simp[hk])
   |gp m=>exact uN h ho x hu.xa hp (by simp[hk])
theorem Pa(h:yT γ B g p D)(ho:Own w0 w γ){t:Int}(x:En)(hu:D.tT t x):Calls Tryz.prog 179 #[.p g,.i t,x.val] w (xj 15 w0 γ B g p (D.gZ t x).1 (.tuple #[.i (D.gZ t x).2.1,.i (D.gZ t x).2.2])):=by
 unfold Dm.gZ;by_cases hp:D.av.place x.a= -1
 ·rw[if_pos hp];exact Vw h ho x hu.xa hp
 ·rw[if_neg hp];cases hk:D.ob x.a with
  |none=>exact tW h ho x hu.xa hp (by simp[hk])
  |some o=>
   cases o with
   |on m=>exact Vx h ho x hu.live hu.clock ⟨hu.xa,hp⟩ hk (hu.on m hk).1 (hu.on m hk).2
   |mu m=>exact tW h ho x hu.xa hp (by simp[hk])
   |rw m=>exact tW h ho x hu.xa hp (by simp[hk])
   |sm m=>exact tW h ho x hu.xa hp (by simp[hk])
   |cd ws mh=>exact tW h ho x hu.xa hp (by simp[hk])
   |gp m=>exact tW h ho x hu.xa hp (by simp[hk])
theorem Pe(h:yT γ B g p D)(ho:Own w0 w γ){t:Int}(x:En)(hu:D.tT t x):Calls Tryz.prog 177 #[.p g,.i t,x.val] w (xj 15 w0 γ B g p (D.wait t x).1 (.i (D.wait t x).2)):=by
 unfold Dm.wait;by_cases hp:D.av.place x.a= -1
 ·rw[if_pos hp];exact VF h ho x hu.xa hp
 ·rw[if_neg hp];cases hk:D.ob x.a with
  |none=>exact rv h ho x hu.xa hp (by simp[hk]) (by simp[hk])
  |some o=>
   cases o with
   |gp m=>exact VE h ho x hu.live hu.clock ⟨hu.xa,hp⟩ hk (hu.gp m hk).1
   |cd ws mh=> obtain⟨a1,a2,a3,⟨mm,a4,a5,a6⟩,a7⟩:=hu.cd ws mh hk;simp only[a4];exact VD h ho x hu.live hu.clock ⟨hu.xa,hp⟩ hk a1 a2 a4 a6 a3 (D.Sj _ _ _ _ _)
   |mu m=>exact rv h ho x hu.xa hp (by simp[hk]) (by simp[hk])
   |rw m=>exact rv h ho x hu.xa hp (by simp[hk]) (by simp[hk])
   |sm m=>exact rv h ho x hu.xa hp (by simp[hk]) (by simp[hk])
   |on m=>exact rv h ho x hu.xa hp (by simp[hk]) (by simp[hk])
def Dm.use(D:Dm)(t:Int)(x:En):Dm×Int×Int:=
 if 7≤x.op∧x.op≤10 then((D.lock t x).1,0,(D.lock t x).2)
 else if 11≤x.op∧x.op≤14 then((D.read t x).1,0,(D.read t x).2)
 else if 15≤x.op∧x.op≤18 then((D.pC t x).1,0,(D.pC t x).2)
 else if 19≤x.op∧x.op≤20 then((D.wait t x).1,0,(D.wait t x).2)
 else if 21≤x.op∧x.op≤22 then D.qM x
 else if 23≤x.op∧x.op≤24 then D.gZ t x
 else if x.op=25 then((D.add x).1,0,(D.add x).2)
 else(D,0,1)
theorem X2(h:yT γ B g p D)(ho:Own w0 w γ){t:Int}(x:En)(hu:D.tT t x)(hop:x.op=7∨x.op=8∨x.op=9∨x.op=10){r:Dm×Int}(hr:r=D.lock t x):Calls Tryz.prog 139 #[.p g,.i t,x.val] w (xj 16 w0 γ B g p r.1 (.tuple #[.i 0,.i r.2])):=by
 obtain⟨γ1,o1,b1,h1,k1⟩:=jJ ho h (T:=B+75) (by omega) x;have kk:∀k,yU 16 B k→γ1 k=γ k:=fun k hk=>k1 k (by unfold yU at hk;omega);have r0:=o1.cell b1 (i:=0) (v:=.i x.kind) rfl;have r1:=o1.cell b1 (i:=1) (v:=.i x.xr) rfl;have r2:=o1.cell b1 (i:=2) (v:=.i x.pick) rfl;have r3:=o1.cell b1 (i:=3) (v:=.i x.op) rfl;have r4:=o1.cell b1 (i:=4) (v:=.i x.a) rfl;have r5:=o1.cell b1 (i:=5) (v:=.i x.b) rfl;have r6:=o1.cell b1 (i:=6) (v:=.i x.c) rfl;have hval:x.val=.agg #[.i x.kind,.i x.xr,.i x.pick,.i x.op,.i x.a,.i x.b,.i x.c]:=rfl;have harr:x.xq=#[.i x.kind,.i x.xr,.i x.pick,.i x.op,.i x.a,.i x.b,.i x.c]:=rfl;have hc:=Q7 h1 o1 x hu.toUseOk;rw[←hr]at hc;have KK:=I kk;rw[hval]at hc⊢;rw[harr]at r0 r1 r2 r3 r4 r5 r6 hc;clear h ho o1 b1 h1 k1 kk hu hval harr hr;rcases hop with hop|hop|hop|hop
 ·have c7:(x.op==7)=true:=by rw[hop];rfl
  clear hop;generalize x.op=op at*;go_in;go_wp2_with fail;refine hc.mono ?_;rintro e w2 hp2;have HF:=I ((hp2.up (m:=16) (by omega)).of KK.out);obtain⟨rfl,-⟩:=hp2;clear hc;go_wp2_with fail;go_ret2;exact⟨rfl,HF.out.2⟩
 ·have c7:(x.op==7)=false:=by rw[hop];rfl
  have c8:(x.op==8)=true:=by rw[hop];rfl
  clear hop;generalize x.op=op at*;go_in;go_wp2_with fail;refine hc.mono ?_;rintro e w2 hp2;have HF:=I ((hp2.up (m:=16) (by omega)).of KK.out);obtain⟨rfl,-⟩:=hp2;clear hc;go_wp2_with fail;go_ret2;exact⟨rfl,HF.out.2⟩
 ·have c7:(x.op==7)=false:=by rw[hop];rfl
  have c8:(x.op==8)=false:=by rw[hop];rfl
  have c9:(x.op==9)=true:=by rw[hop];rfl
  clear hop;generalize x.op=op at*;go_in;go_wp2_with fail;refine hc.mono ?_;rintro e w2 hp2;have HF:=I ((hp2.up (m:=16) (by omega)).of KK.out);obtain⟨rfl,-⟩:=hp2;clear hc;go_wp2_with fail;go_ret2;exact⟨rfl,HF.out.2⟩
 ·have c7:(x.op==7)=false:=by rw[hop];rfl
  have c8:(x.op==8)=false:=by rw[hop];rfl
  have c9:(x.op==9)=false:=by rw[hop];rfl
  have c10:(x.op==10)=true:=by rw[hop];rfl
  clear hop;generalize x.op=op at*;go_in;go_wp2_with fail;refine hc.mono ?_;rintro e w2 hp2;have HF:=I ((hp2.up (m:=16) (by omega)).of KK.out);obtain⟨rfl,-⟩:=hp2;clear hc;go_wp2_with fail;go_ret2;exact⟨rfl,HF.out.2⟩
theorem X5(h:yT γ B g p D)(ho:Own w0 w γ){t:Int}(x:En)(hu:D.tT t x)(hop:x.op=11∨x.op=12∨x.op=13∨x.op=14){r:Dm×Int}(hr:r=D.read t x):Calls Tryz.prog 139 #[.p g,.i t,x.val] w (xj 16 w0 γ B g p r.1 (.tuple #[.i 0,.i r.2])):=by
 obtain⟨γ1,o1,b1,h1,k1⟩:=jJ ho h (T:=B+75) (by omega) x;have kk:∀k,yU 16 B k→γ1 k=γ k:=fun k hk=>k1 k (by unfold yU at hk;omega);have r0:=o1.cell b1 (i:=0) (v:=.i x.kind) rfl;have r1:=o1.cell b1 (i:=1) (v:=.i x.xr) rfl;have r2:=o1.cell b1 (i:=2) (v:=.i x.pick) rfl;have r3:=o1.cell b1 (i:=3) (v:=.i x.op) rfl;have r4:=o1.cell b1 (i:=4) (v:=.i x.a) rfl;have r5:=o1.cell b1 (i:=5) (v:=.i x.b) rfl;have r6:=o1.cell b1 (i:=6) (v:=.i x.c) rfl;have hval:x.val=.agg #[.i x.kind,.i x.xr,.i x.pick,.i x.op,.i x.a,.i x.b,.i x.c]:=rfl;have harr:x.xq=#[.i x.kind,.i x.xr,.i x.pick,.i x.op,.i x.a,.i x.b,.i x.c]:=rfl;have hc:=Pb h1 o1 x hu.toUseOk;rw[←hr]at hc;have KK:=I kk;rw[hval]at hc⊢;rw[harr]at r0 r1 r2 r3 r4 r5 r6 hc;clear h ho o1 b1 h1 k1 kk hu hval harr hr;rcases hop with hop|hop|hop|hop
 ·have c7:(x.op==7)=false:=by rw[hop];rfl
  have c8:(x.op==8)=false:=by rw[hop];rfl
  have c9:(x.op==9)=false:=by rw[hop];rfl
  have c10:(x.op==10)=false:=by rw[hop];rfl
  have c11:(x.op==11)=true:=by rw[hop];rfl
  clear hop;generalize x.op=op at*;go_in;go_wp2_with fail;refine hc.mono ?_;rintro e w2 hp2;have HF:=I ((hp2.up (m:=16) (by omega)).of KK.out);obtain⟨rfl,-⟩:=hp2;clear hc;go_wp2_with fail;go_ret2;exact⟨rfl,HF.out.2⟩
 ·have c7:(x.op==7)=false:=by rw[hop];rfl
  have c8:(x.op==8)=false:=by rw[hop];rfl
  have c9:(x.op==9)=false:=by rw[hop];rfl
  have c10:(x.op==10)=false:=by rw[hop];rfl
  have c11:(x.op==11)=false:=by rw[hop];rfl
  have c12:(x.op==12)=true:=by rw[hop];rfl
  clear hop;generalize x.op=op at*;go_in;go_wp2_with fail;refine hc.mono ?_;rintro e w2 hp2;have HF:=I ((hp2.up (m:=16) (by omega)).of KK.out);obtain⟨rfl,-⟩:=hp2;clear hc;go_wp2_with fail;go_ret2;exact⟨rfl,HF.out.2⟩
 ·have c7:(x.op==7)=false:=by rw[hop];rfl
  have c8:(x.op==8)=false:=by rw[hop];rfl
  have c9:(x.op==9)=false:=by rw[hop];rfl
  have c10:(x.op==10)=false:=by rw[hop];rfl
  have c11:(x.op==11)=false:=by rw[hop];rfl
  have c12:(x.op==12)=false:=by rw[hop];rfl
  have c13:(x.op==13)=true:=by rw[hop];rfl
  clear hop;generalize x.op=op at*;go_in;go_wp2_with fail;refine hc.mono ?_;rintro e w2 hp2;have HF:=I ((hp2.up (m:=16) (by omega)).of KK.out);obtain⟨rfl,-⟩:=hp2;clear hc;go_wp2_with fail;go_ret2;exact⟨rfl,HF.out.2⟩
 ·have c7:(x.op==7)=false:=by rw[hop];rfl
  have c8:(x.op==8)=false:=by rw[hop];rfl
  have c9:(x.op==9)=false:=by rw[hop];rfl
  have c10:(x.op==10)=false:=by rw[hop];rfl
  have c11:(x.op==11)=false:=by rw[hop];rfl
  have c12:(x.op==12)=false:=by rw[hop];rfl
  have c13:(x.op==13)=false:=by rw[hop];rfl
  have c14:(x.op==14)=true:=by rw[hop];rfl
  clear hop;generalize x.op=op at*;go_in;go_wp2_with fail;refine hc.mono ?_;rintro e w2 hp2;have HF:=I ((hp2.up (m:=16) (by omega)).of KK.out);obtain⟨rfl,-⟩:=hp2;clear hc;go_wp2_with fail;go_ret2;exact⟨rfl,HF.out.2⟩
theorem YO(h:yT γ B g p D)(ho:Own w0 w γ){t:Int}(x:En)(hu:D.tT t x)(hop:x.op=15∨x.op=16∨x.op=17∨x.op=18){r:Dm×Int}(hr:r=D.pC t x):Calls Tryz.prog 139 #[.p g,.i t,x.val] w (xj 16 w0 γ B g p r.1 (.tuple #[.i 0,.i r.2])):=by
 obtain⟨γ1,o1,b1,h1,k1⟩:=jJ ho h (T:=B+75) (by omega) x;have kk:∀k,yU 16 B k→γ1 k=γ k:=fun k hk=>k1 k (by unfold yU at hk;omega);have r0:=o1.cell b1 (i:=0) (v:=.i x.kind) rfl;have r1:=o1.cell b1 (i:=1) (v:=.i x.xr) rfl;have r2:=o1.cell b1 (i:=2) (v:=.i x.pick) rfl;have r3:=o1.cell b1 (i:=3) (v:=.i x.op) rfl;have r4:=o1.cell b1 (i:=4) (v:=.i x.a) rfl;have r5:=o1.cell b1 (i:=5) (v:=.i x.b) rfl;have r6:=o1.cell b1 (i:=6) (v:=.i x.c) rfl;have hval:x.val=.agg #[.i x.kind,.i x.xr,.i x.pick,.i x.op,.i x.a,.i x.b,.i x.c]:=rfl;have harr:x.xq=#[.i x.kind,.i x.xr,.i x.pick,.i x.op,.i x.a,.i x.b,.i x.c]:=rfl;have hc:=Rf h1 o1 x hu.toUseOk;rw[←hr]at hc;have KK:=I kk;rw[hval]at hc⊢;rw[harr]at r0 r1 r2 r3 r4 r5 r6 hc;clear h ho o1 b1 h1 k1 kk hu hval harr hr;rcases hop with hop|hop|hop|hop
 ·have c7:(x.op==7)=false:=by rw[hop];rfl
  have c8:(x.op==8)=false:=by rw[hop];rfl
  have c9:(x.op==9)=false:=by rw[hop];rfl
  have c10:(x.op==10)=false:=by rw[hop];rfl
  have c11:(x.op==11)=false:=by rw[hop];rfl
  have c12:(x.op==12)=false:=by rw[hop];rfl
  have c13:(x.op==13)=false:=by rw[hop];rfl
  have c14:(x.op==14)=false:=by rw[hop];rfl
  have c15:(x.op==15)=true:=by rw[hop];rfl
  clear hop;generalize x.op=op at*;go_in;go_wp2_with fail;refine hc.mono ?_;rintro e w2 hp2;have HF:=I ((hp2.up (m:=16) (by omega)).of KK.out);obtain⟨rfl,-⟩:=hp2;clear hc;go_wp2_with fail;go_ret2;exact⟨rfl,HF.out.2⟩
 ·have c7:(x.op==7)=false:=by rw[hop];rfl
  have c8:(x.op==8)=false:=by rw[hop];rfl
  have c9:(x.op==9)=false:=by rw[hop];rfl
  have c10:(x.op==10)=false:=by rw[hop];rfl
  have c11:(x.op==11)=false:=by rw[hop];rfl
  have c12:(x.op==12)=false:=by rw[hop];rfl
  have c13:(x.op==13)=false:=by rw[hop];rfl
  have c14:(x.op==14)=false:=by rw[hop];rfl
  have c15:(x.op==15)=false:=by rw[hop];rfl
  have c16:(x.op==16)=true:=by rw[hop];rfl
  clear hop;generalize x.op=op at*;go_in;go_wp2_with fail;refine hc.mono ?_;rintro e w2 hp2;have HF:=I ((hp2.up (m:=16) (by omega)).of KK.out);obtain⟨rfl,-⟩:=hp2;clear hc;go_wp2_with fail;go_ret2;exact⟨rfl,HF.out.2⟩
 ·have c7:(x.op==7)=false:=by rw[hop];rfl
  have c8:(x.op==8)=false:=by rw[hop];rfl
  have c9:(x.op==9)=false:=by rw[hop];rfl
  have c10:(x.op==10)=false:=by rw[hop];rfl
  have c11:(x.op==11)=false:=by rw[hop];rfl
  have c12:(x.op==12)=false:=by rw[hop];rfl
  have c13:(x.op==13)=false:=by rw[hop];rfl
  have c14:(x.op==14)=false:=by rw[hop];rfl
  have c15:(x.op==15)=false:=by rw[hop];rfl
  have c16:(x.op==16)=false:=by rw[hop];rfl
  have c17:(x.op==17)=true:=by rw[hop];rfl
  clear hop;generalize x.op=op at*;go_in;go_wp2_with fail;refine hc.mono ?_;rintro e w2 hp2;have HF:=I ((hp2.up (m:=16) (by omega)).of KK.out);obtain⟨rfl,-⟩:=hp2;clear hc;go_wp2_with fail;go_ret2;exact⟨rfl,HF.out.2⟩
 ·have c7:(x.op==7)=false:=by rw[hop];rfl
  have c8:(x.op==8)=false:=by rw[hop];rfl
  have c9:(x.op==9)=false:=by rw[hop];rfl
  have c10:(x.op==10)=false:=by rw[hop];rfl
  have c11:(x.op==11)=false:=by rw[hop];rfl
  have c12:(x.op==12)=false:=by rw[hop];rfl
  have c13:(x.op==13)=false:=by rw[hop];rfl
  have c14:(x.op==14)=false:=by rw[hop];rfl
  have c15:(x.op==15)=false:=by rw[hop];rfl
  have c16:(x.op==16)=false:=by rw[hop];rfl
  have c17:(x.op==17)=false:=by rw[hop];rfl
  have c18:(x.op==18)=true:=by rw[hop];rfl
  clear hop;generalize x.op=op at*;go_in;go_wp2_with fail;refine hc.mono ?_;rintro e w2 hp2;have HF:=I ((hp2.up (m:=16) (by omega)).of KK.out);obtain⟨rfl,-⟩:=hp2;clear hc;go_wp2_with fail;go_ret2;exact⟨rfl,HF.out.2⟩
theorem X6(h:yT γ B g p D)(ho:Own w0 w γ){t:Int}(x:En)(hu:D.tT t x)(hop:x.op=19∨x.op=20){r:Dm×Int}(hr:r=D.wait t x):Calls Tryz.prog 139 #[.p g,.i t,x.val] w (xj 16 w0 γ B g p r.1 (.tuple #[.i 0,.i r.2])):=by
 obtain⟨γ1,o1,b1,h1,k1⟩:=jJ ho h (T:=B+75) (by omega) x;have kk:∀k,yU 16 B k→γ1 k=γ k:=fun k hk=>k1 k (by unfold yU at hk;omega);have r0:=o1.cell b1 (i:=0) (v:=.i x.kind) rfl;have r1:=o1.cell b1 (i:=1) (v:=.i x.xr) rfl;have r2:=o1.cell b1 (i:=2) (v:=.i x.pick) rfl;have r3:=o1.cell b1 (i:=3) (v:=.i x.op) rfl;have r4:=o1.cell b1 (i:=4) (v:=.i x.a) rfl;have r5:=o1.cell b1 (i:=5) (v:=.i x.b) rfl;have r6:=o1.cell b1 (i:=6) (v:=.i x.c) rfl;have hval:x.val=.agg #[.i x.kind,.i x.xr,.i x.pick,.i x.op,.i x.a,.i x.b,.i x.c]:=rfl;have harr:x.xq=#[.i x.kind,.i x.xr,.i x.pick,.i x.op,.i x.a,.i x.b,.i x.c]:=rfl;have hc:=Pe h1 o1 x hu;rw[←hr]at hc;have KK:=I kk;rw[hval]at hc⊢;rw[harr]at r0 r1 r2 r3 r4 r5 r6 hc;clear h ho o1 b1 h1 k1 kk hu hval harr hr;rcases hop with hop|hop
 ·have c7:(x.op==7)=false:=by rw[hop];rfl
  have c8:(x.op==8)=false:=by rw[hop];rfl
  have c9:(x.op==9)=false:=by rw[hop];rfl
  have c10:(x.op==10)=false:=by rw[hop];rfl
  have c11:(x.op==11)=false:=by rw[hop];rfl
  have c12:(x.op==12)=false:=by rw[hop];rfl
  have c13:(x.op==13)=false:=by rw[hop];rfl
  have c14:(x.op==14)=false:=by rw[hop];rfl
  have c15:(x.op==15)=false:=by rw[hop];rfl
  have c16:(x.op==16)=false:=by rw[hop];rfl
  have c17:(x.op==17)=false:=by rw[hop];rfl
  have c18:(x.op==18)=false:=by rw[hop];rfl
  have c19:(x.op==19)=true:=by rw[hop];rfl
  clear hop;generalize x.op=op at*;go_in;go_wp2_with fail;refine hc.mono ?_;rintro e w2 hp2;have HF:=I ((hp2.up (m:=16) (by omega)).of KK.out);obtain⟨rfl,-⟩:=hp2;clear hc;go_wp2_with fail;go_ret2;exact⟨rfl,HF.out.2⟩
 ·have c7:(x.op==7)=false:=by rw[hop];rfl
  have c8:(x.op==8)=false:=by rw[hop];rfl
  have c9:(x.op==9)=false:=by rw[hop];rfl
  have c10:(x.op==10)=false:=by rw[hop];rfl
  have c11:(x.op==11)=false:=by rw[hop];rfl
  have c12:(x.op==12)=false:=by rw[hop];rfl
  have c13:(x.op==13)=false:=by rw[hop];rfl
  have c14:(x.op==14)=false:=by rw[hop];rfl
  have c15:(x.op==15)=false:=by rw[hop];rfl
  have c16:(x.op==16)=false:=by rw[hop];rfl
  have c17:(x.op==17)=false:=by rw[hop];rfl
  have c18:(x.op==18)=false:=by rw[hop];rfl
  have c19:(x.op==19)=false:=by rw[hop];rfl
  have c20:(x.op==20)=true:=by rw[hop];rfl
  clear hop;generalize x.op=op at*;go_in;go_wp2_with fail;refine hc.mono ?_;rintro e w2 hp2;have HF:=I ((hp2.up (m:=16) (by omega)).of KK.out);obtain⟨rfl,-⟩:=hp2;clear hc;go_wp2_with fail;go_ret2;exact⟨rfl,HF.out.2⟩
theorem ZL(h:yT γ B g p D)(ho:Own w0 w γ){t:Int}(x:En)(hu:D.tT t x)(hop:x.op=21∨x.op=22){r:Dm×Int×Int}(hr:r=D.qM x):Calls Tryz.prog 139 #[.p g,.i t,x.val] w (xj 16 w0 γ B g p r.1 (.tuple #[.i r.2.1,.i r.2.2])):=by
 obtain⟨γ1,o1,b1,h1,k1⟩:=jJ ho h (T:=B+75) (by omega) x;have kk:∀k,yU 16 B k→γ1 k=γ k:=fun k hk=>k1 k (by unfold yU at hk;omega);have r0:=o1.cell b1 (i:=0) (v:=.i x.kind) rfl;have r1:=o1.cell b1 (i:=1) (v:=.i x.xr) rfl;have r2:=o1.cell b1 (i:=2) (v:=.i x.pick) rfl;have r3:=o1.cell b1 (i:=3) (v:=.i x.op) rfl;have r4:=o1.cell b1 (i:=4) (v:=.i x.a) rfl;have r5:=o1.cell b1 (i:=5) (v:=.i x.b) rfl;have r6:=o1.cell b1 (i:=6) (v:=.i x.c) rfl;have hval:x.val=.agg #[.i x.kind,.i x.xr,.i x.pick,.i x.op,.i x.a,.i x.b,.i x.c]:=rfl;have harr:x.xq=#[.i x.kind,.i x.xr,.i x.pick,.i x.op,.i x.a,.i x.b,.i x.c]:=rfl;have hc:=Tg h1 o1 x hu;rw[←hr]at hc;have KK:=I kk;rw[hval]at hc⊢;rw[harr]at r0 r1 r2 r3 r4 r5 r6 hc;clear h ho o1 b1 h1 k1 kk hu hval harr hr;rcases hop with hop|hop
 ·have c7:(x.op==7)=false:=by rw[hop];rfl
  have c8:(x.op==8)=false:=by rw[hop];rfl
  have c9:(x.op==9)=false:=by rw[hop];rfl
  have c10:(x.op==10)=false:=by rw[hop];rfl
  have c11:(x.op==11)=false:=by rw[hop];rfl
  have c12:(x.op==12)=false:=by rw[hop];rfl
  have c13:(x.op==13)=false:=by rw[hop];rfl
  have c14:(x.op==14)=false:=by rw[hop];rfl
  have c15:(x.op==15)=false:=by rw[hop];rfl
  have c16:(x.op==16)=false:=by rw[hop];rfl
  have c17:(x.op==17)=false:=by rw[hop];rfl
  have c18:(x.op==18)=false:=by rw[hop];rfl
  have c19:(x.op==19)=false:=by rw[hop];rfl
  have c20:(x.op==20)=false:=by rw[hop];rfl
  have c21:(x.op==21)=true:=by rw[hop];rfl
  clear hop;generalize x.op=op at*;go_in;go_wp2_with fail;refine hc.mono ?_;rintro e w2 hp2;have HF:=I ((hp2.up (m:=16) (by omega)).of KK.out);obtain⟨rfl,-⟩:=hp2;clear hc;go_wp2_with fail;go_ret2;exact⟨rfl,HF.out.2⟩
 ·have c7:(x.op==7)=false:=by rw[hop];rfl
  have c8:(x.op==8)=false:=by rw[hop];rfl
  have c9:(x.op==9)=false:=by rw[hop];rfl
  have c10:(x.op==10)=false:=by rw[hop];rfl
  have c11:(x.op==11)=false:=by rw[hop];rfl
  have c12:(x.op==12)=false:=by rw[hop];rfl
  have c13:(x.op==13)=false:=by rw[hop];rfl
  have c14:(x.op==14)=false:=by rw[hop];rfl
  have c15:(x.op==15)=false:=by rw[hop];rfl
  have c16:(x.op==16)=false:=by rw[hop];rfl
  have c17:(x.op==17)=false:=by rw[hop];rfl
  have c18:(x.op==18)=false:=by rw[hop];rfl
  have c19:(x.op==19)=false:=by rw[hop];rfl
  have c20:(x.op==20)=false:=by rw[hop];rfl
  have c21:(x.op==21)=false:=by rw[hop];rfl
  have c22:(x.op==22)=true:=by rw[hop];rfl
  clear hop;generalize x.op=op at*;go_in;go_wp2_with fail;refine hc.mono ?_;rintro e w2 hp2;have HF:=I ((hp2.up (m:=16) (by omega)).of KK.out);obtain⟨rfl,-⟩:=hp2;clear hc;go_wp2_with fail;go_ret2;exact⟨rfl,HF.out.2⟩
theorem X4(h:yT γ B g p D)(ho:Own w0 w γ){t:Int}(x:En)(hu:D.tT t x)(hop:x.op=23∨x.op=24){r:Dm×Int×Int}(hr:r=D.gZ t x):Calls Tryz.prog 139 #[.p g,.i t,x.val] w (xj 16 w0 γ B g p r.1 (.tuple #[.i r.2.1,.i r.2.2])):=by
 obtain⟨γ1,o1,b1,h1,k1⟩:=jJ ho h (T:=B+75) (by omega) x;have kk:∀k,yU 16 B k→γ1 k=γ k:=fun k hk=>k1 k (by unfold yU at hk;omega);have r0:=o1.cell b1 (i:=0) (v:=.i x.kind) rfl;have r1:=o1.cell b1 (i:=1) (v:=.i x.xr) rfl;have r2:=o1.cell b1 (i:=2) (v:=.i x.pick) rfl;have r3:=o1.cell b1 (i:=3) (v:=.i x.op) rfl;have r4:=o1.cell b1 (i:=4) (v:=.i x.a) rfl;have r5:=o1.cell b1 (i:=5) (v:=.i x.b) rfl;have r6:=o1.cell b1 (i:=6) (v:=.i x.c) rfl;have hval:x.val=.agg #[.i x.kind,.i x.xr,.i x.pick,.i x.op,.i x.a,.i x.b,.i x.c]:=rfl;have harr:x.xq=#[.i x.kind,.i x.xr,.i x.pick,.i x.op,.i x.a,.i x.b,.i x.c]:=rfl;have hc:=Pa h1 o1 x hu;rw[←hr]at hc;have KK:=I kk;rw[hval]at hc⊢;rw[harr]at r0 r1 r2 r3 r4 r5 r6 hc;clear h ho o1 b1 h1 k1 kk hu hval harr hr;rcases hop with hop|hop
 ·have c7:(x.op==7)=false:=by rw[hop];rfl
  have c8:(x.op==8)=false:=by rw[hop];rfl
  have c9:(x.op==9)=false:=by rw[hop];rfl
  have c10:(x.op==10)=false:=by rw[hop];rfl
  have c11:(x.op==11)=false:=by rw[hop];rfl
  have c12:(x.op==12)=false:=by rw[hop];rfl
  have c13:(x.op==13)=false:=by rw[hop];rfl
  have c14:(x.op==14)=false:=by rw[hop];rfl
  have c15:(x.op==15)=false:=by rw[hop];rfl
  have c16:(x.op==16)=false:=by rw[hop];rfl
  have c17:(x.op==17)=false:=by rw[hop];rfl
  have c18:(x.op==18)=false:=by rw[hop];rfl
  have c19:(x.op==19)=false:=by rw[hop];rfl
  have c20:(x.op==20)=false:=by rw[hop];rfl
  have c21:(x.op==21)=false:=by rw[hop];rfl
  have c22:(x.op==22)=false:=by rw[hop];rfl
  have c23:(x.op==23)=true:=by rw[hop];rfl
  clear hop;generalize x.op=op at*;go_in;go_wp2_with fail;refine hc.mono ?_;rintro e w2 hp2;have HF:=I ((hp2.up (m:=16) (by omega)).of KK.out);obtain⟨rfl,-⟩:=hp2;clear hc;go_wp2_with fail;go_ret2;exact⟨rfl,HF.out.2⟩
 ·have c7:(x.op==7)=false:=by rw[hop];rfl
  have c8:(x.op==8)=false:=by rw[hop];rfl
  have c9:(x.op==9)=false:=by rw[hop];rfl
  have c10:(x.op==10)=false:=by rw[hop];rfl
  have c11:(x.op==11)=false:=by rw[hop];rfl
  have c12:(x.op==12)=false:=by rw[hop];rfl
  have c13:(x.op==13)=false:=by rw[hop];rfl
  have c14:(x.op==14)=false:=by rw[hop];rfl
  have c15:(x.op==15)=false:=by rw[hop];rfl
  have c16:(x.op==16)=false:=by rw[hop];rfl
  have c17:(x.op==17)=false:=by rw[hop];rfl
  have c18:(x.op==18)=false:=by rw[hop];rfl
  have c19:(x.op==19)=false:=by rw[hop];rfl
  have c20:(x.op==20)=false:=by rw[hop];rfl
  have c21:(x.op==21)=false:=by rw[hop];rfl
  have c22:(x.op==22)=false:=by rw[hop];rfl
  have c23:(x.op==23)=false:=by rw[hop];rfl
  have c24:(x.op==24)=true:=by rw[hop];rfl
  clear hop;generalize x.op=op at*;go_in;go_wp2_with fail;refine hc.mono ?_;rintro e w2 hp2;have HF:=I ((hp2.up (m:=16) (by omega)).of KK.out);obtain⟨rfl,-⟩:=hp2;clear hc;go_wp2_with fail;go_ret2;exact⟨rfl,HF.out.2⟩
theorem VC(h:yT γ B g p D)(ho:Own w0 w γ){t:Int}(x:En)(hu:D.tT t x)(hop:x.op=25){r:Dm×Int}(hr:r=D.add x):Calls Tryz.prog 139 #[.p g,.i t,x.val] w (xj 16 w0 γ B g p r.1 (.tuple #[.i 0,.i r.2])):=by
 obtain⟨γ1,o1,b1,h1,k1⟩:=jJ ho h (T:=B+75) (by omega) x;have kk:∀k,yU 16 B k→γ1 k=γ k:=fun k hk=>k1 k (by unfold yU at hk;omega);have r0:=o1.cell b1 (i:=0) (v:=.i x.kind) rfl;have r1:=o1.cell b1 (i:=1) (v:=.i x.xr) rfl;have r2:=o1.cell b1 (i:=2) (v:=.i x.pick) rfl;have r3:=o1.cell b1 (i:=3) (v:=.i x.op) rfl;have r4:=o1.cell b1 (i:=4) (v:=.i x.a) rfl;have r5:=o1.cell b1 (i:=5) (v:=.i x.b) rfl;have r6:=o1.cell b1 (i:=6) (v:=.i x.c) rfl;have hval:x.val=.agg #[.i x.kind,.i x.xr,.i x.pick,.i x.op,.i x.a,.i x.b,.i x.c]:=rfl;have harr:x.xq=#[.i x.kind,.i x.xr,.i x.pick,.i x.op,.i x.a,.i x.b,.i x.c]:=rfl;have hc:=Oc h1 o1 x hu.xa (fun m hm=>(hu.gp m hm).2);rw[←hr]at hc;have KK:=I kk;rw[hval]at hc⊢;rw[harr]at r0 r1 r2 r3 r4 r5 r6 hc;clear h ho o1 b1 h1 k1 kk hu hval harr hr;have c7:(x.op==7)=false:=by rw[hop];rfl
 have c8:(x.op==8)=false:=by rw[hop];rfl
 have c9:(x.op==9)=false:=by rw[hop];rfl
 have c10:(x.op==10)=false:=by rw[hop];rfl
 have c11:(x.op==11)=false:=by rw[hop];rfl
 have c12:(x.op==12)=false:=by rw[hop];rfl
 have c13:(x.op==13)=false:=by rw[hop];rfl
 have c14:(x.op==14)=false:=by rw[hop];rfl
 have c15:(x.op==15)=false:=by rw[hop];rfl
 have c16:(x.op==16)=false:=by rw[hop];rfl
 have c17:(x.op==17)=false:=by rw[hop];rfl
 have c18:(x.op==18)=false:=by rw[hop];rfl
 have c19:(x.op==19)=false:=by rw[hop];rfl
 have c20:(x.op==20)=false:=by rw[hop];rfl
 have c21:(x.op==21)=false:=by rw[hop];rfl
 have c22:(x.op==22)=false:=by rw[hop];rfl
 have c23:(x.op==23)=false:=by rw[hop];rfl
 have c24:(x.op==24)=false:=by rw[hop];rfl
 have c25:(x.op==25)=true:=by rw[hop];rfl
 clear hop;generalize x.op=op at*;go_in;go_wp2_with fail;refine hc.mono ?_;rintro e w2 hp2;have HF:=I ((hp2.up (m:=16) (by omega)).of KK.out);obtain⟨rfl,-⟩:=hp2;clear hc;go_wp2_with fail;go_ret2;exact⟨rfl,HF.out.2⟩
theorem X3(h:yT γ B g p D)(ho:Own w0 w γ){t:Int}(x:En)(hop:x.op<7∨25<x.op):Calls Tryz.prog 139 #[.p g,.i t,x.val] w (xj 16 w0 γ B g p D (.tuple #[.i 0,.i 1])):=by
 obtain⟨γ1,o1,b1,h1,k1⟩:=jJ ho h (T:=B+75) (by omega) x;have kk:∀k,yU 16 B k→γ1 k=γ k:=fun k hk=>k1 k (by unfold yU at hk;omega);have r0:=o1.cell b1 (i:=0) (v:=.i x.kind) rfl;have r1:=o1.cell b1 (i:=1) (v:=.i x.xr) rfl;have r2:=o1.cell b1 (i:=2) (v:=.i x.pick) rfl;have r3:=o1.cell b1 (i:=3) (v:=.i x.op) rfl;have r4:=o1.cell b1 (i:=4) (v:=.i x.a) rfl;have r5:=o1.cell b1 (i:=5) (v:=.i x.b) rfl;have r6:=o1.cell b1 (i:=6) (v:=.i x.c) rfl;have hval:x.val=.agg #[.i x.kind,.i x.xr,.i x.pick,.i x.op,.i x.a,.i x.b,.i x.c]:=rfl;have harr:x.xq=#[.i x.kind,.i x.xr,.i x.pick,.i x.op,.i x.a,.i x.b,.i x.c]:=rfl;have HF:Hid (∃γ',Own w0 (w.alloc (.cells #[.i x.kind,.i x.xr,.i x.pick,.i x.op,.i x.a,.i x.b,.i x.c] 38)) γ'∧yT γ' B g p D∧∀k,yU 16 B k→γ' k=γ k):=I ⟨γ1,by rw[←harr];exact o1,h1,kk⟩;rw[hval];rw[harr]at r3;clear h ho o1 b1 h1 k1 kk hval harr r0 r1 r2 r4 r5 r6;have c7:(x.op==7)=false:=by simp;omega
 have c8:(x.op==8)=false:=by simp;omega
 have c9:(x.op==9)=false:=by simp;omega
 have c10:(x.op==10)=false:=by simp;omega
 have c11:(x.op==11)=false:=by simp;omega
 have c12:(x.op==12)=false:=by simp;omega
 have c13:(x.op==13)=false:=by simp;omega
 have c14:(x.op==14)=false:=by simp;omega
 have c15:(x.op==15)=false:=by simp;omega
 have c16:(x.op==16)=false:=by simp;omega
 have c17:(x.op==17)=false:=by simp;omega
 have c18:(x.op==18)=false:=by simp;omega
 have c19:(x.op==19)=false:=by simp;omega
 have c20:(x.op==20)=false:=by simp;omega
 have c21:(x.op==21)=false:=by simp;omega
 have c22:(x.op==22)=false:=by simp;omega
 have c23:(x.op==23)=false:=by simp;omega
 have c24:(x.op==24)=false:=by simp;omega
 have c25:(x.op==25)=false:=by simp;omega
 clear hop;generalize x.op=op at*;go_in;go_wp2_with fail;go_ret2;exact⟨rfl,HF.out⟩
theorem Oe(h:yT γ B g p D)(ho:Own w0 w γ){t:Int}(x:En)(hu:D.tT t x):Calls Tryz.prog 139 #[.p g,.i t,x.val] w (xj 16 w0 γ B g p (D.use t x).1 (.tuple #[.i (D.use t x).2.1,.i (D.use t x).2.2])):=by
 unfold Dm.use;by_cases c_lock:7≤x.op∧x.op≤10
 ·rw[if_pos c_lock];exact X2 h ho x hu (by omega) rfl
 rw[if_neg c_lock];by_cases c_read:11≤x.op∧x.op≤14
 ·rw[if_pos c_read];exact X5 h ho x hu (by omega) rfl
 rw[if_neg c_read];by_cases c_units:15≤x.op∧x.op≤18
 ·rw[if_pos c_units];exact YO h ho x hu (by omega) rfl
 rw[if_neg c_units];by_cases c_wait:19≤x.op∧x.op≤20
 ·rw[if_pos c_wait];exact X6 h ho x hu (by omega) rfl
 rw[if_neg c_wait];by_cases c_signal:21≤x.op∧x.op≤22
 ·rw[if_pos c_signal];exact ZL h ho x hu (by omega) rfl
 rw[if_neg c_signal];by_cases c_once:23≤x.op∧x.op≤24
 ·rw[if_pos c_once];exact X4 h ho x hu (by omega) rfl
 rw[if_neg c_once];by_cases c_add:x.op=25
 ·rw[if_pos c_add];exact VC h ho x hu (by omega) rfl
 rw[if_neg c_add];exact X3 h ho x (by omega)
end
end
section
open Go.RowKit Go.WideShapes
def Dm.qC(D:Dm)(arg:Int):Int:=if D.av.place arg= -1 then 7 else match D.ob arg with
 |some (.mu _)=>0
 |_=>8
def Dm.rz(D:Dm)(kind arg:Int):Int:=
 if kind=1∨kind=2∨kind=5∨kind=6 then 0 else if kind=3 then(if arg<1∨16<arg then 1 else 0)else if kind=4 then D.qC arg else 1
def wT(kind arg:Int):Ob:=
 if kind=1 then .mu ⟨0,[]⟩else if kind=2 then .rw ⟨0,[],[],[]⟩else if kind=3 then .sm ⟨arg,arg,[]⟩else if kind=4 then .cd [] arg else if kind=5 then .on ⟨0,false,[]⟩else .gp ⟨0,[]⟩
def vT(w0:World)(γ:U)(b:Nat)(E:Int)(o:Ob)(e:Ending)(w':World):Prop:=
 ∃v γ',e=.returned (.tuple #[v,.i E])∧Own w0 w' γ'∧(E=0→tr γ' b v (some o))∧v.oneCell'=true∧∀k,(k<b∨b+8≤k)→γ' k=γ k
section
variable {w0 w:World} {γ:U} {B g:Nat} {p:vG} {D:Dm}
theorem YR(h:yT γ B g p D)(ho:Own w0 w γ)(x:Int)(hx:x≤9223372036854775807):Calls Tryz.prog 215 #[.p g,.i x] w fun e w'=>(∃q,e=.returned (.tuple #[.pointer q,.i (D.qC x)]))∧w=w':=by
 by_cases hp:D.av.place x= -1
 ·rw[show D.qC x=7 from if_pos hp];exact(cm h ho x hx hp).mono fun e w' ⟨h1,h2⟩=>⟨⟨_,h1⟩,h2⟩
 ·have hat:=xX h hp;by_cases hm:∃m,D.ob x=some (.mu m)
  ·obtain⟨m,hm⟩:=hm;rw[hm]at hat;obtain⟨gm,hos,-⟩:=hat;have hce:D.qC x=0:=by unfold Dm.qC;rw[if_neg hp,hm]
   rw[hce];exact(rW h ho x hx hp true hos (fun W=>qx _ W) (by simp)).mono fun e w' ⟨h1,h2⟩=>⟨⟨_,h1⟩,h2⟩
  ·have hce:D.qC x=8:=by
    unfold Dm.qC;rw[if_neg hp];split
    ·rename_i m e;exact absurd ⟨m,e⟩ hm
    ·rfl
   rw[hce];exact(rW h ho x hx hp false rfl (bQ hat (fun m e=>hm ⟨m,e⟩)) (by simp)).mono fun e w' ⟨h1,h2⟩=>⟨⟨_,h1⟩,h2⟩
theorem bG(h:yT γ B g p D)(ho:Own w0 w γ)(kind arg:Int)(hx:arg≤9223372036854775807)(b:Nat):Calls Tryz.prog 171 #[.p g,.i kind,.i arg] w (vT w0 γ b (D.rz kind arg) (wT kind arg)):=by
 by_cases k1:kind=1
 ·subst k1;have hc:=Ox ho b;show Calls _ _ _ _ (vT w0 γ b 0 (.mu ⟨0,[]⟩));clear h ho;go_in;go_wp2_with fail;refine hc.mono ?_;rintro e w' ⟨gm,γ',rfl,o1,a1,kk⟩;have HF:Hid (vT w0 γ b 0 (.mu ⟨0,[]⟩) (.returned (.tuple #[.iface 217 (.p gm),.i 0])) w'):=I ⟨_,γ',rfl,o1,fun _=>⟨gm,rfl,a1⟩,rfl,fun k hk=>kk k (by omega)⟩;clear o1 a1 kk hc;go_wp2_with fail;go_ret2;exact HF.out
 have d1:(kind==1)=false:=by simpa using k1
 by_cases k2:kind=2
 ·subst k2;have hc:=OG ho b;show Calls _ _ _ _ (vT w0 γ b 0 (.rw ⟨0,[],[],[]⟩));clear h ho;go_in;go_wp2_with fail;refine hc.mono ?_;rintro e w' ⟨gm,γ',rfl,o1,a1,kk⟩;have HF:Hid (vT w0 γ b 0 (.rw ⟨0,[],[],[]⟩) (.returned (.tuple #[.iface 218 (.p gm),.i 0])) w'):=I ⟨_,γ',rfl,o1,fun _=>⟨gm,rfl,a1⟩,rfl,fun k hk=>kk k (by omega)⟩;clear o1 a1 kk hc;go_wp2_with fail;go_ret2;exact HF.out
 have d2:(kind==2)=false:=by simpa using k2
 by_cases k5:kind=5
 ·subst k5;have hc:=Oz ho b;show Calls _ _ _ _ (vT w0 γ b 0 (.on ⟨0,false,[]⟩));clear h ho;go_in;go_wp2_with fail;refine hc.mono ?_;rintro e w' ⟨gm,γ',rfl,o1,a1,kk⟩;have HF:Hid (vT w0 γ b 0 (.on ⟨0,false,[]⟩) (.returned (.tuple #[.iface 222 (.p gm),.i 0])) w'):=I ⟨_,γ',rfl,o1,fun _=>⟨gm,rfl,a1⟩,rfl,fun k hk=>kk k (by omega)⟩;clear o1 a1 kk hc;go_wp2_with fail;go_ret2;exact HF.out
 have d5:(kind==5)=false:=by simpa using k5
 by_cases k6:kind=6
 ·subst k6;have hc:=Ol ho b;show Calls _ _ _ _ (vT w0 γ b 0 (.gp ⟨0,[]⟩));clear h ho;go_in;go_wp2_with fail;refine hc.mono ?_;rintro e w' ⟨gm,γ',rfl,o1,a1,kk⟩;have HF:Hid (vT w0 γ b 0 (.gp ⟨0,[]⟩) (.returned (.tuple #[.iface 223 (.p gm),.i 0])) w'):=I ⟨_,γ',rfl,o1,fun _=>⟨gm,rfl,a1⟩,rfl,fun k hk=>kk k (by omega)⟩;clear o1 a1 kk hc;go_wp2_with fail;go_ret2;exact HF.out
 have d6:(kind==6)=false:=by simpa using k6
 have hE:D.rz kind arg=if kind=3 then(if arg<1∨16<arg then 1 else 0)else if kind=4 then D.qC arg else 1:=if_neg (by omega);by_cases k3:kind=3
 ·subst k3;rw[if_pos rfl]at hE;have hO:wT 3 arg=.sm ⟨arg,arg,[]⟩:=rfl;rw[hE,hO];by_cases hb:arg<1∨16<arg
  ·rw[if_pos hb];have HF:Hid (vT w0 γ b 1 (.sm ⟨arg,arg,[]⟩) (.returned (.tuple #[.nilIface,.i 1])) w):=I ⟨_,γ,rfl,ho,fun e=>(by cases e),rfl,fun _ _=>rfl⟩;clear h ho hE hO;by_cases a1:arg<1
   ·have e1:decide (arg<1)=true:=by simpa using a1
    clear hb;go_in;go_wp2_with fail;go_ret2;exact HF.out
   ·have e1:decide (arg<1)=false:=by simpa using a1
    have e2:decide (16<arg)=true:=by simp;omega
    clear hb;go_in;go_wp2_with fail;go_ret2;exact HF.out
  ·rw[if_neg hb];have e1:decide (arg<1)=false:=by simp;omega
   have e2:decide (16<arg)=false:=by simp;omega
   have hc:=Ql ho b arg arg (by omega) rfl;clear h ho hE hO;go_in;go_wp2_with fail;refine hc.mono ?_;rintro e w' ⟨gm,γ',rfl,o1,a1,kk⟩;have HF:Hid (vT w0 γ b 0 (.sm ⟨arg,arg,[]⟩) (.returned (.tuple #[.iface 221 (.p gm),.i 0])) w'):=I ⟨_,γ',rfl,o1,fun _=>⟨gm,rfl,a1⟩,rfl,fun k hk=>kk k (by omega)⟩;clear o1 a1 kk hc;go_wp2_with fail;go_ret2;exact HF.out
 rw[if_neg k3]at hE;have d3:(kind==3)=false:=by simpa using k3
 by_cases k4:kind=4
 ·subst k4;rw[if_pos rfl]at hE;have hO:wT 4 arg=.cd [] arg:=rfl;rw[hE,hO];have hf:=YR h ho arg hx;have hc:=P8 ho b;generalize D.qC arg=ce at*;clear h ho hE hO;go_in;go_wp2_with fail;refine hf.mono ?_;rintro e w' ⟨⟨q,rfl⟩,rfl⟩;clear hf;go_wp2_with fail;refine hc.mono ?_;rintro e w' ⟨gm,γ',rfl,o1,a1,kk⟩;have o2:=o1.new (b+7) (.cells #[.p gm,.i arg] 227);have HF:Hid (vT w0 γ b ce (.cd [] arg) (.returned (.tuple #[.iface 224 (.p w'.heap.size),.i ce])) (w'.alloc (.cells #[.p gm,.i arg] 227))):=I ⟨_,_,rfl,o2,fun _=>⟨_,gm,rfl,yQ _ _ _ _,a1.keep fun k q1 q2=>yO _ _ _ (by omega)⟩,rfl,fun k hk=>(yO _ _ _ (by omega)).trans (kk k (by omega))⟩;clear o1 a1 kk hc o2;go_wp2_with fail;go_ret2;exact HF.out
 rw[if_neg k4]at hE;have d4:(kind==4)=false:=by simpa using k4
 rw[hE];have HF:Hid (vT w0 γ b 1 (wT kind arg) (.returned (.tuple #[.nilIface,.i 1])) w):=I ⟨_,γ,rfl,ho,fun e=>(by cases e),rfl,fun _ _=>rfl⟩;clear h ho hE k1 k2 k3 k4 k5 k6;go_in;go_wp2_with fail;go_ret2;exact HF.out
end
end
end Go.Proofs.YtkmamlifgbocgaaGreat
