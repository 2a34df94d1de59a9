/- What the program's code does, as contracts, and what follows of it, part 6: for the law's proof. -/
import Derived.Test.YtkmamlifgbocgaaGreatP00
import Derived.Test.YtkmamlifgbocgaaGreatP04
import Derived.Test.YtkmamlifgbocgaaGreatP05
set_option linter.unusedVariables false
set_option linter.unusedSimpArgs false
set_option maxRecDepth 100000
set_option maxHeartbeats 16000000
namespace Go.Proofs.YtkmamlifgbocgaaGreat
section
open Go.RowKit Go.WideShapes
section
variable {w0 w:World} {γ:U} {b g:Nat} {m:Sm}
theorem SI(h:vJ γ b g m)(ho:Own w0 w γ)(x n:Int):Calls Tryz.prog 237 #[.p g,.i x,.i n] w (wg (fun γ'=>vJ γ' b g (m.wi x n)) w0 γ b (.i (m.xP x n))):=by
 have hfi:=UE h ho x;have hsame:Hid (∀r w',Below w.heap.size w w'→wg (fun γ'=>vJ γ' b g m) w0 γ b r (.returned r) w'):=I fun r w' hb=>⟨rfl,γ,ho.xh hb,h,fun _ _=>rfl⟩;have hok:(m.wi x n).Ok:=Sm.Ok.wi h.choose_spec.2.2 x n;obtain⟨v,h1,h2,h3⟩:=h;have c0:=ho.cell h1 (i:=0) (v:=.i m.size) rfl;have HO:=I ho;by_cases hx:x<1
 ·have d1:decide (x<1)=true:=by simpa using hx
  have e1:m.xP x n=1:=if_pos (.inl hx);have e2:m.wi x n=m:=if_neg (by rw[e1];decide);rw[e1,e2];clear h1 h2 h3 ho hok e1 e2 hx;go_in;go_wp2_with fail;go_ret;exact hsame.out _ _ (Below.refl _ _)
 ·have d1:decide (x<1)=false:=by simpa using hx
  by_cases hn:n<1
  ·have d2:decide (n<1)=true:=by simpa using hn
   have e1:m.xP x n=1:=if_pos (.inr (.inl hn));have e2:m.wi x n=m:=if_neg (by rw[e1];decide);rw[e1,e2];clear h1 h2 h3 ho hok e1 e2 hx hn;go_in;go_wp2_with fail;go_ret;exact hsame.out _ _ (Below.refl _ _)
  ·have d2:decide (n<1)=false:=by simpa using hn
   by_cases hs:m.size<n
   ·have d3:decide (m.size<n)=true:=by simpa using hs
    have e1:m.xP x n=1:=if_pos (.inr (.inr hs));have e2:m.wi x n=m:=if_neg (by rw[e1];decide);rw[e1,e2];generalize m.size=y at*;clear h1 h2 h3 ho hok e1 e2 hx hn;go_in;go_wp2_with fail;go_ret;exact hsame.out _ _ (Below.refl _ _)
   ·have d3:decide (m.size<n)=false:=by simpa using hs
    have hc0:¬(x<1∨n<1∨m.size<n):=by omega
    by_cases hf:0≤m.at_ x
    ·have d4:decide (0≤m.at_ x)=true:=by simpa using hf
     have e1:m.xP x n=11:=by unfold Sm.xP;rw[if_neg hc0,if_pos hf]
     have e2:m.wi x n=m:=if_neg (by rw[e1];decide);rw[e1,e2];generalize m.size=y at*;generalize m.at_ x=z at*;clear h1 h2 h3 ho hok e1 e2 hx hn hc0;go_in;go_wp2_with fail;refine hfi.mono ?_;rintro e w' ⟨rfl,hb⟩;have HB:=I hb;clear hb hfi;go_wp2_with fail;go_ret;exact hsame.out _ _ HB.out
    ·have d4:decide (0≤m.at_ x)=false:=by simpa using hf
     have G1:=I h1;have G2:=I h2;have G3:=I h3;by_cases hw:m.ws=[]
     ·have hz:m.ws.length=0:=by rw[hw];rfl
      by_cases hl:m.f<n
      ·have d5:decide (m.f<n)=true:=by simpa using hl
       have e1:m.xP x n=12:=by unfold Sm.xP;rw[if_neg hc0,if_neg hf,if_pos (.inr hl)]
       have e2:m.wi x n=m:=if_neg (by rw[e1];decide);rw[e1,e2];have c0':=c0;clear h1 h2 h3 ho hok e1 e2 hx hn hc0 hw c0;go_in;go_wp2_with fail;refine hfi.mono ?_;rintro e w' ⟨rfl,hb⟩;have o1:=HO.out.xh hb;have c1:=o1.cell G1.out (i:=1) (v:=.i m.f) rfl;have c2:=o1.cell G1.out (i:=2) (v:=v) rfl;have f1:=o1.free G1.out 1;have HF:=I (hsame.out (.i 12) _ hb);obtain⟨A,cap,rfl,-⟩:=G2.out.form;rw[hz]at c2;clear hfi o1 hb;go_wp2_with fail;go_ret;exact HF.out
      ·have d5:decide (m.f<n)=false:=by simpa using hl
       have e1:m.xP x n=0:=by unfold Sm.xP;rw[if_neg hc0,if_neg hf,if_neg (by rintro(h|h);exact h hw;exact hl h)]
       have e2:m.wi x n={m with f:=m.f-n}:=if_pos e1;rw[e2]at hok;have HK:=I hok;have b1:=h3.f1;have b2:=h3.f2;have b3:=h3.s2;have b4:1≤n:=by omega
       rw[e1,e2];have c0':=c0;clear h1 h2 h3 ho hok e1 e2 hx hn hc0 hw c0;go_in;go_wp2_with fail;refine hfi.mono ?_;rintro e w' ⟨rfl,hb⟩;have o1:=HO.out.xh hb;have c1:=o1.cell G1.out (i:=1) (v:=.i m.f) rfl;have c2:=o1.cell G1.out (i:=2) (v:=v) rfl;have f1:=o1.free G1.out 1;have HF:Hid (wg (fun γ'=>vJ γ' b g {m with f:=m.f-n}) w0 γ b (.i 0) (.returned (.i 0)) (w'.setCell (zc g 1) (.i (m.f-n)))):=I ⟨rfl,_,o1.set G1.out 1 (.i (m.f-n)),⟨v,yQ _ _ _ _,G2.out.keep (yO _ _ _ (by omega)),HK.out⟩,fun k hk=>yO _ _ _ (by omega)⟩;obtain⟨A,cap,rfl,-⟩:=G2.out.form;rw[hz]at c2;clear hfi o1 hb;go_wp2_with fail;go_ret;exact HF.out
     ·have hz:(0:Int)<m.ws.length:=by have:=yg.2 hw;omega
      have hz':decide ((0:Int)<m.ws.length)=true:=by simpa using yg.2 hw
      have e1:m.xP x n=12:=by unfold Sm.xP;rw[if_neg hc0,if_neg hf,if_pos (.inl hw)]
      have e2:m.wi x n=m:=if_neg (by rw[e1];decide);rw[e1,e2];have c0':=c0;clear h1 h2 h3 ho hok e1 e2 hx hn hc0 hw c0;go_in;go_wp2_with fail;refine hfi.mono ?_;rintro e w' ⟨rfl,hb⟩;have o1:=HO.out.xh hb;have c1:=o1.cell G1.out (i:=1) (v:=.i m.f) rfl;have c2:=o1.cell G1.out (i:=2) (v:=v) rfl;have f1:=o1.free G1.out 1;have HF:=I (hsame.out (.i 12) _ hb);obtain⟨A,cap,rfl,-⟩:=G2.out.form;clear G1 G2 G3;generalize m.ws.length=k at*;clear hfi o1 hb;go_wp2_with fail;go_ret;exact HF.out
theorem U5{j k cap:Nat}{A:Option Addr}{tb ts tq E:Nat}{ty:TypeId}{cs:Array Value}{xs:List (Int×Int)}(hb:γ tb=some (g,.cells cs ty (0,0)))(hj:cs[j]? =some (.slice A k cap))(hs:yR γ ts E 2 (.slice A k cap) k (yW xF xs))(ho:Own w0 w γ)(h1:tb≠ts)(h2:tb≠tq)(h3:ts≠tq)(hl:xs.length=k)(x:Int×Int):Hid (Own w0 (w.alloc (.cells #[.i x.1,.i x.2] E)) (put γ tq w.heap.size (.cells #[.i x.1,.i x.2] E)))∧Hid (yR (put γ tq w.heap.size (.cells #[.i x.1,.i x.2] E)) ts E 2 (.slice A k cap) k (yW xF xs))∧Hid (Reads (w.alloc (.cells #[.i x.1,.i x.2] E)) 2 (.slice (zb w.heap.size) 1 1) 1 (xF x))∧Hid (∀A' cap' w2 γ3,Own w0 w2 γ3→yR γ3 ts E 2 (.slice A' (k+1) cap') (k+1) (yW xF xs++xF x)→(∀k',k'≠ts→γ3 k'=put γ tq w.heap.size (.cells #[.i x.1,.i x.2] E) k')→w2.cell? (zc g j)=some (.slice A k cap)∧w2.frozen? (zc g j)=false∧Hid (∃γ',Own w0 (w2.setCell (zc g j) (.slice A' (k+1) cap')) γ'∧γ' tb=some (g,.cells (cs.setIfInBounds j (.slice A' (k+1) cap')) ty (0,0))∧yR γ' ts E 2 (.slice A' (k+1) cap') (xs++[x]).length (yW xF (xs++[x]))∧∀k',k'≠tb→k'≠ts→k'≠tq→γ' k'=γ k')):=by
 have o2:=ho.new tq (.cells #[.i x.1,.i x.2] E);have r2:Reads (w.alloc (.cells #[.i x.1,.i x.2] E)) 2 (.slice (zb w.heap.size) 1 1) 1 (xF x):=.inr ⟨_,1,rfl,rfl,fun j u hj=>by rw[add_plain,zy];exact o2.cell (yQ _ _ _ _) (i:=j) (by simpa[xF]using hj),by intro u hu;simp[xF]at hu;rcases hu with rfl|rfl<;>rfl⟩;refine⟨I o2,I (hs.keep (yO _ _ _ h3)),I r2,I fun A' cap' w2 γ3 o3 s3 k3=>?_⟩;have g3:=(k3 tb h1).trans ((yO _ _ _ h2).trans hb);rw[sz]at s3;have hlen:(xs++[x]).length=k+1:=by simp[hl]
 exact⟨o3.cell g3 hj,o3.free g3 j,I ⟨_,o3.set g3 j _,yQ _ _ _ _,by rw[hlen];exact s3.keep (yO _ _ _ (Ne.symm h1)),fun k' e1 e2 e3=>(yO _ _ _ e1).trans ((k3 k' e2).trans (yO _ _ _ e3))⟩⟩
theorem UD(h:vJ γ b g m)(ho:Own w0 w γ)(x n:Int)(hlt:m.ws.length<100):Calls Tryz.prog 240 #[.p g,.i x,.i n] w (wg (fun γ'=>vJ γ' b g (m.fx x n)) w0 γ b (.i (m.pV x n))):=by
 have htr:=SI h ho x n;by_cases h12:m.xP x n=12
 ·have e1:m.pV x n=14:=if_pos h12;have e2:m.fx x n={m with ws:=m.ws++[(x,n)]}:=if_pos h12;have e3:m.wi x n=m:=if_neg (by rw[h12];decide);have hn:1≤n∧n≤m.size:=by
   unfold Sm.xP at h12;by_cases c:x<1∨n<1∨m.size<n
   ·rw[if_pos c]at h12;cases h12
   ·omega
  rw[e1,e2];rw[h12,e3]at htr;clear e1 e2 e3 h12 h ho;go_in;go_wp2_with fail;refine htr.mono ?_;rintro e w1 ⟨rfl,γ1,ho1,⟨v,h1,h2,h3⟩,hk1⟩;have c1:=ho1.cell h1 (i:=2) (v:=v) rfl;obtain⟨A,cap,rfl,-⟩:=h2.form;have hl:m.ws.length=m.ws.length:=rfl;obtain⟨HO,HS,HR,HF⟩:=U5 (tq:=b+2) h1 (j:=2) rfl h2 ho1 (by omega) (by omega) (by omega) hl (x,n);have HL:Hid (Sm.Ok {m with ws:=m.ws++[(x,n)]}):=I ⟨h3.s1,h3.s2,h3.f1,h3.f2,fun y hy=>by
   rcases zB.1 hy with hy|hy
   ·exact h3.n1 y hy
   ·simp at hy;subst hy;exact hn,by simp;omega⟩;have HK:=I hk1;generalize m.ws.length=k at*;clear h1 h2 h3 ho1 hk1 htr hl hn;go_wp2_with (at_builtin;refine xG rfl (.tmp 19) (.tmp 23) 267 rfl 270 _ 2 16 Tryz.underlying267 Tryz.Xp rfl (by decide) HO.out HS.out rfl HR.out rfl ?_ ?_ ?_)
  ·unfold maxLen;omega
  ·omega
  intro A' cap' w2 γ3 hA2 ho4 hs4 hk4;obtain⟨c1',f1',HG⟩:=HF.out _ _ _ _ ho4 hs4 hk4;clear ho4 hs4 hk4 hA2 HF c1;go_wp2_with fail;go_ret;obtain⟨γ5,p1,p2,p3,p4⟩:=HG.out;exact⟨rfl,γ5,p1,⟨_,p2,p3,HL.out⟩,fun j hj=>(p4 j (by omega) (by omega) (by omega)).trans (HK.out j hj)⟩
 ·have e1:m.pV x n=m.xP x n:=if_neg h12;have e2:m.fx x n=m.wi x n:=if_neg h12;have d1:(m.xP x n != 12)=true:=by simpa using h12
  rw[e1,e2];generalize m.xP x n=y at*;generalize m.wi x n=m2 at*;clear e1 e2 h12 h ho;go_in;go_wp2_with fail;refine htr.mono ?_;rintro e w1 he;have he':=he;obtain⟨rfl,-⟩:=he;go_wp2_with fail;go_ret;exact he'
end
end
section
open Go.RowKit Go.WideShapes
def sliceLen:Value→Nat| .slice _ n _=>n|_=>0
theorem NH(f:Int)(ws:List (Int×Int)):(qa f ws).2.2.length≤ws.length:=by
 induction ws generalizing f with
 |nil=>simp[qa]
 |cons p r ih=>unfold qa;split;have:=ih (f-p.2);simp;omega;simp
structure Zi (m:Sm) (f:Int) (ws:List (Int×Int)) (out:List Int):Prop where
 e:qa m.f m.ws=((qa f ws).1,(qa f ws).2.1,out++(qa f ws).2.2)
 len:out.length+ws.length=m.ws.length
 ok:Sm.Ok {m with f:=f,ws:=ws}
theorem Zi.end_{m:Sm}{f:Int}{ws:List (Int×Int)}{out:List Int}(h:Zi m f ws out)(hs:qa f ws=(f,ws,[])):m.serve=({m with f:=f,ws:=ws},out):=by unfold Sm.serve;rw[h.e,hs];simp
def bq(w0:World)(γ:U)(b g q:Nat)(m:Sm)(v:Value)(wr:World):Prop:=
 ∃γ' f ws out,Zi m f ws out∧Own w0 wr γ'∧vJ γ' b g {m with f:=f,ws:=ws}∧yR γ' q 3 1 v out.length (ints out)∧∀k,(k<b∨b+7≤k)→k≠q→γ' k=γ k
section
variable {w0 w:World} {γ:U} {b g:Nat} {m:Sm}
theorem XD(h:vJ γ b g m)(ho:Own w0 w γ)(q:Nat)(hq:q<b∨b+8≤q):Calls Tryz.prog 160 #[.p g] w (xY (fun γ'=>vJ γ' b g m.serve.1) w0 γ b q id m.serve.2):=by
 have hstart:bq w0 γ b g q m (.slice none 0 0) w:=⟨γ,m.f,m.ws,[],⟨by simp,by simp,h.choose_spec.2.2⟩,ho,h,yR.nil _ _ _ _,fun _ _ _=>rfl⟩;have HS:=I hstart;have hlen:=h.choose_spec.2.2.len;clear hstart h ho;go_in;go_wp2_with fail;go_loopw [3] (fun v wr=>bq w0 γ b g q m v wr) (fun v _=>100-sliceLen v);case atStart=>exact HS.out
 case round=>
  clear HS;obtain⟨γ1,f,ws,out,hat,ho,⟨v1,h1,h2,h3⟩,hsl,hk⟩:=hrel;have c1:=ho.cell h1 (i:=1) (v:=.i f) rfl;have c2:=ho.cell h1 (i:=2) (v:=v1) rfl;have f1:=ho.free h1 1;have f2:=ho.free h1 2;obtain⟨A,cap,rfl,-⟩:=h2.form;obtain⟨A0,cap0,rfl,-⟩:=hsl.form;cases ws with
  |nil=>
   have HE:=I (hat.end_ rfl);have HO:=I ho;have HC:Hid (∀w',Calls Tryz.prog 111 #[.slice A0 out.length cap0] w' fun e w''=>∃v',e=.returned v'∧xK γ1 q 3 1 v' out.length (ints out)∧w'=w''):=I fun w'=>tV (w:=w') hsl (by have:=hat.len;simp at this;omega);have HF:Hid (∀v' w',xK γ1 q 3 1 v' out.length (ints out)→Own w0 w' γ1→xY (fun γ'=>vJ γ' b g m.serve.1) w0 γ b q id m.serve.2 (.returned v') w'):=I fun v' w' hp ho'=>by rw[HE.out];exact⟨v',γ1,rfl,ho',⟨_,h1,h2,h3⟩,hp,hk⟩
   clear h1 h2 h3 hat hsl hk ho;simp only[zY]at c2;go_wp2_with fail;go_quiet (fail);go_wp2_with fail;refine(HC.out _).mono ?_;rintro e w' ⟨v',rfl,hp,rfl⟩;obtain⟨A2,c2,rfl⟩:=hp.form;go_wp2_with fail;go_ret;exact HF.out _ _ hp (HO.out.drewN _)
  |cons p r=>
   obtain⟨t0,n0⟩:=p;obtain⟨gw,hA,e0,e1⟩:=qH h2 ho 0 (t0,n0) rfl;subst hA;have E0:Hid (∀W,Own w0 W γ1→W.cell? (zc gw 0)=some (.i t0)):=I fun W hW=>by obtain⟨g',hA,q0,q1⟩:=qH h2 hW 0 (t0,n0) rfl;cases hA;simpa using q0
   have E1:Hid (∀W,Own w0 W γ1→W.cell? (zc gw 1)=some (.i n0)):=I fun W hW=>by obtain⟨g',hA,q0,q1⟩:=qH h2 hW 0 (t0,n0) rfl;cases hA;simpa using q1
   have hpn:0<((t0,n0)::r).length:=by simp
   have hpos:(0:Int)<(((t0,n0)::r).length:Int):=by omega
   have hpd:decide ((0:Int)<(((t0,n0)::r).length:Int))=true:=decide_eq_true hpos;have hpd':decide (0<((t0,n0)::r).length)=true:=decide_eq_true hpn;by_cases hle:n0≤f
   ·have dle:decide (n0≤f)=true:=by simpa using hle
    generalize hkk:((t0,n0)::r).length=kk at*;go_wp2_with fail;go_quiet (fail);go_wp2_with fail;have hoW:=ho.drewN nq;generalize wr.drewN nq=W at*;replace e0:W.cell? (zc gw 0)=some (.i t0):=E0.out _ hoW;replace e1:W.cell? (zc gw 1)=some (.i n0):=E1.out _ hoW;replace c1:=hoW.cell h1 (i:=1) (v:=.i f) rfl;replace c2:=hoW.cell h1 (i:=2) (v:=.slice (zb gw) kk cap) rfl;replace f1:=hoW.free h1 1;have nb1:=h3.f2;have nb2:=h3.s2;have nb3:=(h3.n1 (t0,n0) (by simp)).1;simp only at nb1 nb2 nb3;have hlo:out.length<100:=by have:=hat.len;simp at this;omega
    have hat':Zi m (f-n0) r (out++[t0]):=by refine⟨?_,by have:=hat.len;simp at this⊢;omega,⟨h3.s1,h3.s2,by show 0≤f-n0;omega,by show f-n0≤m.size;omega,fun y hy=>h3.n1 y (yJ _ hy),by have:=hat.len;simp at this⊢;omega⟩⟩;have he:=hat.e;rw[qa,if_pos (show(t0,n0).2≤f from hle)]at he;rw[he];simp
    have o2:=(hoW.set h1 1 (.i (f-n0))).drew;have g2:=yQ γ1 b g (.cells (#[Value.int .i64 m.size,.i f,.slice (zb gw) kk cap].setIfInBounds 1 (.i (f-n0))) 272 (0,0));have k2:∀k,k≠b→put γ1 b g (.cells (#[Value.int .i64 m.size,.i f,.slice (zb gw) kk cap].setIfInBounds 1 (.i (f-n0))) 272 (0,0)) k=γ1 k:=fun k hk=>yO _ _ _ hk;generalize put γ1 b g (.cells (#[Value.int .i64 m.size,.i f,.slice (zb gw) kk cap].setIfInBounds 1 (.i (f-n0))) 272 (0,0))=γ2 at*;have hs2:=h2.keep (k2 (b+1) (by omega));have hq2:=hsl.keep (k2 q (by omega));have HAT:=I hat';have HKK:=I hkk;clear ho f2 hat hat' hkk;go_region;generalize(W.setCell (zc g 1) (.i (f-n0))).drew=W2 at*;replace e0:W2.cell? (zc gw 0)=some (.i t0):=by have h:=hs2.qN.row o2 hpn;obtain⟨g',c',hv,-,hc⟩:=h;cases hv;exact hc 0 _ rfl
    replace c2:=o2.cell g2 (i:=2) (v:=.slice (zb gw) kk cap) rfl;obtain⟨o3,r3⟩:=qv o2 (b+3) t0;have HO:=I o3;have HR:=I r3;have HS:=I (hq2.keep (γ':=put γ2 (b+3) W2.heap.size (.cells #[.i t0] 3)) (yO _ _ _ (by omega)));have HS2:=I (hs2.keep (γ':=put γ2 (b+3) W2.heap.size (.cells #[.i t0] 3)) (yO _ _ _ (by omega)));have G2:=I ((yO γ2 (t:=b+3) (k:=b) W2.heap.size (.cells #[.i t0] 3) (by omega)).trans g2);have K2:Hid (∀k,(k<b∨b+7≤k)→k≠q→put γ2 (b+3) W2.heap.size (.cells #[.i t0] 3) k=γ k):=I fun k h6 h7=>(yO _ _ _ (by omega)).trans ((k2 k (by omega)).trans (hk k h6 h7));have H3:=I h3;generalize hol:out.length=ol at*;have HOL:=I hol;clear hol hoW o2 o3 r3 hq2 hs2 hsl h2 h1 c1 f1 e1 k2 g2 hk h3;go_wp2_with (at_builtin;refine xG rfl (.tmp 38) (.tmp 46) 61 rfl 3 _ 1 8 Tryz.underlying61 Tryz.tF rfl (by decide) HO.out HS.out rfl HR.out rfl ?_ ?_ ?_)
    ·unfold maxLen;omega
    ·omega
    intro A' cap' w2 γ3 hA2 ho4 hs4 hk4;rw[qt]at hs4;have g4:=(hk4 b (by omega)).trans G2.out;have c4:=ho4.cell g4 (i:=2) (v:=.slice (zb gw) kk cap) rfl;have f4:=ho4.free g4 2;have hd:=aj (HS2.out.keep (hk4 (b+1) (by omega))) ho4 (i:=0) (by have h:((t0,n0)::r).length≤100:=H3.out.len;rw[HKK.out]at h;omega) hpn (fR _);have hfl:(yW xF ((t0,n0)::r)).take (0*2)++(yW xF ((t0,n0)::r)).drop ((0+1)*2)=yW xF r:=by rw[vC];rfl
    rw[hfl]at hd;have G4:=I g4;have HS4:=I hs4;have K4:=I hk4;clear hfl ho4 hs4 hk4 hA2 g4 c2 e0;go_wp2_with fail;refine Calls.mono (show Calls Tryz.prog 159 #[.slice (zb gw) kk cap,.i 0,.i 1] _ _ from hd) ?_;rintro e w3 ⟨v3,γ4,rfl,o5,s5,k5⟩;have g5:=(k5 b (by omega)).trans G4.out;obtain⟨A5,cap5,rfl,-⟩:=s5.form;have c5:=o5.cell g5 (i:=2) (v:=.slice (zb gw) kk cap) rfl;have f5:=o5.free g5 2;have HF:Hid (bq w0 γ b g q m (.slice A' (ol+1) cap') (w3.setCell (zc g 2) (.slice A5 (kk-1) cap5))):=by
     have hkr:kk-1=r.length:=by have:=HKK.out;simp at this;omega
     refine I ⟨_,f-n0,r,out++[t0],HAT.out,o5.set g5 2 (.slice A5 (kk-1) cap5),⟨_,yQ _ _ _ _,?_,HAT.out.ok⟩,?_,fun k h6 h7=>(yO _ _ _ (by omega)).trans ((k5 k (by omega)).trans ((K4.out k (by omega)).trans (K2.out k h6 h7)))⟩
     ·show yR _ (b+1) 270 2 _ r.length (yW xF r);rw[←hkr];exact s5.keep (yO _ _ _ (by omega))
     ·rw[show(out++[t0]).length=ol+1 by simp[HOL.out]];exact HS4.out.keep ((yO _ _ _ (by omega)).trans (k5 q (by omega)))
    clear o5 s5 k5 g5 hd c4 f4;go_wp2_with fail;go_roundw;case rel=>exact HF.out
    case measure=>have hol:=HOL.out;simp[sliceLen];omega
   ·have dle:decide (n0≤f)=false:=by simpa using hle
    simp only[Nat.zero_mul,zy]at e0 e1;have HE:=I (hat.end_ (by rw[qa,if_neg (show ¬(t0,n0).2≤f from hle)]));have HO:=I ho;have HC:Hid (∀w',Calls Tryz.prog 111 #[.slice A0 out.length cap0] w' fun e w''=>∃v',e=.returned v'∧xK γ1 q 3 1 v' out.length (ints out)∧w'=w''):=I fun w'=>tV (w:=w') hsl (by have:=hat.len;simp at this;omega);have HF:Hid (∀v' w',xK γ1 q 3 1 v' out.length (ints out)→Own w0 w' γ1→xY (fun γ'=>vJ γ' b g m.serve.1) w0 γ b q id m.serve.2 (.returned v') w'):=I fun v' w' hp ho'=>by rw[HE.out];exact⟨v',γ1,rfl,ho',⟨_,h1,h2,h3⟩,hp,hk⟩
    clear h1 h2 h3 hat hsl hk ho;generalize((t0,n0)::r).length=kk at*;go_wp2_with fail;go_quiet (fail);go_wp2_with fail;refine(HC.out _).mono ?_;rintro e w' ⟨v',rfl,hp,rfl⟩;obtain⟨A2,c2,rfl⟩:=hp.form;go_wp2_with fail;go_ret;exact HF.out _ _ hp (HO.out.drewN _)
end
end
section
open Go.RowKit Go.WideShapes
def Sm.jN(m:Sm)(n:Int):Int:=if n<1∨m.size<n then 1 else if m.size-n<m.f then 13 else 0
def Sm.rel(m:Sm)(n:Int):Sm×List Int:=if m.jN n=0 then Sm.serve {m with f:=m.f+n}else(m,[])
def Sm.drop(m:Sm)(x:Int):Sm×List Int:=if m.at_ x<0 then(m,[])else Sm.serve {m with ws:=m.ws.eraseIdx (m.at_ x).toNat}
section
variable {w0 w:World} {γ:U} {b g:Nat} {m:Sm}
theorem UG(h:vJ γ b g m)(ho:Own w0 w γ)(n:Int)(q:Nat)(hq:q<b∨b+8≤q):Calls Tryz.prog 238 #[.p g,.i n] w (xY (fun γ'=>vJ γ' b g (m.rel n).1) w0 γ b q (fun v=>.tuple #[v,.i (m.jN n)]) (m.rel n).2):=by
 have hsame:Hid (∀r w',Own w0 w' γ→xY (fun γ'=>vJ γ' b g m) w0 γ b q (fun v=>.tuple #[v,.i r]) [] (.returned (.tuple #[.slice none 0 0,.i r])) w'):=I fun r w' ho'=>⟨_,γ,rfl,ho',h,⟨by simp[ints],.inl ⟨0,rfl,rfl⟩⟩,fun _ _ _=>rfl⟩;obtain⟨v,h1,h2,h3⟩:=h;have c0:=ho.cell h1 (i:=0) (v:=.i m.size) rfl;have c1:=ho.cell h1 (i:=1) (v:=.i m.f) rfl;have HO:=I ho;by_cases hn:n<1
 ·have d2:decide (n<1)=true:=by simpa using hn
  have e1:m.jN n=1:=if_pos (.inl hn);have e2:m.rel n=(m,[]):=if_neg (by rw[e1];decide);rw[e1,e2];clear h1 h2 h3 ho e1 e2 hn;go_in;go_wp2_with fail;go_ret2;exact hsame.out _ _ HO.out
 ·have d2:decide (n<1)=false:=by simpa using hn
  by_cases hs:m.size<n
  ·have d3:decide (m.size<n)=true:=by simpa using hs
   have e1:m.jN n=1:=if_pos (.inr hs);have e2:m.rel n=(m,[]):=if_neg (by rw[e1];decide);rw[e1,e2];generalize m.size=y at*;clear h1 h2 h3 ho e1 e2 hn;go_in;go_wp2_with fail;go_ret2;exact hsame.out _ _ HO.out
  ·have d3:decide (m.size<n)=false:=by simpa using hs
   have b1:=h3.f1;have b2:=h3.f2;have b3:=h3.s2;have b4:1≤n:=by omega
   by_cases hl:m.size-n<m.f
   ·have d4:decide (m.size-n<m.f)=true:=by simpa using hl
    have e1:m.jN n=13:=by unfold Sm.jN;rw[if_neg (by omega),if_pos hl]
    have e2:m.rel n=(m,[]):=if_neg (by rw[e1];decide);rw[e1,e2];clear h1 h2 h3 ho e1 e2 hn;go_in;go_wp2_with fail;go_quiet (fail);go_wp2_with fail;go_ret2;exact hsame.out _ _ (HO.out.drewN _)
   ·have d4:decide (m.size-n<m.f)=false:=by simpa using hl
    have e1:m.jN n=0:=by unfold Sm.jN;rw[if_neg (by omega),if_neg hl]
    have e2:m.rel n=Sm.serve {m with f:=m.f+n}:=if_pos e1;rw[e1,e2];have hk:Sm.Ok {m with f:=m.f+n}:=⟨h3.s1,h3.s2,by show 0≤m.f+n;omega,by show m.f+n≤m.size;omega,h3.n1,h3.len⟩;have H1:=I h1;have H2:=I h2;have HK:=I hk;clear h1 h2 h3 ho e1 e2 hn hk;go_in;go_wp2_with fail;go_quiet (fail);have o1:=HO.out.drewN nq;generalize w.drewN nq=W at*;replace c1:=o1.cell H1.out (i:=1) (v:=.i m.f) rfl;have f1:=o1.free H1.out 1;have hh:=XD (m:={m with f:=m.f+n}) ⟨v,yQ γ b g _,H2.out.keep (yO _ _ _ (by omega)),HK.out⟩ (o1.set H1.out 1 (.i (m.f+n))) q hq;have K1:Hid (∀k,(k<b∨b+7≤k)→put γ b g (.cells (#[Value.int .i64 m.size,.i m.f,v].setIfInBounds 1 (.i (m.f+n))) 272 (0,0)) k=γ k):=I fun k hk=>yO _ _ _ (by omega);clear o1;go_wp2_with fail;refine hh.mono ?_;rintro e w2 hg;have HG:=I (hg.of K1.out);obtain⟨v,γ2,rfl,-,-,hpv,-⟩:=hg;obtain⟨A,c,rfl⟩:=hpv.form;clear hpv hh;go_wp2_with fail;go_ret2;obtain⟨v',γ3,p1,p2⟩:=HG.out;cases p1;exact⟨_,γ3,rfl,p2⟩
theorem YS(l:List (Int×Int))(i:Nat):(yW xF l).take (i*2)++(yW xF l).drop ((i+1)*2)=yW xF (l.eraseIdx i):=by
 induction l generalizing i with
 |nil=>simp[yW]
 |cons p r ih=>
  cases i with
  |zero=>rw[vC];rfl
  |succ i=> rw[vC,List.eraseIdx_cons_succ,vC,←ih i];have e1:∀k,(xF p++yW xF r).take (k+2)=xF p++(yW xF r).take k:=fun _=>rfl;have e2:∀k,(xF p++yW xF r).drop (k+2)=(yW xF r).drop k:=fun _=>rfl;rw[show(i+1+1)*2=(i+1)*2+2 by omega,e2 ((i+1)*2),show(i+1)*2=i*2+2 by omega,e1,zU]
theorem RB{α:Type}(l:List α)(p:α→Bool):-1≤vj l p∧vj l p<l.length:=by
 unfold vj;split;case isTrue h=> obtain⟨x,hx,hp⟩:=z7.1 h;have:=List.findIdx_lt_length_of_exists ⟨x,hx,hp⟩;omega
 case isFalse=>omega
theorem PS(h:vJ γ b g m)(ho:Own w0 w γ)(x:Int)(q:Nat)(hq:q<b∨b+8≤q):Calls Tryz.prog 115 #[.p g,.i x] w (xY (fun γ'=>vJ γ' b g (m.drop x).1) w0 γ b q (fun v=>.tuple #[v,.bool (decide (0≤m.at_ x))]) (m.drop x).2):=by
 have hfi:=UE h ho x;have hsame:Hid (∀r w',Own w0 w' γ→xY (fun γ'=>vJ γ' b g m) w0 γ b q (fun v=>.tuple #[v,.bool r]) [] (.returned (.tuple #[.slice none 0 0,.bool r])) w'):=I fun r w' ho'=>⟨_,γ,rfl,ho',h,⟨by simp[ints],.inl ⟨0,rfl,rfl⟩⟩,fun _ _ _=>rfl⟩;obtain⟨v,h1,h2,h3⟩:=h;have HO:=I ho;have hrange:-1≤m.at_ x∧m.at_ x<m.ws.length:=RB _ _;by_cases hf:m.at_ x<0
 ·have d1:decide (m.at_ x<0)=true:=by simpa using hf
  have d2:decide (0≤m.at_ x)=false:=by simpa using hf
  have e2:m.drop x=(m,[]):=if_pos hf;rw[e2,d2];generalize m.at_ x=y at*;clear h1 h2 h3 ho e2;go_in;go_wp2_with fail;refine hfi.mono ?_;rintro e w' ⟨rfl,hb⟩;have HF:=I (hsame.out false _ (HO.out.xh hb));clear hb hfi;go_wp2_with fail;go_ret2;exact HF.out
 ·have d1:decide (m.at_ x<0)=false:=by simpa using hf
  have d2:decide (0≤m.at_ x)=true:=by simpa using hf
  have e2:m.drop x=Sm.serve {m with ws:=m.ws.eraseIdx (m.at_ x).toNat}:=if_neg hf;obtain⟨i,hi⟩:∃i:Nat,m.at_ x=(i:Int):=⟨(m.at_ x).toNat,by omega⟩;rw[e2,d2];rw[hi]at hfi d1 hrange⊢;have hil:i<m.ws.length:=by omega
  have hk:Sm.Ok {m with ws:=m.ws.eraseIdx i}:=⟨h3.s1,h3.s2,h3.f1,h3.f2,fun y hy=>h3.n1 y (List.mem_of_mem_eraseIdx hy),by have:=h3.len;have:=List.length_eraseIdx_le m.ws i;show(m.ws.eraseIdx i).length≤100;omega⟩;have hlen:(m.ws.eraseIdx i).length=m.ws.length-1:=List.length_eraseIdx_of_lt hil;have hm100:=h3.len;have H1:=I h1;have H2:=I h2;have HK:=I hk;have HL:=I hlen;show Calls _ _ _ _ (xY (fun γ'=>vJ γ' b g (Sm.serve {m with ws:=m.ws.eraseIdx i}).1) w0 γ b q (fun v=>.tuple #[v,.bool true]) (Sm.serve {m with ws:=m.ws.eraseIdx i}).2);clear h1 h2 h3 ho e2 hf d2 hi hk hlen;go_in;go_wp2_with fail;refine hfi.mono ?_;rintro e w' ⟨rfl,hb⟩;have o1:=HO.out.xh hb;have c2:=o1.cell H1.out (i:=2) (v:=v) rfl;have hd:=aj H2.out o1 (by omega) hil (fR _);rw[YS,←HL.out]at hd;obtain⟨A,cap,rfl,-⟩:=H2.out.form;have HN:=I hil;clear hb hfi o1 hil;go_wp2_with fail;refine hd.mono ?_;rintro e w3 ⟨v3,γ3,rfl,o3,s3,k3⟩;have g3:=(k3 b (by omega)).trans H1.out;obtain⟨A3,cap3,rfl,-⟩:=s3.form;have c3:=o3.cell g3 (i:=2) (v:=.slice A m.ws.length cap) rfl;have f3:=o3.free g3 2;have hh:=XD (m:={m with ws:=m.ws.eraseIdx i}) ⟨_,yQ γ3 b g _,s3.keep (yO _ _ _ (by omega)),HK.out⟩ (o3.set g3 2 (.slice A3 (m.ws.eraseIdx i).length cap3)) q hq;have K3:Hid (∀k,(k<b∨b+7≤k)→put γ3 b g (.cells (#[Value.int .i64 m.size,.i m.f,.slice A m.ws.length cap].setIfInBounds 2 (.slice A3 (m.ws.eraseIdx i).length cap3)) 272 (0,0)) k=γ k):=I fun k hk=>(yO _ _ _ (by omega)).trans (k3 k (by omega));clear o3 s3 k3 g3 hd;go_wp2_with fail;refine hh.mono ?_;rintro e w2 hg;have HG:=I (hg.of K3.out);obtain⟨v,γ2,rfl,-,-,hpv,-⟩:=hg;obtain⟨A,c,rfl⟩:=hpv.form;clear hpv hh;go_wp2_with fail;go_ret2;obtain⟨v',γ3,p1,p2⟩:=HG.out;cases p1;exact⟨_,γ3,rfl,p2⟩
def bp(w0:World)(γ:U)(b g q:Nat)(m:Sm)(v i:Value)(wr:World):Prop:=
 ∃(j:Nat) (γ':U),i=.i j∧j≤m.ws.length∧Own w0 wr γ'∧yR γ' q 3 1 v j (ints ((m.ws.take j).map Prod.fst))∧∀k,k≠b+3→k≠b+4→k≠q→γ' k=γ k
theorem Qm(h:vJ γ b g m)(ho:Own w0 w γ)(q:Nat)(hq:q<b∨b+8≤q):Calls Tryz.prog 222 #[.p g] w (xY (fun γ'=>vJ γ' b g m) w0 γ b q id (m.ws.map Prod.fst)):=by
 have HK:Hid (∀γ',(∀k,k≠b+3→k≠b+4→k≠q→γ' k=γ k)→vJ γ' b g m):=I fun γ' hk=>h.keep fun k h1 h2=>hk k (by omega) (by omega) (by omega);obtain⟨v,h1,h2,h3⟩:=h;have c2:=ho.cell h1 (i:=2) (v:=v) rfl;have hlen:=h3.len;have H2:=I h2;have HS:Hid (bp w0 γ b g q m (.slice none 0 0) (.i 0) w):=I ⟨0,γ,rfl,by omega,ho,yR.nil _ _ _ _,fun _ _ _ _=>rfl⟩;obtain⟨A,cap,rfl,-⟩:=h2.form;generalize hn:m.ws.length=n at*;have HN:=I hn;clear h1 h2 h3 ho hn;go_in;go_wp2_with fail;go_loopw [3,13] (fun v i wr=>bp w0 γ b g q m v i wr) (fun _ i _=>n-(intOf i).toNat);case atStart=>exact HS.out
 case round=>
  clear HS;obtain⟨j,γ',rfl,hj,ho,hs,hk⟩:=hrel;rw[HN.out]at hj;obtain⟨A0,cap0,rfl,-⟩:=hs.form;by_cases hlt:j<n
  ·have dl:decide ((j:Int)<n)=true:=by simpa using hlt
   obtain⟨x,hx⟩:∃x,m.ws[j]? =some x:=⟨_,zl (by rw[HN.out];exact hlt)⟩;obtain⟨gw,rfl,e0,e1⟩:=qH (l:=m.ws) (by rw[HN.out];exact H2.out.keep (hk (b+1) (by omega) (by omega) (by omega))) ho j x hx;have o1:=ho.new (b+3) (.cells #[.i x.1,.i x.2] 270);have kB:∀k,k≠b+3→put γ' (b+3) wr.heap.size (.cells #[.i x.1,.i x.2] 270) k=γ' k:=fun k h=>yO _ _ _ h;have hs1:=hs.keep (kB q (by omega));generalize put γ' (b+3) wr.heap.size (.cells #[.i x.1,.i x.2] 270)=γB at*;obtain⟨o2,r2⟩:=qv o1 (b+4) x.1;have hsz:(wr.alloc (.cells #[.i x.1,.i x.2] 270)).heap.size=wr.heap.size+1:=by simp
   rw[hsz]at o2 r2;have HO:=I o2;have HR:=I r2;have HS:=I (hs1.keep (γ':=put γB (b+4) (wr.heap.size+1) (.cells #[.i x.1] 3)) (yO _ _ _ (by omega)));have HKK:Hid (∀k,k≠b+3→k≠b+4→k≠q→put γB (b+4) (wr.heap.size+1) (.cells #[.i x.1] 3) k=γ k):=I fun k q1 q2 q3=>(yO _ _ _ q2).trans ((kB k q1).trans (hk k q1 q2 q3));have HX:=I hx;clear hs hs1 ho o1 o2 r2 hk kB hx;go_wp2_with (at_builtin;refine xG rfl (.tmp 17) (.tmp 20) 61 rfl 3 _ 1 8 Tryz.underlying61 Tryz.tF rfl (by decide) HO.out HS.out rfl HR.out rfl ?_ ?_ ?_)
   ·unfold maxLen;omega
   ·omega
   intro A' cap' w2 γ3 hA2 ho4 hs4 hk4;rw[qt]at hs4;have HF:Hid (bp w0 γ b g q m (.slice A' (j+1) cap') (.i ((j:Int)+1)) w2):=by refine I ⟨j+1,γ3,rfl,by rw[HN.out];omega,ho4,?_,fun k q1 q2 q3=>(hk4 k q3).trans (HKK.out k q1 q2 q3)⟩;rw[yk,HX.out];simpa using hs4
   clear ho4 hs4 hk4 hA2;go_wp2_with fail;go_roundw;case rel=>exact HF.out
   case measure=>simp[intOf];omega
  ·obtain rfl:j=n:=by omega
   have dl:decide ((j:Int)<j)=false:=by simp
   have hcl:=fun w'=>tV (w:=w') hs (by omega);have HC:=I hcl;have HF:Hid (∀v',xK γ' q 3 1 v' j (ints ((m.ws.take j).map Prod.fst))→xY (fun γ'=>vJ γ' b g m) w0 γ b q id (m.ws.map Prod.fst) (.returned v') wr):=I fun v' hp=>by rw[←HN.out,yA]at hp;exact⟨v',γ',rfl,ho,HK.out _ hk,by rw[zA];exact hp,fun k h6 h7=>hk k (by omega) (by omega) h7⟩
   clear hs ho hk hcl;go_wp2_with fail;refine(HC.out _).mono ?_;rintro e w' ⟨v',rfl,hp,rfl⟩;obtain⟨A2,c2,rfl⟩:=hp.form;go_wp2_with fail;go_ret;exact HF.out _ hp
end
end
section
open Go.RowKit Go.WideShapes
def Mu.wB(m:Mu)(x:Int):Int:=if x<1 then 1 else if m.h≠x then 11 else 0
def Mu.unlock(m:Mu)(x:Int):Mu:=if m.wB x=0 then⟨m.ws.headD 0,m.ws.tail⟩else m
def Mu.wF(m:Mu)(x:Int):Int:=if m.wB x=0 then m.ws.headD 0 else 0
section
variable {w0 w:World} {γ:U} {b g:Nat} {m:Mu}
theorem Y0(h:tj γ b g m)(ho:Own w0 w γ)(x:Int)(he:m.wB x≠0):Calls Tryz.prog 278 #[.p g,.i x] w (sa w0 γ b g m (.tuple #[.i 0,.i (m.wB x)])):=by
 have hsame:Hid (∀r,sa w0 γ b g m r (.returned r) w):=I fun r=>⟨rfl,γ,ho,h,fun _ _=>rfl⟩;obtain⟨v,h1,h2,h3⟩:=h;have c0:=ho.cell h1 (i:=0) (v:=.i m.h) rfl;by_cases hx:x<1
 ·have d1:decide (x<1)=true:=by simpa using hx
  have e1:m.wB x=1:=if_pos hx;rw[e1];clear h1 h2 ho hx e1 he;go_in;go_wp2_with fail;go_ret2;exact hsame.out _
 ·have d1:decide (x<1)=false:=by simpa using hx
  have hh:m.h≠x:=fun e=>he (by unfold Mu.wB;rw[if_neg hx,if_neg (by simpa using e)]);have d2:(m.h != x)=true:=by simpa using hh
  have e1:m.wB x=11:=by unfold Mu.wB;rw[if_neg hx,if_pos hh]
  rw[e1];generalize m.h=y at*;clear h1 h2 ho hx e1 he hh;go_in;go_wp2_with fail;go_ret2;exact hsame.out _
theorem TG(h:tj γ b g m)(ho:Own w0 w γ)(x:Int)(he:m.wB x=0):Calls Tryz.prog 278 #[.p g,.i x] w (sa w0 γ b g (m.unlock x) (.tuple #[.i (m.wF x),.i 0])):=by
 have hx:¬x<1:=fun h=>by unfold Mu.wB at he;rw[if_pos h]at he;omega
 have hh:m.h=x:=zC fun h=>by unfold Mu.wB at he;rw[if_neg hx,if_pos h]at he;omega
 have e1:m.unlock x=⟨m.ws.headD 0,m.ws.tail⟩:=if_pos he;have e2:m.wF x=m.ws.headD 0:=if_pos he;rw[e1,e2];clear e1 e2 he;obtain⟨v,h1,h2,h3⟩:=h;have c0:=ho.cell h1 (i:=0) (v:=.i m.h) rfl;have c1:=ho.cell h1 (i:=1) (v:=v) rfl;have f0:=ho.free h1 0;have f1:=ho.free h1 1;rw[hh]at c0;have d1:decide (x<1)=false:=by simpa using hx
 have d2:(x != x)=false:=by simp
 have o1:=ho.set h1 0 (.i 0);have g1:=yQ γ b g (.cells (#[Value.int .i64 m.h,v].setIfInBounds 0 (.i 0)) 261 (0,0));have s1:=h2.keep (γ':=put γ b g (.cells (#[Value.int .i64 m.h,v].setIfInBounds 0 (.i 0)) 261 (0,0))) (yO _ _ _ (by omega));cases hws:m.ws with
 |nil=> rw[hws]at s1 h2;obtain⟨A,cap,rfl,-⟩:=h2.form;have HF:Hid (sa w0 γ b g ⟨0,[]⟩ (.tuple #[.i 0,.i 0]) (.returned (.tuple #[.i 0,.i 0])) (w.setCell (zc g 0) (.i 0))):=I ⟨rfl,_,o1,⟨_,g1,s1,by simp⟩,fun k hk=>yO _ _ _ (by omega)⟩;show Calls _ _ _ _ (sa w0 γ b g ⟨0,[]⟩ (.tuple #[.i 0,.i 0]));clear h1 h2 ho o1 g1 s1 hx hh h3 hws;go_in;go_wp2_with fail;go_ret2;exact HF.out
 |cons y r=>
  rw[hws]at s1 h2 h3;obtain⟨gw,cap,hv,cw⟩:=h2.at_ ho (i:=0) (by simp);subst hv;replace cw:w.cell? (zc gw 0)=some (.i y):=cw;have hne:g≠gw:=by
   rintro rfl;rcases h2.2 with⟨e,_⟩|⟨g',c',cur,e,hg',_⟩
   ·cases e
   ·cases e;have:=ho.inj _ _ _ _ _ h1 hg';omega
  have o2:=o1.set g1 0 (.i y);have g2:=yQ (put γ b g (.cells (#[Value.int .i64 m.h,.slice (zb gw) (y::r).length cap].setIfInBounds 0 (.i 0)) 261 (0,0))) b g (.cells ((#[Value.int .i64 m.h,.slice (zb gw) (y::r).length cap].setIfInBounds 0 (.i 0)).setIfInBounds 0 (.i y)) 261 (0,0));have s2:=s1.keep (γ':=put (put γ b g (.cells (#[Value.int .i64 m.h,.slice (zb gw) (y::r).length cap].setIfInBounds 0 (.i 0)) 261 (0,0))) b g (.cells ((#[Value.int .i64 m.h,.slice (zb gw) (y::r).length cap].setIfInBounds 0 (.i 0)).setIfInBounds 0 (.i y)) 261 (0,0))) (yO _ _ _ (by omega));have hdel:=sh s2 o2 (by omega) (i:=0) (by simp);rw[show(y::r).eraseIdx 0=r from rfl,show(y::r).length - 1=r.length from rfl]at hdel;have hlen:(y::r).length=r.length+1:=rfl;have hpos:decide ((0:Int)<((y::r).length:Int))=true:=by simp[hlen]
  have hpos':(0:Int)<((y::r).length:Int):=by omega
  have G2:=I g2;show Calls _ _ _ _ (sa w0 γ b g ⟨y,r⟩ (.tuple #[.i y,.i 0]));generalize(y::r).length=k at*;clear h1 h2 ho o1 g1 s1 hx hh hws o2 g2 s2;go_in;go_wp2_with fail;subst hlen;refine Calls.mono (show Calls Tryz.prog 155 #[.slice (zb gw) (r.length+1) cap,.i 0,.i 1] _ _ from hdel) ?_;rintro e w3 ⟨v3,γ3,rfl,o3,s3,k3⟩;have g3:=(k3 b (by omega)).trans G2.out;obtain⟨A3,cap3,rfl,-⟩:=s3.form;have c1':=o3.cell g3 (i:=1) (v:=.slice (zb gw) (r.length+1) cap) rfl;have c0':=o3.cell g3 (i:=0) (v:=.i y) rfl;have f1':=o3.free g3 1;have HF:Hid (sa w0 γ b g ⟨y,r⟩ (.tuple #[.i y,.i 0]) (.returned (.tuple #[.i y,.i 0])) (w3.setCell (zc g 1) (.slice A3 r.length cap3))):=I ⟨rfl,_,o3.set g3 1 (.slice A3 r.length cap3),⟨_,yQ _ _ _ _,s3.keep (yO _ _ _ (by omega)),by show r.length≤100;simp at h3;omega⟩,fun j hj=>(yO _ _ _ (by omega)).trans ((k3 j (by omega)).trans ((yO _ _ _ (by omega)).trans (yO _ _ _ (by omega))))⟩;clear o3 s3 k3 g3 hdel;go_wp2_with fail;go_ret2;exact HF.out
end
end
section
open Go.RowKit Go.WideShapes
structure Pl where
 gen:Nat
 next:Int
 taken:Bool
def Pl.yV(p:Pl):List Value:=[.i p.gen,.i p.next,.bool p.taken]
theorem Pl.len(p:Pl):p.yV.length=3:=rfl
theorem Pl.one(p:Pl):∀u∈p.yV,u.oneCell'=true:=by intro u hu;simp[Pl.yV]at hu;rcases hu with rfl|rfl|rfl<;>rfl
structure Ar where
 l:List Pl
 free:Int
structure Ar.Ok (a:Ar):Prop where
 len:a.l.length≤16
 gen:∀(i:Nat) p,a.l[i]? =some p→p.gen≤255∧ -1≤p.next∧p.next<a.l.length
 free:-1≤a.free∧a.free<a.l.length
def Ar.hand(a:Ar)(i:Nat):Int:=match a.l[i]? with
 |some p=>1+(i:Int)+16*(p.gen:Int)
 |none=>0
def Ar.ix(h:Int):Nat:=((h-1)%16).toNat
def Ar.place(a:Ar)(h:Int):Int:=if h<1 then -1 else match a.l[Ar.ix h]? with
 |some p=>if p.taken=true∧a.hand (Ar.ix h)=h then(Ar.ix h:Int)else -1
 |none=> -1
def Ar.take(a:Ar):Ar:=match a.l[a.free.toNat]? with
 |some p=>⟨a.l.set a.free.toNat {p with taken:=true},p.next⟩
 |none=>a
def Ar.wP(a:Ar)(i:Nat):Ar:=match a.l[i]? with
 |some p=>if p.gen<255 then⟨a.l.set i ⟨p.gen+1,a.free,false⟩,i⟩else⟨a.l.set i {p with taken:=false},a.free⟩
 |none=>a
def ug(γ:U)(b g:Nat)(a:Ar):Prop:=
 ∃v,γ b=some (g,.cells #[v,.i a.free] 163 (0,0))∧yR γ (b+1) 165 3 v a.l.length (yW Pl.yV a.l)
theorem ug.keep{γ γ':U}{b g:Nat}{a:Ar}(h:ug γ b g a)(hk:∀k,b≤k→k<b+2→γ' k=γ k):ug γ' b g a:=by obtain⟨v,h1,h2⟩:=h;exact⟨v,by rw[hk _ (by omega) (by omega)];exact h1,h2.keep (hk _ (by omega) (by omega))⟩
section
variable {w0 w:World} {γ:U} {b g:Nat} {a:Ar}
theorem ug.at_(h:ug γ b g a)(ho:Own w0 w γ){i:Nat}{p:Pl}(hp:a.l[i]? =some p):∃gl c,w.cell? ⟨g,0,none⟩=some (.slice (zb gl) a.l.length c)∧w.cell? ⟨gl,i*3,none⟩=some (.i p.gen)∧w.cell? ⟨gl,i*3+1,none⟩=some (.i p.next)∧w.cell? ⟨gl,i*3+2,none⟩=some (.bool p.taken):=by obtain⟨v,h1,h2⟩:=h;obtain⟨gl,c,rfl,_,hr,_⟩:=h2.elem Pl.len ho hp (zk.1 hp).1;exact⟨gl,c,ho.cell h1 (i:=0) rfl,(hr 0 _ rfl).1,(hr 1 _ rfl).1,(hr 2 _ rfl).1⟩
theorem ug.cells(h:ug γ b g a)(ho:Own w0 w γ):(∃A c,w.cell? ⟨g,0,none⟩=some (.slice A a.l.length c))∧w.cell? ⟨g,1,none⟩=some (.i a.free)∧w.frozen? ⟨g,1,none⟩=false:=by obtain⟨v,h1,h2⟩:=h;obtain⟨A,c,rfl,_⟩:=h2.form;exact⟨⟨A,c,ho.cell h1 (i:=0) rfl⟩,ho.cell h1 (i:=1) rfl,ho.free h1 1⟩
theorem dE(h:ug γ b g a)(ho:Own w0 w γ)(hok:a.Ok){i:Nat}{p:Pl}(hp:a.l[i]? =some p):Calls Tryz.prog 141 #[.p g,.i i] w fun e w'=>e=.returned (.i (a.hand i))∧w=w':=by
 obtain⟨gl,c,c0,q0,_,_⟩:=h.at_ ho hp;have hi:i<a.l.length:=(zk.1 hp).1;have h16:=hok.len;have hg:=(hok.gen i p hp).1;have hh:a.hand i=1+(i:Int)+16*(p.gen:Int):=by unfold Ar.hand;rw[hp]
 rw[hh];generalize p.gen=n at*;generalize a.l.length=m at*;clear hh hp hok ho h;go_in;go_wp2_with fail;go_ret;exact⟨rfl,rfl⟩
theorem P1(h:Int)(w:World):Calls Tryz.prog 112 #[.pointer none,.i h] w fun e w'=>e=.returned (.i (-1))∧w=w':=by go_in;go_wp2_with fail;go_ret;exact⟨rfl,rfl⟩
theorem bC(h:ug γ b g a)(ho:Own w0 w γ)(hok:a.Ok)(x:Int)(hxf:x≤9223372036854775807):Calls Tryz.prog 112 #[.p g,.i x] w fun e w'=>e=.returned (.i (a.place x))∧w=w':=by
 by_cases hx:x<1
 ·have hr:a.place x= -1:=if_pos hx;rw[hr];clear h ho hok hr;go_in;go_wp2_with fail;go_ret;exact⟨rfl,rfl⟩
 ·have h16:=hok.len;obtain⟨⟨A,c,c0⟩,_⟩:=h.cells ho;have hx1:1≤x:=by omega
  have hd:decide (x<1)=false:=by simpa using hx
  obtain⟨k,hk⟩:∃k:Nat,k=Ar.ix x:=⟨_,rfl⟩;have hkv:(x-1)%16=(k:Int):=by rw[hk];unfold Ar.ix;omega
  have hkv':(x-1).tmod 16=(k:Int):=by rw[Int.tmod_eq_emod_of_nonneg (by omega)];exact hkv
  cases hp:a.l[k]? with
  |none=>
   have hr:a.place x= -1:=by unfold Ar.place;rw[if_neg hx,←hk,hp]
   have hge:a.l.length≤k:=List.getElem?_eq_none_iff.1 hp;have d2:decide ((a.l.length:Int)≤k)=true:=by simp;omega
   rw[hr];generalize a.l.length=m at*;clear h ho hok hr hp hk hx;go_in;go_wp2_with fail;go_ret;exact⟨rfl,rfl⟩
  |some p=>
   have hi:k<a.l.length:=(zk.1 hp).1;have hh:=dE h ho hok hp;obtain⟨gl,c',c0',q0,q1,q2⟩:=h.at_ ho hp;clear c0;have d2:decide ((a.l.length:Int)≤k)=false:=by simp;omega
   have hkm:(k:Int)<a.l.length:=by omega
   by_cases ht:p.taken=true
   ·by_cases he:a.hand k=x
    ·have hr:a.place x=k:=by unfold Ar.place;rw[if_neg hx,←hk,hp];exact if_pos ⟨ht,by rw[he]⟩
     rw[hr];rw[ht]at q2;rw[he]at hh;have hne:(x != x)=false:=by simp
     clear hr hp hk hx h ho hok he;generalize a.l.length=m at*;go_in;go_wp2_with fail;refine hh.mono ?_;rintro e w' ⟨rfl,rfl⟩;go_wp2_with fail;go_ret;exact⟨rfl,rfl⟩
    ·have hr:a.place x= -1:=by unfold Ar.place;rw[if_neg hx,←hk,hp];exact if_neg fun h=>he h.2
     rw[hr];rw[ht]at q2;have hne:(a.hand k != x)=true:=by simpa using he
     generalize a.hand k=y at*;clear hr hp hk hx h ho hok he;generalize a.l.length=m at*;go_in;go_wp2_with fail;refine hh.mono ?_;rintro e w' ⟨rfl,rfl⟩;go_wp2_with fail;go_ret;exact⟨rfl,rfl⟩
   ·have hr:a.place x= -1:=by unfold Ar.place;rw[if_neg hx,←hk,hp];exact if_neg fun h=>ht h.1
    have ht':p.taken=false:=by simpa using ht
    rw[hr];rw[ht']at q2;clear hr hp hk hx h ho hok ht hh;generalize a.l.length=m at*;go_in;go_wp2_with fail;go_ret;exact⟨rfl,rfl⟩
theorem Ar.jH(a:Ar)(i:Nat):a.take.hand i=a.hand i:=by
 unfold Ar.take;cases hp:a.l[a.free.toNat]? with
 |none=>rfl
 |some p=>
  unfold Ar.hand;dsimp only;by_cases e:i=a.free.toNat
  ·subst e;rw[zp (zk.1 hp).1,hp]
  ·rw[zt (Ne.symm e)]
theorem Ar.Ok.take{a:Ar}(h:a.Ok):a.take.Ok:=by
 unfold Ar.take;cases hp:a.l[a.free.toNat]? with
 |none=>exact h
 |some p=>
  refine⟨by simpa using h.len,fun i q hq=>?_,?_⟩
  ·dsimp only at hq⊢;rw[zq];by_cases e:i=a.free.toNat
   ·subst e;rw[zp (zk.1 hp).1]at hq;cases hq;exact h.gen _ p hp
   ·rw[zt (Ne.symm e)]at hq;exact h.gen _ q hq
  ·dsimp only;rw[zq];exact(h.gen _ p hp).2
def rO(w0:World)(γ:U)(b g:Nat)(a:Ar)(v:Value)(e:Ending)(w':World):Prop:=
 e=.returned v∧∃γ',Own w0 w' γ'∧ug γ' b g a∧∀k,(k<b∨b+2≤k)→γ' k=γ k
theorem Yx(h:ug γ b g a)(ho:Own w0 w γ)(hf:a.free= -1):Calls Tryz.prog 102 #[.p g] w (rO w0 γ b g a (.tuple #[.i 0,.bool false])):=by obtain⟨_,c1,_⟩:=h.cells ho;rw[hf]at c1;have hfin:rO w0 γ b g a (.tuple #[.i 0,.bool false]) (.returned (.tuple #[.i 0,.bool false])) w:=⟨rfl,γ,ho,h,fun _ _=>rfl⟩;have HF:=I hfin;clear hfin h ho hf;go_in;go_wp2_with fail;go_ret2;exact HF.out
theorem QS(h:ug γ b g a)(ho:Own w0 w γ)(hok:a.Ok)(hf:0≤a.free):Calls Tryz.prog 102 #[.p g] w (rO w0 γ b g a.take (.tuple #[.i (a.hand a.free.toNat),.bool true])):=by
 obtain⟨i,hi⟩:∃i:Nat,a.free=i:=⟨a.free.toNat,by omega⟩;have hil:i<a.l.length:=by have:=hok.free;omega
 obtain⟨p,hp⟩:∃p,a.l[i]? =some p:=⟨_,zl hil⟩;have ht:a.take=⟨a.l.set i {p with taken:=true},p.next⟩:=by unfold Ar.take;rw[hi,zu,hp]
 obtain⟨v,h1,h2⟩:=id h;obtain⟨gl,c,rfl,_,hr,hset⟩:=h2.elem Pl.len ho hp hil;have c0:=ho.cell h1 (i:=0) (v:=.slice (zb gl) a.l.length c) rfl;have c1:=ho.cell h1 (i:=1) (v:=.i i) (by rw[hi];rfl);have f1:=ho.free h1 1;have q1:=(hr 1 _ rfl).1;have ho1:=ho.drew.set h1 1 (.i p.next);have h21:=h2.keep (γ':=put γ b g (.cells ((#[.slice (zb gl) a.l.length c,.i a.free]:Array Value).setIfInBounds 1 (.i p.next)) 163 (0,0))) (yO _ _ _ (by omega));obtain⟨gl',c',hv,_,hr',hset'⟩:=h21.elem Pl.len ho1 hp hil;cases hv;obtain⟨γ2,ho2,h22,hk2⟩:=hset' 2 (.bool true) {p with taken:=true} (by omega) rfl;have q2:=hr' 2 _ rfl;have hA:ug γ2 b g a.take:=by
  rw[ht];refine⟨_,(hk2 b (by omega)).trans (yQ _ _ _ _),?_⟩;have:(a.l.set i {p with taken:=true}).length=a.l.length:=by simp
  dsimp only;rw[this];exact h22
 have hK:∀k,(k<b∨b+2≤k)→γ2 k=γ k:=fun k hk=>(hk2 k (by omega)).trans (yO _ _ _ (by omega));have hh:=dE hA ho2 hok.take (i:=i) (p:={p with taken:=true}) (by rw[ht];exact zp hil);rw[Ar.jH]at hh;have hfin:rO w0 γ b g a.take (.tuple #[.i (a.hand i),.bool true]) (.returned (.tuple #[.i (a.hand i),.bool true])) ((w.drew.setCell ⟨g,1,none⟩ (.i p.next)).setCell ⟨gl,i*3+2,none⟩ (.bool true)):=⟨rfl,γ2,ho2,hA,hK⟩;have HF:=I hfin;have h16:=hok.len;have hin:(i:Int)<a.l.length:=by omega
 obtain⟨q2c,q2f⟩:=q2;have hi1:((i:Int)== -1)=false:=by rw[beq_eq_false_iff_ne];omega
 rw[hi,zu];simp only[World.setCell_drew]at q2c q2f hh HF;generalize a.hand i=y at*;generalize a.take=a2 at*;generalize a.l.length=m at*;clear hok hp h h1 h2 hr hset ho ho1 h21 hr' hset' ho2 h22 hk2 hA hK hfin ht hi hf;go_in;go_wp2_with fail;refine yP.region [0,1,2,3,4,6,7,8,9,10,11,12,13,14,15] (.step 5 (.step 16 (.step 17 (.step 18 (.step 19 .done))))) (fun w'=>w'.cell? ⟨g,0,none⟩=some (.slice (zb gl) m c)∧w'.cell? ⟨gl,i*3+1,none⟩=some (.i p.next)) (by kernel_rfl) (by kernel_rfl) (fun _ _ _ _ _ h=>h) (by refine⟨?_,?_⟩<;>simpa using by assumption) ?_;repeat
  refine Perm.xm rfl ?_ (fun w' hS=>?_) ?_;rotate_left
  ·(obtain⟨s0,s1⟩:=hS;go_simp;try with_reducible rfl)
  simp only[pt]
 refine Perm.xt ?_;repeat
  refine yP.xA rfl (by rfl) ?_ (fun w'=>?_) ?_;rotate_left
  ·(go_simp;try with_reducible rfl)
  simp only[pt]
 refine yP.yY rfl (by rfl) ?_;refine yP.xy rfl .skip undef (.inr ⟨rfl,rfl⟩) (w':=?_) ?_ (Perm.xx (by kernel_rfl)) ?_;rotate_left
 ·(go_simp;try with_reducible rfl)
 simp only[pt];refine yP.yY rfl (by rfl) ?_;refine yP.rP rfl ?_ ?_ ?_;rotate_left
 ·(go_simp;try with_reducible rfl)
 simp only[pt];repeat
  refine yP.xA rfl (by rfl) ?_ (fun w'=>?_) ?_;rotate_left
  ·(go_simp;try with_reducible rfl)
  simp only[pt]
 refine yP.yY rfl (by rfl) ?_;refine yP.xy rfl .skip undef (.inr ⟨rfl,rfl⟩) (w':=?_) ?_ (Perm.xx (by kernel_rfl)) ?_;rotate_left
 ·(go_simp;try with_reducible rfl)
 simp only[pt];refine yP.xC ?_;go_wp2_with fail;refine hh.mono ?_;rintro e w' ⟨rfl,rfl⟩;go_wp2_with fail;go_ret2;exact HF.out
def qP(γ:U)(b g gl c:Nat)(a:Ar):Prop:=
 γ b=some (g,.cells #[.slice (zb gl) a.l.length c,.i a.free] 163 (0,0))∧yR γ (b+1) 165 3 (.slice (zb gl) a.l.length c) a.l.length (yW Pl.yV a.l)
theorem ug.open_(h:ug γ b g a)(h0:0<a.l.length):∃gl c,qP γ b g gl c a:=by
 obtain⟨v,h1,h2⟩:=h;rcases h2.2 with⟨_,h3⟩|⟨gl,c,cur,rfl,_⟩
 ·omega
 ·exact⟨gl,c,h1,h2⟩
theorem qP.close{gl c:Nat}(h:qP γ b g gl c a):ug γ b g a:=⟨_,h.1,h.2⟩
theorem qP.ne{gl c:Nat}(h:qP γ b g gl c a)(ho:Own w0 w γ):g≠gl:=by
 intro e;rcases h.2.2 with⟨h1,_⟩|⟨gl',c',cur,h1,h2,_⟩
 ·cases h1
 ·cases h1;subst e;have:=ho.inj _ _ _ _ _ h.1 h2;omega
theorem qP.cells{gl c i:Nat}{p:Pl}(h:qP γ b g gl c a)(ho:Own w0 w γ)(hp:a.l[i]? =some p):w.cell? ⟨g,0,none⟩=some (.slice (zb gl) a.l.length c)∧w.cell? ⟨g,1,none⟩=some (.i a.free)∧w.frozen? ⟨g,1,none⟩=false∧w.cell? ⟨gl,i*3,none⟩=some (.i p.gen)∧w.cell? ⟨gl,i*3+1,none⟩=some (.i p.next)∧w.cell? ⟨gl,i*3+2,none⟩=some (.bool p.taken)∧w.frozen? ⟨gl,i*3,none⟩=false∧w.frozen? ⟨gl,i*3+1,none⟩=false∧w.frozen? ⟨gl,i*3+2,none⟩=false:=by obtain⟨gl',c',hv,_,hr,_⟩:=h.2.elem Pl.len ho hp (zk.1 hp).1;cases hv;exact⟨ho.cell h.1 (i:=0) rfl,ho.cell h.1 (i:=1) rfl,ho.free h.1 1,(hr 0 _ rfl).1,(hr 1 _ rfl).1,(hr 2 _ rfl).1,(hr 0 _ rfl).2,(hr 1 _ rfl).2,(hr 2 _ rfl).2⟩
theorem qP.put{i gl c:Nat}{p:Pl}(h:qP γ b g gl c a)(ho:Own w0 w γ)(hp:a.l[i]? =some p)(j:Nat)(u:Value)(y:Pl)(hj:j<3)(hy:p.yV.set j u=y.yV):∃γ',Own w0 (w.setCell ⟨gl,i*3+j,none⟩ u) γ'∧qP γ' b g gl c ⟨a.l.set i y,a.free⟩∧∀k,k≠b+1→γ' k=γ k:=by
 obtain⟨gl',c',hv,_,hr,hset⟩:=h.2.elem Pl.len ho hp (zk.1 hp).1;cases hv;obtain⟨γ',ho',hs',hk⟩:=hset j u y hj hy;refine⟨γ',ho',⟨?_,?_⟩,hk⟩
 ·show γ' b=some (g,.cells #[.slice (zb gl) (a.l.set i y).length c,.i a.free] 163 (0,0));rw[zq];exact(hk b (by omega)).trans h.1
 ·show yR γ' (b+1) 165 3 (.slice (zb gl) (a.l.set i y).length c) (a.l.set i y).length (yW Pl.yV (a.l.set i y));rw[zq];exact hs'
theorem qP.XC{gl c:Nat}(h:qP γ b g gl c a)(ho:Own w0 w γ)(x:Int):∃γ',Own w0 (w.setCell ⟨g,1,none⟩ (.i x)) γ'∧qP γ' b g gl c ⟨a.l,x⟩∧∀k,k≠b→γ' k=γ k:=⟨_,ho.set h.1 1 (.i x),⟨yQ _ _ _ _,h.2.keep (yO _ _ _ (by omega))⟩,fun k hk=>yO _ _ _ hk⟩
theorem Ar.Z8{a:Ar}{x:Int}{i:Nat}(h:a.place x=i):∃p,a.l[i]? =some p∧p.taken=true∧a.hand i=x∧i=Ar.ix x∧1≤x:=by
 unfold Ar.place at h;split at h
 ·omega
 ·split at h
  ·rename_i p hp;split at h
   ·rename_i hh;have:i=Ar.ix x:=by omega
    subst this;exact⟨p,hp,hh.1,hh.2,rfl,by omega⟩
   ·omega
  ·omega
theorem Ar.Y2(a:Ar)(x:Int):a.place x= -1∨∃i:Nat,a.place x=i:=by
 unfold Ar.place;split
 ·exact .inl rfl
 ·split
  ·split
   ·exact .inr ⟨_,rfl⟩
   ·exact .inl rfl
  ·exact .inl rfl
theorem WZ(h:ug γ b g a)(ho:Own w0 w γ)(hok:a.Ok)(x:Int)(hxf:x≤9223372036854775807)(hx:a.place x= -1):Calls Tryz.prog 173 #[.p g,.i x] w (rO w0 γ b g a (.bool false)):=by have hp:=bC h ho hok x hxf;rw[hx]at hp;have HF:Hid (rO w0 γ b g a (.bool false) (.returned (.bool false)) w):=I ⟨rfl,γ,ho,h,fun _ _=>rfl⟩;clear h ho hok hx hxf;go_in;go_wp2_with fail;refine hp.mono ?_;rintro e w' ⟨rfl,rfl⟩;go_wp2_with fail;go_ret;exact HF.out
theorem QP(h:ug γ b g a)(ho:Own w0 w γ)(hok:a.Ok)(x:Int)(hxf:x≤9223372036854775807){i:Nat}(hx:a.place x=i):Calls Tryz.prog 173 #[.p g,.i x] w (rO w0 γ b g (a.wP i) (.bool true)):=by
 have hpl:=bC h ho hok x hxf;rw[hx]at hpl;obtain⟨p,hp,-⟩:=Ar.Z8 hx;have hil:i<a.l.length:=(zk.1 hp).1;obtain⟨gl,c,hA⟩:=h.open_ (by omega);have hne:=hA.ne ho;obtain⟨c0,c1,f1,q0,q1,q2,r0,r1,r2⟩:=hA.cells ho hp;have h16:=hok.len;have hg:=(hok.gen i p hp).1;have hin:(i:Int)<a.l.length:=by omega
 have hi0:decide ((i:Int)<0)=false:=by simp
 obtain⟨γ1,ho1,hA1,hk1⟩:=hA.put ho hp 2 (.bool false) {p with taken:=false} (by omega) rfl;have hp1:(a.l.set i {p with taken:=false})[i]? =some {p with taken:=false}:=zp hil;by_cases hgen:p.gen<255
 ·have dg:decide ((p.gen:Int)<255)=true:=by simp;omega
  have hgive:a.wP i=⟨a.l.set i ⟨p.gen+1,a.free,false⟩,i⟩:=by unfold Ar.wP;rw[hp];exact if_pos hgen
  obtain⟨γ2,ho2,hA2,hk2⟩:=hA1.put ho1 hp1 0 (.i ((p.gen:Int)+1)) ⟨p.gen+1,p.next,false⟩ (by omega) rfl;simp only[ye]at hA2;have hp2:(a.l.set i ⟨p.gen+1,p.next,false⟩)[i]? =some ⟨p.gen+1,p.next,false⟩:=zp hil;obtain⟨γ3,ho3,hA3,hk3⟩:=hA2.put ho2 hp2 1 (.i a.free) ⟨p.gen+1,a.free,false⟩ (by omega) rfl;simp only[ye]at hA3;obtain⟨γ4,ho4,hA4,hk4⟩:=hA3.XC ho3 i;have hfin:rO w0 γ b g (a.wP i) (.bool true) (.returned (.bool true)) _:=⟨rfl,γ4,ho4.drew,by rw[hgive];exact hA4.close,fun k hk=>(hk4 k (by omega)).trans ((hk3 k (by omega)).trans ((hk2 k (by omega)).trans (hk1 k (by omega))))⟩;simp only[yv]at hfin;have HF:=I hfin;generalize a.wP i=a4 at*;generalize a.l.length=m at*;generalize a.free=fr at*;clear h hA hA1 hA2 hA3 hA4 ho ho1 ho2 ho3 ho4 hok hp hp1 hp2 hx hgive hfin hk1 hk2 hk3 hk4 hgen;go_in;go_wp2_with fail;refine hpl.mono ?_;rintro e w' ⟨rfl,rfl⟩;go_wp2_with fail;refine yP.region [0,1,2,3,4,6,7,8,9,11,12] (.step 5 (.step 10 (.step 13 (.step 14 (.step 15 (.step 16 .done)))))) (fun w'=>w'.cell? ⟨g,0,none⟩=some (.slice (zb gl) m c)∧w'.cell? ⟨g,1,none⟩=some (.i fr)) (by kernel_rfl) (by kernel_rfl) (fun _ _ _ _ _ h=>h) (by refine⟨?_,?_⟩<;>(go_simp;try first|done|assumption)) ?_;repeat
   refine Perm.xm rfl ?_ (fun w' hS=>?_) ?_;rotate_left
   ·(obtain⟨s0,s1⟩:=hS;go_simp;try with_reducible rfl)
   simp only[pt]
  refine Perm.xt ?_;repeat
   refine yP.xA rfl (by rfl) ?_ (fun w'=>?_) ?_;rotate_left
   ·(go_simp;try with_reducible rfl)
   simp only[pt]
  refine yP.yY rfl (by rfl) ?_;refine yP.xy rfl .skip undef (.inr ⟨rfl,rfl⟩) (w':=?_) ?_ (Perm.xx (by kernel_rfl)) ?_;rotate_left
  ·(go_simp;try with_reducible rfl)
  simp only[pt];repeat
   refine yP.xA rfl (by rfl) ?_ (fun w'=>?_) ?_;rotate_left
   ·(go_simp;try with_reducible rfl)
   simp only[pt]
  refine yP.yY rfl (by rfl) ?_;refine yP.xy rfl .skip undef (.inr ⟨rfl,rfl⟩) (w':=?_) ?_ (Perm.xx (by kernel_rfl)) ?_;rotate_left
  ·(go_simp;try with_reducible rfl)
  simp only[pt];refine yP.xC ?_;go_wp2_with fail;go_ret;exact HF.out
 ·have dg:decide ((p.gen:Int)<255)=false:=by simp;omega
  have hgive:a.wP i=⟨a.l.set i {p with taken:=false},a.free⟩:=by unfold Ar.wP;rw[hp];exact if_neg hgen
  have hfin:rO w0 γ b g (a.wP i) (.bool true) (.returned (.bool true)) _:=⟨rfl,γ1,ho1,by rw[hgive];exact hA1.close,fun k hk=>hk1 k (by omega)⟩;have HF:=I hfin;generalize a.wP i=a4 at*;generalize a.l.length=m at*;clear h hA hA1 ho ho1 hok hp hp1 hx hgive hfin hk1 hgen;go_in;go_wp2_with fail;refine hpl.mono ?_;rintro e w' ⟨rfl,rfl⟩;go_wp2_with fail;go_ret;exact HF.out
end
end
end Go.Proofs.YtkmamlifgbocgaaGreat
