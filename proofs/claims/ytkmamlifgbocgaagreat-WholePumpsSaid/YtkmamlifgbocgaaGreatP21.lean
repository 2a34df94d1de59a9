/- What the program's code does, as contracts, and what follows of it, part 21: for the law's proof. -/
import Derived.Test.YtkmamlifgbocgaaGreatP00
import Derived.Test.YtkmamlifgbocgaaGreatP20
set_option linter.unusedVariables false
set_option linter.unusedSimpArgs false
set_option maxRecDepth 100000
set_option maxHeartbeats 16000000
namespace Go.Proofs.YtkmamlifgbocgaaGreat
section
theorem uT:∀l:List Int,l.foldl List.erase l=[]
 |[]=>rfl
 |x::l=>by
  show l.foldl List.erase ((x::l).erase x)=[]
  rw[yB]
  exact uT l
theorem Rw.jl(m:Rw):(m.ws++m.rd).Perm ((m.hand).1.ws++(m.hand).1.rd++(m.hand).2):=by
 unfold Rw.hand;by_cases h1:m.w≠0
 ·rw[if_pos h1];simp
 ·rw[if_neg h1];by_cases h2:m.ws=[]
  ·rw[if_pos h2];simp
  ·rw[if_neg h2];by_cases h3:m.rs≠[]
   ·rw[if_pos h3];simp
   ·rw[if_neg h3];obtain⟨w,rs,ws,rd⟩:=m;cases ws with
    |nil=>exact absurd rfl h2
    |cons a l=> show(a::l++rd).Perm (l++rd++[a]);rw[zT];exact(zw _ _).symm
theorem Rw.dI(m:Rw)(hx:∀x∈m.ws,x≠0):uc (some (.rw m.hand.1)):=by
 unfold Rw.hand;by_cases h1:m.w≠0
 ·rw[if_pos h1];exact fun _=>.inl h1
 ·rw[if_neg h1];by_cases h2:m.ws=[]
  ·rw[if_pos h2];show m.ws≠[]∨[]≠[]→_;rintro(h|h)
   ·exact absurd h2 h
   ·exact absurd rfl h
  ·rw[if_neg h2];by_cases h3:m.rs≠[]
   ·rw[if_pos h3];exact fun _=>.inr h3
   ·rw[if_neg h3];intro _;left;show m.ws.headD 0≠0;obtain⟨w,rs,ws,rd⟩:=m;cases ws with
    |nil=>exact absurd rfl h2
    |cons a l=>exact hx a (by simp)
theorem Rw.jX(m:Rw)(h:(m.rs++m.rd).Nodup):((m.hand).1.rs++(m.hand).1.rd).Nodup∧∀x∈(m.hand).1.rs,x∈m.rs∨x∈m.rd:=by
 unfold Rw.hand;by_cases h1:m.w≠0
 ·rw[if_pos h1];exact⟨h,fun x hx=>.inl hx⟩
 ·rw[if_neg h1];by_cases h2:m.ws=[]
  ·rw[if_pos h2];exact⟨by rw[zP];exact h,fun x hx=>zB.1 hx⟩
  ·rw[if_neg h2];by_cases h3:m.rs≠[]
   ·rw[if_pos h3];exact⟨h,fun x hx=>.inl hx⟩
   ·rw[if_neg h3];exact⟨h,fun x hx=>.inl hx⟩
theorem fY:∀(l:List (Int×Int)) (f:Int),l.map Prod.fst=(qa f l).2.2++(qa f l).2.1.map Prod.fst
 |[],_=>rfl
 |p::r,f=>by
  unfold qa
  split
  ·simp only[yK,zT]
   rw[←fY r]
  ·rfl
theorem Tt{α:Type}{l:List α}{p:α→Bool}(h:0≤vj l p):∃x,l[(vj l p).toNat]? =some x∧p x=true:=by
 unfold vj at h⊢;by_cases e:l.any p=true
 ·rw[if_pos e]at h⊢;have hl:l.findIdx p<l.length:=List.findIdx_lt_length_of_exists (by rw[z7]at e;exact e);exact⟨l[l.findIdx p],by rw[zu];exact zl hl,List.findIdx_getElem⟩
 ·rw[if_neg e]at h;omega
theorem RC{α:Type}{l:List α}{p:α→Bool}(h:∃x∈l,p x=true):0≤vj l p:=of_decide_eq_true ((qW l p).trans (z7.2 h))
theorem cP{α:Type}:∀{l:List α} {i:Nat} {x:α},l[i]? =some x→l.Perm (x::l.eraseIdx i)
 |[],_,_,h=>by simp at h
 |a::l,0,x,h=>by simp at h;subst h;exact .refl _
 |a::l,i+1,x,h=>by
  have:=cP (l:=l) (i:=i) (x:=x) (by simpa using h)
  exact(this.cons a).trans (List.Perm.swap x a _)
theorem head_tail{l:List Int}(h:l≠[]):l=l.headD 0::l.tail:=by
 cases l with
 |nil=>exact absurd rfl h
 |cons a l=>rfl
section
variable {D:Dm}
theorem Dm.xQ(D:Dm)(x:Int):D.ob x=D.obj (D.at_ x):=rfl
theorem yS.ff{F:List Int}(h:yS D F){x:Int}(hx:D.av.place x≠ -1):D.av.place x=D.at_ x:=by have:=AV.wI h.wV x;unfold Dm.at_;omega
theorem yS.Xx(h:yS D []){x:Int}{o o':Ob}(ho:D.ob x=some o)(G:List Int)(hp:(wz (some o)).Perm (wz (some o')++G))(hu:uc (some o'))(hm:∀m,o=.mu m→∃m',o'=.mu m'∧∀k ws mh,D.obj k=some (.cd ws mh)→D.av.place mh=D.at_ x→m'.h∉ws)(hc:∀ws' mh,o'=.cd ws' mh→∃ws,o=.cd ws mh)(hr:∀m',o'=.rw m'→(m'.rs++m'.rd).Nodup∧∀x∈m'.rs,D.sv.ar.place x≠ -1):yS ((D.xg x o').xH G) []:=by have h1:yS (D.xg x o') ([]++G):=h.pA (j:=D.at_ x) ho G hp hu hm hc hr;have h2:=h1.xH G h1.fn (fun t ht=>ht);rw[zD,uT]at h2;exact h2
theorem yS.Xw{F:List Int}(h:yS D F){x:Int}{o o':Ob}(ho:D.ob x=some o)(hp:wz (some o')=wz (some o))(hu:uc (some o'))(hm:∀m,o=.mu m→∃m',o'=.mu m'∧∀k ws mh,D.obj k=some (.cd ws mh)→D.av.place mh=D.at_ x→m'.h∉ws)(hc:∀ws' mh,o'=.cd ws' mh→∃ws,o=.cd ws mh)(hr:∀m',o'=.rw m'→(m'.rs++m'.rd).Nodup∧∀x∈m'.rs,D.sv.ar.place x≠ -1):yS (D.xg x o') F:=by have h1:=h.pA (j:=D.at_ x) ho [] (o':=o') (by rw[hp,zP]) hu hm hc hr;rw[zP]at h1;exact h1
theorem yS.kP(h:yS D []){t x:Int}{o o':Ob}(ht:D.sv.ar.place t≠ -1)(hr:D.pl t∈D.sv.run)(hx:D.av.place x≠ -1)(ho:D.ob x=some o)(hp:(wz (some o')).Perm (t::wz (some o)))(hu:uc (some o'))(hm:∀m,o=.mu m→∃m',o'=.mu m'∧m'.h=m.h)(hc:∀ws' mh,o'=.cd ws' mh→∃ws,o=.cd ws mh∧∀m,D.ob mh=some (.mu m)→m.h≠t)(hr':∀m',o'=.rw m'→(m'.rs++m'.rd).Nodup∧∀x∈m'.rs,D.sv.ar.place x≠ -1)(xM:Int):yS ((D.xg x o').block t x xM) []:=by
 have h1:=h.block ht hr x xM;have e1:((D.block t x xM).wt ((D.block t x xM).pl t))=⟨t,x,0,false⟩:=by
  have e2:(D.block t x xM).pl t=D.pl t:=by unfold Dm.pl;show((D.sv.block t).ar.place t).toNat=_;rw[SV.kz]
  rw[e2];show(D.waits.set (D.pl t) ⟨t,x,0,false⟩).getD (D.pl t) Wt.zero=_;rw[h.uZ ht,if_pos rfl]
 have h2:=h1.UA (t:=t) (by simp) (j:=D.at_ x) (o:=o) (o':=o') ho hp (by rw[e1];exact h.ff hx) hu (by rw[e1];intro ha;cases ha) hm hc (fun m' e=>by obtain⟨q1,q2⟩:=hr' m' e;exact⟨q1,fun x hx=>by show(D.sv.block t).ar.place x≠ -1;rw[SV.kz];exact q2 x hx⟩);rw[yB]at h2;exact h2
theorem yS.pos{F:List Int}(h:yS D F){j:Nat}{t:Int}(ht:t∈wz (D.obj j)):1≤t:=AV.wJ (h.w2 j t ht).1
theorem yS.told(h:yS D []){t:Int}(ht:D.sv.ar.place t≠ -1)(h0:(D.wt (D.pl t)).xI=t)(why:Int):yS (D.told t why) []:=h.SG ht h0 _ h0 (.inr ⟨rfl,fun h=>h⟩)
theorem Dm.Yv{m:Mu}{mh t:Int}(hob:D.ob mh=some (.mu m))(h8:D.at_ mh<D.yX.length):(D.again t mh).sv=D.sv∧(D.again t mh).av=D.av∧(D.again t mh).ob mh=some (.mu (m.lock t)):=⟨(Dm.qA hob h8).1,(Dm.qA hob h8).2.1,(Dm.qA hob h8).2.2.1⟩
theorem Mu.Z0(m:Mu)(t:Int)(h1:1≤t)(h2:m.h≠t)(h3:t∉m.ws):(m.h=0∧m.wL t=0∧m.lock t={m with h:=t})∨(m.h≠0∧m.wL t=14∧m.lock t={m with ws:=m.ws++[t]}):=by
 have hw:m.xV t=0:=by unfold Mu.xV;rw[if_neg (by omega),if_neg (fun h=>h.elim h2 h3)]
 by_cases h0:m.h=0
 ·have he:m.xP t=0:=by unfold Mu.xP;rw[hw,if_neg (by simp),if_neg (by simp[h0])]
  refine .inl ⟨h0,?_,?_⟩
  ·unfold Mu.wL;rw[he];rfl
  ·unfold Mu.lock Mu.wi;rw[he];rfl
 ·have he:m.xP t=12:=by unfold Mu.xP;rw[hw,if_neg (by simp),if_pos h0]
  refine .inr ⟨h0,?_,?_⟩
  ·unfold Mu.wL;rw[he];rfl
  ·unfold Mu.lock;rw[he];rfl
theorem yS.again{F:List Int}(h:yS D F){t mh:Int}{m:Mu}(hF:t∈F)(hp:D.av.place mh≠ -1)(hob:D.ob mh=some (.mu m))(hne:m.h≠t):yS (D.again t mh) (F.erase t):=by
 obtain⟨ht,h0⟩:=h.fl t hF;have hpos:=AV.wJ ht;have hnin:t∉m.ws:=fun hc=>(h.w2 (D.at_ mh) t (by rw[←Dm.xQ,hob];exact hc)).2.2.2 hF;have h1:=h.OI (D.wh.stop (D.pl t));have hob1:({D with wh:=D.wh.stop (D.pl t)}:Dm).ob mh=some (.mu m):=hob;unfold Dm.again;rw[hob1];rcases m.Z0 t hpos hne hnin with⟨e1,e2,e3⟩|⟨e1,e2,e3⟩
 ·show yS (if m.wL t=0 then _ else _) _;rw[if_pos e2,e3];refine yS.wN ?_ hF;refine h1.Xw hob1 rfl (fun _=>by show t≠0;omega) (fun m' _=>⟨_,rfl,fun k ws mh' hk _ hc=>?_⟩) (fun _ _ e=>by cases e) (fun _ e=>by cases e);exact(h.w2 k t (by rw[show D.obj k=_ from hk];exact hc)).2.2.2 hF
 ·show yS (if m.wL t=0 then _ else _) _;rw[if_neg (by omega),e3];have h2:=h1.SG (t:=t) ht h0 {(D.waits.getD (D.pl t) Wt.zero)with obj:=mh,again:=true} h0 (.inl hF);have e4:(D.waits.set (D.pl t) {(D.waits.getD (D.pl t) Wt.zero)with obj:=mh,again:=true}).getD (D.pl t) Wt.zero={(D.waits.getD (D.pl t) Wt.zero)with obj:=mh,again:=true}:=by rw[h.uZ ht,if_pos rfl]
  refine h2.UA (t:=t) hF (j:=D.at_ mh) (o:=.mu m) (o':=.mu {m with ws:=m.ws++[t]}) hob1 ?_ ?_ (fun _=>e1) (fun _=>⟨_,rfl⟩) (fun m' hm'=>?_) (fun _ _ e=>by cases e) (fun _ e=>by cases e)
  ·show(m.ws++[t]).Perm (t::m.ws);exact zw _ _
  ·show D.av.place ((D.waits.set (D.pl t) {(D.waits.getD (D.pl t) Wt.zero)with obj:=mh,again:=true}).getD (D.pl t) Wt.zero).obj=_;rw[e4];exact h.ff hp
  ·cases hm';exact⟨_,rfl,rfl⟩
theorem yS.wG:∀(l:List Int) {D:Dm} {F:List Int} {mh:Int} {m:Mu},yS D F→l.Nodup→(∀t∈l,t∈F)→D.av.place mh≠ -1→D.ob mh=some (.mu m)→m.h∉l→yS (D.wG l mh) (l.foldl List.erase F)
 |[],_,_,_,_,h,_,_,_,_,_=>h
 |t::l,D,F,mh,m,h,hn,hs,hp,hob,hm=>by
  show yS ((D.again t mh).wG l mh) (l.foldl List.erase (F.erase t))
  have h8:D.at_ mh<D.yX.length:=by rw[h.ol];exact h.Z5 (j:=D.at_ mh) hob
  obtain⟨k1,k2,k3⟩:=Dm.Yv (t:=t) hob h8
  have hnt:m.h≠t:=fun e=>hm (by rw[e];simp)
  obtain⟨ht,-⟩:=h.fl t (hs t (by simp))
  have hnin:t∉m.ws:=fun hc=>(h.w2 (D.at_ mh) t (by rw[←Dm.xQ,hob];exact hc)).2.2.2 (hs t (by simp))
  refine yS.wG l (h.again (hs t (by simp)) hp hob hnt) (zN.1 hn).2 (fun u hu=>?_) (by rw[k2];exact hp) k3 ?_
  ·exact(List.mem_erase_of_ne (fun e=>by subst e;exact(zN.1 hn).1 hu)).2 (hs u (by simp[hu]))
  ·rcases m.Z0 t (AV.wJ ht) hnt hnin with⟨-,-,e⟩|⟨-,-,e⟩
   ·rw[e];exact(zN.1 hn).1
   ·rw[e];exact fun hc=>hm (yJ _ hc)
theorem yS.drop(h:yS D []){t:Int}(ht:D.sv.ar.place t≠ -1)(h0:(D.wt (D.pl t)).xI=t)(why:Int):yS (D.drop t why) []:=by
 have hpos:=AV.wJ ht;obtain⟨-,-,hw⟩:=h.w1 (D.pl t) (by omega);rw[h0]at hw;obtain⟨hpl,hin,-⟩:=hw.resolve_left (by simp);have h1:=h.told ht h0 why;have hpo:∀u∈wz (D.ob (D.for_ t)),u≠0:=fun u hu=>by have:=h.pos (j:=D.at_ (D.for_ t)) hu;omega
 have huse:=h.use (D.at_ (D.for_ t));unfold Dm.drop;replace hin:t∈wz (D.ob (D.for_ t)):=hin;rw[←Dm.xQ]at huse;have hk:∀o',∀e:Dm,e=(D.told t why).xg (D.for_ t) o'→yS e ([]++[t])→yS (e.wN t) []:=fun o' e he hd=>by have:=hd.wN (t:=t) (by simp);simpa using this
 cases hob:D.ob (D.for_ t)with
 |none=>rw[hob]at hin;cases hin
 |some o=>
  rw[hob]at hin hpo huse;have hob1:(D.told t why).obj (D.at_ (D.for_ t))=some o:=hob;cases o with
  |mu m=>
   show yS (((D.told t why).xg (D.for_ t) (.mu {m with ws:=m.ws.erase t})).wN t) [];refine hk _ _ rfl (h1.pA hob1 [t] ?_ (fun hne=>huse (fun e=>hne (by rw[e];rfl))) (fun m' hm'=>⟨_,rfl,fun k ws mh hk' hp'=>?_⟩) (fun _ _ e=>by cases e) (fun _ e=>by cases e))
   ·exact(yC hin).trans (zw _ _).symm
   ·cases hm';obtain⟨_,m2,hm2,hm3⟩:=h1.cd k ws mh hk';rw[Dm.xQ,show(D.told t why).at_ mh=D.at_ (D.for_ t)by unfold Dm.at_ at hp'⊢;show(D.av.place mh).toNat=_;rw[show D.av.place mh=_ from hp'];rfl,hob1]at hm2;cases hm2;exact hm3
  |rw m=>
   show yS ((((D.told t why).xg (D.for_ t) (.rw (m.drop t).1)).wN t).xH (m.drop t).2) [];have hperm:(m.ws++m.rd).Perm ((m.drop t).1.ws++(m.drop t).1.rd++t::(m.drop t).2)∧uc (some (.rw (m.drop t).1))∧(((m.drop t).1.rs++(m.drop t).1.rd).Nodup∧∀x∈(m.drop t).1.rs,D.sv.ar.place x≠ -1):=by
    obtain⟨r1,r2⟩:=h.th _ m hob;have r3:∀x,x∈m.rs∨x∈m.rd→D.sv.ar.place x≠ -1:=fun x hx=>hx.elim (r2 x) fun hd=>(h.w2 (D.at_ (D.for_ t)) x (by rw[←Dm.xQ,hob];exact yi _ hd)).1;unfold Rw.drop;by_cases c1:t∈m.ws
    ·rw[if_pos c1];refine⟨?_,Rw.dI _ fun x hx=>hpo x (ym _ (zK hx)),(Rw.jX {m with ws:=m.ws.erase t} r1).1,fun x hx=>r3 x ((Rw.jX {m with ws:=m.ws.erase t} r1).2 x hx)⟩;refine((yC c1).append_right m.rd).trans ?_;refine(List.Perm.cons t (Rw.jl {m with ws:=m.ws.erase t})).trans ?_;exact List.perm_middle.symm
    ·have c2:t∈m.rd:=(zB.1 hin).resolve_left c1;rw[if_neg c1,if_pos c2];have r4:(m.rs++m.rd.erase t).Nodup:=by rw[yd]at r1⊢;exact⟨r1.1,r1.2.1.erase _,fun a ha b hb=>r1.2.2 a ha b (zK hb)⟩
     refine⟨?_,Rw.dI _ fun x hx=>hpo x (ym _ hx),(Rw.jX {m with rd:=m.rd.erase t} r4).1,fun x hx=>r3 x (((Rw.jX {m with rd:=m.rd.erase t} r4).2 x hx).imp id zK)⟩;refine((yC c2).append_left m.ws).trans ?_;refine List.perm_middle.trans ?_;refine(List.Perm.cons t (Rw.jl {m with rd:=m.rd.erase t})).trans ?_;exact List.perm_middle.symm
   have h2:=(h1.pA hob1 (t::(m.drop t).2) (o':=.rw (m.drop t).1) hperm.1 hperm.2.1 (fun _ e=>by cases e) (fun _ _ e=>by cases e) (fun m' e=>by cases e;exact hperm.2.2));have h3:=h2.wN (t:=t) (by simp);rw[zD,yB]at h3;have h4:=h3.xH _ h3.fn (fun _ hu=>hu);rw[uT]at h4;exact h4
  |sm m=>
   show yS ((((D.told t why).xg (D.for_ t) (.sm (m.drop t).1)).wN t).xH (m.drop t).2) [];have hat:0≤m.at_ t:=by unfold Sm.at_;obtain⟨p,hp,hpe⟩:=yc.1 hin;exact RC ⟨p,hp,by simpa using hpe⟩
   obtain⟨p,hp1,hp2⟩:=Tt (l:=m.ws) (p:=fun p=>p.1==t) hat;have hperm:(m.ws.map Prod.fst).Perm ((m.drop t).1.ws.map Prod.fst++t::(m.drop t).2):=by
    unfold Sm.drop;rw[if_neg (by omega)];unfold Sm.serve;show(m.ws.map Prod.fst).Perm ((qa m.f (m.ws.eraseIdx (m.at_ t).toNat)).2.1.map Prod.fst++t::(qa m.f (m.ws.eraseIdx (m.at_ t).toNat)).2.2);refine List.Perm.trans ?_ List.perm_middle.symm;refine List.Perm.trans ?_ (List.Perm.cons t List.perm_append_comm);rw[←fY];have e1:t=p.1:=by simpa using(Eq.symm (by simpa using hp2))
    have hpm:=(cP hp1).map Prod.fst;rw[yK,←e1]at hpm;exact hpm
   have h2:=(h1.pA hob1 (t::(m.drop t).2) (o':=.sm (m.drop t).1) hperm trivial (fun _ e=>by cases e) (fun _ _ e=>by cases e) (fun _ e=>by cases e));have h3:=h2.wN (t:=t) (by simp);rw[zD,yB]at h3;have h4:=h3.xH _ h3.fn (fun _ hu=>hu);rw[uT]at h4;exact h4
  |cd ws mh=>
   show yS (((D.told t why).xg (D.for_ t) (.cd (ws.erase t) mh)).again t mh) [];obtain⟨q1,m,q2,q3⟩:=h.cd _ _ _ hob;have h2:=h1.pA hob1 [t] (o':=.cd (ws.erase t) mh) ((yC hin).trans (zw _ _).symm) trivial (fun _ e=>by cases e) (fun _ _ e=>by cases e;exact⟨ws,rfl⟩) (fun _ e=>by cases e);have hne:D.at_ mh≠D.at_ (D.for_ t):=fun e=>by rw[Dm.xQ,e,←Dm.xQ,hob]at q2;cases q2
   have h3:=h2.again (t:=t) (mh:=mh) (m:=m) (by simp) q1 ((fX (D:=D.told t why) (x:=D.for_ t) (y:=mh) hne).trans q2) (fun e=>q3 (by rw[e];exact hin));rw[zD,yB]at h3;exact h3
  |on m=> show yS (((D.told t why).xg (D.for_ t) (.on {m with ws:=m.ws.erase t})).wN t) [];exact hk _ _ rfl (h1.pA hob1 [t] ((yC hin).trans (zw _ _).symm) (fun hne=>huse (fun e=>hne (by rw[e];rfl))) (fun _ e=>by cases e) (fun _ _ e=>by cases e) (fun _ e=>by cases e))
  |gp m=> show yS (((D.told t why).xg (D.for_ t) (.gp {m with ws:=m.ws.erase t})).wN t) [];exact hk _ _ rfl (h1.pA hob1 [t] ((yC hin).trans (zw _ _).symm) ⟨fun hne=>huse.1 (fun e=>hne (by rw[e];rfl)),huse.2⟩ (fun _ e=>by cases e) (fun _ _ e=>by cases e) (fun _ e=>by cases e))
end
end
section
theorem Ob.no_mu{o:Ob}{P:Mu→Prop}(h:∀m,o≠.mu m):∀m,o=.mu m→P m:=fun m e=>absurd e (h m)
section
variable {D:Dm}
theorem yS.live(h:yS D []){t:Int}(ht:D.sv.ar.place t≠ -1):D.Live t:=⟨by have:=AV.rD h.vr ht;omega,ht⟩
theorem yS.has(h:yS D []){x:Int}(hx:D.av.place x≠ -1):D.Has x:=⟨by have:=AV.rD h.wV hx;omega,hx⟩
theorem yS.pT(h:yS D [])(j:Nat):(wz (D.obj j)).length≤8:=by have:=AV.many h.vr (fun x hx=>(h.w2 j x hx).1) (h.nd j);have:=h.sl;omega
theorem yS.aa(h:yS D []){j:Nat}{x:Int}(hx:x∈wz (D.obj j)):D.Live x:=h.live (h.w2 j x hx).1
theorem yS.az(h:yS D []){t:Int}(ht:D.sv.ar.place t≠ -1)(hr:D.pl t∈D.sv.run)(j:Nat):t∉wz (D.obj j):=fun hc=>by have:=(h.w2 j t hc).2.1;rw[h.idle hr]at this;have:=AV.wJ ht;omega
theorem yS.xO(h:yS D []){t:Int}(x:En)(E:Int){D1:Dm}(h1:E≠14→yS D1 [])(h2:E=14→∀xM,yS (D1.block t x.a xM) []):yS (D.xO t x E D1) []:=by
 unfold Dm.xO;by_cases c1:(x.xM D.clock).2=0
 ·rw[if_pos c1];by_cases c2:E=14
  ·rw[if_pos c2];exact h2 c2 _
  ·rw[if_neg c2];exact h1 c2
 ·rw[if_neg c1];exact h
theorem yS.Ns(h:yS D []){x:Int}{m:Mu}(hob:D.ob x=some (.mu m)){k:Nat}{ws:List Int}{mh:Int}(hk:D.obj k=some (.cd ws mh))(hp:D.av.place mh=D.at_ x):m.h∉ws:=by obtain⟨_,m2,q2,q3⟩:=h.cd k ws mh hk;rw[Dm.xQ,show D.at_ mh=D.at_ x by unfold Dm.at_ at hp⊢;rw[hp];rfl,←Dm.xQ,hob]at q2;cases q2;exact q3
theorem yS.Vd(h:yS D []){t:Int}(ht:D.sv.ar.place t≠ -1)(hr:D.pl t∈D.sv.run){k:Nat}{ws:List Int}{mh:Int}(hk:D.obj k=some (.cd ws mh)):t∉ws:=fun hc=>h.az ht hr k (by rw[hk];exact hc)
theorem yS.Wu(h:yS D []){x:Int}{m m':Mu}(hob:D.ob x=some (.mu m))(hw:m'.ws=m.ws)(hu:m'.ws≠[]→m'.h≠0)(hh:m'.h=m.h∨m'.h≤0∨∀k ws mh,D.obj k=some (.cd ws mh)→m'.h∉ws):yS (D.xg x (.mu m')) []:=by
 refine h.Xw hob (o':=.mu m') hw hu (fun m2 e=>⟨m',rfl,fun k ws mh hk hp=>?_⟩) (fun _ _ e=>by cases e) (fun _ e=>by cases e);cases e;rcases hh with e|e|e
 ·rw[e];exact h.Ns hob hk hp
 ·intro hc;have:=h.pos (j:=k) (t:=m'.h) (by rw[hk];exact hc);omega
 ·exact e k ws mh hk
theorem Mu.OJ(m:Mu)(t:Int):(m.wi t).ws=m.ws∧(m.wi t=m∨((m.wi t).h=t∧m.h=0)):=by
 unfold Mu.wi;split
 ·rename_i e;refine⟨rfl,.inr ⟨rfl,?_⟩⟩;unfold Mu.xP at e;split at e
  ·rename_i c;exact absurd e c
  ·split at e
   ·exact absurd e (by decide)
   ·rename_i c;exact zC c
 ·exact⟨rfl,.inl rfl⟩
theorem Mu.PB(m:Mu)(t:Int):(m.wL t=14∧m.h≠0∧m.lock t={m with ws:=m.ws++[t]})∨(m.wL t≠14∧m.lock t=m.wi t):=by
 by_cases c:m.xP t=12
 ·refine .inl ⟨by unfold Mu.wL;rw[if_pos c],?_,by unfold Mu.lock;rw[if_pos c]⟩;unfold Mu.xP at c;split at c
  ·rename_i hw;unfold Mu.xV at c;split at c
   ·exact absurd c (by decide)
   ·split at c<;>exact absurd c (by decide)
  ·split at c
   ·assumption
   ·exact absurd c (by decide)
 ·refine .inr ⟨?_,by unfold Mu.lock;rw[if_neg c]⟩;unfold Mu.wL;rw[if_neg c];unfold Mu.xP Mu.xV;repeat' split
  all_goals first|decide|(simp;done)|(rename_i hc _;exact absurd rfl hc)
theorem yS.unlock(h:yS D []){t x:Int}{m:Mu}(hob:D.ob x=some (.mu m)):yS (D.unlock t x m) []:=by
 unfold Dm.unlock;by_cases e:m.wB t=0
 ·have hu:m.unlock t=⟨m.ws.headD 0,m.ws.tail⟩:=if_pos e;have hn:m.wF t=m.ws.headD 0:=if_pos e;rw[hu,hn];obtain⟨hh,ws⟩:=m;cases ws with
  |nil=> show yS (if(0:Int)≠0 then _ else _) [];rw[if_neg (by simp)];exact h.Wu hob rfl (fun hne=>absurd rfl hne) (.inr (.inl (Int.le_refl 0)))
  |cons a l=>
   have hin:a∈wz (D.obj (D.at_ x)):=by rw[←Dm.xQ,hob];simp[wz]
   have ha:=h.pos hin;show yS (if a≠0 then _ else _) [];rw[if_pos (by omega)];have h1:=h.pA (j:=D.at_ x) hob [a] (o':=.mu ⟨a,l⟩) (by show(a::l).Perm (l++[a]);exact(zw _ _).symm) (fun _=>by show a≠0;omega) (fun m2 e=>⟨_,rfl,fun k ws mh hk hp hc=>?_⟩) (fun _ _ e=>by cases e) (fun _ e=>by cases e)
   ·have h2:=h1.wN (t:=a) (by simp);rw[zD,yB]at h2;exact h2
   ·have q1:=(h.w2 _ _ hin).2.2.1;have q2:=(h.w2 k a (by rw[hk];exact hc)).2.2.1;rw[q1]at q2;have:D.at_ x=k:=by omega
    subst this;rw[←Dm.xQ,hob]at hk;cases hk
 ·have hu:m.unlock t=m:=if_neg e;have hn:m.wF t=0:=if_neg e;rw[hu,hn,if_neg (by simp)];exact h.Wu hob rfl (by have:=h.use (D.at_ x);rw[←Dm.xQ,hob]at this;exact this) (.inl rfl)
theorem yS.alone(h:yS D []){t:Int}{x:En}{m:Mu}(ht:D.sv.ar.place t≠ -1)(hr:D.pl t∈D.sv.run)(hx:D.av.place x.a≠ -1)(hob:D.ob x.a=some (.mu m)):yS (D.alone t x x.a m).1 []:=by
 have hpos:=AV.wJ ht;have huse:uc (some (.mu m)):=by have:=h.use (D.at_ x.a);rw[←Dm.xQ,hob]at this;exact this
 have htry:yS (D.xg x.a (.mu (m.wi t))) []:=by
  obtain⟨e1,e2⟩:=m.OJ t;refine h.Wu hob e1 ?_ ?_
  ·rcases e2 with e2|⟨e2,-⟩
   ·rw[e2];exact huse
   ·intro _;omega
  ·rcases e2 with e2|⟨e2,-⟩
   ·exact .inl (by rw[e2])
   ·exact .inr (.inr fun k ws mh hk=>by rw[e2];exact h.Vd ht hr hk)
 unfold Dm.alone;by_cases c1:x.op=8
 ·rw[if_pos c1];exact htry
 ·rw[if_neg c1];by_cases c2:x.op=9
  ·rw[if_pos c2];exact h.unlock hob
  ·rw[if_neg c2];rcases m.PB t with⟨e1,e2,e3⟩|⟨e1,e3⟩
   ·refine h.xO x _ (fun hc=>absurd e1 hc) fun _ xM=>?_;rw[e3];refine h.kP ht hr hx hob (o':=.mu {m with ws:=m.ws++[t]}) (zw _ _) (fun _=>e2) (fun m2 e=>?_) (fun _ _ e=>by cases e) (fun _ e=>by cases e) xM;cases e;exact⟨_,rfl,rfl⟩
   ·refine h.xO x _ (fun _=>?_) fun hc=>absurd hc e1;rw[e3];exact htry
theorem yS.cX(h:yS D []){x:Int}{m:Rw}(hob:D.ob x=some (.rw m)):uc (some (.rw m))∧(m.ws++m.rd).Nodup∧(m.rs++m.rd).Nodup∧(∀y∈m.rs,D.sv.ar.place y≠ -1)∧(∀y∈m.ws,D.sv.ar.place y≠ -1)∧(∀y∈m.rd,D.sv.ar.place y≠ -1):=by have h1:=h.use (D.at_ x);have h2:=h.nd (D.at_ x);obtain⟨h3,h4⟩:=h.th (D.at_ x) m hob;have h5:=fun y hy=>(h.w2 (D.at_ x) y hy).1;rw[←Dm.xQ,hob]at h1 h2 h5;exact⟨h1,h2,h3,h4,fun y hy=>h5 y (ym _ hy),fun y hy=>h5 y (yi _ hy)⟩
theorem yS.SE(h:yS D []){x:Int}{m m':Rw}(hob:D.ob x=some (.rw m))(G:List Int)(hp:(m.ws++m.rd).Perm (m'.ws++m'.rd++G))(hu:uc (some (.rw m')))(hr:(m'.rs++m'.rd).Nodup)(hr2:∀y∈m'.rs,D.sv.ar.place y≠ -1):yS ((D.xg x (.rw m')).xH G) []:=h.Xx hob (o':=.rw m') G hp hu (fun _ e=>by cases e) (fun _ _ e=>by cases e) (fun _ e=>by cases e;exact⟨hr,hr2⟩)
theorem yS.aB(h:yS D []){x:Int}{m m':Rw}(hob:D.ob x=some (.rw m))(hw:m'.ws=m.ws)(hd:m'.rd=m.rd)(hr:(m'.rs++m'.rd).Nodup)(hr2:∀y∈m'.rs,D.sv.ar.place y≠ -1):yS ((D.xg x (.rw m'.hand.1)).xH m'.hand.2) []:=by obtain⟨-,-,-,-,q5,q6⟩:=h.cX hob;obtain⟨r1,r2⟩:=m'.jX hr;refine h.SE hob _ (by rw[←hw,←hd];exact m'.jl) (m'.dI fun y hy=>?_) r1 fun y hy=>(r2 y hy).elim (hr2 y) fun hy2=>q6 y (hd ▸ hy2);have:=AV.wJ (q5 y (hw ▸ hy));omega
theorem Rw.Xh{m:Rw}{x:Int}(h:m.xV x=0):1≤x∧m.w≠x∧x∉m.rs∧x∉m.ws∧x∉m.rd:=by
 unfold Rw.xV at h;split at h
 ·exact absurd h (by decide)
 ·split at h
  ·exact absurd h (by decide)
  ·rename_i c1 c2;unfold Rw.bad at c2;simp only[Bool.or_eq_true,not_or,beq_iff_eq,decide_eq_true_eq]at c2;exact⟨by omega,c2.1,c2.2.1,c2.2.2.1,c2.2.2.2⟩
theorem Rw.WO(m:Rw)(x:Int):(m.xP x=0∧m.xV x=0∧m.w=0∧m.rs=[])∨(m.xP x=12∧m.xV x=0∧(m.w≠0∨m.rs≠[]))∨(m.xP x=m.xV x∧m.xV x≠0∧m.xV x≠12∧m.xV x≠14):=by
 unfold Rw.xP;by_cases c:m.xV x≠0
 ·rw[if_pos c];refine .inr (.inr ⟨rfl,c,?_,?_⟩)<;>(unfold Rw.xV;split;decide;split<;>decide)
 ·rw[if_neg c];have c':m.xV x=0:=zC c;by_cases c2:m.w≠0∨m.rs≠[]
  ·rw[if_pos c2];exact .inr (.inl ⟨rfl,c',c2⟩)
  ·rw[if_neg c2];exact .inl ⟨rfl,c',zC fun e=>c2 (.inl e),zC fun e=>c2 (.inr e)⟩
theorem Rw.du(m:Rw)(x:Int):(m.ui x=0∧m.xV x=0∧m.w=0∧m.ws=[])∨(m.ui x=12∧m.xV x=0∧(m.w≠0∨m.ws≠[]))∨(m.ui x=m.xV x∧m.xV x≠0∧m.xV x≠12∧m.xV x≠14):=by
 unfold Rw.ui;by_cases c:m.xV x≠0
 ·rw[if_pos c];refine .inr (.inr ⟨rfl,c,?_,?_⟩)<;>(unfold Rw.xV;split;decide;split<;>decide)
 ·rw[if_neg c];have c':m.xV x=0:=zC c;by_cases c2:m.w≠0∨m.ws≠[]
  ·rw[if_pos c2];exact .inr (.inl ⟨rfl,c',c2⟩)
  ·rw[if_neg c2];exact .inl ⟨rfl,c',zC fun e=>c2 (.inl e),zC fun e=>c2 (.inr e)⟩
theorem yS.hZ(h:yS D []){x:Int}{m m':Rw}(hob:D.ob x=some (.rw m))(hw:m'.ws=m.ws)(hd:m'.rd=m.rd)(hu:uc (some (.rw m')))(hr:(m'.rs++m'.rd).Nodup)(hr2:∀y∈m'.rs,D.sv.ar.place y≠ -1):yS (D.xg x (.rw m')) []:=h.SE hob [] (by rw[hw,hd,zP]) hu hr hr2
theorem yS.eJ(h:yS D []){t x:Int}{m:Rw}(hob:D.ob x=some (.rw m))(ht:D.sv.ar.place t≠ -1):yS (D.xg x (.rw (m.wi t))) []:=by
 obtain⟨q1,-,q3,q4,-,-⟩:=h.cX hob;unfold Rw.wi;split
 ·have:=AV.wJ ht;exact h.hZ hob (m':={m with w:=t}) rfl rfl (fun _=>.inl (by show t≠0;omega)) q3 q4
 ·exact h.hZ hob rfl rfl q1 q3 q4
theorem yS.gi(h:yS D []){t x:Int}{m:Rw}(hob:D.ob x=some (.rw m))(ht:D.sv.ar.place t≠ -1):yS (D.xg x (.rw (m.ql t))) []:=by
 obtain⟨q1,-,q3,q4,-,-⟩:=h.cX hob;unfold Rw.ql;split
 ·rename_i e;rcases m.du t with⟨-,e2,-,-⟩|⟨e2,-⟩|⟨e2,e3,-⟩
  ·obtain⟨-,-,b3,-,b5⟩:=Rw.Xh e2;refine h.hZ hob (m':={m with rs:=m.rs++[t]}) rfl rfl (fun _=>.inr (by show m.rs++[t]≠[];simp)) ?_ fun y hy=>?_
   ·show(m.rs++[t]++m.rd).Nodup;rw[zU];refine(List.perm_middle.nodup_iff).2 (zN.2 ⟨fun hc=>?_,q3⟩);exact(zB.1 hc).elim b3 b5
   ·rcases zB.1 hy with hy|hy
    ·exact q4 y hy
    ·rw[yr]at hy;subst hy;exact ht
  ·omega
  ·omega
 ·exact h.hZ hob rfl rfl q1 q3 q4
theorem yS.pD(h:yS D []){t:Int}{x:En}{m:Rw}(ht:D.sv.ar.place t≠ -1)(hr:D.pl t∈D.sv.run)(hx:D.av.place x.a≠ -1)(hob:D.ob x.a=some (.rw m)):yS (D.pD t x m).1 []:=by
 obtain⟨q1,q2,q3,q4,q5,q6⟩:=h.cX hob;unfold Dm.pD;by_cases c1:x.op=8
 ·rw[if_pos c1];exact h.eJ hob ht
 ·rw[if_neg c1];by_cases c2:x.op=9
  ·rw[if_pos c2];show yS ((D.xg x.a (.rw (m.unlock t).1)).xH (m.unlock t).2) [];unfold Rw.unlock;split
   ·exact h.aB hob rfl rfl q3 q4
   ·exact h.hZ hob rfl rfl q1 q3 q4
  ·rw[if_neg c2];rcases m.WO t with⟨e1,e2,e3,e4⟩|⟨e1,e2,e3⟩|⟨e1,e2,e3,e4⟩
   ·refine h.xO x _ (fun _=>?_) fun hc=>absurd hc (by unfold Rw.wL;rw[e1];decide);rw[show m.lock t=m.wi t by unfold Rw.lock;rw[e1];rfl];exact h.eJ hob ht
   ·refine h.xO x _ (fun hc=>absurd (show m.wL t=14 by unfold Rw.wL;rw[if_pos e1]) hc) fun _ xM=>?_;rw[show m.lock t={m with ws:=m.ws++[t]}by unfold Rw.lock;rw[if_pos e1]];refine h.kP ht hr hx hob (o':=.rw {m with ws:=m.ws++[t]}) ?_ (fun _=>e3) (fun _ e=>by cases e) (fun _ _ e=>by cases e) (fun _ e=>by cases e;exact⟨q3,q4⟩) xM;show(m.ws++[t]++m.rd).Perm (t::(m.ws++m.rd));rw[zU];exact List.perm_middle
   ·refine h.xO x _ (fun _=>?_) fun hc=>absurd hc (by unfold Rw.wL;rw[e1,if_neg e3];exact e4);rw[show m.lock t=m.wi t by unfold Rw.lock;rw[e1,if_neg e3]];exact h.eJ hob ht
theorem yS.rZ(h:yS D []){t:Int}{x:En}{m:Rw}(ht:D.sv.ar.place t≠ -1)(hr:D.pl t∈D.sv.run)(hx:D.av.place x.a≠ -1)(hob:D.ob x.a=some (.rw m)):yS (D.rZ t x m).1 []:=by
 obtain⟨q1,q2,q3,q4,q5,q6⟩:=h.cX hob;unfold Dm.rZ;by_cases c1:x.op=12
 ·rw[if_pos c1];exact h.gi hob ht
 ·rw[if_neg c1];by_cases c2:x.op=13
  ·rw[if_pos c2];show yS ((D.xg x.a (.rw (m.vI t).1)).xH (m.vI t).2) [];unfold Rw.vI;split
   ·refine h.aB hob (m':={m with rs:=m.rs.erase t}) rfl rfl ?_ fun y hy=>q4 y (zK hy);rw[yd]at q3⊢;exact⟨q3.1.erase _,q3.2.1,fun a ha b hb=>q3.2.2 a (zK ha) b hb⟩
   ·exact h.hZ hob rfl rfl q1 q3 q4
  ·rw[if_neg c2];rcases m.du t with⟨e1,e2,e3,e4⟩|⟨e1,e2,e3⟩|⟨e1,e2,e3,e4⟩
   ·refine h.xO x _ (fun _=>?_) fun hc=>absurd hc (by unfold Rw.se;rw[e1];decide);rw[show m.rf t=m.ql t by unfold Rw.rf;rw[e1];rfl];exact h.gi hob ht
   ·refine h.xO x _ (fun hc=>absurd (show m.se t=14 by unfold Rw.se;rw[if_pos e1]) hc) fun _ xM=>?_;rw[show m.rf t={m with rd:=m.rd++[t]}by unfold Rw.rf;rw[if_pos e1]];obtain⟨-,-,b3,-,b5⟩:=Rw.Xh e2;refine h.kP ht hr hx hob (o':=.rw {m with rd:=m.rd++[t]}) ?_ (fun _=>e3.elim (fun e=>.inl e) fun e=>q1 (.inl e)) (fun _ e=>by cases e) (fun _ _ e=>by cases e) (fun _ e=>?_) xM
    ·show(m.ws++(m.rd++[t])).Perm (t::(m.ws++m.rd));rw[←zU];exact zw _ _
    ·cases e;refine⟨?_,q4⟩;show(m.rs++(m.rd++[t])).Nodup;rw[←zU];refine((zw _ _).nodup_iff).2 (zN.2 ⟨fun hc=>?_,q3⟩);exact(zB.1 hc).elim b3 b5
   ·refine h.xO x _ (fun _=>?_) fun hc=>absurd hc (by unfold Rw.se;rw[e1,if_neg e3];exact e4);rw[show m.rf t=m.ql t by unfold Rw.rf;rw[e1,if_neg e3]];exact h.gi hob ht
end
end
section
section
variable {D:Dm}
theorem yS.Wv(h:yS D []){x:Int}{o o':Ob}(hob:D.ob x=some o)(G:List Int)(hp:(wz (some o)).Perm (wz (some o')++G))(hu:uc (some o'))(hm:∀m,o≠.mu m)(hr:∀m,o'≠.rw m)(hc:∀ws mh,o'≠.cd ws mh):yS ((D.xg x o').xH G) []:=h.Xx hob G hp hu (fun m e=>absurd e (hm m)) (fun _ _ e=>absurd e (hc _ _)) (fun m e=>absurd e (hr m))
theorem yS.fg(h:yS D []){x:Int}{o o':Ob}(hob:D.ob x=some o)(hp:wz (some o')=wz (some o))(hu:uc (some o'))(hm:∀m,o≠.mu m)(hr:∀m,o'≠.rw m)(hc:∀ws mh,o'≠.cd ws mh):yS (D.xg x o') []:=h.Wv hob [] (by rw[hp,zP]) hu hm hr hc
theorem yS.Ww(h:yS D []){t x:Int}{o o':Ob}(ht:D.sv.ar.place t≠ -1)(hr:D.pl t∈D.sv.run)(hx:D.av.place x≠ -1)(ho:D.ob x=some o)(hp:(wz (some o')).Perm (t::wz (some o)))(hu:uc (some o'))(hm:∀m,o≠.mu m)(hrw:∀m,o'≠.rw m)(hc:∀ws mh,o'≠.cd ws mh)(xM:Int):yS ((D.xg x o').block t x xM) []:=h.kP ht hr hx ho hp hu (fun m e=>absurd e (hm m)) (fun _ _ e=>absurd e (hc _ _)) (fun m e=>absurd e (hrw m)) xM
theorem Sm.PW(m:Sm)(x n:Int):(m.wi x n).ws=m.ws:=by unfold Sm.wi;split<;>rfl
theorem Sm.cY(m:Sm):(m.ws.map Prod.fst).Perm (m.serve.1.ws.map Prod.fst++m.serve.2):=by rw[fY m.ws m.f];exact List.perm_append_comm
theorem Sm.Yd(m:Sm)(n:Int):(m.ws.map Prod.fst).Perm ((m.rel n).1.ws.map Prod.fst++(m.rel n).2):=by
 unfold Sm.rel;split
 ·exact Sm.cY {m with f:=m.f+n}
 ·rw[zP]
theorem Sm.Qr(m:Sm)(x n:Int):m.xP x n≠14:=by
 unfold Sm.xP;repeat' split
 all_goals decide
theorem yS.sV(h:yS D []){t:Int}{x:En}{m:Sm}(ht:D.sv.ar.place t≠ -1)(hr:D.pl t∈D.sv.run)(hx:D.av.place x.a≠ -1)(hob:D.ob x.a=some (.sm m)):yS (D.sV t x m).1 []:=by
 have htry:∀n,yS (D.xg x.a (.sm (m.wi t n))) []:=fun n=>h.fg hob (by show(m.wi t n).ws.map _=_;rw[m.PW];rfl) trivial (by simp) (by simp) (by simp);unfold Dm.sV;by_cases c1:x.op=16
 ·rw[if_pos c1];exact htry _
 ·rw[if_neg c1];by_cases c2:x.op=17
  ·rw[if_pos c2];exact h.Wv hob _ (m.Yd x.b) trivial (by simp) (by simp) (by simp)
  ·rw[if_neg c2];by_cases c3:m.xP t x.b=12
   ·refine h.xO x _ (fun hc=>absurd (show m.pV t x.b=14 by unfold Sm.pV;rw[if_pos c3]) hc) fun _ xM=>?_;rw[show m.fx t x.b={m with ws:=m.ws++[(t,x.b)]}by unfold Sm.fx;rw[if_pos c3]];refine h.Ww ht hr hx hob (o':=.sm {m with ws:=m.ws++[(t,x.b)]}) ?_ trivial (by simp) (by simp) (by simp) xM;show((m.ws++[(t,x.b)]).map Prod.fst).Perm (t::m.ws.map Prod.fst);rw[yI];exact zw _ _
   ·refine h.xO x _ (fun _=>?_) fun hc=>absurd hc (by unfold Sm.pV;rw[if_neg c3];exact m.Qr _ _);rw[show m.fx t x.b=m.wi t x.b by unfold Sm.fx;rw[if_neg c3]];exact htry _
theorem yS.Wk(h:yS D []){x:Int}{m:Gp}(hob:D.ob x=some (.gp m)):(m.ws≠[]→m.n≠0)∧0≤m.n∧m.n≤1048576:=by have h1:=h.use (D.at_ x);rw[←Dm.xQ,hob]at h1;exact h1
theorem yS.Zy(h:yS D []){x:En}{m:Gp}(hob:D.ob x.a=some (.gp m)):yS (D.Zy x m).1 []:=by
 obtain⟨q1,q2,q3⟩:=h.Wk hob;show yS ((D.xg x.a (.gp (m.add x.b))).xH (m.tv x.b)) [];by_cases c:m.pW x.b=0
 ·have hb:-m.n≤x.b∧x.b≤1048576-m.n:=by
   unfold Gp.pW at c;split at c
   ·exact absurd c (by decide)
   ·split at c
    ·exact absurd c (by decide)
    ·omega
  by_cases c2:0<m.n+x.b
  ·rw[show m.add x.b={m with n:=m.n+x.b}by unfold Gp.add;rw[if_pos c,if_pos c2],show m.tv x.b=[]by unfold Gp.tv;rw[if_pos c,if_pos c2]];exact h.fg hob rfl ⟨fun _=>by show m.n+x.b≠0;omega,by show 0≤m.n+x.b;omega,by show m.n+x.b≤1048576;omega⟩ (by simp) (by simp) (by simp)
  ·rw[show m.add x.b=⟨m.n+x.b,[]⟩by unfold Gp.add;rw[if_pos c,if_neg c2],show m.tv x.b=m.ws by unfold Gp.tv;rw[if_pos c,if_neg c2]];exact h.Wv hob _ (by show m.ws.Perm ([]++m.ws);exact .refl _) ⟨fun hc=>absurd rfl hc,by show 0≤m.n+x.b;omega,by show m.n+x.b≤1048576;omega⟩ (by simp) (by simp) (by simp)
 ·rw[show m.add x.b=m by unfold Gp.add;rw[if_neg c],show m.tv x.b=[]by unfold Gp.tv;rw[if_neg c]];exact h.fg hob rfl ⟨q1,q2,q3⟩ (by simp) (by simp) (by simp)
theorem Gp.Se(m:Gp)(x:Int):m.uj x=14→m.n≠0:=by
 unfold Gp.uj;repeat' split
 all_goals first|(intro h;exact absurd h (by decide))|(intro _;assumption)
theorem yS.OM(h:yS D []){t:Int}{x:En}{m:Gp}(ht:D.sv.ar.place t≠ -1)(hr:D.pl t∈D.sv.run)(hx:D.av.place x.a≠ -1)(hob:D.ob x.a=some (.gp m)):yS (D.xO t x (m.uj t) (D.xg x.a (.gp (m.wait t)))) []:=by
 obtain⟨q1,q2,q3⟩:=h.Wk hob;refine h.xO x _ (fun hc=>?_) fun hc xM=>?_
 ·rw[show m.wait t=m from if_neg hc];exact h.fg hob rfl ⟨q1,q2,q3⟩ (by simp) (by simp) (by simp)
 ·rw[show m.wait t={m with ws:=m.ws++[t]}from if_pos hc];exact h.Ww ht hr hx hob (o':=.gp {m with ws:=m.ws++[t]}) (zw _ _) ⟨fun _=>m.Se t hc,q2,q3⟩ (by simp) (by simp) (by simp) xM
theorem On.Xm{m:On}{x:Int}(h:m.first x=true):1≤x∧m.d=0∧m.xZ x≠14:=by unfold On.first at h;simp only[zL,Bool.not_eq_true',decide_eq_true_eq,decide_eq_false_iff_not]at h;obtain⟨⟨⟨h1,h2⟩,h3⟩,h4⟩:=h;refine⟨by omega,h4,?_⟩;unfold On.xZ;rw[if_neg h1,if_neg (by rw[h2];decide),if_neg h3,if_pos h4];decide
theorem On.W7{m:On}{x:Int}(h:m.xZ x=14):m.d≠0:=by
 unfold On.xZ at h;repeat' split at h
 all_goals first|exact absurd h (by decide)|assumption
theorem yS.pw(h:yS D []){t:Int}{x:En}{m:On}(ht:D.sv.ar.place t≠ -1)(hr:D.pl t∈D.sv.run)(hx:D.av.place x.a≠ -1)(hob:D.ob x.a=some (.on m)):yS (D.pw t x m).1 []:=by
 have huse:uc (some (.on m)):=by have:=h.use (D.at_ x.a);rw[←Dm.xQ,hob]at this;exact this
 unfold Dm.pw;by_cases c1:x.op=24
 ·rw[if_pos c1];show yS ((D.xg x.a (.on (m.done t))).xH (m.su t)) [];by_cases c2:m.qF t=0
  ·rw[show m.done t=⟨0,true,[]⟩from if_pos c2,show m.su t=m.ws from if_pos c2];exact h.Wv hob _ (by show m.ws.Perm ([]++m.ws);exact .refl _) (fun hc=>absurd rfl hc) (by simp) (by simp) (by simp)
  ·rw[show m.done t=m from if_neg c2,show m.su t=[]from if_neg c2];exact h.fg hob rfl huse (by simp) (by simp) (by simp)
 ·rw[if_neg c1];show yS (D.xO t x (m.xZ t) (D.xg x.a (.on (m.vh t)))) [];refine h.xO x _ (fun hc=>?_) fun hc xM=>?_
  ·cases hf:m.first t with
   |true=> have hd:=On.Xm hf;rw[show m.vh t={m with d:=t}by unfold On.vh;rw[if_pos hf]];exact h.fg hob rfl (fun _=>by show t≠0;omega) (by simp) (by simp) (by simp)
   |false=> rw[show m.vh t=m by unfold On.vh;rw[hf,if_neg (by simp),if_neg hc]];exact h.fg hob rfl huse (by simp) (by simp) (by simp)
  ·have hf:m.first t=false:=by
    cases hf:m.first t with
    |true=>exact absurd hc (On.Xm hf).2.2
    |false=>rfl
   rw[show m.vh t={m with ws:=m.ws++[t]}by unfold On.vh;rw[hf,if_neg (by simp),if_pos hc]];exact h.Ww ht hr hx hob (o':=.on {m with ws:=m.ws++[t]}) (zw _ _) (fun _=>On.W7 (m:=m) (x:=t) hc) (by simp) (by simp) (by simp) xM
theorem yS.Zj(h:yS D []){x:Int}{ws:List Int}{mh:Int}(hob:D.ob x=some (.cd ws mh)):D.av.place mh≠ -1∧D.at_ mh≠D.at_ x∧∃m,D.ob mh=some (.mu m)∧m.h∉ws:=by obtain⟨q1,m,q2,q3⟩:=h.cd _ ws mh hob;refine⟨q1,fun e=>?_,m,q2,q3⟩;rw[Dm.xQ,e,←Dm.xQ,hob]at q2;cases q2
theorem yS.sf(h:yS D []){x:En}{ws:List Int}{mh:Int}(hob:D.ob x.a=some (.cd ws mh)):yS (D.sf x ws mh).1 []:=by
 obtain⟨q1,q2,m,q3,q4⟩:=h.Zj hob;have hnd:ws.Nodup:=by have:=h.nd (D.at_ x.a);rw[←Dm.xQ,hob]at this;exact this
 have hput:∀ws' G:List Int,ws.Perm (ws'++G)→yS (D.xg x.a (.cd ws' mh)) ([]++G):=fun ws' G hp=>h.pA (j:=D.at_ x.a) hob G (o':=.cd ws' mh) hp trivial (fun _ e=>by cases e) (fun _ _ e=>by cases e;exact⟨ws,rfl⟩) (fun _ e=>by cases e);have hob2:∀ws':List Int,(D.xg x.a (.cd ws' mh)).ob mh=some (.mu m):=fun ws'=>(fX q2).trans q3;unfold Dm.sf;by_cases c1:x.op=21
 ·rw[if_pos c1];cases ws with
  |nil=> rw[if_pos rfl];have:=hput [] [] (.refl _);rw[zP]at this;exact this
  |cons a l=> rw[if_neg (by simp)];show yS ((D.xg x.a (.cd l mh)).again a mh) [];have h1:=(hput l [a] (zw _ _).symm).again (t:=a) (mh:=mh) (m:=m) (by simp) q1 (hob2 l) (fun e=>q4 (by rw[e];simp));rw[zD,yB]at h1;exact h1
 ·rw[if_neg c1];show yS ((D.xg x.a (.cd [] mh)).wG ws mh) [];have h1:=yS.wG ws (hput [] ws (.refl _)) hnd (fun _ hu=>hu) q1 (hob2 []) q4;rw[zD,uT]at h1;exact h1
theorem yS.OL(h:yS D []){t:Int}{x:En}{ws:List Int}{mh:Int}{mm:Mu}(ht:D.sv.ar.place t≠ -1)(hr:D.pl t∈D.sv.run)(hx:D.av.place x.a≠ -1)(hob:D.ob x.a=some (.cd ws mh))(hom:D.ob mh=some (.mu mm)):yS (D.xO t x (uw mm ws t) (D.tQ t x.a mh mm ws)) []:=by
 obtain⟨q1,q2,m,q3,q4⟩:=h.Zj hob;rw[hom]at q3;cases q3;have hpos:=AV.wJ ht;have hnin:t∉ws:=h.Vd ht hr hob;by_cases c:mm.h≠t
 ·rw[show uw mm ws t=11 from if_pos c,show D.tQ t x.a mh mm ws=D from if_pos c];exact h.xO x _ (fun _=>h) fun hc=>absurd hc (by decide)
 ·have e14:uL ws t=14:=by unfold uL;rw[if_neg (by omega),if_neg hnin]
  rw[show uw mm ws t=14 by unfold uw;rw[if_neg c];exact e14];rw[show D.tQ t x.a mh mm ws=(D.unlock t mh mm).xg x.a (.cd (ws++[t]) mh)by unfold Dm.tQ;rw[if_neg c];unfold qS;rw[if_pos e14]];refine h.xO x _ (fun hc=>absurd rfl hc) fun _ xM=>?_;have h1:=h.unlock (t:=t) hom;obtain⟨k1,k2,k3⟩:=Dm.jQ D t mh mm;have e1:(D.unlock t mh mm).pl t=D.pl t:=by unfold Dm.pl;rw[k2]
  have e2:∀y,(D.unlock t mh mm).at_ y=D.at_ y:=fun y=>by unfold Dm.at_;rw[k1]
  refine h1.kP (o:=.cd ws mh) (o':=.cd (ws++[t]) mh) (by rw[k2];exact ht) (by rw[k2,e1];exact hr) (by rw[k1];exact hx) ?_ (zw _ _) trivial (fun _ e=>by cases e) (fun ws' mh' e=>?_) (fun _ e=>by cases e) xM
  ·rw[Dm.xQ,e2];show(D.unlock t mh mm).yX.getD _ none=_;rw[k3 _ (Ne.symm q2)];exact hob
  ·cases e;refine⟨ws,rfl,fun m' hm'=>?_⟩;have huse:uc (some (.mu mm)):=by have:=h.use (D.at_ mh);rw[←Dm.xQ,hom]at this;exact this
   have hcase:(D.unlock t mh mm).ob mh=some (.mu (mm.unlock t)):=by
    have h8:D.at_ mh<D.yX.length:=by rw[h.ol];exact h.Z5 (j:=D.at_ mh) hom
    rw[Dm.xQ,e2];unfold Dm.unlock;split
    ·show(D.yX.set (D.at_ mh) _).getD (D.at_ mh) none=_;exact wq h8
    ·show(D.yX.set (D.at_ mh) _).getD (D.at_ mh) none=_;exact wq h8
   rw[hcase]at hm';cases hm';have hue:mm.wB t=0:=by unfold Mu.wB;rw[if_neg (by omega),if_neg c]
   rw[show mm.unlock t=⟨mm.ws.headD 0,mm.ws.tail⟩from if_pos hue];show mm.ws.headD 0≠t;intro e;have:t∈mm.ws:=by
    cases hw:mm.ws with
    |nil=>rw[hw]at e;simp at e;omega
    |cons a l=>rw[hw]at e;simp at e;subst e;simp
   exact h.az ht hr (D.at_ mh) (by rw[←Dm.xQ,hom];exact this)
theorem yS.OK(h:yS D []){t:Int}(x:En)(ht:D.sv.ar.place t≠ -1)(hr:D.pl t∈D.sv.run):yS (D.use t x).1 []:=by
 unfold Dm.use;by_cases c1:7≤x.op∧x.op≤10
 ·rw[if_pos c1];show yS (D.lock t x).1 [];unfold Dm.lock;by_cases p:D.av.place x.a= -1
  ·rw[if_pos p];exact h
  ·rw[if_neg p];split
   ·rename_i m hob;exact h.alone ht hr p hob
   ·rename_i m hob;exact h.pD ht hr p hob
   ·exact h
 rw[if_neg c1];by_cases c2:11≤x.op∧x.op≤14
 ·rw[if_pos c2];show yS (D.read t x).1 [];unfold Dm.read;by_cases p:D.av.place x.a= -1
  ·rw[if_pos p];exact h
  ·rw[if_neg p];split
   ·rename_i m hob;exact h.rZ ht hr p hob
   ·exact h
 rw[if_neg c2];by_cases c3:15≤x.op∧x.op≤18
 ·rw[if_pos c3];show yS (D.pC t x).1 [];unfold Dm.pC;by_cases p:D.av.place x.a= -1
  ·rw[if_pos p];exact h
  ·rw[if_neg p];split
   ·rename_i m hob;exact h.sV ht hr p hob
   ·exact h
 rw[if_neg c3];by_cases c4:19≤x.op∧x.op≤20
 ·rw[if_pos c4];show yS (D.wait t x).1 [];unfold Dm.wait;by_cases p:D.av.place x.a= -1
  ·rw[if_pos p];exact h
  ·rw[if_neg p];split
   ·rename_i m hob;exact h.OM ht hr p hob
   ·rename_i ws mh hob;split
    ·rename_i mm hom;exact h.OL ht hr p hob hom
    ·exact h
   ·exact h
 rw[if_neg c4];by_cases c5:21≤x.op∧x.op≤22
 ·rw[if_pos c5];unfold Dm.qM;by_cases p:D.av.place x.a= -1
  ·rw[if_pos p];exact h
  ·rw[if_neg p];split
   ·rename_i ws mh hob;exact h.sf hob
   ·exact h
 rw[if_neg c5];by_cases c6:23≤x.op∧x.op≤24
 ·rw[if_pos c6];unfold Dm.gZ;by_cases p:D.av.place x.a= -1
  ·rw[if_pos p];exact h
  ·rw[if_neg p];split
   ·rename_i m hob;exact h.pw ht hr p hob
   ·exact h
 rw[if_neg c6];by_cases c7:x.op=25
 ·rw[if_pos c7];show yS (D.add x).1 [];unfold Dm.add;by_cases p:D.av.place x.a= -1
  ·rw[if_pos p];exact h
  ·rw[if_neg p];split
   ·rename_i m hob;exact h.Zy hob
   ·exact h
 rw[if_neg c7];exact h
end
end
end Go.Proofs.YtkmamlifgbocgaaGreat
