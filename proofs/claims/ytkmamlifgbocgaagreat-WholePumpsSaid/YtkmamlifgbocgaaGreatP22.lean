/- What the program's code does, as contracts, and what follows of it, part 22: for the law's proof. -/
import Derived.Test.YtkmamlifgbocgaaGreatP00
import Derived.Test.YtkmamlifgbocgaaGreatP21
set_option linter.unusedVariables false
set_option linter.unusedSimpArgs false
set_option maxRecDepth 100000
set_option maxHeartbeats 16000000
namespace Go.Proofs.YtkmamlifgbocgaaGreat
section
section
variable {D:Dm}
theorem yS.WH(h:yS D [])(s:SV)(vr:s.ar.Ok)(hlen:s.ar.pl.length=D.sv.ar.pl.length)(wD:∀i g,s.ar.pl[i]? =some (g,true)→s.wD.getD i 0=s.ar.hand i)(tI:s.wD.length=s.ar.pl.length)(run:∀i∈s.run,∃g,s.ar.pl[i]? =some (g,true))(rn:s.run.Nodup)(hk:∀u,D.sv.ar.place u≠ -1→D.pl u∉D.sv.run→s.ar.place u=D.sv.ar.place u∧D.pl u∉s.run)(hrs:∀j m,D.obj j=some (.rw m)→∀x∈m.rs,s.ar.place x≠ -1):yS {D with sv:=s} []:=by
 have hkw:∀i,(D.wt i).xI≠0→s.ar.place (D.wt i).xI=i∧i∉s.run:=fun i hi=>by obtain⟨q1,q2,-⟩:=h.w1 i hi;obtain⟨p1,p2⟩:=h.cQ hi;have:=hk (D.wt i).xI p2 (by rw[p1];exact q2);rw[p1]at this;exact⟨this.1.trans q1,this.2⟩
 have hk2:∀u,D.sv.ar.place u≠ -1→(D.wt (D.pl u)).xI=u→s.ar.place u=D.sv.ar.place u∧(s.ar.place u).toNat=D.pl u:=fun u hu h1=>by have:=AV.wJ hu;have h2:=h.w1 (D.pl u) (by omega);have:=(hk u hu h2.2.1).1;exact⟨this,by rw[this];rfl⟩
 exact{vr:=vr,wV:=h.wV,sl:=by show s.ar.pl.length≤8;rw[hlen];exact h.sl,al:=h.al,ol:=h.ol,wl:=h.wl,wD:=wD,tI:=tI,run:=run,rn:=rn,w1:=fun i hi=>⟨(hkw i hi).1,(hkw i hi).2,(h.w1 i hi).2.2⟩,w2:=fun j u hu=>by obtain⟨q1,q2,q3,q4⟩:=h.w2 j u hu;obtain⟨r1,r2⟩:=hk2 u q1 q2;show s.ar.place u≠ -1∧(D.wt (s.ar.place u).toNat).xI=u∧D.av.place (D.wt (s.ar.place u).toNat).obj=j∧u∉[];rw[r2,r1];exact⟨q1,q2,q3,q4⟩,nd:=h.nd,use:=h.use,cd:=h.cd,fr:=h.fr,fl:=fun _ hu=>(by cases hu),fn:=h.fn,bu:=fun p hp=>by obtain⟨q1,q2,q3⟩:=h.bu p hp;obtain⟨r1,r2⟩:=hk p.1 q1 q2;show s.ar.place p.1≠ -1∧(s.ar.place p.1).toNat∉s.run∧(D.wt (s.ar.place p.1).toNat).xI=0;rw[r1];exact⟨q1,r2,q3⟩,bd:=h.bd,bm:=h.bm.trans hlen.symm,th:=fun j m hj=>⟨(h.th j m hj).1,hrs j m hj⟩}
theorem AV.ki{v:AV}{i g:Nat}{b:Bool}(h:v.pl[i]? =some (g,b)):i<v.pl.length:=(zk.1 h).1
theorem AV.cR{v:AV}(hv:v.Ok){i g:Nat}(h:v.pl[i]? =some (g,true)):v.place (v.hand i)=i:=(AV.wU hv).2 ⟨⟨g,h⟩,rfl⟩
theorem yS.spawn(h:yS D []):yS D.spawn.1 []:=by
 unfold Dm.spawn;cases hf:D.sv.ar.fr with
 |nil=>exact h
 |cons i r=>
  show yS {D with sv:=D.sv.spawn} [];obtain⟨g,hg⟩:=h.vr.fr i (by rw[hf];simp);have hok:=AV.eM h.vr hf;have hi:i∉D.sv.run:=fun hc=>by obtain⟨g',hg'⟩:=h.run i hc;rw[hg]at hg';cases hg'
  have hpl:=AV.ft h.vr hf;have e:D.sv.spawn={ar:=D.sv.ar.take,run:=D.sv.run++[i],wD:=D.sv.wD.set i (D.sv.ar.hand i)}:=by rw[fq hf];unfold SV.ready;show(if D.sv.ar.take.place (D.sv.ar.hand i)= -1 then _ else if(D.sv.ar.take.place (D.sv.ar.hand i)).toNat∈D.sv.run then _ else _)=_;rw[hpl,if_neg (by omega),zu,if_neg hi]
  have htake:∀k gk,D.sv.ar.pl[k]? =some (gk,true)→D.sv.ar.take.pl[k]? =some (gk,true):=fun k gk hk=>by rw[AV.qy hf,hk];split<;>rfl
  rw[e];refine h.WH _ hok (AV.take_len _) (fun k gk hk=>?_) (by show(D.sv.wD.set _ _).length=_;rw[zq,AV.take_len];exact h.tI) (fun k hk=>?_) ?_ (fun u hu hnr=>?_) (fun j m hj x hx=>?_)
  ·show(D.sv.wD.set i (D.sv.ar.hand i)).getD k 0=D.sv.ar.take.hand k;rw[AV.jH hf,kG];by_cases e:i=k
   ·rw[if_pos ⟨e,by rw[h.tI];exact AV.ki hg⟩,e]
   ·rw[if_neg (fun c=>e c.1)];refine h.wD k gk ?_;replace hk:D.sv.ar.take.pl[k]? =some (gk,true):=hk;rw[AV.qy hf,if_neg e]at hk;exact hk
  ·show ∃g,D.sv.ar.take.pl[k]? =some (g,true);rcases zB.1 hk with hk|hk
   ·obtain⟨gk,hgk⟩:=h.run k hk;exact⟨gk,htake k gk hgk⟩
   ·rw[yr]at hk;subst hk;exact⟨g,by rw[AV.qy hf,if_pos rfl,hg];rfl⟩
  ·show(D.sv.run++[i]).Nodup;exact((zw _ _).nodup_iff).2 (zN.2 ⟨hi,h.rn⟩)
  ·refine⟨AV.er h.vr hf hu,fun hc=>?_⟩;rcases zB.1 hc with hc|hc
   ·exact hnr hc
   ·rw[yr]at hc;have:=AV.Yo h.vr hf;have h2:=(h.jq hu).1;rw[hc]at h2;obtain⟨⟨g',hg'⟩,-⟩:=(AV.wU h.vr).1 h2;rw[hg]at hg';cases hg'
  ·show D.sv.ar.take.place x≠ -1;have:=(h.th j m hj).2 x hx;rw[AV.er h.vr hf this];exact this
theorem yS.yield(h:yS D []){t:Int}(ht:D.sv.ar.place t≠ -1)(hr:D.pl t∈D.sv.run):yS (D.yield t) []:=by
 have e:D.sv.yield t={D.sv with run:=D.sv.run.erase (D.pl t)++[D.pl t]}:=by unfold SV.yield SV.rR;rw[if_pos (by rw[zL];exact⟨by simpa using ht,decide_eq_true (show(D.sv.ar.place t).toNat∈D.sv.run from hr)⟩),SV.dF ht];unfold SV.ready;show(if D.sv.ar.place t= -1 then _ else if D.pl t∈D.sv.run.erase (D.pl t)then _ else _)=_;rw[if_neg ht,if_neg (by rw[h.rn.mem_erase_iff];simp)];rfl
 unfold Dm.yield;rw[e];refine h.WH _ h.vr rfl h.wD h.tI (fun k hk=>?_) ?_ (fun u hu hnr=>⟨rfl,fun hc=>?_⟩) fun j m hj=>(h.th j m hj).2
 ·rcases zB.1 hk with hk|hk
  ·exact h.run k (zK hk)
  ·rw[yr]at hk;subst hk;exact h.run _ hr
 ·show(D.sv.run.erase (D.pl t)++[D.pl t]).Nodup;exact((zw _ _).nodup_iff).2 (zN.2 ⟨by rw[h.rn.mem_erase_iff];simp,h.rn.erase _⟩)
 ·rcases zB.1 hc with hc|hc
  ·exact hnr (zK hc)
  ·rw[yr]at hc;exact hnr (hc ▸ hr)
theorem yS.exit(h:yS D []){t:Int}(ht:D.sv.ar.place t≠ -1)(hr:D.pl t∈D.sv.run):yS (D.exit t).1 []:=by
 unfold Dm.exit;cases hh:D.holds t with
 |true=>exact h
 |false=>
  show yS {D with sv:=D.sv.exit t} [];have hpos:=AV.wJ ht;obtain⟨hpl,-⟩:=h.jq ht;obtain⟨⟨g,hg⟩,hhand⟩:=(AV.wU h.vr).1 hpl;have e:D.sv.exit t={D.sv with run:=D.sv.run.erase (D.pl t),ar:=D.sv.ar.wP (D.pl t)}:=by unfold SV.exit;rw[if_neg ht,SV.dF ht,AV.qq h.vr hpl];rfl
  have hother:∀u,u≠t→D.sv.ar.place u≠ -1→(D.sv.ar.wP (D.pl t)).place u=D.sv.ar.place u:=fun u hu hp=>by rw[←AV.qq h.vr hpl];exact AV.cD h.vr hu hp
  rw[e];refine h.WH _ (AV.bK h.vr hg) (AV.gR _ _) (fun k gk hk=>?_) (by show D.sv.wD.length=_;rw[AV.gR];exact h.tI) (fun k hk=>?_) (h.rn.erase _) (fun u hu hnr=>?_) (fun j m hj x hx=>?_)
  ·show D.sv.wD.getD k 0=(D.sv.ar.wP (D.pl t)).hand k;replace hk:(D.sv.ar.wP (D.pl t)).pl[k]? =some (gk,true):=hk;by_cases e:D.pl t=k
   ·subst e;rw[AV.jk _ _ hg]at hk;cases hk
   ·rw[AV.ap _ _ _ e];rw[AV.qV _ _ _ e]at hk;exact h.wD k gk hk
  ·replace hk:k∈D.sv.run.erase (D.pl t):=hk;rw[h.rn.mem_erase_iff]at hk;obtain⟨gk,hgk⟩:=h.run k hk.2;exact⟨gk,by show(D.sv.ar.wP (D.pl t)).pl[k]? =_;rw[AV.qV _ _ _ (Ne.symm hk.1)];exact hgk⟩
  ·exact⟨hother u (fun e=>hnr (e ▸ hr)) hu,fun hc=>hnr (zK hc)⟩
  ·have hx2:=(h.th j m hj).2 x hx;show(D.sv.ar.wP (D.pl t)).place x≠ -1;rw[hother x (fun e=>?_) hx2]
   ·exact hx2
   ·subst e;unfold Dm.holds at hh;rw[if_neg (by omega)]at hh;have:=List.any_eq_false.1 hh (some (.rw m)) (by
     have hj2:=hj;replace hj2:D.yX.getD j none=_:=hj2;rw[zn]at hj2;cases hq:D.yX[j]? with
     |none=>rw[hq]at hj2;cases hj2
     |some q=>rw[hq]at hj2;cases hj2;exact zo hq);apply this;show(if(m.w==x)=true then true else decide (x∈m.rs))=true;split
    ·rfl
    ·simpa using hx
theorem ao(kind arg:Int):wz (some (wT kind arg))=[]:=by
 unfold wT;repeat' split
 all_goals rfl
theorem Wj(kind arg:Int):uc (some (wT kind arg)):=by
 unfold wT;repeat' split
 all_goals first|exact trivial|(intro hc;exact absurd rfl hc)|(rintro(hc|hc)<;>exact absurd rfl hc)|exact⟨fun hc=>absurd rfl hc,by decide,by decide⟩
theorem VW(kind arg:Int)(m:Rw)(h:wT kind arg=.rw m):m=⟨0,[],[],[]⟩:=by
 unfold wT at h;repeat' split at h
 all_goals first|(cases h;rfl)|cases h
theorem VV(kind arg:Int)(ws:List Int)(mh:Int)(h:wT kind arg=.cd ws mh):kind=4∧ws=[]∧mh=arg:=by
 unfold wT at h;repeat' split at h
 all_goals first|(cases h;exact⟨by assumption,rfl,rfl⟩)|cases h
theorem yS.make(h:yS D [])(kind arg:Int):yS (D.make kind arg).1 []:=by
 unfold Dm.make;by_cases c:D.rz kind arg≠0
 ·rw[if_pos c];exact h
 ·rw[if_neg c];cases hf:D.av.fr with
  |nil=>exact h
  |cons i r=>
   show yS {D with av:=D.av.take,yX:=D.yX.set i (some (wT kind arg))} [];obtain⟨g,hg⟩:=h.wV.fr i (by rw[hf];simp);have hi8:i<8:=by have:=AV.ki hg;have:=h.al;omega
   have hok:=AV.eM h.wV hf;have hno:D.obj i=none:=by
    cases ho:D.obj i with
    |none=>rfl
    |some o=> obtain⟨g',hg'⟩:=h.fr i o ho;rw[hg]at hg';cases hg'
   have hset:∀k,(D.yX.set i (some (wT kind arg))).getD k none=if i=k then some (wT kind arg)else D.obj k:=fun k=>by
    rw[kG];by_cases e:i=k
    ·rw[if_pos e,if_pos ⟨e,by rw[h.ol];exact hi8⟩]
    ·rw[if_neg e,if_neg (fun c=>e c.1)]
   have hkeep:∀x,D.av.place x≠ -1→D.av.take.place x=D.av.place x:=fun x hx=>AV.er h.wV hf hx;have hob:∀x o,D.av.place x≠ -1→D.ob x=some o→(D.yX.set i (some (wT kind arg))).getD (D.av.take.place x).toNat none=some o:=fun x o hx ho=>by
    rw[hset,hkeep x hx];rw[if_neg]
    ·exact ho
    ·intro e;rw[Dm.xQ,show D.at_ x=i from e.symm,hno]at ho;cases ho
   exact{
    vr:=h.vr,wV:=hok,sl:=h.sl,al:=by show D.av.take.pl.length≤8;rw[AV.take_len];exact h.al,ol:=by show(D.yX.set _ _).length=8;rw[zq];exact h.ol,wl:=h.wl,wD:=h.wD,tI:=h.tI,run:=h.run,rn:=h.rn,w1:=fun k hk=>(by
     obtain⟨q1,q2,q3⟩:=h.w1 k hk;obtain⟨q4,q5,q6⟩:=q3.resolve_left (by simp);refine⟨q1,q2,.inr ⟨?_,?_⟩⟩
     ·show D.av.take.place (D.wt k).obj≠ -1;rw[hkeep _ q4];exact q4
     ·cases ho:D.ob (D.wt k).obj with
      |none=>rw[ho]at q5;cases q5
      |some o=> have:=hob _ o q4 ho;show _∈wz ((D.yX.set i (some (wT kind arg))).getD (D.av.take.place (D.wt k).obj).toNat none)∧(_→∃m,(D.yX.set i (some (wT kind arg))).getD (D.av.take.place (D.wt k).obj).toNat none=_);rw[this];rw[ho]at q5 q6;exact⟨q5,q6⟩),
    w2:=fun j u hu=>(by
     replace hu:u∈wz ((D.yX.set i (some (wT kind arg))).getD j none):=hu;rw[hset]at hu;by_cases e:i=j
     ·rw[if_pos e,ao]at hu;cases hu
     ·rw[if_neg e]at hu;obtain⟨q1,q2,q3,q4⟩:=h.w2 j u hu;refine⟨q1,q2,?_,q4⟩;show D.av.take.place (D.wt (D.pl u)).obj=j;rw[hkeep _ (by rw[q3];omega)];exact q3),
    nd:=fun j=>(by
     show(wz ((D.yX.set i (some (wT kind arg))).getD j none)).Nodup;rw[hset];split
     ·rw[ao];exact yN
     ·exact h.nd j),
    use:=fun j=>(by
     show uc ((D.yX.set i (some (wT kind arg))).getD j none);rw[hset];split
     ·exact Wj _ _
     ·exact h.use j),
    cd:=fun j ws mh hj=>(by
     replace hj:(D.yX.set i (some (wT kind arg))).getD j none=some (.cd ws mh):=hj;show D.av.take.place mh≠ -1∧∃m,(D.yX.set i (some (wT kind arg))).getD (D.av.take.place mh).toNat none=some (.mu m)∧m.h∉ws;have:D.av.place mh≠ -1∧∃m,D.ob mh=some (.mu m)∧m.h∉ws:=by
      rw[hset]at hj;by_cases e:i=j
      ·rw[if_pos e]at hj;obtain⟨e1,e2,e3⟩:=VV kind arg ws mh (Option.some.inj hj);have hce:D.qC arg=0:=by have hz:D.rz kind arg=0:=zC c;unfold Dm.rz at hz;rw[if_neg (by omega),if_neg (by omega),if_pos e1]at hz;exact hz
       unfold Dm.qC at hce;subst e2 e3;by_cases p:D.av.place mh= -1
       ·rw[if_pos p]at hce;exact absurd hce (by decide)
       ·rw[if_neg p]at hce;refine⟨p,?_⟩;split at hce
        ·rename_i m hm;exact⟨m,hm,by simp⟩
        ·exact absurd hce (by decide)
      ·rw[if_neg e]at hj;exact h.cd j ws mh hj
     obtain⟨p1,m,p2,p3⟩:=this;exact⟨by rw[hkeep _ p1];exact p1,m,hob mh _ p1 p2,p3⟩),
    fr:=fun j o hj=>(by
     replace hj:(D.yX.set i (some (wT kind arg))).getD j none=some o:=hj;rw[hset]at hj;show ∃g,D.av.take.pl[j]? =some (g,true);rw[AV.qy hf];by_cases e:i=j
     ·rw[if_pos e,←e,hg];exact⟨g,rfl⟩
     ·rw[if_neg e]at hj⊢;exact h.fr j o hj),
    fl:=fun _ hu=>(by cases hu),fn:=h.fn,bu:=h.bu,bd:=h.bd,bm:=h.bm,th:=fun j m hj=>by
     replace hj:(D.yX.set i (some (wT kind arg))).getD j none=some (.rw m):=hj;rw[hset]at hj;by_cases e:i=j
     ·rw[if_pos e]at hj;have:=VW kind arg m (Option.some.inj hj);subst this;exact⟨by simp,by simp⟩
     ·rw[if_neg e]at hj;exact h.th j m hj}
theorem yS.S1(h:yS D []){x:Int}(hb:D.busy x=false):wz (D.ob x)=[]:=by
 have hu:=h.use (D.at_ x);rw[←Dm.xQ]at hu;unfold Dm.busy at hb;have key:∀{l:List Int},¬l≠[]→l=[]:=fun hl=>zC hl;cases ho:D.ob x with
 |none=>rfl
 |some o=>
  rw[ho]at hu hb;cases o with
  |mu m=>
   replace hb:(if(m.h != 0)=true then true else D.qB x)=false:=hb;split at hb
   ·cases hb
   ·rename_i c;exact key fun hne=>hu hne (by simpa using c)
  |rw m=>
   replace hb:(if(m.w != 0)=true then true else decide (0<m.rs.length))=false:=hb;split at hb
   ·cases hb
   ·rename_i c;have hrs:m.rs=[]:=by simpa using hb
    have hw:m.w=0:=by simpa using c
    show m.ws++m.rd=[];rw[List.append_eq_nil_iff];exact⟨key fun hne=>(hu (.inl hne)).elim (fun hc=>hc hw) fun hc=>hc hrs,key fun hne=>(hu (.inr hne)).elim (fun hc=>hc hw) fun hc=>hc hrs⟩
  |sm m=>
   replace hb:(if decide (m.f<m.size)=true then true else decide (0<m.ws.length))=false:=hb;split at hb
   ·cases hb
   ·have:m.ws=[]:=by simpa using hb
    show m.ws.map Prod.fst=[];rw[this];rfl
  |cd ws mh=> replace hb:decide (0<ws.length)=false:=hb;show ws=[];simpa using hb
  |on m=> replace hb:(m.d != 0)=false:=hb;exact key fun hne=>hu hne (by simpa using hb)
  |gp m=> replace hb:(m.n != 0)=false:=hb;exact key fun hne=>hu.1 hne (by simpa using hb)
theorem AV.TF{v:AV}{i g:Nat}(h:v.pl[i]? =some (g,true)):v.hand i∈v.live:=by unfold AV.live;refine yc.2 ⟨i,List.mem_filter.2 ⟨List.mem_range.2 (AV.ki h),?_⟩,rfl⟩;rw[h];rfl
theorem yS.U6(h:yS D []){k:Nat}{ws:List Int}{mh:Int}(hk:D.obj k=some (.cd ws mh)):D.qB mh=true:=by
 obtain⟨g,hg⟩:=h.fr k _ hk;unfold Dm.qB;refine z7.2 ⟨_,AV.TF hg,?_⟩;have hp:=AV.cR h.wV hg;unfold Dm.binds;rw[if_neg (by rw[hp];omega)];have:D.ob (D.av.hand k)=some (.cd ws mh):=by rw[Dm.xQ,show D.at_ (D.av.hand k)=k by unfold Dm.at_;rw[hp];rfl];exact hk
 rw[this];show(mh==mh)=true;simp
theorem yS.free(h:yS D [])(x:Int):yS (D.free x).1 []:=by
 unfold Dm.free;by_cases p:D.av.place x= -1
 ·rw[if_pos p];exact h
 ·rw[if_neg p];cases hb:D.busy x with
  |true=>exact h
  |false=>
   show yS {D with av:=D.av.free x,yX:=D.yX.set (D.at_ x) none} [];have hws:=h.S1 hb;have hp:=h.ff p;obtain⟨⟨g,hg⟩,hhand⟩:=(AV.wU h.wV).1 hp;have hlt:D.at_ x<8:=by have:=AV.ki hg;have:=h.al;omega
   have hset:∀k,(D.yX.set (D.at_ x) none).getD k none=if D.at_ x=k then none else D.obj k:=fun k=>by
    rw[kG];by_cases e:D.at_ x=k
    ·rw[if_pos e,if_pos ⟨e,by rw[h.ol];exact hlt⟩]
    ·rw[if_neg e,if_neg (fun c=>e c.1)]
   have hkeep:∀y,D.av.place y≠ -1→D.at_ y≠D.at_ x→(D.av.free x).place y=D.av.place y:=fun y hy hne=>AV.cD h.wV (fun e=>hne (by rw[e])) hy;have hob:∀y,D.av.place y≠ -1→D.at_ y≠D.at_ x→(D.yX.set (D.at_ x) none).getD ((D.av.free x).place y).toNat none=D.ob y:=fun y hy hne=>by rw[hset,hkeep y hy hne,if_neg (fun e=>hne e.symm)];rfl
   exact{
    vr:=h.vr,wV:=AV.Xn h.wV x,sl:=h.sl,al:=by show(D.av.free x).pl.length≤8;rw[AV.gQ];exact h.al,ol:=by show(D.yX.set _ _).length=8;rw[zq];exact h.ol,wl:=h.wl,wD:=h.wD,tI:=h.tI,run:=h.run,rn:=h.rn,w1:=fun k hk=>(by
     obtain⟨q1,q2,q3⟩:=h.w1 k hk;obtain⟨q4,q5,q6⟩:=q3.resolve_left (by simp);have hne:D.at_ (D.wt k).obj≠D.at_ x:=fun e=>by rw[Dm.xQ,e,←Dm.xQ,hws]at q5;cases q5
     refine⟨q1,q2,.inr ⟨?_,?_⟩⟩
     ·show(D.av.free x).place (D.wt k).obj≠ -1;rw[hkeep _ q4 hne];exact q4
     ·show _∈wz ((D.yX.set (D.at_ x) none).getD ((D.av.free x).place (D.wt k).obj).toNat none)∧(_→∃m,(D.yX.set (D.at_ x) none).getD ((D.av.free x).place (D.wt k).obj).toNat none=_);rw[hob _ q4 hne];exact⟨q5,q6⟩),
    w2:=fun j u hu=>(by
     replace hu:u∈wz ((D.yX.set (D.at_ x) none).getD j none):=hu;rw[hset]at hu;by_cases e:D.at_ x=j
     ·rw[if_pos e]at hu;cases hu
     ·rw[if_neg e]at hu;obtain⟨q1,q2,q3,q4⟩:=h.w2 j u hu;refine⟨q1,q2,?_,q4⟩;show(D.av.free x).place (D.wt (D.pl u)).obj=j;rw[hkeep _ (by rw[q3];omega) (fun e2=>e (by unfold Dm.at_ at e2⊢;rw[q3]at e2;exact e2.symm))];exact q3),
    nd:=fun j=>(by
     show(wz ((D.yX.set (D.at_ x) none).getD j none)).Nodup;rw[hset];split
     ·exact yN
     ·exact h.nd j),
    use:=fun j=>(by
     show uc ((D.yX.set (D.at_ x) none).getD j none);rw[hset];split
     ·exact trivial
     ·exact h.use j),
    cd:=fun j ws mh hj=>(by
     replace hj:(D.yX.set (D.at_ x) none).getD j none=some (.cd ws mh):=hj;show(D.av.free x).place mh≠ -1∧∃m,(D.yX.set (D.at_ x) none).getD ((D.av.free x).place mh).toNat none=some (.mu m)∧m.h∉ws;rw[hset]at hj;by_cases e:D.at_ x=j
     ·rw[if_pos e]at hj;cases hj
     ·rw[if_neg e]at hj;obtain⟨q1,m,q2,q3⟩:=h.cd j ws mh hj;have hne:D.at_ mh≠D.at_ x:=fun e2=>by
       have e3:mh=x:=AV.pL h.wV q1 (by rw[h.ff q1,e2,hp]);subst e3;have hbd:=h.U6 hj;unfold Dm.busy at hb;rw[q2]at hb;replace hb:(if(m.h != 0)=true then true else D.qB mh)=false:=hb;split at hb
       ·cases hb
       ·rw[hbd]at hb;cases hb
      exact⟨by rw[hkeep _ q1 hne];exact q1,m,by rw[hob _ q1 hne];exact q2,q3⟩),
    fr:=fun j o hj=>(by
     replace hj:(D.yX.set (D.at_ x) none).getD j none=some o:=hj;rw[hset]at hj;by_cases e:D.at_ x=j
     ·rw[if_pos e]at hj;cases hj
     ·rw[if_neg e]at hj;show ∃g,(D.av.free x).pl[j]? =some (g,true);rw[AV.qq h.wV hp,AV.qV _ _ _ e];exact h.fr j o hj),
    fl:=fun _ hu=>(by cases hu),fn:=h.fn,bu:=h.bu,bd:=h.bd,bm:=h.bm,th:=fun j m hj=>by
     replace hj:(D.yX.set (D.at_ x) none).getD j none=some (.rw m):=hj;rw[hset]at hj;by_cases e:D.at_ x=j
     ·rw[if_pos e]at hj;cases hj
     ·rw[if_neg e]at hj;exact h.th j m hj}
end
end
section
section
variable {D:Dm}
theorem Rw.gS(m:Rw):(m.hand).2.length≤(m.ws++m.rd).length∧∀y∈(m.hand).2,y∈m.ws++m.rd:=by have hp:=m.jl;refine⟨?_,fun y hy=>hp.mem_iff.2 (yi _ hy)⟩;have:=hp.length_eq;simp only[zr]at this⊢;omega
theorem yS.pe(h:yS D []){j:Nat}{l:List Int}(hl:l.length≤(wz (D.obj j)).length)(hs:∀y∈l,y∈wz (D.obj j)):l.length≤100∧∀y∈l,D.Live y:=⟨by have:=h.pT j;omega,fun y hy=>h.aa (hs y hy)⟩
theorem yS.bU(h:yS D []){x:Int}{m:Mu}(hob:D.ob x=some (.mu m))(t:Int):m.ws.length≤8∧(m.wF t≠0→D.Live (m.wF t)):=by
 have hl:=h.pT (D.at_ x);rw[←Dm.xQ,hob]at hl;refine⟨hl,fun hne=>?_⟩;unfold Mu.wF at hne⊢;split at hne
 ·rename_i c;rw[if_pos c];refine h.aa (j:=D.at_ x) ?_;rw[←Dm.xQ,hob];show m.ws.headD 0∈m.ws;cases hw:m.ws with
  |nil=>rw[hw]at hne;exact absurd rfl hne
  |cons a l=>simp
 ·exact absurd rfl hne
theorem yS.Qa(h:yS D []){x:Int}{m:Rw}(hob:D.ob x=some (.rw m)):m.rs.length≤8∧m.ws.length+m.rd.length≤8:=by have hl:=h.pT (D.at_ x);rw[←Dm.xQ,hob]at hl;obtain⟨q1,q2⟩:=h.th _ m hob;have:=AV.many h.vr q2 (yd.1 q1).1;have:=h.sl;replace hl:(m.ws++m.rd).length≤8:=hl;rw[zr]at hl;omega
theorem Sm.sub(m:Sm){l:List Int}{l':List Int}(hp:(m.ws.map Prod.fst).Perm (l'++l)):l.length≤(m.ws.map Prod.fst).length∧∀y∈l,y∈m.ws.map Prod.fst:=by refine⟨?_,fun y hy=>hp.mem_iff.2 (yi _ hy)⟩;have:=hp.length_eq;rw[zr]at this;omega
theorem yS.PY(h:yS D []){t:Int}(ht:D.sv.ar.place t≠ -1)(x:En)(hc:0≤D.clock∧D.clock≤4611686018427387904)(ha:x.a≤9223372036854775807):D.tT t x where
 live:=h.live ht
 clock:=hc
 xa:=ha
 mu:=fun m hob=>by
  obtain⟨q1,q2⟩:=h.bU hob t
  exact⟨by omega,q2⟩
 rw:=fun m hob=>by
  obtain⟨q1,q2⟩:=h.Qa hob
  have hsub:∀{l:List Int},l.length≤(m.ws++m.rd).length→(∀y∈l,y∈m.ws++m.rd)→l.length≤100∧∀y∈l,D.Live y:=fun h1 h2=>h.pe (j:=D.at_ x.a) (by rw[←Dm.xQ,hob];exact h1) (by rw[←Dm.xQ,hob];exact h2)
  refine⟨by omega,?_,?_⟩
  ·unfold Rw.unlock
   split
   ·have:=Rw.gS {m with w:=0}
    exact hsub this.1 this.2
   ·exact⟨by simp,by simp⟩
  ·unfold Rw.vI
   split
   ·have:=Rw.gS {m with rs:=m.rs.erase t}
    exact hsub this.1 this.2
   ·exact⟨by simp,by simp⟩
 sm:=fun m hob=>by
  have hl:=h.pT (D.at_ x.a)
  rw[←Dm.xQ,hob]at hl
  replace hl:(m.ws.map Prod.fst).length≤8:=hl
  obtain⟨q1,q2⟩:=m.sub (m.Yd x.b)
  rw[zA]at hl
  exact⟨by omega,h.pe (j:=D.at_ x.a) (by rw[←Dm.xQ,hob];exact q1) (by rw[←Dm.xQ,hob];exact q2)⟩
 cd:=fun ws mh hob=>by
  obtain⟨q1,q2,m,q3,q4⟩:=h.Zj hob
  have hl:=h.pT (D.at_ x.a)
  rw[←Dm.xQ,hob]at hl
  replace hl:ws.length≤8:=hl
  obtain⟨q5,q6⟩:=h.bU q3 t
  exact⟨h.has q1,q2,by omega,⟨m,q3,by omega,q6⟩,fun y hy=>h.aa (j:=D.at_ x.a) (by rw[←Dm.xQ,hob];exact hy)⟩
 on:=fun m hob=>by
  have hl:=h.pT (D.at_ x.a)
  rw[←Dm.xQ,hob]at hl
  replace hl:m.ws.length≤8:=hl
  have:=h.pe (j:=D.at_ x.a) (l:=m.ws) (by rw[←Dm.xQ,hob];exact zm _) (by rw[←Dm.xQ,hob];exact fun _ hy=>hy)
  refine⟨by omega,?_⟩
  unfold On.su
  split
  ·exact this
  ·exact⟨by simp,by simp⟩
 gp:=fun m hob=>by
  have hl:=h.pT (D.at_ x.a)
  rw[←Dm.xQ,hob]at hl
  replace hl:m.ws.length≤8:=hl
  obtain⟨q1,q2,q3⟩:=h.Wk hob
  have:=h.pe (j:=D.at_ x.a) (l:=m.ws) (by rw[←Dm.xQ,hob];exact zm _) (by rw[←Dm.xQ,hob];exact fun _ hy=>hy)
  refine⟨by omega,q2,q3,?_⟩
  unfold Gp.tv
  split
  ·split
   ·exact⟨by simp,by simp⟩
   ·exact this
  ·exact⟨by simp,by simp⟩
theorem yS.VK(h:yS D []){t:Int}(ht:D.sv.ar.place t≠ -1)(h0:(D.wt (D.pl t)).xI=t):D.ri t:=by
 have hpos:=AV.wJ ht;obtain⟨-,-,hw⟩:=h.w1 (D.pl t) (by omega);obtain⟨hpl,hin,-⟩:=hw.resolve_left (by simp);refine⟨h.live ht,h.has hpl,?_⟩;cases hob:D.ob (D.for_ t)with
 |none=>trivial
 |some o=>
  cases o with
  |mu m=>trivial
  |on m=>trivial
  |gp m=>trivial
  |rw m=>
   show(m.drop t).2.length≤100∧∀x∈(m.drop t).2,D.Live x;have hsub:∀{l:List Int},l.length≤(m.ws++m.rd).length→(∀y∈l,y∈m.ws++m.rd)→l.length≤100∧∀y∈l,D.Live y:=fun h1 h2=>h.pe (j:=D.at_ (D.for_ t)) (by rw[←Dm.xQ,hob];exact h1) (by rw[←Dm.xQ,hob];exact h2);unfold Rw.drop;split
   ·have:=Rw.gS {m with ws:=m.ws.erase t};refine hsub (yn this.1 ?_) fun y hy=>?_
    ·show(m.ws.erase t++m.rd).length≤_;have:=yl (a:=t) (l:=m.ws);simp only[zr];omega
    ·rcases zB.1 (this.2 y hy)with hc|hc
     ·exact ym _ (zK hc)
     ·exact yi _ hc
   ·split
    ·have:=Rw.gS {m with rd:=m.rd.erase t};refine hsub (yn this.1 ?_) fun y hy=>?_
     ·show(m.ws++m.rd.erase t).length≤_;have:=yl (a:=t) (l:=m.rd);simp only[zr];omega
     ·rcases zB.1 (this.2 y hy)with hc|hc
      ·exact ym _ hc
      ·exact yi _ (zK hc)
    ·exact⟨by simp,by simp⟩
  |sm m=>
   show(m.drop t).2.length≤100∧∀x∈(m.drop t).2,D.Live x;have hl:=h.pT (D.at_ (D.for_ t));rw[←Dm.xQ,hob]at hl;unfold Sm.drop;split
   ·exact⟨by simp,by simp⟩
   ·obtain⟨q1,q2⟩:=Sm.sub {m with ws:=m.ws.eraseIdx (m.at_ t).toNat} (Sm.cY {m with ws:=m.ws.eraseIdx (m.at_ t).toNat});have hmem:∀y,y∈(m.ws.eraseIdx (m.at_ t).toNat).map Prod.fst→y∈m.ws.map Prod.fst:=fun y hy=>by obtain⟨p,hp,hpe⟩:=yc.1 hy;exact yc.2 ⟨p,List.mem_of_mem_eraseIdx hp,hpe⟩
    refine h.pe (j:=D.at_ (D.for_ t)) ?_ fun y hy=>?_
    ·rw[←Dm.xQ,hob];refine yn q1 ?_;show((m.ws.eraseIdx (m.at_ t).toNat).map Prod.fst).length≤(m.ws.map Prod.fst).length;have:=List.length_eraseIdx_le m.ws (m.at_ t).toNat;simp only[zA];omega
    ·rw[←Dm.xQ,hob];exact hmem y (q2 y hy)
  |cd ws mh=> obtain⟨q1,q2,m,q3,q4⟩:=h.Zj hob;obtain⟨q5,-⟩:=h.bU q3 t;exact⟨h.has q1,q2,m,q3,by omega⟩
theorem yS.QI(h:yS D []){t:Int}(ht:D.sv.ar.place t≠ -1)(h0:(D.wt (D.pl t)).xI≠0):(D.wt (D.pl t)).xI=t:=by have h1:=(h.w1 _ h0).1;exact AV.pL h.vr (by rw[h1];omega) (h1.trans (h.jq ht).1.symm)
theorem yS.pp(h:yS D []){t:Int}(hc:D.sN t=0):D.sv.ar.place t≠ -1∧(D.wt (D.pl t)).xI=t:=by
 unfold Dm.sN at hc;split at hc
 ·exact absurd hc (by decide)
 ·rename_i ht;split at hc
  ·exact absurd hc (by decide)
  ·rename_i h0;exact⟨ht,h.QI ht (by simpa using h0)⟩
theorem yS.Sq(h:yS D []){t:Int}(ht:D.sv.ar.place t≠ -1)(x:En)(hc:0≤D.clock∧D.clock≤4611686018427387904)(ha:x.a≤9223372036854775807)(hb:x.b≤9223372036854775807):D.Zg t x where
 t1:=(h.live ht).1
 a1:=ha
 b1:=hb
 can:=fun _ hc=>h.VK (h.pp hc).1 (h.pp hc).2
 use:=h.PY ht x hc ha
theorem yS.act(h:yS D []){t:Int}(ht:D.sv.ar.place t≠ -1)(hr:D.pl t∈D.sv.run)(x:En):yS (D.act t x).1 []:=by
 unfold Dm.act;by_cases c1:x.op=1
 ·rw[if_pos c1];exact h.spawn
 rw[if_neg c1];by_cases c2:x.op=2
 ·rw[if_pos c2];exact h.exit ht hr
 rw[if_neg c2];by_cases c3:x.op=3
 ·rw[if_pos c3];exact h.yield ht hr
 rw[if_neg c3];by_cases c4:x.op=4
 ·rw[if_pos c4];exact h
 rw[if_neg c4];by_cases c5:x.op=5
 ·rw[if_pos c5];exact h.make _ _
 rw[if_neg c5];by_cases c6:x.op=6
 ·rw[if_pos c6];exact h.free _
 rw[if_neg c6];by_cases c7:x.op=26
 ·rw[if_pos c7];show yS (D.cancel x.a).1 [];unfold Dm.cancel;by_cases c:D.sN x.a=0
  ·rw[if_pos c];exact h.drop (h.pp c).1 (h.pp c).2 16
  ·rw[if_neg c];exact h
 rw[if_neg c7];exact h.OK x ht hr
theorem yS.yZ(h:yS D []){t:Int}(ht:t∈D.sv.list):D.sv.ar.place t≠ -1∧D.pl t∈D.sv.run:=by unfold SV.list at ht;obtain⟨i,hi,rfl⟩:=yc.1 ht;obtain⟨g,hg⟩:=h.run i hi;have e:=h.wD i g hg;have hp:=AV.cR h.vr hg;rw[e];refine⟨by rw[hp];omega,?_⟩;unfold Dm.pl;rw[hp];exact hi
end
end
section
open Go.RowKit Go.WideShapes
theorem Tryz.V0:(Tryz.prog.info? 41).map (fun i=>(i.zero,i.size,i.bytes))=some (some (.agg #[.i 0,.i 0,.i 0,.i 0,.i 0,.i 0]),6,48):=by kernel_rfl
theorem tA{w0 W:World}{γ:U}(o:Own w0 W γ){T gb:Nat}{c0 c1 c2 c3 c4 c5:Value}(q:γ T=some (gb,.cells #[c0,c1,c2,c3,c4,c5] 41 (0,0)))(a0 a1 a2 a3 a4 a5:Value):∃γ',Own w0 ((((((W.setCell (zc gb 0) a0).setCell (zc gb 1) a1).setCell (zc gb 2) a2).setCell (zc gb 3) a3).setCell (zc gb 4) a4).setCell (zc gb 5) a5) γ'∧γ' T=some (gb,.cells #[a0,a1,a2,a3,a4,a5] 41 (0,0))∧∀k,k≠T→γ' k=γ k:=by have o0:=o.set q 0 a0;have o1:=o0.set (yQ _ _ _ _) 1 a1;have o2:=o1.set (yQ _ _ _ _) 2 a2;have o3:=o2.set (yQ _ _ _ _) 3 a3;have o4:=o3.set (yQ _ _ _ _) 4 a4;have o5:=o4.set (yQ _ _ _ _) 5 a5;exact⟨_,o5,yQ _ _ _ _,fun k hk=>(yO _ _ _ hk).trans ((yO _ _ _ hk).trans ((yO _ _ _ hk).trans ((yO _ _ _ hk).trans ((yO _ _ _ hk).trans (yO _ _ _ hk)))))⟩
def xN.at_(o:xN)(c:Int):xN:={o with clock:=c}
def Dm.note(D:Dm)(o:xN):Dm:={D with seen:=D.seen++[o.at_ D.clock]}
section
variable {w0 w:World} {γ:U} {B g:Nat} {p:vG} {D:Dm}
theorem yT.gu{γ':U}(h:yT γ B g p D){v:Value}{l:List xN}(hb:γ' B=some (g,.cells (({p with vs:=v}:vG).cells D.clock) 121 (0,0)))(hs:yR γ' (B+3) 41 6 v l.length (yW xN.yV l))(hk:∀k,k≠B→k≠B+3→xi B k→γ' k=γ k):yT γ' B g {p with vs:=v} {D with seen:=l}where
 xw:=hb
 xD:=h.xD.keep fun k q1 q2=>hk k (by omega) (by omega) (by unfold xi;omega)
 places:=h.places.keep fun k q1 q2=>hk k (by omega) (by omega) (by unfold xi;omega)
 yX:=h.yX.keep (hk _ (by omega) (by omega) (by unfold xi;omega))
 ol:=h.ol
 each:=fun i hi=>(h.each i hi).keep fun k q1 q2=>hk k (by omega) (by omega) (by unfold xi;omega)
 timers:=h.timers.keep fun k q1 q2=>hk k (by omega) (by omega) (by unfold xi;omega)
 w8:=h.w8
 out:=h.out.keep (hk _ (by omega) (by omega) (by unfold xi;omega))
 log:=h.log.keep fun k q1 q2=>hk k (by omega) (by omega) (by unfold xi;omega)
 waits:=h.waits.keep (hk _ (by omega) (by omega) (by unfold xi;omega))
 wl:=h.wl
 seen:=hs
 sl:=h.sl
 al:=h.al
theorem yT.PP{γ':U}(h:yT γ B g p D)(hl:kw γ' (B+48) p.gl)(hk:∀k,(k<B+48∨B+50≤k)→xi B k→γ' k=γ k):yT γ' B g p D where
 xw:=by rw[hk _ (by omega) (by unfold xi;omega)];exact h.xw
 xD:=h.xD.keep fun k q1 q2=>hk k (by omega) (by unfold xi;omega)
 places:=h.places.keep fun k q1 q2=>hk k (by omega) (by unfold xi;omega)
 yX:=h.yX.keep (hk _ (by omega) (by unfold xi;omega))
 ol:=h.ol
 each:=fun i hi=>(h.each i hi).keep fun k q1 q2=>hk k (by omega) (by unfold xi;omega)
 timers:=h.timers.keep fun k q1 q2=>hk k (by omega) (by unfold xi;omega)
 w8:=h.w8
 out:=h.out.keep (hk _ (by omega) (by unfold xi;omega))
 log:=hl
 waits:=h.waits.keep (hk _ (by omega) (by unfold xi;omega))
 wl:=h.wl
 seen:=h.seen.keep (hk _ (by omega) (by unfold xi;omega))
 sl:=h.sl
 al:=h.al
theorem ZJ(h:yT γ B g p D)(ho:Own w0 w γ)(o:xN)(x:En)(hn:D.seen.length≤1000000):Calls Tryz.prog 86 #[.p g,.agg o.xq,x.val] w (uo 10 w0 γ B g (D.note o) (.agg (o.at_ D.clock).xq)):=by
 obtain⟨o1,o2,o3,o4,o5,o6⟩:=o;obtain⟨x1,x2,x3,x4,x5,x6,x7⟩:=x;have c8:(((w.alloc (.cells #[.i o1,.i o2,.i o3,.i o4,.i o5,.i o6] 41)).alloc (.cells #[.i x1,.i x2,.i x3,.i x4,.i x5,.i x6,.i x7] 38)).alloc (.cells #[.i 0,.i 0,.i 0,.i 0,.i 0,.i 0] 41)).cell? (zc g 8)=some (.i D.clock):=xU (xU (xU (ho.cell h.xw rfl) _) _) _;obtain⟨γ2,oD,b5,b6,b7,k1⟩:=rp ho (B+60) (B+61) (B+62) (by omega) (by omega) (by omega) #[.i o1,.i D.clock,.i o3,.i o4,.i o5,.i o6] #[.i x1,.i x2,.i x3,.i x4,.i x5,.i x6,.i x7] #[.i 0,.i 0,.i 0,.i 0,.i 0,.i 0] 41 38 41;have h2:yT γ2 B g p D:=h.wK fun k hk=>k1 k (by unfold xi at hk;omega) (by unfold xi at hk;omega) (by unfold xi at hk;omega);have hsf:=h2.seen.form;obtain⟨A0,c0,hv0,hc0⟩:=hsf;have HE:Hid (∀W,Own w0 W γ2→W.cell? (zc g 7)=some (.slice A0 D.seen.length c0)∧W.cell? (zc w.heap.size 0)=some (.i o1)∧W.cell? (zc w.heap.size 1)=some (.i D.clock)∧W.cell? (zc w.heap.size 2)=some (.i o3)∧W.cell? (zc w.heap.size 3)=some (.i o4)∧W.cell? (zc w.heap.size 4)=some (.i o5)∧W.cell? (zc w.heap.size 5)=some (.i o6)):=I fun W hW=>⟨by rw[←hv0];exact hW.cell h2.xw rfl,hW.cell b5 rfl,hW.cell b5 rfl,hW.cell b5 rfl,hW.cell b5 rfl,hW.cell b5 rfl,hW.cell b5 rfl⟩;have HO:=I oD;have H2:=I h2;have HV:=I hv0;have B5:=I b5;have B6:=I b6;have B7:=I b7;have K:=I k1;clear h ho oD b5 b6 b7 k1 h2 hv0;show Calls _ _ #[_,.agg #[.i o1,.i o2,.i o3,.i o4,.i o5,.i o6],.agg #[.i x1,.i x2,.i x3,.i x4,.i x5,.i x6,.i x7]] _ _;go_in;go_wp2_with fail;generalize hWg:((w.alloc (.cells #[.i o1,.i D.clock,.i o3,.i o4,.i o5,.i o6] 41)).alloc (.cells #[.i x1,.i x2,.i x3,.i x4,.i x5,.i x6,.i x7] 38)).alloc (.cells #[.i 0,.i 0,.i 0,.i 0,.i 0,.i 0] 41)=W2 at*;have HD:=I HO.out.drew;clear c8 hWg;refine yP.region [1,2,3,4,5] (.step 0 (.step 6 (.step 7 (.step 8 (.step 9 (.step 10 .done)))))) (fun w'=>Own w0 w' γ2) (by kernel_rfl) (by kernel_rfl) (fun _ _ _ _ _ h=>h) HD.out ?_;repeat
  refine Perm.xm rfl ?_ (fun w' hS=>?_) ?_;rotate_left
  ·(obtain⟨q1,q2,q3,q4,q5,q6,q7⟩:=HE.out _ hS;clear hS;go_simp;try with_reducible rfl)
  simp only[pt]
 refine Perm.xt ?_;refine yP.xA rfl (by rfl) ?_ (fun w'=>?_) ?_;rotate_left
 ·(go_simp;try with_reducible rfl)
 simp only[pt];refine yP.yY rfl (by rfl) ?_;refine yP.xy rfl (.value (.slice (zb W2.heap.size) 1 1)) _ (.inl rfl) (w':=W2.drew.alloc (.cells #[.i o1,.i D.clock,.i o3,.i o4,.i o5,.i o6] 41)) (by go_simp;try with_reducible rfl) (fun _ hS=>hS.xh ((Below.refl _ _).alloc (zm _) _)) ?_;simp only[pt];have o8:=HD.out.new (B+63) (.cells #[.i o1,.i D.clock,.i o3,.i o4,.i o5,.i o6] 41);have O8:=I (HD.out.xh ((Below.refl _ _).alloc (zm _) (.cells #[.i o1,.i D.clock,.i o3,.i o4,.i o5,.i o6] 41)));have HR:Hid (Reads (W2.drew.alloc (.cells #[.i o1,.i D.clock,.i o3,.i o4,.i o5,.i o6] 41)) 6 (.slice (zb W2.heap.size) 1 1) 1 (yW xN.yV [⟨o1,D.clock,o3,o4,o5,o6⟩])):=I (.inr ⟨_,1,rfl,rfl,fun j u hj=>by
  rw[Go.WideShapes.add_plain,zy];refine o8.cell (yQ _ _ _ _) ?_;have e:yW xN.yV [⟨o1,D.clock,o3,o4,o5,o6⟩]=xN.yV ⟨o1,D.clock,o3,o4,o5,o6⟩:=by rw[vC,qp,zP]
  rw[e]at hj;simpa[xN.yV]using hj,si xN.one _⟩);have HS:Hid (yR γ2 (B+3) 41 6 (.slice A0 D.seen.length c0) D.seen.length (yW xN.yV D.seen)):=I (by rw[←HV.out];exact H2.out.seen);clear o8;refine yP.yY rfl (by rfl) ?_;refine yP.pF rfl fun K' hK=>tN (.tmp 16) (.tmp 18) 82 rfl 41 _ 6 48 Tryz.underlying82 Tryz.V0 rfl (by decide) O8.out HS.out rfl HR.out rfl (by unfold maxLen;omega) (by omega) fun A9 c9 w9 γ9 hA9 o9 s9 k9=>hK _ _ (Perm.xx (by kernel_rfl)) ?_;simp only[pt];rw[←v8]at s9;have h9:=(k9 B (by omega)).trans H2.out.xw;have hfz:=o9.free h9 7;have hcl:=o9.cell h9 (i:=7) (v:=p.vs) rfl;have o10:=o9.set h9 7 (.slice A9 (D.seen.length+1) c9);have h10:yT (put γ9 B g (.cells ((p.cells D.clock).setIfInBounds 7 (.slice A9 (D.seen.length+1) c9)) 121)) B g {p with vs:=.slice A9 (D.seen.length+1) c9} (D.note ⟨o1,o2,o3,o4,o5,o6⟩):=by refine H2.out.gu (yQ _ _ _ _) ?_ fun k q1 q2 _=>(yO _ _ _ q1).trans (k9 k q2);rw[zr];exact s9.keep (yO _ _ _ (by omega))
 have k10:∀k,k≠B→k≠B+3→put γ9 B g (.cells ((p.cells D.clock).setIfInBounds 7 (.slice A9 (D.seen.length+1) c9)) 121) k=γ2 k:=fun k q1 q2=>(yO _ _ _ q1).trans (k9 k q2);generalize put γ9 B g (.cells ((p.cells D.clock).setIfInBounds 7 (.slice A9 (D.seen.length+1) c9)) 121)=γ10 at*;have q5:=(k10 (B+60) (by omega) (by omega)).trans B5.out;have q6:=(k10 (B+61) (by omega) (by omega)).trans B6.out;have q7:=I ((k10 (B+62) (by omega) (by omega)).trans B7.out);have HE2:Hid (∀W,Own w0 W γ10→(W.cell? (zc g 5)=some (.p p.gl)∧W.cell? (zc w.heap.size 0)=some (.i o1)∧W.cell? (zc w.heap.size 1)=some (.i D.clock)∧W.cell? (zc w.heap.size 2)=some (.i o3)∧W.cell? (zc w.heap.size 3)=some (.i o4)∧W.cell? (zc w.heap.size 4)=some (.i o5)∧W.cell? (zc w.heap.size 5)=some (.i o6))∧W.cell? (zc (w.heap.size+1) 4)=some (.i x5)∧W.cell? (zc (w.heap.size+1) 5)=some (.i x6)∧W.cell? (zc (w.heap.size+1) 6)=some (.i x7)):=I fun W hW=>⟨⟨hW.cell h10.xw rfl,hW.cell q5 rfl,hW.cell q5 rfl,hW.cell q5 rfl,hW.cell q5 rfl,hW.cell q5 rfl,hW.cell q5 rfl⟩,hW.cell q6 rfl,hW.cell q6 rfl,hW.cell q6 rfl⟩;have Q5:=I q5;have H10:=I h10;have O10:=I o10;have K10:Hid (∀k,yU 10 B k→k≠B+60→k≠B+61→k≠B+62→γ10 k=γ k):=I fun k q q1 q2 q3=>(k10 k (by unfold yU at q;omega) (by unfold yU at q;omega)).trans (K.out k q1 q2 q3);clear O8 HR HE HD HS HV H2 B5 B6 B7 K s9 k9 h9 o9 o10 h10 k10 q5 q6 hA9 HO;repeat
  refine yP.xA rfl (by rfl) ?_ (fun w'=>?_) ?_;rotate_left
  ·(go_simp;try with_reducible rfl)
  simp only[pt]
 refine yP.yY rfl (by rfl) ?_;refine yP.xy rfl .skip undef (.inr ⟨rfl,rfl⟩) (w':=w9.setCell (zc g 7) (.slice A9 (D.seen.length+1) c9)) (by go_simp;try with_reducible rfl) (Perm.xx (by kernel_rfl)) ?_;simp only[pt];refine yP.xC ?_;generalize w9.setCell (zc g 7) (.slice A9 (D.seen.length+1) c9)=w10 at*;clear hfz hcl;have HD10:=I O10.out.drew;go_wp2_with fail;refine yP.region [0,1,2,3,4,5,6,7,8,9,10] (.step 11 .done) (fun w'=>Own w0 w' γ10) (by kernel_rfl) (by kernel_rfl) (fun _ _ _ _ _ h=>h) HD10.out ?_;repeat
  refine Perm.xm rfl ?_ (fun w' hS=>?_) ?_;rotate_left
  ·(obtain⟨⟨q0,q1,q2,q3,q4,q5,q6⟩,r1,r2,r3⟩:=HE2.out _ hS;clear hS;go_simp;try with_reducible rfl)
  simp only[pt]
 refine Perm.xt ?_;refine yP.yY rfl (by rfl) ?_;have hadd:=Ot H10.out.log HD10.out ⟨o1,D.clock,o3,o4,o5,o6⟩ x5 x6 x7 (B+63) (B+64) (by omega) (by omega) (by omega);have HA:=I hadd;clear hadd;refine yP.xJ rfl 123 _ _ rfl (by kernel_rfl) _ rfl (HA.out.mono ?_);rintro e w11 ⟨⟨v,rfl⟩,γ11,o11,l11,k11⟩;refine⟨_,rfl,Perm.xx (by kernel_rfl),?_⟩;simp only[pt];refine yP.xC ?_;have h11:yT γ11 B g {p with vs:=.slice A9 (D.seen.length+1) c9} (D.note ⟨o1,o2,o3,o4,o5,o6⟩):=H10.out.PP l11 fun k q1 q2=>k11 k q1 (by unfold xi at q2;omega) (by unfold xi at q2;omega);have q5:=(k11 (B+60) (by omega) (by omega) (by omega)).trans Q5.out;have q7':=(k11 (B+62) (by omega) (by omega) (by omega)).trans q7.out;obtain⟨γ12,o12,b12,k12⟩:=tA o11 q7' (.i o1) (.i D.clock) (.i o3) (.i o4) (.i o5) (.i o6);have HZ:Hid (Own w0 _ γ12∧γ12 (B+62)=_∧uQ γ12 B g (D.note ⟨o1,o2,o3,o4,o5,o6⟩)∧∀k,yU 10 B k→γ12 k=γ k):=I ⟨o12,b12,⟨_,h11.wK fun k hk=>k12 k (by unfold xi at hk;omega)⟩,fun k hk=>(k12 k (by unfold yU at hk;omega)).trans ((k11 k (by unfold yU at hk;omega) (by unfold yU at hk;omega) (by unfold yU at hk;omega)).trans (K10.out k (by unfold yU at hk⊢;omega) (by unfold yU at hk;omega) (by unfold yU at hk;omega) (by unfold yU at hk;omega)))⟩;have e0:=o11.cell q5 (i:=0) (v:=.i o1) rfl;have e1:=o11.cell q5 (i:=1) (v:=.i D.clock) rfl;have e2:=o11.cell q5 (i:=2) (v:=.i o3) rfl;have e3:=o11.cell q5 (i:=3) (v:=.i o4) rfl;have e4:=o11.cell q5 (i:=4) (v:=.i o5) rfl;have e5:=o11.cell q5 (i:=5) (v:=.i o6) rfl;have z0:=o11.cell q7' (i:=0) (v:=.i 0) rfl;have z1:=o11.cell q7' (i:=1) (v:=.i 0) rfl;have z2:=o11.cell q7' (i:=2) (v:=.i 0) rfl;have z3:=o11.cell q7' (i:=3) (v:=.i 0) rfl;have z4:=o11.cell q7' (i:=4) (v:=.i 0) rfl;have z5:=o11.cell q7' (i:=5) (v:=.i 0) rfl;have f0:=o11.free q7' 0;have f1:=o11.free q7' 1;have f2:=o11.free q7' 2;have f3:=o11.free q7' 3;have f4:=o11.free q7' 4;have f5:=o11.free q7' 5;clear o11 h11 l11 k11 q5 q7' HA o12 b12 k12 HE2 HD10 O10 K10 H10 Q5 q7;go_wp2_with fail;obtain⟨o13,b13,h13,k13⟩:=HZ.out;exact bodyPost_ret (results_cell_row rfl _ _ (w.heap.size+1+1) 41 _ (0,0) _ rfl (o13.own _ _ _ b13).2 Tryz.underlying41 rfl (by kernel_rfl)) rfl ⟨rfl,γ12,o13,h13,k13⟩
end
end
section
def Dm.sK(D:Dm)(i:Nat):Dm:=if(D.wt i).xI≠0 then D.drop (D.wt i).xI 15 else D
def Dm.uB(D:Dm)(l:List Nat):Dm:=l.foldl Dm.sK D
def Dm.pN(D:Dm)(t:Int):Dm:={D with sv:=D.sv.ready t}
def Dm.vY(D:Dm)(x:Int×Int):Dm:=if x.1≠0 then(D.pN x.1).note ⟨x.1,0,0,x.2,0,0⟩else D
def Dm.ue(D:Dm)(l:List (Int×Int)):Dm:=l.foldl Dm.vY D
def Dm.pZ(D:Dm)(now:Int):Dm:={D with clock:=now,wh:=D.wh.due now}
def Dm.begun(D:Dm)(now:Int):Dm:=(D.pZ now).uB (D.wh.sW now)
def Dm.empty(D:Dm):Dm:={D with bu:=⟨[],D.bu.xE⟩}
def Dm.begin(D:Dm)(now:Int):Dm:=(D.begun now).empty.ue (D.begun now).bu.out
section
variable {D:Dm}
theorem yS.sK(h:yS D [])(i:Nat):yS (D.sK i) []:=by
 unfold Dm.sK;by_cases e:(D.wt i).xI≠0
 ·rw[if_pos e];obtain⟨p1,p2⟩:=h.cQ e;exact h.drop p2 (by rw[p1]) 15
 ·rw[if_neg e];exact h
theorem yS.uB:∀(l:List Nat) {D:Dm},yS D []→yS (D.uB l) []
 |[],_,h=>h
 |i::l,_,h=>yS.uB l (h.sK i)
theorem yS.pZ(h:yS D [])(now:Int):yS (D.pZ now) []:=by unfold Dm.pZ;generalize D.wh.due now=W;exact⟨h.vr,h.wV,h.sl,h.al,h.ol,h.wl,h.wD,h.tI,h.run,h.rn,h.w1,h.w2,h.nd,h.use,h.cd,h.fr,h.fl,h.fn,h.bu,h.bd,h.bm,h.th⟩
theorem yS.begun(h:yS D [])(now:Int):yS (D.begun now) []:=yS.uB _ (h.pZ now)
theorem yS.empty(h:yS D []):yS D.empty []:=⟨h.vr,h.wV,h.sl,h.al,h.ol,h.wl,h.wD,h.tI,h.run,h.rn,h.w1,h.w2,h.nd,h.use,h.cd,h.fr,h.fl,h.fn,(fun _ hp=>nomatch hp),yN,h.bm,h.th⟩
theorem SV.TS{s:SV}{t:Int}(h:s.ar.place t≠ -1):s.ready t=if(s.ar.place t).toNat∈s.run then s else{s with run:=s.run++[(s.ar.place t).toNat]}:=if_neg h
theorem yS.pN(h:yS D []){t:Int}(ht:D.sv.ar.place t≠ -1)(h0:(D.wt (D.pl t)).xI=0)(hb:D.bu.l=[]):yS (D.pN t) []:=by
 unfold Dm.pN;rw[SV.TS ht];split
 ·exact h
 ·rename_i hnr;obtain⟨hpl,-⟩:=h.jq ht;obtain⟨⟨g,hg⟩,-⟩:=(AV.wU h.vr).1 hpl;have hw:∀i,(D.wt i).xI≠0→i∉D.sv.run++[(D.sv.ar.place t).toNat]:=fun i hi hc=>by
   rcases zB.1 hc with hc|hc
   ·exact(h.w1 i hi).2.1 hc
   ·rw[yr]at hc;rw[hc]at hi;exact hi h0
  exact{
   vr:=h.vr,wV:=h.wV,sl:=h.sl,al:=h.al,ol:=h.ol,wl:=h.wl,wD:=h.wD,tI:=h.tI,run:=fun i hi=>(by
    rcases zB.1 hi with hi|hi
    ·exact h.run i hi
    ·rw[yr]at hi;subst hi;exact⟨g,hg⟩),
   rn:=((zw _ _).nodup_iff).2 (zN.2 ⟨hnr,h.rn⟩),w1:=fun i hi=>⟨(h.w1 i hi).1,hw i hi,(h.w1 i hi).2.2⟩,w2:=h.w2,nd:=h.nd,use:=h.use,cd:=h.cd,fr:=h.fr,fl:=fun _ hu=>(by cases hu),fn:=h.fn,bu:=fun p hp=>(by replace hp:p∈D.bu.l:=hp;rw[hb]at hp;cases hp),bd:=h.bd,bm:=h.bm,th:=h.th}
def Dm.dB(D:Dm)(l:List (Int×Int)):Prop:=∀x∈l,x.1≠0→D.sv.ar.place x.1≠ -1∧(D.wt (D.pl x.1)).xI=0
theorem Dm.Na(D:Dm)(t:Int):(D.pN t).sv.ar=D.sv.ar:=SV.fj _ _
theorem Dm.kq(D:Dm)(x:Int×Int):(D.vY x).sv.ar=D.sv.ar∧(D.vY x).waits=D.waits∧(D.vY x).bu=D.bu∧(D.vY x).av=D.av∧(D.vY x).yX=D.yX∧(D.vY x).wh=D.wh∧(D.vY x).clock=D.clock:=by
 unfold Dm.vY;split
 ·exact⟨SV.fj _ _,rfl,rfl,rfl,rfl,rfl,rfl⟩
 ·exact⟨rfl,rfl,rfl,rfl,rfl,rfl,rfl⟩
theorem Dm.dB.keep{l:List (Int×Int)}(h:D.dB l)(x:Int×Int):(D.vY x).dB l:=fun y hy h0=>by obtain⟨k1,k2,-⟩:=D.kq x;obtain⟨q1,q2⟩:=h y hy h0;unfold Dm.wt Dm.pl at q2⊢;rw[k1,k2];exact⟨q1,q2⟩
theorem yS.vY(h:yS D []){x:Int×Int}(hx:D.dB [x])(hb:D.bu.l=[]):yS (D.vY x) []:=by
 unfold Dm.vY;by_cases e:x.1≠0
 ·rw[if_pos e];obtain⟨q1,q2⟩:=hx x (by simp) e;exact(h.pN q1 q2 hb).gu _
 ·rw[if_neg e];exact h
theorem yS.ue:∀(l:List (Int×Int)) {D:Dm},yS D []→D.dB l→D.bu.l=[]→yS (D.ue l) []
 |[],_,h,_,_=>h
 |x::l,D,h,hx,hb=>yS.ue l (h.vY (fun y hy=>hx y (by rw[yr]at hy;subst hy;simp)) hb) (Dm.dB.keep (fun y hy=>hx y (by simp[hy])) x) (by rw[(D.kq x).2.2.1];exact hb)
theorem yS.XF(h:yS D []):D.empty.dB D.bu.out:=
 fun x hx h0=>by
  unfold Bu.out at hx;rcases zB.1 hx with hx|hx
  ·obtain⟨q1,q2,q3⟩:=h.bu x hx;exact⟨q1,q3⟩
  ·exact absurd (by rw[List.eq_of_mem_replicate hx]) h0
theorem yS.begin(h:yS D [])(now:Int):yS (D.begin now) []:=yS.ue _ (h.begun now).empty (h.begun now).XF rfl
theorem Dm.fw:∀(l:List (Int×Int)) (D:Dm),(D.ue l).seen.length≤D.seen.length+l.length
 |[],_=>zm _
 |x::l,D=>by
  have h1:=Dm.fw l (D.vY x)
  have h2:(D.vY x).seen.length≤D.seen.length+1:=by
   unfold Dm.vY
   split
   ·show(D.seen++[_]).length≤_;simp
   ·omega
  show((D.vY x).ue l).seen.length≤_
  rw[zM]
  omega
end
end
section
open Go.RowKit Go.WideShapes
def Dm.xL(D:Dm)(t:Int)(x:En):Dm×xN:=
 ((D.act t x).1.note ⟨t,0,x.op,(D.act t x).2.2,(D.act t x).2.1,0⟩,xN.at_ ⟨t,0,x.op,(D.act t x).2.2,(D.act t x).2.1,0⟩ (D.act t x).1.clock)
def Dm.tell(D:Dm)(t:Int)(x:En)(e n m:Int):Dm×xN:=(D.note ⟨t,0,x.op,e,n,m⟩,xN.at_ ⟨t,0,x.op,e,n,m⟩ D.clock)
section
variable {w0 w:World} {γ:U} {B g:Nat} {p:vG} {D:Dm}
theorem St(h:yT γ B g p D)(ho:Own w0 w γ)(T:Nat)(hT:B+60≤T∧T<B+100):Calls Tryz.prog 87 #[.p p.gt] w fun e w'=>∃v γ',e=.returned v∧Own w0 w' γ'∧yT γ' B g p D∧xK γ' T 3 1 v D.sv.run.length (ints D.sv.list)∧∀k,(k<B∨B+60≤k)→k≠T→γ' k=γ k:=by
 have h1:yT (jW γ (B+19)) B g p D:=h.wK fun k hk=>uK _ (by unfold xi at hk;omega);refine(SF h1.xD (ho.jW (B+19)) T (by omega) (gM _ _)).mono ?_;rintro e w' ⟨v,γ',he,o',s',l',k'⟩;refine⟨v,γ',he,o',?_,l',fun k q1 q2=>(k' k q2 (by omega)).trans (uK _ (by omega))⟩;have e1:∀k,xi B k→(k<B+10∨B+21≤k)→γ' k=γ k:=fun k q1 q2=>(k' k (by unfold xi at q1;omega) (by omega)).trans (uK _ (by omega));exact{xw:=by rw[e1 _ (by unfold xi;omega) (by omega)];exact h.xw,xD:=s',places:=h.places.keep fun k q1 q2=>e1 k (by unfold xi;omega) (by omega),yX:=h.yX.keep (e1 _ (by unfold xi;omega) (by omega)),ol:=h.ol,each:=fun i hi=>(h.each i hi).keep fun k q1 q2=>e1 k (by unfold xi;omega) (by omega),timers:=h.timers.keep fun k q1 q2=>e1 k (by unfold xi;omega) (by omega),w8:=h.w8,out:=h.out.keep (e1 _ (by unfold xi;omega) (by omega)),log:=h.log.keep fun k q1 q2=>e1 k (by unfold xi;omega) (by omega),waits:=h.waits.keep (e1 _ (by unfold xi;omega) (by omega)),wl:=h.wl,seen:=h.seen.keep (e1 _ (by unfold xi;omega) (by omega)),sl:=h.sl,al:=h.al}
theorem No(h:yT γ B g p D)(ho:Own w0 w γ){t:Int}(x:En)(hin:t∈D.sv.list)(hok:D.Zg t x)(hn:(D.act t x).1.seen.length≤1000000):Calls Tryz.prog 67 #[.p g,.i t,x.val] w (uo 40 w0 γ B g (D.xL t x).1 (.agg (D.xL t x).2.xq)):=by
 obtain⟨γ1,o1,b1,b2,k1⟩:=vv ho (B+97) (B+98) (by omega) x.xq #[.i 0,.i 0,.i 0,.i 0,.i 0,.i 0] 38 41;have h1:yT γ1 B g p D:=h.wK fun k hk=>k1 k (by unfold xi at hk;omega) (by unfold xi at hk;omega);have c0:=o1.cell h1.xw (i:=0) (v:=.p p.gt) rfl;have hrun:=St h1 o1 (B+96) (by omega);have H1:=I h1;have B1:=I b1;have B2:=I b2;have K1:=I k1;clear h ho o1 h1 b1 b2 k1;have hl8:D.sv.run.length≤8:=by obtain⟨ga,gf,v,q⟩:=H1.out.xD;obtain⟨-,-,q3,-,-⟩:=q.2.2.1.bounds;have:=q3 D.sv.run (by simp);have:=H1.out.sl;omega
 obtain⟨xk,xd,xp,xo,xa,xb,xc⟩:=x;have HACT:Hid (∀w2 γ2,Own w0 w2 γ2→yT γ2 B g p D→Calls Tryz.prog 94 #[.p g,.i t,.agg #[.i xk,.i xd,.i xp,.i xo,.i xa,.i xb,.i xc]] w2 (uo 35 w0 γ2 B g (D.act t ⟨xk,xd,xp,xo,xa,xb,xc⟩).1 (.tuple #[.i (D.act t ⟨xk,xd,xp,xo,xa,xb,xc⟩).2.1,.i (D.act t ⟨xk,xd,xp,xo,xa,xb,xc⟩).2.2]))):=I fun w2 γ2 o2 h2=>Oa h2 o2 ⟨xk,xd,xp,xo,xa,xb,xc⟩ hok;unfold Dm.xL;clear hok;generalize D.act t ⟨xk,xd,xp,xo,xa,xb,xc⟩=R at*;obtain⟨D3,rn,re⟩:=R;unfold xN.xq xN.at_;show Calls _ _ #[_,_,.agg #[.i xk,.i xd,.i xp,.i xo,.i xa,.i xb,.i xc]] _ _;unfold En.xq at hrun B1 c0;simp only at hrun B1 c0 hn HACT⊢;go_in;go_wp2_with fail;refine hrun.mono ?_;rintro e w2 ⟨v,γ2,rfl,o2,h2,l2,k2⟩;have hcon:=pq l2 o2 (by omega) t;have hd:decide (t∈D.sv.list)=true:=decide_eq_true hin;rw[hd]at hcon;have b1:=(k2 (B+97) (by omega) (by omega)).trans B1.out;have r0:=o2.cell b1 (i:=0) (v:=.i xk) rfl;have r1:=o2.cell b1 (i:=1) (v:=.i xd) rfl;have r2:=o2.cell b1 (i:=2) (v:=.i xp) rfl;have r3:=o2.cell b1 (i:=3) (v:=.i xo) rfl;have r4:=o2.cell b1 (i:=4) (v:=.i xa) rfl;have r5:=o2.cell b1 (i:=5) (v:=.i xb) rfl;have r6:=o2.cell b1 (i:=6) (v:=.i xc) rfl;have hact:=HACT.out w2 γ2 o2 h2;have HA:=I hact;have HB1:=I b1;have HB2:=I ((k2 (B+98) (by omega) (by omega)).trans B2.out);have HK:Hid (∀k,(k<B∨B+200≤k)→γ2 k=γ k):=I fun k q=>(k2 k (by omega) (by omega)).trans (K1.out k (by omega) (by omega));clear hact b1 o2 h2 k2 hrun HACT H1 B1 B2 K1;obtain⟨A2,c2,rfl⟩:=l2.form;clear l2;go_wp2_with fail;refine hcon.mono ?_;rintro e w' ⟨rfl,rfl⟩;clear hcon c0;go_wp2_with fail;refine HA.out.mono ?_;rintro e w3 ⟨rfl,γ3,o3,⟨p3,h3⟩,k3⟩;have b1:=(k3 (B+97) (by unfold yU;omega)).trans HB1.out;have r0:=o3.cell b1 (i:=0) (v:=.i xk) rfl;have r1:=o3.cell b1 (i:=1) (v:=.i xd) rfl;have r2:=o3.cell b1 (i:=2) (v:=.i xp) rfl;have r3:=o3.cell b1 (i:=3) (v:=.i xo) rfl;have r4:=o3.cell b1 (i:=4) (v:=.i xa) rfl;have r5:=o3.cell b1 (i:=5) (v:=.i xb) rfl;have r6:=o3.cell b1 (i:=6) (v:=.i xc) rfl;have hnote:=ZJ h3 o3 ⟨t,0,xo,re,rn,0⟩ ⟨xk,xd,xp,xo,xa,xb,xc⟩ hn;have HN:=I hnote;have HB3:=I ((k3 (B+98) (by unfold yU;omega)).trans HB2.out);have HK3:Hid (∀k,(k<B∨B+200≤k)→γ3 k=γ k):=I fun k q=>(k3 k (by unfold yU;omega)).trans (HK.out k q);unfold xN.xq xN.at_ at HN;unfold En.val En.xq at HN;simp only at HN;clear hnote b1 o3 h3 k3 HA HB1 HB2 HK;go_wp2_with fail;refine HN.out.mono ?_;rintro e w4 ⟨rfl,γ4,o4,⟨p4,h4⟩,k4⟩;have b4:=(k4 (B+98) (by unfold yU;omega)).trans HB3.out;obtain⟨γ5,o5,b5,k5⟩:=tA o4 b4 (.i t) (.i D3.clock) (.i xo) (.i re) (.i rn) (.i 0);have HZ:Hid (Own w0 _ γ5∧γ5 (B+98)=_∧uQ γ5 B g (D3.note ⟨t,0,xo,re,rn,0⟩)∧∀k,yU 40 B k→γ5 k=γ k):=I ⟨o5,b5,⟨_,h4.wK fun k hk=>k5 k (by unfold xi at hk;omega)⟩,fun k hk=>(k5 k (by unfold yU at hk;omega)).trans ((k4 k (by unfold yU at hk⊢;omega)).trans (HK3.out k (by unfold yU at hk;omega)))⟩;have z0:=o4.cell b4 (i:=0) (v:=.i 0) rfl;have z1:=o4.cell b4 (i:=1) (v:=.i 0) rfl;have z2:=o4.cell b4 (i:=2) (v:=.i 0) rfl;have z3:=o4.cell b4 (i:=3) (v:=.i 0) rfl;have z4:=o4.cell b4 (i:=4) (v:=.i 0) rfl;have z5:=o4.cell b4 (i:=5) (v:=.i 0) rfl;have f0:=o4.free b4 0;have f1:=o4.free b4 1;have f2:=o4.free b4 2;have f3:=o4.free b4 3;have f4:=o4.free b4 4;have f5:=o4.free b4 5;clear o4 h4 k4 b4 o5 b5 k5 HN HB3 HK3;go_wp2_with fail;obtain⟨o13,b13,h13,k13⟩:=HZ.out;exact bodyPost_ret (results_cell_row rfl _ _ (w.heap.size+1) 41 _ (0,0) _ rfl (o13.own _ _ _ b13).2 Tryz.underlying41 rfl (by kernel_rfl)) rfl ⟨rfl,γ5,o13,h13,k13⟩
end
end
section
open Go.RowKit Go.WideShapes
section
variable {w0 w:World} {γ:U} {B g:Nat} {p:vG} {D:Dm}
theorem Pd(h:yT γ B g p D)(ho:Own w0 w γ){t:Int}(x:En)(e n m:Int)(hin:t∈D.sv.list)(hn:D.seen.length≤1000000):Calls Tryz.prog 66 #[.p g,.i t,x.val,.i e,.i n,.i m] w (uo 40 w0 γ B g (D.tell t x e n m).1 (.agg (D.tell t x e n m).2.xq)):=by
 obtain⟨γ1,o1,b1,b2,k1⟩:=vv ho (B+97) (B+98) (by omega) x.xq #[.i 0,.i 0,.i 0,.i 0,.i 0,.i 0] 38 41;have h1:yT γ1 B g p D:=h.wK fun k hk=>k1 k (by unfold xi at hk;omega) (by unfold xi at hk;omega);have c0:=o1.cell h1.xw (i:=0) (v:=.p p.gt) rfl;have hrun:=St h1 o1 (B+96) (by omega);have H1:=I h1;have B1:=I b1;have B2:=I b2;have K1:=I k1;clear h ho o1 h1 b1 b2 k1;have hl8:D.sv.run.length≤8:=by obtain⟨ga,gf,v,q⟩:=H1.out.xD;obtain⟨-,-,q3,-,-⟩:=q.2.2.1.bounds;have:=q3 D.sv.run (by simp);have:=H1.out.sl;omega
 obtain⟨xk,xd,xp,xo,xa,xb,xc⟩:=x;unfold Dm.tell xN.xq xN.at_;show Calls _ _ #[_,_,.agg #[.i xk,.i xd,.i xp,.i xo,.i xa,.i xb,.i xc],_,_,_] _ _;unfold En.xq at hrun B1 c0;simp only at hrun B1 c0⊢;go_in;go_wp2_with fail;refine hrun.mono ?_;rintro e' w2 ⟨v,γ2,rfl,o2,h2,l2,k2⟩;have hcon:=pq l2 o2 (by omega) t;have hd:decide (t∈D.sv.list)=true:=decide_eq_true hin;rw[hd]at hcon;have b1:=(k2 (B+97) (by omega) (by omega)).trans B1.out;have r0:=o2.cell b1 (i:=0) (v:=.i xk) rfl;have r1:=o2.cell b1 (i:=1) (v:=.i xd) rfl;have r2:=o2.cell b1 (i:=2) (v:=.i xp) rfl;have r3:=o2.cell b1 (i:=3) (v:=.i xo) rfl;have r4:=o2.cell b1 (i:=4) (v:=.i xa) rfl;have r5:=o2.cell b1 (i:=5) (v:=.i xb) rfl;have r6:=o2.cell b1 (i:=6) (v:=.i xc) rfl;have hnote:=ZJ h2 o2 ⟨t,0,xo,e,n,m⟩ ⟨xk,xd,xp,xo,xa,xb,xc⟩ hn;have HN:=I hnote;have HB3:=I ((k2 (B+98) (by omega) (by omega)).trans B2.out);have HK3:Hid (∀k,(k<B∨B+200≤k)→γ2 k=γ k):=I fun k q=>(k2 k (by omega) (by omega)).trans (K1.out k (by omega) (by omega));unfold xN.xq xN.at_ at HN;unfold En.val En.xq at HN;simp only at HN;clear hnote b1 o2 h2 k2 hrun H1 B1 B2 K1;obtain⟨A2,c2,rfl⟩:=l2.form;clear l2;go_wp2_with fail;refine hcon.mono ?_;rintro e' w' ⟨rfl,rfl⟩;clear hcon c0;go_wp2_with fail;refine HN.out.mono ?_;rintro e' w4 ⟨rfl,γ4,o4,⟨p4,h4⟩,k4⟩;have b4:=(k4 (B+98) (by unfold yU;omega)).trans HB3.out;obtain⟨γ5,o5,b5,k5⟩:=tA o4 b4 (.i t) (.i D.clock) (.i xo) (.i e) (.i n) (.i m);have HZ:Hid (Own w0 _ γ5∧γ5 (B+98)=_∧uQ γ5 B g (D.note ⟨t,0,xo,e,n,m⟩)∧∀k,yU 40 B k→γ5 k=γ k):=I ⟨o5,b5,⟨_,h4.wK fun k hk=>k5 k (by unfold xi at hk;omega)⟩,fun k hk=>(k5 k (by unfold yU at hk;omega)).trans ((k4 k (by unfold yU at hk⊢;omega)).trans (HK3.out k (by unfold yU at hk;omega)))⟩;have z0:=o4.cell b4 (i:=0) (v:=.i 0) rfl;have z1:=o4.cell b4 (i:=1) (v:=.i 0) rfl;have z2:=o4.cell b4 (i:=2) (v:=.i 0) rfl;have z3:=o4.cell b4 (i:=3) (v:=.i 0) rfl;have z4:=o4.cell b4 (i:=4) (v:=.i 0) rfl;have z5:=o4.cell b4 (i:=5) (v:=.i 0) rfl;have f0:=o4.free b4 0;have f1:=o4.free b4 1;have f2:=o4.free b4 2;have f3:=o4.free b4 3;have f4:=o4.free b4 4;have f5:=o4.free b4 5;clear o4 h4 k4 b4 o5 b5 k5 HN HB3 HK3;go_wp2_with fail;obtain⟨o13,b13,h13,k13⟩:=HZ.out;exact bodyPost_ret (results_cell_row rfl _ _ (w.heap.size+1) 41 _ (0,0) _ rfl (o13.own _ _ _ b13).2 Tryz.underlying41 rfl (by kernel_rfl)) rfl ⟨rfl,γ5,o13,h13,k13⟩
def Dm.qe(D:Dm)(n:Int):Option Int:=if 0≤n∧n<D.sv.run.length then some (D.sv.list.getD n.toNat 0)else none
def jo:Option Int→Value
 |some t=>.tuple #[.i t,.bool true]
 |none=>.tuple #[.i 0,.bool false]
theorem Vy(h:yT γ B g p D)(ho:Own w0 w γ)(n:Int):Calls Tryz.prog 46 #[.p g,.i n] w (uo 40 w0 γ B g D (jo (D.qe n))):=by
 have h1:yT (jW γ (B+19)) B g p D:=h.wK fun k hk=>uK _ (by unfold xi at hk;omega);have hp:=PO h1.xD (ho.jW (B+19)) n (gM _ _);have e1:D.sv.pick n=jo (D.qe n):=by unfold SV.pick Dm.qe;split<;>rfl
 rw[e1]at hp;have c0:=ho.cell h.xw (i:=0) (v:=.p p.gt) rfl;have HH:Hid (∀w' γ',Own w0 w' γ'→tS γ' (B+10) p.gt D.sv→(∀k,(k<B+10∨B+10+12≤k)→γ' k=jW γ (B+19) k)→∃γ'',Own w0 w' γ''∧uQ γ'' B g D∧∀k,yU 40 B k→γ'' k=γ k):=I fun w' γ' o' s' k'=>by have e1:∀k,xi B k→(k<B+10∨B+22≤k)→γ' k=γ k:=fun k q1 q2=>(k' k (by omega)).trans (uK _ (by omega));exact⟨γ',o',⟨p,{xw:=by rw[e1 _ (by unfold xi;omega) (by omega)];exact h.xw,xD:=s',places:=h.places.keep fun k q1 q2=>e1 k (by unfold xi;omega) (by omega),yX:=h.yX.keep (e1 _ (by unfold xi;omega) (by omega)),ol:=h.ol,each:=fun i hi=>(h.each i hi).keep fun k q1 q2=>e1 k (by unfold xi;omega) (by omega),timers:=h.timers.keep fun k q1 q2=>e1 k (by unfold xi;omega) (by omega),w8:=h.w8,out:=h.out.keep (e1 _ (by unfold xi;omega) (by omega)),log:=h.log.keep fun k q1 q2=>e1 k (by unfold xi;omega) (by omega),waits:=h.waits.keep (e1 _ (by unfold xi;omega) (by omega)),wl:=h.wl,seen:=h.seen.keep (e1 _ (by unfold xi;omega) (by omega)),sl:=h.sl,al:=h.al}⟩,fun k hk=>(k' k (by unfold yU at hk;omega)).trans (uK _ (by unfold yU at hk;omega))⟩
 clear h ho h1 e1;generalize D.qe n=R at*;go_in;go_wp2_with fail;refine hp.mono ?_;rintro e w' ⟨rfl,γ',o',s',k'⟩;have HZ:=I (HH.out w' γ' o' s' k');clear o' s' k' HH hp;cases R with
 |some t=> unfold jo;go_wp2_with fail;go_ret2;exact⟨rfl,HZ.out⟩
 |none=> unfold jo;go_wp2_with fail;go_ret2;exact⟨rfl,HZ.out⟩
end
end
end Go.Proofs.YtkmamlifgbocgaaGreat
