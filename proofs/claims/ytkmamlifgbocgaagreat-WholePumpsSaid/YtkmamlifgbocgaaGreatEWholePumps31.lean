/- What the program's code does, as contracts, and what follows of it, part 31: for the law's proof. -/
import Derived.Test.YtkmamlifgbocgaaGreatP00
import Derived.Test.YtkmamlifgbocgaaGreatP30
set_option linter.unusedVariables false
set_option linter.unusedSimpArgs false
set_option maxRecDepth 100000
set_option maxHeartbeats 16000000
namespace Go.Proofs.YtkmamlifgbocgaaGreat
section
open Go.RowKit
section
variable {L:List (Int×Int)}
theorem x1(hS:eD L){i j:Nat}(h:i≤j)(hj:j≤L.length):pre L i+(j-i:Nat)≤pre L j:=by
 induction j with
 |zero=>
  obtain rfl:i=0:=by omega
  simp
 |succ j ih=>
  by_cases e:i=j+1
  ·subst e;simp
  ·have h1:=ih (by omega) (by omega);have hx:L[j]? =some L[j]:=zl (by omega);have:=(hS.ok _ (List.getElem_mem (l:=L) (n:=j) (by omega))).1;rw[dP hx];omega
theorem xz(hS:eD L)(hL:0<L.length)(t:Int):∃i:Nat,i<L.length∧rh L t=((i:Int),t-t%pre L L.length+pre L i)∧pre L i≤t%pre L L.length∧t%pre L L.length<pre L (i+1):=by
 have hp:=pM hS L.length (zm _);have h0:0≤t%pre L L.length:=Int.emod_nonneg _ (by omega);have h1:t%pre L L.length<pre L L.length:=Int.emod_lt_of_pos _ (by omega);have key:∀n,0<n→n≤L.length→∃i:Nat,i<n∧qR L t (List.range n)=((i:Int),t-t%pre L L.length+pre L i)∧pre L i≤t%pre L L.length∧∀m,i<m→m<n→t%pre L L.length<pre L m:=by
  intro n;induction n with
  |zero=>intro h;omega
  |succ n ih=>
   intro _ hn;have e:qR L t (List.range (n+1))=fF L t (qR L t (List.range n)) n:=by unfold qR;rw[yD,yq];rfl
   rw[e];unfold fF;by_cases q:pre L n≤t%pre L L.length
   ·rw[if_pos q];exact⟨n,by omega,rfl,q,fun m _ _=>by omega⟩
   ·rw[if_neg q];have:n≠0:=fun e=>q (by rw[e];show(0:Int)≤_;exact h0);obtain⟨i,q1,q2,q3,q4⟩:=ih (by omega) (by omega);refine⟨i,by omega,q2,q3,fun m m1 m2=>?_⟩;by_cases e:m=n
    ·rw[e];omega
    ·exact q4 m m1 (by omega)
 obtain⟨i,q1,q2,q3,q4⟩:=key L.length hL (zm _);refine⟨i,q1,q2,q3,?_⟩;by_cases e:i+1=L.length
 ·rw[e];exact h1
 ·exact q4 _ (by omega) (by omega)
theorem wc(hS:eD L){i j:Nat}{k:Int}(hi:i<L.length)(hj:j<L.length)(h1:pre L i≤k)(h2:k<pre L (i+1))(h3:pre L j≤k)(h4:k<pre L (j+1)):i=j:=by
 rcases Nat.lt_trichotomy i j with h|h|h
 ·have:=x1 hS (i:=i+1) (j:=j) (by omega) (by omega);omega
 ·exact h
 ·have:=x1 hS (i:=j+1) (j:=i) (by omega) (by omega);omega
theorem wa(hS:eD L)(hL:0<L.length)(t:Int):(rh L t).2≤t:=by obtain⟨i,-,e,h,-⟩:=xz hS hL t;rw[e];show _-_+_≤t;omega
theorem wb(hS:eD L)(hL:0<L.length){t:Int}(h0:0≤t)(hne:(rh L (t+1)).2≠t+1):rh L (t+1)=rh L t:=by
 have hp:=pM hS L.length (zm _);obtain⟨i,i1,i2,i3,i4⟩:=xz hS hL t;obtain⟨j,j1,j2,j3,j4⟩:=xz hS hL (t+1);have k0:0≤t%pre L L.length:=Int.emod_nonneg _ (by omega);have k1:t%pre L L.length<pre L L.length:=Int.emod_lt_of_pos _ (by omega);have hz:pre L 0=0:=rfl;have hj0:=x1 hS (i:=0) (j:=j) (Nat.zero_le _) (by omega);rw[j2]at hne;replace hne:t+1-(t+1)%pre L L.length+pre L j≠t+1:=hne;have hm:(t+1)%pre L L.length=t%pre L L.length+1:=by
  by_cases e:t%pre L L.length+1<pre L L.length
  ·rw[←Int.emod_add_emod];exact Int.emod_eq_of_lt (by omega) e
  ·exfalso;have e1:(t+1)%pre L L.length=0:=by rw[←Int.emod_add_emod,show t%pre L L.length+1=pre L L.length by omega,Int.emod_self]
   rw[e1]at j3 hne;omega
 have e:i=j:=wc hS i1 j1 i3 i4 (by omega) (by omega);rw[i2,j2,e,hm];congr 1;omega
end
structure wx (L:List (Int×Int)) (start:Int) (v:Ev):Prop where
 t0:0≤v.tick
 t1:v.tick≤4611686018427387904
 xr:(L.getD (rh L v.tick).1.toNat (0,0)).1=v.xr
 clk:v.o.clock=(rh L v.tick).2∨(v.o.clock=0∧(rh L v.tick).2<start)
 wk:v.x.kind=0→v.tick=(rh L v.tick).2
 op:v.o.op=4→v.o.e=0→v.o.n=v.o.clock
def y8(start:Int)(M:Mc):Prop:=∀D,M.ds[M.owner.toNat]? =some D→D.clock=M.slot.2∨(D.clock=0∧M.slot.2<start)
theorem Dm.xn:∀(l:List (Int×Int)) (D:Dm),∃e,(D.ue l).seen=D.seen++e∧∀o∈e,o.clock=D.clock∧o.op=0
 |[],D=>⟨[],(zP _).symm,fun _ h=>by cases h⟩
 |x::l,D=>by
  obtain⟨e,h1,h2⟩:=Dm.xn l (D.vY x)
  show ∃e,((D.vY x).ue l).seen=_∧_
  have hc:(D.vY x).clock=D.clock:=(D.kq x).2.2.2.2.2.2
  rw[hc]at h2
  by_cases h:x.1≠0
  ·have hs:(D.vY x).seen=D.seen++[xN.at_ ⟨x.1,0,0,x.2,0,0⟩ D.clock]:=by unfold Dm.vY;rw[if_pos h];rfl
   refine⟨_::e,by rw[h1,hs,zU];rfl,fun o ho=>?_⟩
   rcases List.mem_cons.1 ho with rfl|ho
   ·exact⟨rfl,rfl⟩
   ·exact h2 o ho
  ·have hs:D.vY x=D:=by unfold Dm.vY;rw[if_neg h]
   rw[hs]at h1
   exact⟨e,by rw[hs];exact h1,h2⟩
theorem Dm.x3(D:Dm)(now:Int):∃e,(D.begin now).seen=D.seen++e∧∀o∈e,o.clock=now∧o.op=0:=by
 obtain⟨e,h1,h2⟩:=Dm.xn (D.begun now).bu.out (D.begun now).empty;have c1:(D.begun now).empty.clock=now:=by rw[Dm.YP,Dm.Yy]
 have c2:(D.begun now).empty.seen=D.seen:=by rw[Dm.X9,Dm.dV]
 rw[c1]at h2;rw[c2]at h1;unfold Dm.begin;exact⟨e,h1,h2⟩
theorem Mc.x2{M M':Mc}{n:Nat}{v:Ev}(h:v∈M.vx M' n):∃k o,k<n∧o∈(M'.seen k).drop (M.seen k).length∧v=⟨k,En.zero,o,M'.now⟩:=by unfold Mc.vx at h;obtain⟨k,hk,h⟩:=List.mem_flatMap.1 h;obtain⟨o,ho,e⟩:=yc.1 h;exact⟨k,o,List.mem_range.1 hk,ho,e.symm⟩
theorem Mc.wu{M:Mc}{k:Nat}{o:xN}(h:o∈(M.rQ.seen k).drop (M.seen k).length):M.slot.2=M.now∧k=M.owner.toNat∧o.clock=M.now∧o.op=0:=by
 unfold Mc.rQ at h;by_cases e:M.slot.2=M.now
 ·rw[if_pos e]at h;refine⟨e,?_⟩;unfold Mc.seen at h;simp only[List.getElem?_modify]at h;cases hd:M.ds[k]? with
  |none=>rw[hd]at h;simp at h
  |some D=>
   rw[hd]at h;by_cases q:M.owner.toNat=k
   ·subst q;simp only[if_true]at h;replace h:o∈(D.begin M.now).seen.drop D.seen.length:=h;obtain⟨e,h1,h2⟩:=D.x3 M.now;rw[h1,List.drop_left]at h;exact⟨rfl,h2 o h⟩
   ·simp[q]at h
 ·rw[if_neg e,List.drop_length]at h;cases h
section
variable {M:Mc} {a s:Nat} {start:Int}
theorem y8.init(h:wj M a s)(hn:M.now=start)(hc:∀D∈M.ds,D.clock=0):y8 start M.rQ:=by
 intro D hD;have hs:M.rQ.slot=M.slot:=by unfold Mc.slot;rw[(Mc.ZB M).1,(Mc.ZB M).2.2.1]
 have ho:M.rQ.owner=M.owner:=by unfold Mc.owner;rw[hs,(Mc.ZB M).1]
 rw[ho]at hD;rw[hs];unfold Mc.rQ at hD;by_cases e:M.slot.2=M.now
 ·rw[if_pos e]at hD;simp only[List.getElem?_modify]at hD;cases hd:M.ds[M.owner.toNat]? with
  |none=>rw[hd]at hD;simp at hD
  |some E=> rw[hd]at hD;simp at hD;rw[←hD,Dm.eR];exact .inl e.symm
 ·rw[if_neg e]at hD;have:=wa h.uu h.gy M.now;refine .inr ⟨hc D (zo hD),?_⟩;unfold Mc.slot at e⊢;omega
theorem y8.tick(h:wj M a s)(hc:y8 start M):y8 start M.tick:=by
 intro D hD;let N:Mc:={M with now:=M.now+1};have hs:M.tick.slot=N.slot:=by unfold Mc.slot Mc.tick;rw[(Mc.ZB N).1,(Mc.ZB N).2.2.1]
 have ho:M.tick.owner=N.owner:=by unfold Mc.owner;rw[hs];unfold Mc.tick;rw[(Mc.ZB N).1]
 rw[ho]at hD;rw[hs];replace hD:N.rQ.ds[N.owner.toNat]? =some D:=hD;unfold Mc.rQ at hD;by_cases e:N.slot.2=N.now
 ·rw[if_pos e]at hD;simp only[List.getElem?_modify]at hD;cases hd:N.ds[N.owner.toNat]? with
  |none=>rw[hd]at hD;simp at hD
  |some E=> rw[hd]at hD;simp at hD;rw[←hD,Dm.eR];exact .inl e.symm
 ·rw[if_neg e]at hD;have hq:N.slot=M.slot:=wb h.uu h.gy h.n0 e;have hw:N.owner=M.owner:=by unfold Mc.owner;rw[hq]
  rw[hw]at hD;rw[hq];exact hc D hD
theorem Mc.x7(M:Mc)(i:Nat)(D:Dm)(t:Int)(x:En):∃E,(M.act i D t x).1.ds=M.ds.set i E∧E.clock=D.clock∧(M.act i D t x).2.clock=D.clock∧(M.act i D t x).2.op=x.op∧(x.op=4→(M.act i D t x).2.e=0→(M.act i D t x).2.n=D.clock):=by
 unfold Mc.act;split
 ·rename_i q;exact⟨_,rfl,rfl,rfl,rfl,fun e=>by omega⟩
 split
 ·refine⟨_,rfl,D.ZM t x,D.WW t x,rfl,fun e _=>?_⟩;show(D.act t x).2.1=D.clock;unfold Dm.act;rw[if_neg (by omega),if_neg (by omega),if_neg (by omega),if_pos e]
 rename_i q;split
 ·exact⟨_,rfl,rfl,rfl,rfl,fun e=>by omega⟩
 ·refine⟨(D.xL t x).1,?_,D.ZM t x,D.WW t x,rfl,fun e=>by omega⟩;show(if _ then _ else _:Mc).ds.set _ _=_;split<;>rfl
theorem Mc.x0(M:Mc)(x:En)(hk:x.kind≠1):((M.xL x).1=M∧(M.xL x).2.xI=0)∨∃D t,x.kind=2∧0≤x.xr∧x.xr=M.owner∧M.ds[x.xr.toNat]? =some D∧D.qe x.pick=some t∧M.xL x=M.act x.xr.toNat D t x:=by
 unfold Mc.xL;rw[if_neg hk];split
 ·exact .inl ⟨rfl,rfl⟩
 rename_i q;split
 ·exact .inl ⟨rfl,rfl⟩
 rename_i q2;split
 ·exact .inl ⟨rfl,rfl⟩
 rename_i D hD;split
 ·exact .inl ⟨rfl,rfl⟩
 rename_i t ht;exact .inr ⟨D,t,by omega,by omega,zC q2,hD,ht,rfl⟩
theorem Mc.x9{M N:Mc}(h1:N.sl=M.sl)(h2:N.now=M.now):N.slot=M.slot∧N.owner=M.owner:=by
 have:N.slot=M.slot:=by unfold Mc.slot;rw[h1,h2]
 exact⟨this,by unfold Mc.owner;rw[this,h1]⟩
theorem y8.step(h:wj M a s)(hc:y8 start M)(x:En):y8 start (M.xL x).1:=by
 by_cases hk:x.kind=1
 ·unfold Mc.xL;rw[if_pos hk];split
  ·exact hc
  ·exact hc.tick h
 rcases M.x0 x hk with⟨e,-⟩|⟨D,t,-,h0,hd,hD,-,e⟩
 ·rw[e];exact hc
 ·rw[e];obtain⟨E,e1,e2,-⟩:=M.x7 x.xr.toNat D t x;obtain⟨-,l2,l3⟩:=M.SR x.xr.toNat D t x;obtain⟨s1,s2⟩:=Mc.x9 l2 l3;intro F hF;rw[s2,e1,←hd]at hF;rw[zp (zk.1 hD).1]at hF;cases hF;rw[s1,e2];exact hc D (by rw[←hd];exact hD)
theorem y8.jL(h:wj M a s)(hc:y8 start M)(x:En):∀v∈M.jL x,wx M.sl start v:=by
 intro v hv;unfold Mc.jL at hv;by_cases hk:x.kind=1
 ·rw[if_pos hk]at hv;obtain⟨k,o,-,ho,rfl⟩:=Mc.x2 hv;unfold Mc.xL at ho⊢;rw[if_pos hk]at ho⊢;by_cases hm:M.now=4611686018427387904
  ·rw[if_pos hm,List.drop_length]at ho;cases ho
  ·rw[if_neg hm]at ho⊢;let N:Mc:={M with now:=M.now+1};have hn:M.tick.now=M.now+1:=(Mc.ZB N).2.2.1;obtain⟨q1,q2,q3,q4⟩:=Mc.wu (M:=N) ho;replace q1:(rh M.sl (M.now+1)).2=M.now+1:=q1;have hb:=h.n1;have hb0:=h.n0;have hw:0≤N.owner:=(show wj N a s from⟨h.uu,h.gy,h.own,h.kg,h.sX,by show 0≤M.now+1;omega,by show M.now+1≤_;omega⟩).Yk.elim fun y hy=>by rw[hy.2.1];exact hy.2.2.2.2.1
   refine⟨by show 0≤M.tick.now;rw[hn];omega,by show M.tick.now≤_;rw[hn];omega,?_,?_,?_,?_⟩
   ·show(M.sl.getD (rh M.sl M.tick.now).1.toNat (0,0)).1=(k:Int);rw[hn,q2];show N.owner=(N.owner.toNat:Int);omega
   ·show o.clock=(rh M.sl M.tick.now).2∨_;rw[hn,q1];exact .inl q3
   ·intro _;show M.tick.now=(rh M.sl M.tick.now).2;rw[hn,q1]
   ·intro e4;exfalso;replace e4:o.op=4:=e4;omega
 ·rw[if_neg hk]at hv;rcases M.x0 x hk with⟨-,e⟩|⟨D,t,k2,h0,hd,hD,-,e⟩
  ·rw[if_neg (by omega)]at hv;cases hv
  ·split at hv
   ·rw[yr]at hv;subst hv;rw[e];obtain⟨E,-,-,e3,e4,e5⟩:=M.x7 x.xr.toNat D t x;obtain⟨-,-,l3⟩:=M.SR x.xr.toNat D t x;refine⟨by show 0≤(M.act _ D t x).1.now;rw[l3];exact h.n0,by show(M.act _ D t x).1.now≤_;rw[l3];exact h.n1,?_,?_,?_,?_⟩
    ·show(M.sl.getD (rh M.sl (M.act _ D t x).1.now).1.toNat (0,0)).1=x.xr;rw[l3,hd];rfl
    ·show(M.act _ D t x).2.clock=(rh M.sl (M.act _ D t x).1.now).2∨((M.act _ D t x).2.clock=0∧(rh M.sl (M.act _ D t x).1.now).2<start);rw[l3,e3];exact hc D (by rw[←hd];exact hD)
    ·intro q;exfalso;replace q:x.kind=0:=q;omega
    ·intro q1 q2;show(M.act _ D t x).2.n=(M.act _ D t x).2.clock;rw[e3];exact e5 (by rw[←e4];exact q1) q2
   ·cases hv
theorem y8.wR:∀(l:List En) {M:Mc} {a s:Nat},wj M a s→y8 start M→∀v∈M.wR l,wx M.sl start v
 |[],_,_,_,_,_,v,hv=>by cases hv
 |x::l,M,a,s,h,hc,v,hv=>by
  rcases zB.1 (show v∈M.jL x++Mc.wR (M.xL x).1 l from hv)with hv|hv
  ·exact hc.jL h x v hv
  ·have hsl:(M.xL x).1.sl=M.sl:=by
    by_cases hk:x.kind=1
    ·unfold Mc.xL
     rw[if_pos hk]
     split
     ·rfl
     ·exact(Mc.ZB _).1
    ·rcases M.x0 x hk with⟨e,-⟩|⟨D,t,-,-,-,-,-,e⟩
     ·rw[e]
     ·rw[e];exact(M.SR _ _ _ _).2.1
   rw[←hsl]
   exact y8.wR l (h.xL x) (hc.step h x) v hv
end
end
section
open Go.RowKit
theorem Mc.x6(M:Mc)(i:Nat)(D:Dm)(t:Int)(x:En):(M.act i D t x).2.xI=t∧(M.act i D t x).2.op=x.op∧((27≤x.op∧x.op≤34∧(M.act i D t x).1.ln=(qE M.ln x.xr t x.op x.a x.b x.c).2.2.2∧(M.act i D t x).2.e=(qE M.ln x.xr t x.op x.a x.b x.c).1∧(M.act i D t x).2.n=(qE M.ln x.xr t x.op x.a x.b x.c).2.1∧(M.act i D t x).2.m=(qE M.ln x.xr t x.op x.a x.b x.c).2.2.1)∨(¬(27≤x.op∧x.op≤34)∧∃f,(M.act i D t x).1.ln={M.ln with f:=f}∧(f=M.ln.f∨(x.op=2∧tC M.ln x.xr t=false∧f=vH M.ln.f x.xr t)))):=by
 unfold Mc.act;split
 ·rename_i q;exact⟨rfl,rfl,.inl ⟨q.1,q.2,rfl,rfl,rfl,rfl⟩⟩
 rename_i q;split
 ·exact⟨rfl,rfl,.inr ⟨q,_,rfl,.inl rfl⟩⟩
 rename_i q2;split
 ·exact⟨rfl,rfl,.inr ⟨q,_,rfl,.inl rfl⟩⟩
 rename_i q3;refine⟨rfl,rfl,.inr ⟨q,?_⟩⟩;by_cases c:(D.xL t x).2.e=0
 ·rw[if_pos c];exact⟨_,rfl,.inr ⟨zC q2,by simpa using q3,rfl⟩⟩
 ·rw[if_neg c];exact⟨_,rfl,.inl rfl⟩
theorem wj.one{M:Mc}{a s:Nat}(h:wj M a s)(x:En):(x.kind≠1∧M.jL x=[]∧(M.xL x).1=M)∨(x.kind=1∧(∀v∈M.jL x,v.x=En.zero)∧(M.xL x).1.ln=M.ln)∨∃D t,x.kind=2∧0≤x.xr∧x.xr=M.owner∧M.ds[x.xr.toNat]? =some D∧D.qe x.pick=some t∧1≤t∧M.xL x=M.act x.xr.toNat D t x∧M.jL x=[⟨x.xr,x,(M.xL x).2,(M.xL x).1.now⟩]:=by
 by_cases hk:x.kind=1
 ·refine .inr (.inl ⟨hk,fun v hv=>?_,?_⟩)
  ·unfold Mc.jL at hv;rw[if_pos hk]at hv;obtain⟨k,o,-,-,rfl⟩:=Mc.x2 hv;rfl
  ·unfold Mc.xL;rw[if_pos hk];split
   ·rfl
   ·exact(Mc.ZB _).2.1
 ·rcases M.x0 x hk with⟨e1,e2⟩|⟨D,t,k2,h0,hd,hD,ht,e⟩
  ·refine .inl ⟨hk,?_,e1⟩;unfold Mc.jL;rw[if_neg hk,if_neg (by omega)]
  ·have hok:=(h.kg D (zo hD)).1;have ht1:1≤t:=by
    unfold Dm.qe at ht;split at ht
    ·cases ht;rename_i q;refine AV.wJ (v:=D.sv.ar) (hok.yZ ?_).1;have hlt:x.pick.toNat<D.sv.list.length:=by unfold SV.list;rw[zA];omega
     rw[zn,zl hlt];exact List.getElem_mem hlt
    ·cases ht
   refine .inr (.inr ⟨D,t,k2,h0,hd,hD,ht,ht1,e,?_⟩);unfold Mc.jL;rw[if_neg hk,if_pos];rw[e,(M.x6 x.xr.toNat D t x).1];omega
theorem x8{D:List Dv}{S:List (Int×Int)}{L:List Lk}{start:Int}(hE:uI D S L start=0):ux D S L=0∧0≤start∧start≤4611686018427387904:=by
 unfold uI at hE;split at hE
 ·rename_i q;exact absurd hE q
 ·rename_i q;split at hE
  ·cases hE
  ·exact⟨by simpa using q,by omega,by omega⟩
end
section
open Go.RowKit
structure y3 where
 y2:List (List Int)
 at_:List Int
def y3.nt(L:List wy)(s:y3)(v:Ev):y3:=
 if v.x.kind=0∨v.x.a<0 then s else match L[v.x.a.toNat]? with
 |none=>s
 |some l=>
  if l.kind≠2 then s
  else if v.o.op=33∧v.xr=l.from_ then{s with y2:=s.y2.set v.x.a.toNat (s.y2.getD v.x.a.toNat []++[v.x.b])}
  else if v.o.op=34∧v.xr=l.to∧v.o.e=0 then{s with at_:=s.at_.set v.x.a.toNat (s.at_.getD v.x.a.toNat 0+v.o.m+1)}
  else s
structure wS (l:wy) (y2:List Int) (at_:Int) (v:Ev):Prop where
 snd:v.o.op=33→(v.o.e=0↔v.xr=l.from_)∧v.o.n=0∧v.o.m=0
 den:v.o.op=34→v.xr≠l.to→v.o.e=10
 rcv:v.o.op=34→v.xr=l.to→(v.o.e=18∧at_=y2.length)∨(v.o.e=0∧0≤v.o.m∧0≤at_∧at_+v.o.m<y2.length∧y2[(at_+v.o.m).toNat]? =some v.o.n∧(0<v.o.m→(y2.length:Int)-(at_+v.o.m)=l.size))
def y3.Ok(L:List wy)(s:y3)(v:Ev):Prop:=∀l,v.x.kind≠0→0≤v.x.a→L[v.x.a.toNat]? =some l→l.kind=2→wS l (s.y2.getD v.x.a.toNat []) (s.at_.getD v.x.a.toNat 0) v
structure y7 (s:y3) (x:LS):Prop where
 l1:s.y2.length=x.ls.length
 l2:s.at_.length=x.ls.length
 en:∀(i:Nat) l,x.ls[i]? =some l→l.kind=2→∃z next,x.en i=.tP z (s.y2.getD i []) next∧s.at_.getD i 0=next∧0≤next∧next≤(s.y2.getD i []).length∧(z:Int)=l.size∧1≤z
theorem y9{α:Type}{l:List α}{i:Nat}(j:Nat){x d:α}(h:i<l.length):(l.set i x).getD j d=if j=i then x else l.getD j d:=by
 rw[zn,zn];by_cases e:j=i
 ·subst e;rw[zp h,if_pos rfl];rfl
 ·rw[zt (Ne.symm e),if_neg e]
section
variable {s:y3} {x:LS}
theorem y7.uX(h:y7 s x){i:Nat}{l:wy}(hl:x.ls[i]? =some l){sn:List Int}{a:Int}{z:Nat}(hz:(z:Int)=l.size)(h1:1≤z)(h0:0≤a)(ha:a≤sn.length):
 y7 ⟨s.y2.set i sn,s.at_.set i a⟩ {x with en:=tM x.en i (.tP z sn a)}where
 l1:=by rw[zq];exact h.l1
 l2:=by rw[zq];exact h.l2
 en:=fun j l' hl' hk=>by
  have hi:=(zk.1 hl).1
  show ∃z' next,tM x.en i (.tP z sn a) j=.tP z' ((s.y2.set i sn).getD j []) next∧(s.at_.set i a).getD j 0=next∧_
  rw[y9 j (by rw[h.l1];exact hi),y9 j (by rw[h.l2];exact hi)]
  unfold tM
  by_cases e:j=i
  ·subst e
   rw[hl]at hl'
   cases hl'
   rw[if_pos rfl,if_pos rfl,if_pos rfl]
   exact⟨z,a,rfl,rfl,h0,ha,hz,h1⟩
  ·rw[if_neg e,if_neg e,if_neg e]
   exact h.en j l' hl' hk
theorem y7.f(h:y7 s x)(f:Int→Int→Option (Int×Int)):y7 s {x with f:=f}:=⟨h.l1,h.l2,h.en⟩
theorem xf{α:Type}{l:List α}{i:Nat}{d:α}(h:i<l.length):l.set i (l.getD i d)=l:=by
 apply yb;intro j;by_cases e:j=i
 ·subst e;rw[zp h,zn,zl h];rfl
 ·rw[zt (Ne.symm e)]
theorem y7.xL(h:y7 s x){t:Int}{e:En}(v:Ev)(hd:v.xr=e.xr)(hx:v.x=e)(hop:v.o.op=e.op)(he:v.o.e=(qE x e.xr t e.op e.a e.b e.c).1)(hn:v.o.n=(qE x e.xr t e.op e.a e.b e.c).2.1)(hm:v.o.m=(qE x e.xr t e.op e.a e.b e.c).2.2.1)(hk0:e.kind≠0)(h27:27≤e.op∧e.op≤34):s.Ok x.ls v∧y7 (s.nt x.ls v) (qE x e.xr t e.op e.a e.b e.c).2.2.2:=by
 subst hx;unfold qE at he hn hm⊢;rw[if_neg (by omega)]at he hn hm⊢;by_cases ha:v.x.a<0
 ·have hmay:rB x.ls v.x.xr v.x.op v.x.a=7:=by unfold rB;rw[if_pos (.inl ha)]
  rw[if_pos (by omega)];refine⟨fun l _ h0=>by omega,?_⟩;unfold y3.nt;rw[if_pos (.inr ha)];exact h
 cases hl:x.ls[v.x.a.toNat]? with
 |none=>
  have hmay:rB x.ls v.x.xr v.x.op v.x.a=7:=by
   unfold rB;split
   ·rfl
   ·rw[hl]
  rw[if_pos (by omega)];refine⟨fun l _ h0 hq=>(by rw[hl]at hq;cases hq),?_⟩;unfold y3.nt;rw[if_neg (by omega),hl];exact h
 |some l=>
  have hlt:=(zk.1 hl).1;have hmay:rB x.ls v.x.xr v.x.op v.x.a=if(l.kind=1)≠(v.x.op≤32)then 8 else if v.x.xr≠(if ey v.x.op then l.from_ else l.to)then 10 else 0:=by unfold rB;rw[if_neg (by omega),hl]
  have hnt:s.nt x.ls v=if l.kind≠2 then s else if v.o.op=33∧v.xr=l.from_ then{s with y2:=s.y2.set v.x.a.toNat (s.y2.getD v.x.a.toNat []++[v.x.b])}else if v.o.op=34∧v.xr=l.to∧v.o.e=0 then{s with at_:=s.at_.set v.x.a.toNat (s.at_.getD v.x.a.toNat 0+v.o.m+1)}else s:=by unfold y3.nt;rw[if_neg (by omega),hl]
  by_cases hk:l.kind=2
  ·by_cases h33:v.x.op=33
   ·have e1:¬((l.kind=1)≠(v.x.op≤32)):=by intro q;apply q;exact propext ⟨fun h=>by omega,fun h=>by omega⟩
    have hu:ey v.x.op=true:=by rw[h33];rfl
    rw[if_neg e1,hu]at hmay;simp only[if_true]at hmay;by_cases hdm:v.x.xr=l.from_
    ·rw[if_neg (by omega)]at hmay;obtain⟨z,next,q1,q2,q3,q4,q5,q6⟩:=h.en _ l hl hk;rw[if_neg (by omega),q1]at he hn hm⊢;simp only[h33,if_true]at he hn hm⊢;refine⟨fun l' _ _ hl' _=>?_,?_⟩
     ·rw[hl]at hl';cases hl'
      exact⟨fun _=>⟨⟨fun _=>by rw[hd];exact hdm,fun _=>he⟩,hn,hm⟩,fun q=>by omega,fun q=>by omega⟩
     ·rw[hnt,if_neg (by omega),if_pos ⟨by omega,by rw[hd];exact hdm⟩];have:=h.uX hl (sn:=s.y2.getD v.x.a.toNat []++[v.x.b]) (a:=next) q5 q6 q3 (by rw[zr,yh];omega);rw[←q2,xf (by rw[h.l2];exact hlt)]at this;rw[←q2];exact this
    ·rw[if_pos (by omega)]at hmay;rw[if_pos (by omega)]at he hn hm⊢;rw[hmay]at he;refine⟨fun l' _ _ hl' _=>?_,?_⟩
     ·rw[hl]at hl';cases hl'
      exact⟨fun _=>⟨⟨fun q=>(by rw[he]at q;cases q),fun q=>absurd (hd ▸ q) hdm⟩,hn,hm⟩,fun q=>by omega,fun q=>by omega⟩
     ·rw[hnt,if_neg (by omega),if_neg (fun q=>hdm (hd ▸ q.2)),if_neg (fun q=>by omega)];exact h
   ·by_cases h34:v.x.op=34
    ·have e1:¬((l.kind=1)≠(v.x.op≤32)):=by intro q;apply q;exact propext ⟨fun h=>by omega,fun h=>by omega⟩
     have hu:ey v.x.op=false:=by rw[h34];rfl
     rw[if_neg e1,hu]at hmay;simp only[Bool.false_eq_true,if_false]at hmay;by_cases hdm:v.x.xr=l.to
     ·rw[if_neg (by omega)]at hmay;obtain⟨z,next,q1,q2,q3,q4,q5,q6⟩:=h.en _ l hl hk;rw[if_neg (by omega),q1]at he hn hm⊢;simp only[h33,if_false]at he hn hm⊢;generalize hal:s.y2.getD v.x.a.toNat []=all at*;by_cases heq:next=all.length
      ·have r1:kl all next=18:=by unfold kl;rw[if_neg (by omega),if_pos heq]
       have r2:kj z all next=next:=by unfold kj;rw[if_neg (by omega),if_pos heq]
       rw[r1]at he;refine⟨fun l' _ _ hl' _=>?_,?_⟩
       ·rw[hl]at hl';cases hl'
        rw[hal];exact⟨fun q=>by omega,fun _ q=>absurd (hd.trans hdm) q,fun _ _=>.inl ⟨he,by rw[q2];exact heq⟩⟩
       ·rw[hnt,if_neg (by omega),if_neg (fun q=>by omega),if_neg (fun q=>by omega)];have:=h.uX hl (sn:=all) (a:=next) q5 q6 q3 q4;rw[←hal,xf (by rw[h.l1];exact hlt),←q2,xf (by rw[h.l2];exact hlt)]at this;rw[r2,←hal,←q2];exact this
      ·have r1:kl all next=0:=by unfold kl;rw[if_neg (by omega),if_neg heq]
       have r2:kj z all next=max next ((all.length:Int)-z)+1:=by unfold kj;rw[if_neg (by omega),if_neg heq]
       have r3:km z all next=max next ((all.length:Int)-z)-next:=by unfold km;rw[if_neg (by omega)]
       have r4:kn z all next=all.getD (max next ((all.length:Int)-z)).toNat 0:=by unfold kn;rw[if_neg (by omega)]
       rw[r1]at he;rw[r4]at hn;rw[r3]at hm;have hge:(s.at_.getD v.x.a.toNat 0+v.o.m)=max next ((all.length:Int)-z):=by rw[q2,hm];omega
       refine⟨fun l' _ _ hl' _=>?_,?_⟩
       ·rw[hl]at hl';cases hl'
        rw[hal];refine⟨fun q=>by omega,fun _ q=>absurd (hd.trans hdm) q,fun _ _=>.inr ⟨he,by rw[hm];omega,by rw[q2];exact q3,by rw[hge];omega,?_,?_⟩⟩
        ·rw[hge,hn,zn,zl (by omega)];rfl
        ·rw[hge,hm];intro q;omega
       ·rw[hnt,if_neg (by omega),if_neg (fun q=>by omega),if_pos ⟨by omega,hd.trans hdm,he⟩,hge];have:=h.uX hl (sn:=all) (a:=max next ((all.length:Int)-z)+1) q5 q6 (by omega) (by omega);rw[←hal,xf (by rw[h.l1];exact hlt)]at this;rw[r2,←hal];exact this
     ·rw[if_pos (by omega)]at hmay;rw[if_pos (by omega)]at he hn hm⊢;rw[hmay]at he;refine⟨fun l' _ _ hl' _=>?_,?_⟩
      ·rw[hl]at hl';cases hl'
       exact⟨fun q=>by omega,fun _ _=>he,fun _ q=>absurd (hd ▸ q) hdm⟩
      ·rw[hnt,if_neg (by omega),if_neg (fun q=>by omega),if_neg (fun q=>hdm (hd ▸ q.2.1))];exact h
    ·have e1:(l.kind=1)≠(v.x.op≤32):=by
      intro q;have:l.kind=1:=by rw[q];omega
      omega
     rw[if_pos e1]at hmay;rw[if_pos (by omega)]at he hn hm⊢;refine⟨fun l' _ _ hl' _=>?_,?_⟩
     ·exact⟨fun q=>by omega,fun q=>by omega,fun q=>by omega⟩
     ·rw[hnt,if_neg (by omega),if_neg (fun q=>by omega),if_neg (fun q=>by omega)];exact h
  ·refine⟨fun l' _ _ hl' hk'=>by rw[hl]at hl';cases hl';exact absurd hk' hk,?_⟩;rw[hnt,if_pos hk];split
   ·exact h
   split
   ·rename_i z all next q
    have key:∀e',y7 s {x with en:=tM x.en v.x.a.toNat e'}:=fun e'=>⟨h.l1,h.l2,fun j l' hl' hk'=>by
     have hj:j≠v.x.a.toNat:=fun e=>by rw[e,hl]at hl';cases hl';exact hk hk'
     show ∃z next,tM x.en v.x.a.toNat e' j=_∧_
     unfold tM;rw[if_neg hj];exact h.en j l' hl' hk'⟩;split
    ·exact key _
    ·exact key _
   ·rename_i c q;have key:∀e',y7 s {x with en:=tM x.en v.x.a.toNat e'}:=fun e'=>⟨h.l1,h.l2,fun j l' hl' hk'=>by
     have hj:j≠v.x.a.toNat:=fun e=>by rw[e,hl]at hl';cases hl';exact hk hk'
     show ∃z next,tM x.en v.x.a.toNat e' j=_∧_
     unfold tM;rw[if_neg hj];exact h.en j l' hl' hk'⟩;split
    ·exact h.f _
    ·exact key _
end
def y5(L:List wy):y3→List Ev→Prop
 |_,[]=>True
 |s,v::r=>s.Ok L v∧y5 L (s.nt L v) r
def y3.to(L:List wy)(s:y3)(l:List Ev):y3:=l.foldl (y3.nt L) s
theorem y5.append{L:List wy}:∀{a b:List Ev} {s:y3},y5 L s a→y5 L (s.to L a) b→y5 L s (a++b)
 |[],_,_,_,h=>h
 |_::_,_,_,h1,h2=>⟨h1.1,y5.append h1.2 h2⟩
theorem y5.get{L:List wy}:∀{l:List Ev} {s:y3},y5 L s l→∀{j:Nat} {v:Ev},l[j]? =some v→(s.to L (l.take j)).Ok L v
 |[],_,_,_,_,h=>by simp at h
 |u::l,s,h,0,v,hv=>by
  cases hv
  exact h.1
 |u::l,s,h,j+1,v,hv=>h.2.get (j:=j) (by simpa using hv)
theorem y3.wE{L:List wy}{s:y3}{l:List Ev}{j:Nat}{v:Ev}(h:l[j]? =some v):s.to L (l.take (j+1))=(s.to L (l.take j)).nt L v:=by unfold y3.to;rw[jI h,yq];rfl
theorem y3.wh{L:List wy}(k:Nat):∀(l:List Ev) (s:y3),((s.to L l).y2.getD k []).length≤(s.y2.getD k []).length+l.length
 |[],_=>zm _
 |v::l,s=>by
  have ih:=y3.wh (L:=L) k l (s.nt L v)
  have h1:((s.nt L v).y2.getD k []).length≤(s.y2.getD k []).length+1:=by
   unfold y3.nt
   split
   ·exact Nat.le_succ _
   split
   ·exact Nat.le_succ _
   split
   ·exact Nat.le_succ _
   split
   ·show((s.y2.set v.x.a.toNat (s.y2.getD v.x.a.toNat []++[v.x.b])).getD k []).length≤_
    by_cases hlt:v.x.a.toNat<s.y2.length
    ·rw[y9 k hlt]
     split
     ·rename_i e;rw[e,zr];exact zm _
     ·exact Nat.le_succ _
    ·rw[List.set_eq_of_length_le (by omega)]
     exact Nat.le_succ _
   split
   ·exact Nat.le_succ _
   ·exact Nat.le_succ _
  show(((s.nt L v).to L l).y2.getD k []).length≤_
  rw[zM]
  omega
theorem y3.zero{L:List wy}{s:y3}:∀{l:List Ev},(∀v∈l,v.x=En.zero)→y5 L s l∧s.to L l=s
 |[],_=>⟨trivial,rfl⟩
 |u::l,h=>by
  have hu:=h u (List.mem_cons_self ..)
  have e:s.nt L u=s:=by unfold y3.nt;rw[if_pos (.inl (by rw[hu];rfl))]
  obtain⟨q1,q2⟩:=y3.zero (s:=s) (L:=L) fun v hv=>h v (yJ _ hv)
  refine⟨⟨fun l' hk=>absurd (by rw[hu];rfl) hk,by rw[e];exact q1⟩,?_⟩
  show(s.nt L u).to L l=s
  rw[e];exact q2
theorem y7.one{M:Mc}{a k:Nat}(h:wj M a k){s:y3}(hr:y7 s M.ln)(x:En):y5 M.ln.ls s (M.jL x)∧y7 (s.to M.ln.ls (M.jL x)) (M.xL x).1.ln∧(M.xL x).1.ln.ls=M.ln.ls:=by
 rcases h.one x with⟨-,e1,e2⟩|⟨-,e1,e2⟩|⟨D,t,k2,h0,hd,hD,ht,ht1,e,ev⟩
 ·rw[e1,e2];exact⟨trivial,hr,rfl⟩
 ·obtain⟨q1,q2⟩:=y3.zero (s:=s) (L:=M.ln.ls) e1;rw[q2,e2];exact⟨q1,hr,rfl⟩
 ·rw[ev];obtain⟨-,ho,q⟩:=M.x6 x.xr.toNat D t x;show(y3.Ok M.ln.ls s _∧True)∧y7 (s.nt M.ln.ls _) _∧_;rcases q with⟨o1,o2,l1,l2,l3,l4⟩|⟨o1,f,l1,-⟩
  ·obtain⟨r1,r2⟩:=hr.xL (t:=t) (e:=x) ⟨x.xr,x,(M.xL x).2,(M.xL x).1.now⟩ rfl rfl (by rw[e];exact ho) (by rw[e];exact l2) (by rw[e];exact l3) (by rw[e];exact l4) (by omega) ⟨o1,o2⟩;rw[e,l1];rw[e]at r1 r2;exact⟨⟨r1,trivial⟩,r2,VG _ _ _ _ _ _ _⟩
  ·have hn:s.nt M.ln.ls ⟨x.xr,x,(M.xL x).2,(M.xL x).1.now⟩=s:=by
    have hop:(M.xL x).2.op=x.op:=by rw[e];exact ho
    unfold y3.nt;split
    ·rfl
    split
    ·rfl
    split
    ·rfl
    rw[if_neg (fun q=>o1 (by have h3:(M.xL x).2.op=33:=q.1;omega)),if_neg (fun q=>o1 (by have h4:(M.xL x).2.op=34:=q.1;omega))]
   rw[hn];refine⟨⟨fun l _ _ _ _=>?_,trivial⟩,by rw[e,l1];exact hr.f f,by rw[e,l1]⟩;have hop:(M.xL x).2.op=x.op:=by rw[e];exact ho
   exact⟨fun q=>absurd (by have h3:(M.xL x).2.op=33:=q;omega) o1,fun q=>absurd (by have h3:(M.xL x).2.op=34:=q;omega) o1,fun q=>absurd (by have h3:(M.xL x).2.op=34:=q;omega) o1⟩
theorem y7.wR:∀(l:List En) {M:Mc} {a k:Nat} {s:y3},wj M a k→y7 s M.ln→y5 M.ln.ls s (M.wR l)
 |[],_,_,_,_,_,_=>trivial
 |x::l,M,a,k,s,h,hr=>by
  obtain⟨q1,q2,q3⟩:=hr.one h x
  have:=y7.wR l (h.xL x) q2
  rw[q3]at this
  exact q1.append this
def y3.none_(n:Nat):y3:=⟨List.replicate n [],List.replicate n 0⟩
theorem y6{α:Type}(n i:Nat)(d:α):(List.replicate n d).getD i d=d:=by rw[zn,zR];split<;>rfl
theorem y7.init{D:List Dv}{S:List (Int×Int)}{L:List Lk}(h:po D S L):y7 (y3.none_ L.length) (Zk (L.map Lk.eu))where
 l1:=by show(List.replicate _ _).length=(L.map Lk.eu).length;rw[zz,zA]
 l2:=by show(List.replicate _ _).length=(L.map Lk.eu).length;rw[zz,zA]
 en:=fun i l hl hk=>by
  replace hl:(L.map Lk.eu)[i]? =some l:=hl
  show ∃z next,jZ (L.map Lk.eu) i=.tP z ((List.replicate L.length []).getD i []) next∧(List.replicate L.length (0:Int)).getD i 0=next∧0≤next∧next≤(((List.replicate L.length []).getD i []).length:Int)∧_
  rw[y6,y6]
  unfold jZ sR
  rw[hl]
  simp only
  rw[if_neg (by omega)]
  rw[zx]at hl
  cases hx:L[i]? with
  |none=>rw[hx]at hl;cases hl
  |some y=>
   rw[hx]at hl
   cases hl
   have:=(h.lk_of (zo hx)).2.2.2.2.2
   replace hk:y.kind=2:=hk
   refine⟨_,0,rfl,rfl,Int.le_refl _,Int.le_refl _,?_,?_⟩
   ·show((rT 8 y.size:Nat):Int)=y.size
    unfold rT
    rw[if_neg (by omega),if_neg (by omega)]
    omega
   ·show 1≤rT 8 y.size
    exact(fH (by omega) _).1
end
section
open Go.RowKit Go.WideShapes
theorem w6(d k xd xp xo xa xb xc t cl o e n m tk:Int)(w:World):Calls Tryz.prog 13 #[.agg #[.i d,.i k,.i xd,.i xp,.i xo,.i xa,.i xb,.i xc,.i t,.i cl,.i o,.i e,.i n,.i m,.i tk]] w fun e w'=>e=.returned (.bool (k==0))∧Below w.heap.size w w':=by have hb:Below w.heap.size w (w.alloc (.cells #[.i d,.i k,.i xd,.i xp,.i xo,.i xa,.i xb,.i xc,.i t,.i cl,.i o,.i e,.i n,.i m,.i tk] 43)):=(Below.refl _ _).alloc (zm _) _;have HB:=I hb;clear hb;go_in;go_wp2_with fail;go_ret;exact⟨rfl,HB.out⟩
theorem w7(w:World)(d k xd xp xo xa xb xc t cl o e n m tk:Int):∀W,Below (w.alloc (.cells #[.i d,.i k,.i xd,.i xp,.i xo,.i xa,.i xb,.i xc,.i t,.i cl,.i o,.i e,.i n,.i m,.i tk] 43)).heap.size (w.alloc (.cells #[.i d,.i k,.i xd,.i xp,.i xo,.i xa,.i xb,.i xc,.i t,.i cl,.i o,.i e,.i n,.i m,.i tk] 43)) W→Below w.heap.size w W∧W.cell? (zc w.heap.size 0)=some (.i d)∧W.cell? (zc w.heap.size 1)=some (.i k)∧W.cell? (zc w.heap.size 2)=some (.i xd)∧W.cell? (zc w.heap.size 3)=some (.i xp)∧W.cell? (zc w.heap.size 4)=some (.i xo)∧W.cell? (zc w.heap.size 5)=some (.i xa)∧W.cell? (zc w.heap.size 6)=some (.i xb)∧W.cell? (zc w.heap.size 7)=some (.i xc)∧W.cell? (zc w.heap.size 8)=some (.i t)∧W.cell? (zc w.heap.size 9)=some (.i cl)∧W.cell? (zc w.heap.size 10)=some (.i o)∧W.cell? (zc w.heap.size 11)=some (.i e)∧W.cell? (zc w.heap.size 12)=some (.i n)∧W.cell? (zc w.heap.size 13)=some (.i m)∧W.cell? (zc w.heap.size 14)=some (.i tk):=fun W hW=>by have q:=yQ (fun _=>none) 0 w.heap.size (.cells #[.i d,.i k,.i xd,.i xp,.i xo,.i xa,.i xb,.i xc,.i t,.i cl,.i o,.i e,.i n,.i m,.i tk] 43);have o2:=((Own.start w).new 0 _).xh hW;exact⟨o2.below,o2.cell q rfl,o2.cell q rfl,o2.cell q rfl,o2.cell q rfl,o2.cell q rfl,o2.cell q rfl,o2.cell q rfl,o2.cell q rfl,o2.cell q rfl,o2.cell q rfl,o2.cell q rfl,o2.cell q rfl,o2.cell q rfl,o2.cell q rfl,o2.cell q rfl⟩
end
section
open Go.RowKit Go.WideShapes
theorem Tryz.underlying56:Tryz.prog.underlying 56=some (.slice 61):=by kernel_rfl
theorem Tryz.vg:(Tryz.prog.info? 61).map (fun i=>(i.zero,i.size,i.bytes))=some (some (.slice none 0 0),1,24):=by kernel_rfl
def xe(n:Nat):List Value:=List.replicate n (.slice none 0 0)
theorem x5(n:Nat)(hn:n≤8)(w:World):(Instr.makeSlice 56 (.i n) (.i n)).run Tryz.prog w=.ok (.slice (zb w.heap.size) n n) (w.alloc (.cells (xe n).toArray 61)):=by
 obtain⟨i0,hi,hz0,hz1,hz2⟩:=info_parts Tryz.vg;have:=run_makeSlice w (P:=Tryz.prog) 56 61 i0 _ Tryz.underlying56 hi hz0 .i64 .i64 n n (by omega) (by omega) (by rw[hz1];simp;omega) (by rw[hz2];omega) (by omega);rw[hz1]at this;have e:madeCells #[.slice none 0 0] (n*1)=(xe n).toArray:=by rw[yG];apply Array.toList_inj.1;rw[toList_madeCells_one];simp[xe]
 rw[←e];simpa[Value.cells]using this
def xk(γ:U)(n:Nat)(s:y3)(vS vA:Value):Prop:=
 ∃z8,yR γ 1 61 1 vS n z8∧(∀i,i<n→yR γ (10+i) 3 1 (z8.getD i undef) (s.y2.getD i []).length (ints (s.y2.getD i [])))∧yR γ 2 3 1 vA n (ints s.at_)∧s.y2.length=n∧s.at_.length=n
theorem xk.keep{γ γ':U}{n:Nat}{s:y3}{vS vA:Value}(h:xk γ n s vS vA)(hk:∀k,k≠3→γ' k=γ k):xk γ' n s vS vA:=by obtain⟨z8,h1,h2,h3,h4⟩:=h;exact⟨z8,h1.keep (hk _ (by omega)),fun i hi=>(h2 i hi).keep (hk _ (by omega)),h3.keep (hk _ (by omega)),h4⟩
def y4(w:World)(n:Nat)(s:y3)(vS vA:Value)(W:World):Prop:=∃γ,Own w W γ∧xk γ n s vS vA
def xl(w:World)(n:Nat)(s:y3)(vS vA:Value)(ge:Nat)(cs:Array Value)(W:World):Prop:=∃γ,Own w W γ∧xk γ n s vS vA∧γ 3=some (ge,.cells cs 43 (0,0))
section
variable {w W:World} {n:Nat} {s:y3} {vS vA:Value}
theorem y4.below{W':World}(h:y4 w n s vS vA W)(hb:Below W.heap.size W W'):y4 w n s vS vA W':=by obtain⟨γ,o,r⟩:=h;exact⟨γ,o.xh hb,r⟩
theorem y4.base(h:y4 w n s vS vA W):Below w.heap.size w W:=by obtain⟨γ,o,-⟩:=h;exact o.below
theorem y4.ev(h:y4 w n s vS vA W)(cs:Array Value):xl w n s vS vA W.heap.size cs (W.alloc (.cells cs 43)):=by obtain⟨γ,o,r⟩:=h;exact⟨_,o.new 3 _,r.keep fun k hk=>yO _ _ _ hk,yQ _ _ _ _⟩
theorem xl.at_{ge:Nat}{cs:Array Value}{W':World}(h:xl w n s vS vA ge cs W)(hb:Below W.heap.size W W'):y4 w n s vS vA W':=by obtain⟨γ,o,r,-⟩:=h;exact⟨γ,o.xh hb,r⟩
theorem xl.below{ge:Nat}{cs:Array Value}{W':World}(h:xl w n s vS vA ge cs W)(hb:Below W.heap.size W W'):xl w n s vS vA ge cs W':=by obtain⟨γ,o,r,q⟩:=h;exact⟨γ,o.xh hb,r,q⟩
structure vs (w:World) (n:Nat) (s:y3) (vA:Value) (k z6 gA:Nat) (A:Option Addr) (c:Nat) (W:World):Prop where
 sl:W.cell? (zc z6 k)=some (.slice A (s.y2.getD k []).length c)
 at_:W.cell? (zc gA k)=some (.i (s.at_.getD k 0))
 word:∀(j:Nat) u,(s.y2.getD k [])[j]? =some u→∃g,A=zb g∧W.cell? (zc g j)=some (.i u)
theorem y4.row(h:y4 w n s vS vA W){k:Nat}(hk:k<n):∃z6 J gA cA A c,vS=.slice (zb z6) n J∧vA=.slice (zb gA) n cA∧W.frozen? (zc gA k)=false∧vs w n s vA k z6 gA A c W∧∀u,y4 w n {s with at_:=s.at_.set k u} vS vA (W.setCell (zc gA k) (.i u)):=by
 obtain⟨γ,o,z8,h1,h2,h3,l1,l2⟩:=h;obtain⟨z6,J,e1,-,r1⟩:=h1.row o (by omega);obtain⟨gA,cA,e2,q2,f2,set2⟩:=yR.jP h3 o hk;obtain⟨A,c,e3,-⟩:=(h2 k hk).form;have hus:z8.length=n:=by have:=h1.1;omega
 have hu:z8[k]? =some (z8.getD k undef):=by rw[zn,zl (by omega)];rfl
 refine⟨z6,J,gA,cA,A,c,e1,e2,f2,⟨by rw[r1 k _ hu,e3],by rw[q2,gU _ _ (by omega)],fun j u hj=>?_⟩,fun u=>?_⟩
 ·have hlt:=(zk.1 hj).1;obtain⟨g,c',e4,-,r4⟩:=(h2 k hk).row o (by omega);rw[e3]at e4;cases e4;exact⟨g,rfl,r4 j _ (by unfold ints;rw[zx,hj];rfl)⟩
 ·obtain⟨γ',o',s',k'⟩:=set2 (.i u);refine⟨γ',o',z8,h1.keep (k' _ (by omega)),fun i hi=>(h2 i hi).keep (k' _ (by omega)),?_,l1,by show(s.at_.set k u).length=n;rw[zq];exact l2⟩;have:(ints s.at_).set k (.i u)=ints (s.at_.set k u):=by unfold ints;rw[List.map_set]
  rw[←this];exact s'
theorem xk.y2{γ:U}(h:xk γ n s vS vA)(o:Own w W γ){k:Nat}(hk:k<n)(x:Int):∃z6 J A c,vS=.slice (zb z6) n J∧W.cell? (zc z6 k)=some (.slice A (s.y2.getD k []).length c)∧yR γ (10+k) 3 1 (.slice A (s.y2.getD k []).length c) (s.y2.getD k []).length (ints (s.y2.getD k []))∧∀A' c' W' γ',Own w W' γ'→yR γ' (10+k) 3 1 (.slice A' ((s.y2.getD k []).length+1) c') ((s.y2.getD k []).length+1) (ints (s.y2.getD k [])++[.i x])→(∀j,j≠10+k→j≠5→γ' j=γ j)→(∃u1 u2 u3,W'.cell? (zc z6 k)=some (.slice u1 u2 u3))∧W'.frozen? (zc z6 k)=false∧∃γ2,Own w (W'.setCell (zc z6 k) (.slice A' ((s.y2.getD k []).length+1) c')) γ2∧xk γ2 n {s with y2:=s.y2.set k (s.y2.getD k []++[x])} vS vA∧γ2 3=γ 3:=by
 obtain⟨z8,h1,h2,h3,l1,l2⟩:=h;obtain⟨z6,J,e1,-,r1⟩:=h1.row o (by omega);obtain⟨A,c,e3,-⟩:=(h2 k hk).form;have hus:z8.length=n:=by have:=h1.1;omega
 have hu:z8[k]? =some (z8.getD k undef):=by rw[zn,zl (by omega)];rfl
 refine⟨z6,J,A,c,e1,by rw[r1 k _ hu,e3],by rw[←e3];exact h2 k hk,fun A' c' W' γ' o' s' k'=>?_⟩;have h1':yR γ' 1 61 1 vS n z8:=h1.keep (k' _ (by omega) (by omega));obtain⟨gS',cS',e1',q1,f1,jP⟩:=yR.jP h1' o' hk;rw[e1]at e1';cases e1';obtain⟨γ2,o2,s2,k2⟩:=jP (.slice A' ((s.y2.getD k []).length+1) c');refine⟨⟨_,_,_,by rw[q1,e3]⟩,f1,γ2,o2,⟨_,s2,fun i hi=>?_,(h3.keep (k' _ (by omega) (by omega))).keep (k2 _ (by omega)),by show(s.y2.set k _).length=n;rw[zq];exact l1,l2⟩,(k2 3 (by omega)).trans (k' 3 (by omega) (by omega))⟩;show yR γ2 (10+i) 3 1 ((z8.set k (.slice A' ((s.y2.getD k []).length+1) c')).getD i undef) ((s.y2.set k (s.y2.getD k []++[x])).getD i []).length (ints ((s.y2.set k (s.y2.getD k []++[x])).getD i []));rw[y9 i (by omega),y9 i (by omega)];by_cases e:i=k
 ·subst e;rw[if_pos rfl,if_pos rfl,zr,yh,←qt];exact s'.keep (k2 _ (by omega))
 ·rw[if_neg e,if_neg e];exact((h2 i hi).keep (k' _ (by omega) (by omega))).keep (k2 _ (by omega))
theorem y4.init(o:Own w W (fun _=>none))(n:Nat)(hn:n≤8)(cs:Array Value)(h1:cs.size=n)(h2:cs.toList=ints (List.replicate n 0)):y4 w n (y3.none_ n) (.slice (zb W.heap.size) n n) (.slice (zb (W.heap.size+1)) n n) ((W.alloc (.cells (xe n).toArray 61)).alloc (.cells cs 3)):=by
 have o2:=(o.new 1 (.cells (xe n).toArray 61)).new 2 (.cells cs 3);have hz:(W.alloc (.cells (xe n).toArray 61)).heap.size=W.heap.size+1:=by simp
 rw[hz]at o2;refine⟨_,o2,xe n,⟨by simp[xe],.inr ⟨W.heap.size,n,_,rfl,(yO _ _ _ (by omega)).trans (yQ _ _ _ _),zm _,by unfold maxLen;omega,by simp[xe],by rw[zO (by simp[xe])]⟩⟩,fun i hi=>?_,⟨by simp[ints,y3.none_],.inr ⟨W.heap.size+1,n,_,rfl,yQ _ _ _ _,zm _,by unfold maxLen;omega,by rw[h1];omega,?_⟩⟩,by simp[y3.none_],by simp[y3.none_]⟩
 ·show yR _ (10+i) 3 1 ((List.replicate n (Value.slice none 0 0)).getD i undef) ((List.replicate n ([]:List Int)).getD i []).length (ints ((List.replicate n ([]:List Int)).getD i []));rw[y6,zn,zR,if_pos hi];exact yR.nil _ _ _ _
 ·rw[h2];show _=ints (List.replicate n 0);rw[zO (by simp[ints])]
end
end
end Go.Proofs.YtkmamlifgbocgaaGreat
