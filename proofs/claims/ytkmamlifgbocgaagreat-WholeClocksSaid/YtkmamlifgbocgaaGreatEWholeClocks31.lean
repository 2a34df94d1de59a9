/- What the program's code does, as contracts, and what follows of it, part 31: for the law's proof. -/
import Derived.Test.YtkmamlifgbocgaaGreatP00
import Derived.Test.YtkmamlifgbocgaaGreatP30
set_option linter.unusedVariables false
set_option linter.unusedSimpArgs false
set_option maxRecDepth 100000
set_option maxHeartbeats 16000000
namespace Go.Proofs.YtkmamlifgbocgaaGreat
section
open Go.RowKit
section
variable {L:List (Int×Int)}
theorem y1(hS:eD L){i j:Nat}(h:i≤j)(hj:j≤L.length):pre L i+(j-i:Nat)≤pre L j:=by
 induction j with
 |zero=>
  obtain rfl:i=0:=by omega
  simp
 |succ j ih=>
  by_cases e:i=j+1
  ·subst e;simp
  ·have h1:=ih (by omega) (by omega);have hx:L[j]? =some L[j]:=zl (by omega);have:=(hS.ok _ (List.getElem_mem (l:=L) (n:=j) (by omega))).1;rw[dP hx];omega
theorem ys(hS:eD L)(hL:0<L.length)(t:Int):∃i:Nat,i<L.length∧rh L t=((i:Int),t-t%pre L L.length+pre L i)∧pre L i≤t%pre L L.length∧t%pre L L.length<pre L (i+1):=by
 have hp:=pM hS L.length (zm _);have h0:0≤t%pre L L.length:=Int.emod_nonneg _ (by omega);have h1:t%pre L L.length<pre L L.length:=Int.emod_lt_of_pos _ (by omega);have key:∀n,0<n→n≤L.length→∃i:Nat,i<n∧qR L t (List.range n)=((i:Int),t-t%pre L L.length+pre L i)∧pre L i≤t%pre L L.length∧∀m,i<m→m<n→t%pre L L.length<pre L m:=by
  intro n;induction n with
  |zero=>intro h;omega
  |succ n ih=>
   intro _ hn;have e:qR L t (List.range (n+1))=fF L t (qR L t (List.range n)) n:=by unfold qR;rw[yD,yq];rfl
   rw[e];unfold fF;by_cases q:pre L n≤t%pre L L.length
   ·rw[if_pos q];exact⟨n,by omega,rfl,q,fun m _ _=>by omega⟩
   ·rw[if_neg q];have:n≠0:=fun e=>q (by rw[e];show(0:Int)≤_;exact h0);obtain⟨i,q1,q2,q3,q4⟩:=ih (by omega) (by omega);refine⟨i,by omega,q2,q3,fun m m1 m2=>?_⟩;by_cases e:m=n
    ·rw[e];omega
    ·exact q4 m m1 (by omega)
 obtain⟨i,q1,q2,q3,q4⟩:=key L.length hL (zm _);refine⟨i,q1,q2,q3,?_⟩;by_cases e:i+1=L.length
 ·rw[e];exact h1
 ·exact q4 _ (by omega) (by omega)
theorem xn(hS:eD L){i j:Nat}{k:Int}(hi:i<L.length)(hj:j<L.length)(h1:pre L i≤k)(h2:k<pre L (i+1))(h3:pre L j≤k)(h4:k<pre L (j+1)):i=j:=by
 rcases Nat.lt_trichotomy i j with h|h|h
 ·have:=y1 hS (i:=i+1) (j:=j) (by omega) (by omega);omega
 ·exact h
 ·have:=y1 hS (i:=j+1) (j:=i) (by omega) (by omega);omega
theorem xk(hS:eD L)(hL:0<L.length)(t:Int):(rh L t).2≤t:=by obtain⟨i,-,e,h,-⟩:=ys hS hL t;rw[e];show _-_+_≤t;omega
theorem xl(hS:eD L)(hL:0<L.length){t:Int}(h0:0≤t)(hne:(rh L (t+1)).2≠t+1):rh L (t+1)=rh L t:=by
 have hp:=pM hS L.length (zm _);obtain⟨i,i1,i2,i3,i4⟩:=ys hS hL t;obtain⟨j,j1,j2,j3,j4⟩:=ys hS hL (t+1);have k0:0≤t%pre L L.length:=Int.emod_nonneg _ (by omega);have k1:t%pre L L.length<pre L L.length:=Int.emod_lt_of_pos _ (by omega);have hz:pre L 0=0:=rfl;have hj0:=y1 hS (i:=0) (j:=j) (Nat.zero_le _) (by omega);rw[j2]at hne;replace hne:t+1-(t+1)%pre L L.length+pre L j≠t+1:=hne;have hm:(t+1)%pre L L.length=t%pre L L.length+1:=by
  by_cases e:t%pre L L.length+1<pre L L.length
  ·rw[←Int.emod_add_emod];exact Int.emod_eq_of_lt (by omega) e
  ·exfalso;have e1:(t+1)%pre L L.length=0:=by rw[←Int.emod_add_emod,show t%pre L L.length+1=pre L L.length by omega,Int.emod_self]
   rw[e1]at j3 hne;omega
 have e:i=j:=xn hS i1 j1 i3 i4 (by omega) (by omega);rw[i2,j2,e,hm];congr 1;omega
end
structure y0 (L:List (Int×Int)) (start:Int) (v:Ev):Prop where
 t0:0≤v.tick
 t1:v.tick≤4611686018427387904
 xr:(L.getD (rh L v.tick).1.toNat (0,0)).1=v.xr
 clk:v.o.clock=(rh L v.tick).2∨(v.o.clock=0∧(rh L v.tick).2<start)
 wk:v.x.kind=0→v.tick=(rh L v.tick).2
 op:v.o.op=4→v.o.e=0→v.o.n=v.o.clock
def zs(start:Int)(M:Mc):Prop:=∀D,M.ds[M.owner.toNat]? =some D→D.clock=M.slot.2∨(D.clock=0∧M.slot.2<start)
theorem Dm.y2:∀(l:List (Int×Int)) (D:Dm),∃e,(D.ue l).seen=D.seen++e∧∀o∈e,o.clock=D.clock∧o.op=0
 |[],D=>⟨[],(zP _).symm,fun _ h=>by cases h⟩
 |x::l,D=>by
  obtain⟨e,h1,h2⟩:=Dm.y2 l (D.vY x)
  show ∃e,((D.vY x).ue l).seen=_∧_
  have hc:(D.vY x).clock=D.clock:=(D.kq x).2.2.2.2.2.2
  rw[hc]at h2
  by_cases h:x.1≠0
  ·have hs:(D.vY x).seen=D.seen++[xN.at_ ⟨x.1,0,0,x.2,0,0⟩ D.clock]:=by unfold Dm.vY;rw[if_pos h];rfl
   refine⟨_::e,by rw[h1,hs,zU];rfl,fun o ho=>?_⟩
   rcases List.mem_cons.1 ho with rfl|ho
   ·exact⟨rfl,rfl⟩
   ·exact h2 o ho
  ·have hs:D.vY x=D:=by unfold Dm.vY;rw[if_neg h]
   rw[hs]at h1
   exact⟨e,by rw[hs];exact h1,h2⟩
theorem Dm.y6(D:Dm)(now:Int):∃e,(D.begin now).seen=D.seen++e∧∀o∈e,o.clock=now∧o.op=0:=by
 obtain⟨e,h1,h2⟩:=Dm.y2 (D.begun now).bu.out (D.begun now).empty;have c1:(D.begun now).empty.clock=now:=by rw[Dm.YP,Dm.Yy]
 have c2:(D.begun now).empty.seen=D.seen:=by rw[Dm.X9,Dm.dV]
 rw[c1]at h2;rw[c2]at h1;unfold Dm.begin;exact⟨e,h1,h2⟩
theorem Mc.x7{M M':Mc}{n:Nat}{v:Ev}(h:v∈M.vx M' n):∃k o,k<n∧o∈(M'.seen k).drop (M.seen k).length∧v=⟨k,En.zero,o,M'.now⟩:=by unfold Mc.vx at h;obtain⟨k,hk,h⟩:=List.mem_flatMap.1 h;obtain⟨o,ho,e⟩:=yc.1 h;exact⟨k,o,List.mem_range.1 hk,ho,e.symm⟩
theorem Mc.xz{M:Mc}{k:Nat}{o:xN}(h:o∈(M.rQ.seen k).drop (M.seen k).length):M.slot.2=M.now∧k=M.owner.toNat∧o.clock=M.now∧o.op=0:=by
 unfold Mc.rQ at h;by_cases e:M.slot.2=M.now
 ·rw[if_pos e]at h;refine⟨e,?_⟩;unfold Mc.seen at h;simp only[List.getElem?_modify]at h;cases hd:M.ds[k]? with
  |none=>rw[hd]at h;simp at h
  |some D=>
   rw[hd]at h;by_cases q:M.owner.toNat=k
   ·subst q;simp only[if_true]at h;replace h:o∈(D.begin M.now).seen.drop D.seen.length:=h;obtain⟨e,h1,h2⟩:=D.y6 M.now;rw[h1,List.drop_left]at h;exact⟨rfl,h2 o h⟩
   ·simp[q]at h
 ·rw[if_neg e,List.drop_length]at h;cases h
section
variable {M:Mc} {a s:Nat} {start:Int}
theorem zs.init(h:wj M a s)(hn:M.now=start)(hc:∀D∈M.ds,D.clock=0):zs start M.rQ:=by
 intro D hD;have hs:M.rQ.slot=M.slot:=by unfold Mc.slot;rw[(Mc.ZB M).1,(Mc.ZB M).2.2.1]
 have ho:M.rQ.owner=M.owner:=by unfold Mc.owner;rw[hs,(Mc.ZB M).1]
 rw[ho]at hD;rw[hs];unfold Mc.rQ at hD;by_cases e:M.slot.2=M.now
 ·rw[if_pos e]at hD;simp only[List.getElem?_modify]at hD;cases hd:M.ds[M.owner.toNat]? with
  |none=>rw[hd]at hD;simp at hD
  |some E=> rw[hd]at hD;simp at hD;rw[←hD,Dm.eR];exact .inl e.symm
 ·rw[if_neg e]at hD;have:=xk h.uu h.gy M.now;refine .inr ⟨hc D (zo hD),?_⟩;unfold Mc.slot at e⊢;omega
theorem zs.tick(h:wj M a s)(hc:zs start M):zs start M.tick:=by
 intro D hD;let N:Mc:={M with now:=M.now+1};have hs:M.tick.slot=N.slot:=by unfold Mc.slot Mc.tick;rw[(Mc.ZB N).1,(Mc.ZB N).2.2.1]
 have ho:M.tick.owner=N.owner:=by unfold Mc.owner;rw[hs];unfold Mc.tick;rw[(Mc.ZB N).1]
 rw[ho]at hD;rw[hs];replace hD:N.rQ.ds[N.owner.toNat]? =some D:=hD;unfold Mc.rQ at hD;by_cases e:N.slot.2=N.now
 ·rw[if_pos e]at hD;simp only[List.getElem?_modify]at hD;cases hd:N.ds[N.owner.toNat]? with
  |none=>rw[hd]at hD;simp at hD
  |some E=> rw[hd]at hD;simp at hD;rw[←hD,Dm.eR];exact .inl e.symm
 ·rw[if_neg e]at hD;have hq:N.slot=M.slot:=xl h.uu h.gy h.n0 e;have hw:N.owner=M.owner:=by unfold Mc.owner;rw[hq]
  rw[hw]at hD;rw[hq];exact hc D hD
theorem Mc.y9(M:Mc)(i:Nat)(D:Dm)(t:Int)(x:En):∃E,(M.act i D t x).1.ds=M.ds.set i E∧E.clock=D.clock∧(M.act i D t x).2.clock=D.clock∧(M.act i D t x).2.op=x.op∧(x.op=4→(M.act i D t x).2.e=0→(M.act i D t x).2.n=D.clock):=by
 unfold Mc.act;split
 ·rename_i q;exact⟨_,rfl,rfl,rfl,rfl,fun e=>by omega⟩
 split
 ·refine⟨_,rfl,D.ZM t x,D.WW t x,rfl,fun e _=>?_⟩;show(D.act t x).2.1=D.clock;unfold Dm.act;rw[if_neg (by omega),if_neg (by omega),if_neg (by omega),if_pos e]
 rename_i q;split
 ·exact⟨_,rfl,rfl,rfl,rfl,fun e=>by omega⟩
 ·refine⟨(D.xL t x).1,?_,D.ZM t x,D.WW t x,rfl,fun e=>by omega⟩;show(if _ then _ else _:Mc).ds.set _ _=_;split<;>rfl
theorem Mc.y7(M:Mc)(x:En)(hk:x.kind≠1):((M.xL x).1=M∧(M.xL x).2.xI=0)∨∃D t,x.kind=2∧0≤x.xr∧x.xr=M.owner∧M.ds[x.xr.toNat]? =some D∧D.qe x.pick=some t∧M.xL x=M.act x.xr.toNat D t x:=by
 unfold Mc.xL;rw[if_neg hk];split
 ·exact .inl ⟨rfl,rfl⟩
 rename_i q;split
 ·exact .inl ⟨rfl,rfl⟩
 rename_i q2;split
 ·exact .inl ⟨rfl,rfl⟩
 rename_i D hD;split
 ·exact .inl ⟨rfl,rfl⟩
 rename_i t ht;exact .inr ⟨D,t,by omega,by omega,zC q2,hD,ht,rfl⟩
theorem Mc.xf{M N:Mc}(h1:N.sl=M.sl)(h2:N.now=M.now):N.slot=M.slot∧N.owner=M.owner:=by
 have:N.slot=M.slot:=by unfold Mc.slot;rw[h1,h2]
 exact⟨this,by unfold Mc.owner;rw[this,h1]⟩
theorem zs.step(h:wj M a s)(hc:zs start M)(x:En):zs start (M.xL x).1:=by
 by_cases hk:x.kind=1
 ·unfold Mc.xL;rw[if_pos hk];split
  ·exact hc
  ·exact hc.tick h
 rcases M.y7 x hk with⟨e,-⟩|⟨D,t,-,h0,hd,hD,-,e⟩
 ·rw[e];exact hc
 ·rw[e];obtain⟨E,e1,e2,-⟩:=M.y9 x.xr.toNat D t x;obtain⟨-,l2,l3⟩:=M.SR x.xr.toNat D t x;obtain⟨s1,s2⟩:=Mc.xf l2 l3;intro F hF;rw[s2,e1,←hd]at hF;rw[zp (zk.1 hD).1]at hF;cases hF;rw[s1,e2];exact hc D (by rw[←hd];exact hD)
theorem zs.jL(h:wj M a s)(hc:zs start M)(x:En):∀v∈M.jL x,y0 M.sl start v:=by
 intro v hv;unfold Mc.jL at hv;by_cases hk:x.kind=1
 ·rw[if_pos hk]at hv;obtain⟨k,o,-,ho,rfl⟩:=Mc.x7 hv;unfold Mc.xL at ho⊢;rw[if_pos hk]at ho⊢;by_cases hm:M.now=4611686018427387904
  ·rw[if_pos hm,List.drop_length]at ho;cases ho
  ·rw[if_neg hm]at ho⊢;let N:Mc:={M with now:=M.now+1};have hn:M.tick.now=M.now+1:=(Mc.ZB N).2.2.1;obtain⟨q1,q2,q3,q4⟩:=Mc.xz (M:=N) ho;replace q1:(rh M.sl (M.now+1)).2=M.now+1:=q1;have hb:=h.n1;have hb0:=h.n0;have hw:0≤N.owner:=(show wj N a s from⟨h.uu,h.gy,h.own,h.kg,h.sX,by show 0≤M.now+1;omega,by show M.now+1≤_;omega⟩).Yk.elim fun y hy=>by rw[hy.2.1];exact hy.2.2.2.2.1
   refine⟨by show 0≤M.tick.now;rw[hn];omega,by show M.tick.now≤_;rw[hn];omega,?_,?_,?_,?_⟩
   ·show(M.sl.getD (rh M.sl M.tick.now).1.toNat (0,0)).1=(k:Int);rw[hn,q2];show N.owner=(N.owner.toNat:Int);omega
   ·show o.clock=(rh M.sl M.tick.now).2∨_;rw[hn,q1];exact .inl q3
   ·intro _;show M.tick.now=(rh M.sl M.tick.now).2;rw[hn,q1]
   ·intro e4;exfalso;replace e4:o.op=4:=e4;omega
 ·rw[if_neg hk]at hv;rcases M.y7 x hk with⟨-,e⟩|⟨D,t,k2,h0,hd,hD,-,e⟩
  ·rw[if_neg (by omega)]at hv;cases hv
  ·split at hv
   ·rw[yr]at hv;subst hv;rw[e];obtain⟨E,-,-,e3,e4,e5⟩:=M.y9 x.xr.toNat D t x;obtain⟨-,-,l3⟩:=M.SR x.xr.toNat D t x;refine⟨by show 0≤(M.act _ D t x).1.now;rw[l3];exact h.n0,by show(M.act _ D t x).1.now≤_;rw[l3];exact h.n1,?_,?_,?_,?_⟩
    ·show(M.sl.getD (rh M.sl (M.act _ D t x).1.now).1.toNat (0,0)).1=x.xr;rw[l3,hd];rfl
    ·show(M.act _ D t x).2.clock=(rh M.sl (M.act _ D t x).1.now).2∨((M.act _ D t x).2.clock=0∧(rh M.sl (M.act _ D t x).1.now).2<start);rw[l3,e3];exact hc D (by rw[←hd];exact hD)
    ·intro q;exfalso;replace q:x.kind=0:=q;omega
    ·intro q1 q2;show(M.act _ D t x).2.n=(M.act _ D t x).2.clock;rw[e3];exact e5 (by rw[←e4];exact q1) q2
   ·cases hv
theorem zs.wR:∀(l:List En) {M:Mc} {a s:Nat},wj M a s→zs start M→∀v∈M.wR l,y0 M.sl start v
 |[],_,_,_,_,_,v,hv=>by cases hv
 |x::l,M,a,s,h,hc,v,hv=>by
  rcases zB.1 (show v∈M.jL x++Mc.wR (M.xL x).1 l from hv)with hv|hv
  ·exact hc.jL h x v hv
  ·have hsl:(M.xL x).1.sl=M.sl:=by
    by_cases hk:x.kind=1
    ·unfold Mc.xL
     rw[if_pos hk]
     split
     ·rfl
     ·exact(Mc.ZB _).1
    ·rcases M.y7 x hk with⟨e,-⟩|⟨D,t,-,-,-,-,-,e⟩
     ·rw[e]
     ·rw[e];exact(M.SR _ _ _ _).2.1
   rw[←hsl]
   exact zs.wR l (h.xL x) (hc.step h x) v hv
end
end
section
open Go.RowKit Go.WideShapes
def J(L:List (Int×Int)):Nat→List Nat
 |0=>[]
 |n+1=>J L n++List.replicate (L.getD n (0,0)).2.toNat n
def zf(m:Nat):List Bool:=(List.range m).map fun k=>k==0
def R(L:List (Int×Int)):Nat→List Bool
 |0=>[]
 |n+1=>R L n++zf (L.getD n (0,0)).2.toNat
def z6(l:List Bool):List Value:=l.map Value.bool
theorem xe(m:Nat):zf (m+1)=zf m++[m==0]:=by unfold zf;rw[yD,yI];rfl
theorem y4(m:Nat):(zf m).length=m:=by simp[zf]
section
variable {L:List (Int×Int)}
theorem z1(hS:eD L):∀n,n≤L.length→((J L n).length:Int)=pre L n∧(R L n).length=(J L n).length
 |0,_=>⟨rfl,rfl⟩
 |n+1,hn=>by
  obtain⟨q1,q2⟩:=z1 hS n (by omega)
  have hx:L[n]? =some L[n]:=zl (by omega)
  have h1:=(hS.ok _ (List.getElem_mem (l:=L) (n:=n) (by omega))).1
  have e:L.getD n (0,0)=L[n]:=by rw[zn,hx];rfl
  rw[dP hx]
  unfold J R
  rw[e,zr,zr,zz,y4,q2]
  exact⟨by omega,rfl⟩
theorem yy(hS:eD L):∀n,n≤L.length→∀(i k:Nat),i<n→pre L i≤(k:Int)→(k:Int)<pre L (i+1)→(J L n)[k]? =some i∧(R L n)[k]? =some (decide ((k:Int)=pre L i))
 |0,_=>fun i k h=>by omega
 |n+1,hn=>fun i k hi h1 h2=>by
  obtain⟨q1,q2⟩:=z1 hS n (by omega)
  have hx:L[n]? =some L[n]:=zl (by omega)
  have e:L.getD n (0,0)=L[n]:=by rw[zn,hx];rfl
  unfold J R
  rw[e]
  by_cases c:i=n
  ·subst c
   rw[dP hx]at h2
   rw[yu (by omega),yu (by omega),zR,if_pos (by omega),q2]
   refine⟨rfl,?_⟩
   unfold zf
   rw[zx,yM (by omega)]
   show some (_==0)=_
   congr 1
   rw[Bool.eq_iff_iff,beq_iff_eq,decide_eq_true_eq]
   omega
  ·have:=y1 hS (i:=i+1) (j:=n) (by omega) (by omega)
   rw[zF (by omega),zF (by omega)]
   exact yy hS n (by omega) i k (by omega) h1 h2
end
theorem x6(t:Int)(h0:0≤t)(h1:t≤4611686018427387904)(w:World):Calls Tryz.prog 37 #[.i t] w fun e w'=>e=.returned (.i t)∧w=w':=by obtain⟨M,hM⟩:∃M:Int,M=4611686018427387904:=⟨_,rfl⟩;have d0:decide (t<0)=false:=decide_eq_false (by omega);have d1:decide (4611686018427387904<t)=false:=decide_eq_false (by omega);clear h0 h1;go_in;go_wp2_with fail;go_ret;exact⟨rfl,rfl⟩
theorem Tryz.underlying93:Tryz.prog.underlying 93=some (.slice 4):=by kernel_rfl
def z8(w:World)(L:List (Int×Int))(i k:Nat)(v u:Value)(W:World):Prop:=
 ∃γ,Own w W γ∧yR γ 0 3 1 v (J L i++List.replicate k i).length (ints (wo (J L i++List.replicate k i)))∧yR γ 1 4 1 u (R L i++zf k).length (z6 (R L i++zf k))
theorem y8(l:List Nat)(x:Nat):ints (wo l)++[.i (x:Int)]=ints (wo (l++[x])):=by simp[ints,wo]
theorem y3{w:World}{A:Option Addr}{n c:Nat}{L:List (Int×Int)}(hS:eD L)(hl:L.length=n)(hc:n≤c)(hr:dU w A L):Calls Tryz.prog 36 #[.slice A n c] w fun e w'=>∃v u γ,e=.returned (.tuple #[v,u])∧Own w w' γ∧yR γ 0 3 1 v (J L n).length (ints (wo (J L n)))∧yR γ 1 4 1 u (R L n).length (z6 (R L n)):=by
 have o0:=((Own.start w).new 0 (.cells #[] 3)).new 1 (.cells #[] 4);have hz:(w.alloc (.cells #[] 3)).heap.size=w.heap.size+1:=by simp
 rw[hz]at o0;have HI:Hid (z8 w L 0 0 (.slice (zb w.heap.size) 0 0) (.slice (zb (w.heap.size+1)) 0 0) ((w.alloc (.cells #[] 3)).alloc (.cells #[] 4))):=I ⟨_,o0,⟨rfl,.inr ⟨w.heap.size,0,_,rfl,(yO _ _ _ (by omega)).trans (yQ _ _ _ _),zm _,by unfold maxLen;omega,rfl,rfl⟩⟩,⟨rfl,.inr ⟨w.heap.size+1,0,_,rfl,yQ _ _ _ _,zm _,by unfold maxLen;omega,rfl,rfl⟩⟩⟩;have HR:=I hr;have hb:=hS.len;rw[hl]at hb;have HP:Hid (∀j,j<n→∃x:Int,L.getD j (0,0)=((L.getD j (0,0)).1,x)∧1≤x∧x≤16∧(∃g off,A=some (zc g off)∧∀W,Below w.heap.size w W→W.cell? (zc g (off+j*2+1))=some (.i x))∧((J L j).length:Int)≤256∧(R L j).length=(J L j).length):=I fun j hj=>by
  have hx:L[j]? =some L[j]:=zl (by omega);have e:L.getD j (0,0)=L[j]:=by rw[zn,hx];rfl
  obtain⟨g,off,hA,-,hcell⟩:=hr j _ hx;obtain⟨b1,b2⟩:=hS.ok _ (List.getElem_mem (l:=L) (n:=j) (by omega));obtain⟨q1,q2⟩:=z1 hS j (by omega);have:=pM hS j (by omega);exact⟨L[j].2,by rw[e],b1,b2,⟨g,off,hA,fun W hW=>Below.xT hW hcell⟩,by omega,q2⟩
 clear hr hS hl o0 hz;go_in;go_wp2_with fail;generalize(w.alloc (.cells #[] 3)).alloc (.cells #[] 4)=w1 at*;go_loopw [4,5,6] (fun v u i wr=>∃j:Nat,i=.i j∧j≤n∧z8 w L j 0 v u wr) (fun _ _ i _=>1000-(intOf i).toNat);case atStart=>exact⟨0,rfl,by omega,HI.out⟩
 case round=>
  clear HI;obtain⟨j,rfl,hj,γ,o,s1,s2⟩:=hrel;obtain⟨A1,c1,rfl,-⟩:=s1.form;obtain⟨A2,c2,rfl,-⟩:=s2.form;by_cases hlt:j<n
  ·obtain⟨x,hx,x1,x16,⟨g,off,rfl,hcell⟩,hlen,hleq⟩:=HP.out j hlt;have hl1:(j:Int)<n:=by omega
   have hl2:decide ((j:Int)<16)=true:=decide_eq_true (by omega);have dx1:decide (x<1)=false:=decide_eq_false (by omega);have dx2:decide (16<x)=false:=decide_eq_false (by omega);have q0:=hcell wr o.below;have HCE:=I hcell;have HN:Hid (∀v u W,z8 w L j x.toNat v u W→z8 w L (j+1) 0 v u W):=I fun v u W ⟨γ,o,s,s'⟩=>by
    have e:(L.getD j (0,0)).2=x:=by rw[hx]
    refine⟨γ,o,?_,?_⟩
    ·rw[List.replicate_zero,zP];show yR γ 0 3 1 v (J L j++List.replicate (L.getD j (0,0)).2.toNat j).length (ints (wo (J L j++List.replicate (L.getD j (0,0)).2.toNat j)));rw[e];exact s
    ·show yR γ 1 4 1 u (R L j++zf (L.getD j (0,0)).2.toNat++[]).length (z6 (R L j++zf (L.getD j (0,0)).2.toNat++[]));rw[e,zP];exact s'
   have HL:Hid (z8 w L j 0 (.slice A1 (J L j++List.replicate 0 j).length c1) (.slice A2 (R L j++zf 0).length c2) wr):=I ⟨γ,o,s1,s2⟩;clear o s1 s2 hcell hx;generalize(J L j++List.replicate 0 j).length=m1 at*;generalize(R L j++zf 0).length=m2 at*;go_wp2_with fail;go_loopw [4,5,7] (fun v u k wr=>∃m:Nat,k=.i m∧(m:Int)≤x∧z8 w L j m v u wr) (fun _ _ k _=>1000-(intOf k).toNat);case atStart=>exact⟨0,rfl,by omega,HL.out⟩
   case round=>
    clear HL q0;obtain⟨m,rfl,hm,γ,o,s1,s2⟩:=hrel;obtain⟨A1,c1,rfl,-⟩:=s1.form;obtain⟨A2,c2,rfl,-⟩:=s2.form;have q0:=HCE.out wr o.below;by_cases hm0:(m:Int)<x
    ·have d0:decide ((m:Int)<x)=true:=decide_eq_true hm0;have HAP:Hid (∀v u W γ',Own w W γ'→yR γ' 0 3 1 v ((J L j++List.replicate m j).length+1) (ints (wo (J L j++List.replicate m j))++[.i (j:Int)])→yR γ' 1 4 1 u ((R L j++zf m).length+1) (z6 (R L j++zf m)++[.bool ((m:Int)==0)])→z8 w L j (m+1) v u W):=I fun v u W γ' o' s' s''=>by
      have hbe:((m:Int)==0)=(m==0):=by rw[Bool.eq_iff_iff,beq_iff_eq,beq_iff_eq];omega
      rw[hbe]at s'';refine⟨γ',o',?_,?_⟩
      ·rw[List.replicate_succ',←zU,zr,yh,←y8];exact s'
      ·rw[xe,←zU,zr,yh];unfold z6 at s''⊢;rw[yI];exact s''
     have hl1':(J L j++List.replicate m j).length≤300:=by rw[zr,zz];omega
     have hl2':(R L j++zf m).length≤300:=by rw[zr,y4];omega
     generalize(J L j++List.replicate m j).length=l1 at*;generalize(R L j++zf m).length=l2 at*;generalize ints (wo (J L j++List.replicate m j))=x1s at*;generalize z6 (R L j++zf m)=x2s at*;have o2:=o.new 2 (.cells #[.i (j:Int)] 3);have hz2:(put γ 2 wr.heap.size (.cells #[.i (j:Int)] 3)) 2=some (wr.heap.size,.cells #[.i (j:Int)] 3 (0,0)):=yQ _ _ _ _;have HR1:=I (eI (m:=1) (xs:=[.i (j:Int)]) o2 hz2 rfl (by intro u hu;simp at hu;subst hu;rfl));have HS1:=I (s1.keep (γ':=put γ 2 wr.heap.size (.cells #[.i (j:Int)] 3)) (yO _ _ _ (by omega)));have HS2:=I (s2.keep (γ':=put γ 2 wr.heap.size (.cells #[.i (j:Int)] 3)) (yO _ _ _ (by omega)));have HO:=I o2;clear o s1 s2 o2 hz2 hlen hleq;go_wp2_with (at_builtin;refine xG rfl (.tmp 43) (.tmp 45) 61 rfl 3 _ 1 8 Tryz.underlying61 Tryz.tF rfl (by decide) HO.out HS1.out rfl HR1.out rfl ?_ ?_ ?_)
     ·unfold maxLen;omega
     ·omega
     intro A3 c3 w3 γ3 hA3 o3 s3 k3;have o4:=o3.new 2 (.cells #[.bool ((m:Int)==0)] 4);have hz4:(put γ3 2 w3.heap.size (.cells #[.bool ((m:Int)==0)] 4)) 2=some (w3.heap.size,.cells #[.bool ((m:Int)==0)] 4 (0,0)):=yQ _ _ _ _;have HR2:=I (eI (m:=1) (xs:=[.bool ((m:Int)==0)]) o4 hz4 rfl (by intro u hu;simp at hu;subst hu;rfl));have HS3:=I (s3.keep (γ':=put γ3 2 w3.heap.size (.cells #[.bool ((m:Int)==0)] 4)) (yO _ _ _ (by omega)));have HS4:=I ((HS2.out.keep (γ':=γ3) (k3 1 (by omega))).keep (γ':=put γ3 2 w3.heap.size (.cells #[.bool ((m:Int)==0)] 4)) (yO _ _ _ (by omega)));have HO4:=I o4;clear o3 s3 k3 o4 hz4 HS1 HS2 HR1 HO hA3;go_wp2_with (at_builtin;refine xG rfl (.tmp 47) (.tmp 50) 93 rfl 4 _ 1 1 Tryz.underlying93 Tryz.Om rfl (by decide) HO4.out HS4.out rfl HR2.out rfl ?_ ?_ ?_)
     ·unfold maxLen;omega
     ·omega
     intro A5 c5 w5 γ5 hA5 o5 s5 k5;have HF:=I (HAP.out _ _ _ _ o5 (HS3.out.keep (k5 0 (by omega))) s5);clear o5 s5 k5 HS3 HS4 HR2 HO4 hA5 HAP;go_wp2_with fail;go_roundw;case rel=>exact⟨m+1,by simp,by omega,HF.out⟩
     case measure=>simp[intOf];omega
    ·have d0:decide ((m:Int)<x)=false:=decide_eq_false hm0;have hmm:x.toNat=m:=by omega
     rw[hmm]at HN;have HF:=I (HN.out _ _ _ ⟨γ,o,s1,s2⟩);generalize(J L j++List.replicate m j).length=l1 at*;generalize(R L j++zf m).length=l2 at*;clear o s1 s2 HN;go_wp2_with fail;go_roundw;case rel=>exact⟨j+1,by simp,by omega,HF.out⟩
     case measure=>simp[intOf];omega
  ·obtain rfl:j=n:=by omega
   rw[List.replicate_zero,zP]at s1;rw[show zf 0=[]from rfl,zP]at s2;have dl:decide ((j:Int)<j)=false:=by simp
   have HF:Hid (∃v u γ,Ending.returned (.tuple #[.slice A1 (J L j++List.replicate 0 j).length c1,.slice A2 (R L j++zf 0).length c2])=.returned (.tuple #[v,u])∧Own w wr γ∧yR γ 0 3 1 v (J L j).length (ints (wo (J L j)))∧yR γ 1 4 1 u (R L j).length (z6 (R L j))):=by rw[List.replicate_zero,zP,show zf 0=[]from rfl,zP];exact I ⟨_,_,γ,rfl,o,s1,s2⟩
   clear o s1 s2;go_wp2_with fail;go_ret2;exact HF.out
theorem wb{w:World}{A:Option Addr}{n c:Nat}{L:List (Int×Int)}(hS:eD L)(hl:L.length=n)(hc:n≤c)(hr:dU w A L):Calls Tryz.prog 23 #[.slice A n c] w fun e w'=>e=.returned (.i (pre L L.length))∧Below w.heap.size w w':=by have HO:=I (y3 hS hl hc hr);have HL:Hid (((J L n).length:Int)=pre L L.length):=I (by rw[←hl];exact(z1 hS L.length (zm _)).1);clear hS hl hc hr;generalize pre L L.length=cy at*;go_in;go_wp2_with fail;refine HO.out.mono ?_;rintro e w' ⟨v,u,γ,rfl,o,s1,s2⟩;have HB:=I o.below;obtain⟨A1,c1,rfl,-⟩:=s1.form;obtain⟨A2,c2,rfl,-⟩:=s2.form;clear o s1 s2;generalize(R L n).length=m2 at*;have h1:=HL.out;generalize(J L n).length=m1 at*;clear h1;go_wp2_with fail;go_ret;exact⟨by rw[←HL.out];rfl,HB.out⟩
theorem wa{w:World}{A:Option Addr}{n c:Nat}{L:List (Int×Int)}(hS:eD L)(h0:0<L.length)(hl:L.length=n)(hc:n≤c)(hr:dU w A L)(t:Int)(ht0:0≤t)(ht1:t≤4611686018427387904):Calls Tryz.prog 22 #[.slice A n c,.i t] w fun e w'=>e=.returned (.tuple #[.i (rh L t).1,.i (rh L t).2])∧Below w.heap.size w w':=by
 have HO:=I (y3 hS hl hc hr);obtain⟨q1,q2⟩:=z1 hS L.length (zm _);have hpb:=pM hS L.length (zm _);have h16:=hS.len;obtain⟨i,i1,i2,i3,i4⟩:=ys hS h0 t;have hb1:pre L L.length≤256:=by omega
 have hb0:1≤pre L L.length:=by omega
 have hk0:0≤t%pre L L.length:=Int.emod_nonneg _ (by omega);have hk1:t%pre L L.length<pre L L.length:=Int.emod_lt_of_pos _ (by omega);have hp0:0≤pre L i:=by have:=(pM hS i (by omega)).1;omega
 obtain⟨k,hk⟩:∃k:Nat,t%pre L L.length=k:=⟨(t%pre L L.length).toNat,by omega⟩;obtain⟨p,hp⟩:∃p:Nat,pre L i=p:=⟨(pre L i).toNat,by omega⟩;have hdiv:t-k+p=(rh L t).2:=by rw[i2,hk,hp]
 have hwho:Hid ((J L n)[k]? =some i):=by rw[←hl];exact I (yy hS L.length (zm _) i k i1 (by omega) (by omega)).1
 have hfst:Hid (∀m:Nat,m≤k-p→(R L n)[k-m]? =some (decide (k-m=p))):=by rw[←hl];refine I fun m hm=>?_;rw[(yy hS L.length (zm _) i (k-m) i1 (by omega) (by omega)).2,hp];congr 1;rw[Bool.eq_iff_iff,decide_eq_true_eq,decide_eq_true_eq];omega
 have hpk:p≤k:=by omega
 obtain⟨cy,hcy⟩:∃cy:Nat,(J L L.length).length=cy:=⟨_,rfl⟩;rw[hcy]at q1 q2;rw[←q1]at hk hk1 hb1 hb0;have htm:Hid (t.tmod (cy:Int)=k):=I (by rw[Int.tmod_eq_emod_of_nonneg ht0];exact hk);have hkc:k<cy:=by omega
 have hcy1:cy≤256:=by omega
 have hcyn:(J L n).length=cy:=by rw[←hl];exact hcy
 have hcyf:(R L n).length=cy:=by rw[←hl];exact q2
 have e1:(rh L t).1=i:=by rw[i2]
 have HE:Hid ((rh L t).1=i∧(rh L t).2=t-k+p):=I ⟨e1,hdiv.symm⟩;have HT:=I (x6 t ht0 ht1);have HX:Hid (i<16∧p≤k∧k≤256∧t≤4611686018427387904):=I ⟨by omega,by omega,by omega,ht1⟩;rw[HE.out.1,HE.out.2];clear HE e1 hdiv i1 i2 i3 i4 hS h0 hl hc hr q1 q2 hpb h16 hk hk0 hk1 hp hp0 hcy hb0 hb1 ht1;have dz:((cy:Int)==0)=false:=by simp;omega
 go_in;go_wp2_with fail;refine HO.out.mono ?_;rintro e w2 ⟨v,u,γ,rfl,o,s1,s2⟩;rw[hcyn]at s1;rw[hcyf]at s2;obtain⟨g1,c1,rfl,-,r1⟩:=s1.row o (by omega);obtain⟨g2,c2,rfl,-,r2⟩:=s2.row o (by omega);have HB:=I o.below;have RW:Hid (w2.cell? (zc g1 k)=some (.i (i:Int))):=I (r1 k _ (by unfold ints wo;rw[zx,zx,hwho.out];rfl));have RF:Hid (∀m:Nat,m≤k-p→w2.cell? (zc g2 (k-m))=some (.bool (decide (k-m=p)))):=I fun m hm=>r2 _ _ (by unfold z6;rw[zx,hfst.out m hm];rfl);clear o s1 s2 r1 r2 HO hcyn hcyf hwho hfst;go_wp2_with fail;refine(HT.out _).mono ?_;rintro e w3 ⟨rfl,rfl⟩;have htm':=htm.out;clear HT;have hc0:(cy:Int)≠0:=by omega
 go_wp2_with fail;clear htm' dz hc0;go_loopw [9] (fun v wr=>∃m:Nat,v=.i m∧m≤k-p∧Below w2.heap.size w2 wr) (fun v _=>1000-(intOf v).toNat);case atStart=>exact⟨0,rfl,by omega,Below.refl _ _⟩
 case round=>
  obtain⟨m,rfl,hm,hb⟩:=hrel;obtain⟨x1,x2,x3,x4⟩:=HX.out;have hsub:(k:Int)-(m:Int)=((k-m:Nat):Int):=by omega
  have hkm:k-m<cy:=by omega
  have f0:=Below.xT hb (RF.out m hm);by_cases he:k-m=p
  ·have f1:wr.cell? (zc g2 p)=some (.bool true):=by rw[←he,f0,decide_eq_true he]
   have f2:=Below.xT hb RW.out;have HF:Hid (Below w.heap.size w wr):=I (HB.out.trans (hb.mono HB.out.size));have hpm:Hid (t-(m:Int)=t-k+p):=I (by omega);rw[he]at hsub hkm;clear f0 hb HB RW RF HX he;go_wp2_with fail;go_ret2;exact⟨by rw[←hpm.out];rfl,HF.out⟩
  ·have f1:wr.cell? (zc g2 (k-m))=some (.bool false):=by rw[f0,decide_eq_false he]
   have HF:=I hb;have hm1:m+1≤k-p:=by omega
   clear f0 hb HB RW RF HX;generalize hq:k-m=q at*;go_wp2_with fail;go_roundw;case rel=>exact⟨m+1,by simp,hm1,HF.out⟩
   case measure=>simp[intOf];omega
end
section
open Go.RowKit Go.WideShapes
theorem x8(d k xd xp xo xa xb xc t cl o e n m tk:Int)(w:World):Calls Tryz.prog 13 #[.agg #[.i d,.i k,.i xd,.i xp,.i xo,.i xa,.i xb,.i xc,.i t,.i cl,.i o,.i e,.i n,.i m,.i tk]] w fun e w'=>e=.returned (.bool (k==0))∧Below w.heap.size w w':=by have hb:Below w.heap.size w (w.alloc (.cells #[.i d,.i k,.i xd,.i xp,.i xo,.i xa,.i xb,.i xc,.i t,.i cl,.i o,.i e,.i n,.i m,.i tk] 43)):=(Below.refl _ _).alloc (zm _) _;have HB:=I hb;clear hb;go_in;go_wp2_with fail;go_ret;exact⟨rfl,HB.out⟩
theorem x9(w:World)(d k xd xp xo xa xb xc t cl o e n m tk:Int):∀W,Below (w.alloc (.cells #[.i d,.i k,.i xd,.i xp,.i xo,.i xa,.i xb,.i xc,.i t,.i cl,.i o,.i e,.i n,.i m,.i tk] 43)).heap.size (w.alloc (.cells #[.i d,.i k,.i xd,.i xp,.i xo,.i xa,.i xb,.i xc,.i t,.i cl,.i o,.i e,.i n,.i m,.i tk] 43)) W→Below w.heap.size w W∧W.cell? (zc w.heap.size 0)=some (.i d)∧W.cell? (zc w.heap.size 1)=some (.i k)∧W.cell? (zc w.heap.size 2)=some (.i xd)∧W.cell? (zc w.heap.size 3)=some (.i xp)∧W.cell? (zc w.heap.size 4)=some (.i xo)∧W.cell? (zc w.heap.size 5)=some (.i xa)∧W.cell? (zc w.heap.size 6)=some (.i xb)∧W.cell? (zc w.heap.size 7)=some (.i xc)∧W.cell? (zc w.heap.size 8)=some (.i t)∧W.cell? (zc w.heap.size 9)=some (.i cl)∧W.cell? (zc w.heap.size 10)=some (.i o)∧W.cell? (zc w.heap.size 11)=some (.i e)∧W.cell? (zc w.heap.size 12)=some (.i n)∧W.cell? (zc w.heap.size 13)=some (.i m)∧W.cell? (zc w.heap.size 14)=some (.i tk):=fun W hW=>by have q:=yQ (fun _=>none) 0 w.heap.size (.cells #[.i d,.i k,.i xd,.i xp,.i xo,.i xa,.i xb,.i xc,.i t,.i cl,.i o,.i e,.i n,.i m,.i tk] 43);have o2:=((Own.start w).new 0 _).xh hW;exact⟨o2.below,o2.cell q rfl,o2.cell q rfl,o2.cell q rfl,o2.cell q rfl,o2.cell q rfl,o2.cell q rfl,o2.cell q rfl,o2.cell q rfl,o2.cell q rfl,o2.cell q rfl,o2.cell q rfl,o2.cell q rfl,o2.cell q rfl,o2.cell q rfl,o2.cell q rfl⟩
end
section
open Go.RowKit Go.WideShapes Go.ChangeMaps
theorem x5{D:List Dv}{S:List (Int×Int)}{L:List Lk}{start:Int}(h:uI D S L start=0)(l:List En):eD S∧0<S.length∧(∀v∈(tZ D S L start).wR l,y0 S start v):=by
 unfold uI at h;split at h
 ·rename_i q;exact absurd h q
 rename_i q;split at h
 ·cases h
 have hP:=po.of (by simpa using q);have h0:=wj.start hP (start:=start) (by omega) (by omega);have hc:zs start (tZ D S L start):=zs.init h0 rfl fun E hE=>by obtain⟨d,-,rfl⟩:=yc.1 (show E∈D.map Dv.new from hE);rfl
 have hs:(tZ D S L start).sl=S:=(Mc.ZB _).1;refine⟨h0.uu,h0.gy,fun v hv=>?_⟩;have:=hc.wR l h0.rQ v hv;replace this:y0 (tZ D S L start).sl start v:=this;rwa[hs]at this
theorem y5{w:World}{DA SA PA:Option Addr}{nd dc ns sc pn pc:Nat}{D:List Dv}{S:List (Int×Int)}{L:List Lk}(h:tE w DA SA PA nd dc ns sc pn pc D S L)(start:Int){A:Option Addr}{len cap:Nat}{f:Nat→En}(hs:jc w A len cap f):Calls Tryz.prog 6 #[.agg #[.slice DA nd dc,.slice SA ns sc,.slice PA pn pc],.i start,.slice A len cap] w fun e w'=>e=.returned (.bool true)∧Below w.heap.size w w':=by
 have hb1:Below w.heap.size w (w.alloc (.cells #[.slice DA nd dc,.slice SA ns sc,.slice PA pn pc] 26)):=(Below.refl _ _).alloc (zm _) _;have hsp:=OX (hs.below hb1) 80 (by omega);have hok:=hs.Uz (xE:=80) (by omega);have HP:Hid (∀W,Below w.heap.size w W→tE W DA SA PA nd dc ns sc pn pc D S L):=I fun W hW=>h.below hW;have HOK:=I hok;have HSP:=I hsp;generalize hl:Uz f len 80=l at*;have HB1:=I (NF w (.slice DA nd dc) (.slice SA ns sc) (.slice PA pn pc));have hel:=NE D S L start hok;have HCK:Hid (uI D S L start=0→eD S∧0<S.length∧∀v∈(VO D S L start l).2,y0 S start v):=I fun hE=>by obtain⟨q1,q2,q3⟩:=x5 hE l;refine⟨q1,q2,fun v hv=>q3 v ?_⟩;unfold VO at hv;rwa[if_pos hE]at hv
 have HBB:Hid ((VO D S L start l).1=decide (uI D S L start=0)):=I (by
  unfold VO;split
  ·rename_i q;exact(decide_eq_true q).symm
  ·rename_i q;exact(decide_eq_false q).symm);have HSP2:Hid (∀W,Below (w.alloc (.cells #[.slice DA nd dc,.slice SA ns sc,.slice PA pn pc] 26)).heap.size (w.alloc (.cells #[.slice DA nd dc,.slice SA ns sc,.slice PA pn pc] 26)) W→Calls Tryz.prog 11 #[.slice A len cap,.i 80] W fun e w'=>∃v,e=.returned v∧Below W.heap.size W w'∧je En.yV 7 w' v l):=I fun W hW=>by have:=OX ((hs.below hb1).below hW) 80 (by omega);rwa[hl]at this
 clear h hs hsp hok hb1 hl HSP;generalize hw1:w.alloc (.cells #[.slice DA nd dc,.slice SA ns sc,.slice PA pn pc] 26)=w1 at*;have HW1:=I hw1;clear hw1;go_in;go_wp2_with fail;rw[HW1.out];have HD1:Hid (Below w1.heap.size w1 w1.drew):=I (Below.refl _ _).drew;refine yP.region [0,1,2] (.step 3 (.step 4 (.step 5 (.step 6 (.step 7 (.step 8 (.step 9 .done))))))) (fun w'=>Below w1.heap.size w1 w') (by kernel_rfl) (by kernel_rfl) (fun _ _ _ _ _ h=>h) HD1.out ?_;repeat
  refine Perm.xm rfl ?_ (fun w' hS=>?_) ?_;rotate_left
  ·(obtain⟨-,c0,c1,c2⟩:=HB1.out _ hS;clear hS;go_simp;try with_reducible rfl)
  simp only[pt]
 refine Perm.xt ?_;refine yP.yY rfl (by rfl) ?_;refine yP.xJ rfl 11 _ _ rfl (by kernel_rfl) _ rfl ((HSP2.out _ HD1.out).mono ?_);rintro e w2 ⟨vl,rfl,hb2,hrd2⟩;have HB2:Hid (Below w1.heap.size w1 w2):=I (HD1.out.trans (hb2.mono HD1.out.size));refine⟨_,rfl,fun _ _=>HB2.out,?_⟩;simp only[pt];refine yP.yY rfl (by rfl) ?_;refine yP.xJ rfl 10 _ _ rfl (by kernel_rfl) _ rfl ((OW (HP.out w2 (HB1.out w2 HB2.out).1) start HOK.out hrd2).mono ?_);rintro e w3 ⟨va,rfl,hb3,hra⟩;have HB3:Hid (Below w1.heap.size w1 w3):=I (HB2.out.trans (hb3.mono HB2.out.size));refine⟨_,rfl,Perm.xx (by kernel_rfl),?_⟩;simp only[pt];repeat
  refine yP.xA rfl (by rfl) ?_ (fun w'=>?_) ?_;rotate_left
  ·(go_simp;try with_reducible rfl)
  simp only[pt]
 refine yP.xC ?_;rw[HBB.out];have HRA:=I hra;obtain⟨AA,ca,rfl,-,-⟩:=hra;obtain⟨-,d0,d1,d2⟩:=HB1.out w3 HB3.out;clear hb2 hb3 hrd2 HSP2 HD1 HB2;generalize(VO D S L start l).2=wR at*;obtain⟨n,hn⟩:∃n,wR.length=n:=⟨_,rfl⟩;have HN:=I hn;rw[hn]at hel⊢;clear hn HBB HOK;by_cases hE:uI D S L start=0
 ·obtain⟨hS,hS0,hclk⟩:=HCK.out hE;have HCLK:=I hclk;rw[decide_eq_true hE];have HAT:Hid (∀W,Below w.heap.size w W→∀t:Int,0≤t→t≤4611686018427387904→Calls Tryz.prog 22 #[.slice SA ns sc,.i t] W fun e w'=>e=.returned (.tuple #[.i (rh S t).1,.i (rh S t).2])∧Below W.heap.size W w'):=I fun W hW t h0 h1=>wa hS hS0 (HP.out W hW).sl (HP.out W hW).sc (HP.out W hW).sr t h0 h1;have HIX:Hid (∀t:Int,∃i:Nat,(rh S t).1=i∧i<ns∧∃g off,SA=some (zc g off)∧∀W,Below w.heap.size w W→W.cell? (zc g (off+i*2))=some (.i (S.getD i (0,0)).1)):=I fun t=>by
   obtain⟨q1,q2⟩:=Qo S t hS0;have hsl:=(HP.out w (Below.refl _ _)).sl;have hi:(rh S t).1.toNat<S.length:=by omega
   obtain⟨g,off,e,c0,-⟩:=(HP.out w (Below.refl _ _)).sr _ _ (zl hi);refine⟨(rh S t).1.toNat,by omega,by omega,g,off,e,fun W hW=>?_⟩;rw[zn,zl hi];exact Below.xT hW c0
  have HNS:Hid (ns≤16):=I (by rw[←(HP.out w (Below.refl _ _)).sl];exact hS.len);clear hS hS0 hclk hE HCK HP;go_wp2_with fail;go_loopw [9] (fun i wr=>∃j:Nat,i=.i j∧j≤n∧Below w1.heap.size w1 wr∧Below w3.heap.size w3 wr) (fun i _=>n-(intOf i).toNat);case atStart=>exact⟨0,rfl,by omega,HB3.out,Below.refl _ _⟩
  case round=>
   clear d0 d1 d2;obtain⟨j,rfl,hj,hb,hb'⟩:=hrel;by_cases hlt:j<n
   ·have hlt':(j:Int)<n:=by omega
    have dl:decide ((j:Int)<n)=true:=decide_eq_true hlt';obtain⟨x,hx⟩:∃x,wR[j]? =some x:=⟨wR[j]'(by rw[HN.out];exact hlt),zl (by rw[HN.out];exact hlt)⟩;obtain⟨A1,c1,e1,-,h1⟩:=HRA.out.below hb';cases e1;obtain⟨g1,rfl,r1⟩:=h1 j x hx;obtain⟨p0,p1,p2,p3,p4,p5,p6,p7,p8,p9,p10,p11,p12,p13,p14⟩:=Ev.row r1;have hck:=HCLK.out x (zo hx);obtain⟨k0,k1,k2,k3,k4,k5⟩:=hck;obtain⟨i,hi,hin,gs,off,rfl,hcs⟩:=HIX.out x.tick;rw[hi,zu]at k2;rw[k2]at hcs;have hbw:=(HB1.out _ hb).1;have hat:=fun W (hW:Below w.heap.size w W)=>HAT.out W hW x.tick k0 k1;rw[hi]at hat;obtain⟨vd,⟨vk,vy,vp,vo,va,vb,vc⟩,⟨vt,vl,vq,ve,vn,vm⟩,vu⟩:=x;simp only at p0 p1 p2 p3 p4 p5 p6 p7 p8 p9 p10 p11 p12 p13 p14 k0 k1 k2 k3 k4 k5 hat hi hcs;generalize(rh S vu).2=fr at*;have HAT1:=I hat;have HCS:=I hcs;have HEB:=I (x9 wr vd vk vy vp vo va vb vc vt vl vq ve vn vm vu);have q1:((vl != fr)=false)∨((vl != fr)=true∧(vl != 0)=false∧decide (start≤fr)=false):=by
     rcases k3 with e|⟨e1,e2⟩
     ·exact .inl (by simp[e])
     ·by_cases e:vl=fr
      ·exact .inl (by simp[e])
      ·exact .inr ⟨by simpa using e,by simp[e1],decide_eq_false (by omega)⟩
    have q2:((vk==0)=false)∨((vk==0)=true∧(vu != fr)=false):=by
     by_cases e:vk=0
     ·exact .inr ⟨by simpa using e,by simp;exact k4 e⟩
     ·exact .inl (by simpa using e)
    have q3:((vq==4)=false)∨((vq==4)=true∧(ve==0)=false)∨((vq==4)=true∧(ve==0)=true∧(vn != vl)=false):=by
     by_cases e:vq=4
     ·by_cases e2:ve=0
      ·exact .inr (.inr ⟨by simpa using e,by simpa using e2,by simp;exact k5 e e2⟩)
      ·exact .inr (.inl ⟨by simpa using e,by simpa using e2⟩)
     ·exact .inl (by simpa using e)
    have di:decide ((i:Int)<0)=false:=decide_eq_false (by omega);have hin':(i:Int)<ns:=by omega
    have HB:=I hb;have HBP:=I hb';have hn16:=HNS.out;obtain⟨hbw0,c0,c1,c2⟩:=HB1.out wr hb;have hlt0:w.heap.size<wr.heap.size:=World.block_lt_of_cell? _ _ c1;have hne0:w.heap.size≠wr.heap.size:=by omega
    clear h1 r1 hx hb hb' k0 k1 k2 k3 k4 k5 hat hcs hi hbw HAT HIX HCLK;go_wp2_with fail;generalize hwe:wr.alloc (.cells #[.i vd,.i vk,.i vy,.i vp,.i vo,.i va,.i vb,.i vc,.i vt,.i vl,.i vq,.i ve,.i vn,.i vm,.i vu] 43)=we at*;have HWE:=I hwe;have HBE:Hid (Below w1.heap.size w1 we):=I (by rw[←hwe];exact HB.out.alloc HB.out.size _);have HBE':Hid (Below wr.heap.size wr we):=I (by rw[←hwe];exact(Below.refl _ _).alloc (zm _) _);clear hwe p0 p1 p2 p3 p4 p5 p6 p7 p8 p9 p10 p11 p12 p13 p14 c0 c1 c2;have HAT2:=I (HAT1.out we (HB1.out we HBE.out).1);clear HAT1 hbw0 hlt0 hne0;refine HAT2.out.mono ?_;rintro e w4 ⟨rfl,hb4⟩;have HB4:Hid (Below w1.heap.size w1 w4):=I (HBE.out.trans (hb4.mono HBE.out.size));have HB4':Hid (Below wr.heap.size wr w4):=I (HBE'.out.trans (hb4.mono HBE'.out.size));have HB4e:=I hb4;clear HAT2 hb4;have HD4:Hid (Below w4.heap.size w4 w4.drew):=I (Below.refl _ _).drew;have hne0:Nonempty (qz (fun W=>Below w4.heap.size w4 W)):=⟨⟨_,HD4.out⟩⟩;have hcall:∀X:qz (fun W=>Below w4.heap.size w4 W),Calls Tryz.prog 13 #[.agg #[.i vd,.i vk,.i vy,.i vp,.i vo,.i va,.i vb,.i vc,.i vt,.i vl,.i vq,.i ve,.i vn,.i vm,.i vu]] X.world fun e w''=>e=.returned (.bool (vk==0))∧∃y:qz (fun W=>Below w4.heap.size w4 W),w''=y.world:=fun X=>ZI ((x8 vd vk vy vp vo va vb vc vt vl vq ve vn vm vu X.world).mono fun e w'' ⟨a1,a2⟩=>⟨a1,X.ok.trans (a2.mono X.ok.size)⟩);have hXe:=fun(X:qz (fun W=>Below w4.heap.size w4 W))=>HEB.out X.world (HB4e.out.trans (X.ok.mono HB4e.out.size));have hX1:=fun(X:qz (fun W=>Below w4.heap.size w4 W))=>HB1.out X.world (HB4.out.trans (X.ok.mono HB4.out.size));have c1:=fun X=>(hX1 X).2.2.1;have cs:=fun X=>HCS.out X.world (hX1 X).1;have p0:=fun X=>(hXe X).2.1;have p1:=fun X=>(hXe X).2.2.1;have p2:=fun X=>(hXe X).2.2.2.1;have p3:=fun X=>(hXe X).2.2.2.2.1;have p4:=fun X=>(hXe X).2.2.2.2.2.1;have p5:=fun X=>(hXe X).2.2.2.2.2.2.1;have p6:=fun X=>(hXe X).2.2.2.2.2.2.2.1;have p7:=fun X=>(hXe X).2.2.2.2.2.2.2.2.1;have p8:=fun X=>(hXe X).2.2.2.2.2.2.2.2.2.1;have p9:=fun X=>(hXe X).2.2.2.2.2.2.2.2.2.2.1;have p10:=fun X=>(hXe X).2.2.2.2.2.2.2.2.2.2.2.1;have p11:=fun X=>(hXe X).2.2.2.2.2.2.2.2.2.2.2.2.1;have p12:=fun X=>(hXe X).2.2.2.2.2.2.2.2.2.2.2.2.2.1;have p13:=fun X=>(hXe X).2.2.2.2.2.2.2.2.2.2.2.2.2.2.1;have p14:=fun X=>(hXe X).2.2.2.2.2.2.2.2.2.2.2.2.2.2.2;clear hXe hX1;rcases q1 with q1|⟨q1,q1',q1''⟩;all_goals rcases q2 with q2|⟨q2,q2'⟩
    all_goals
     simp only[q2]at hcall;go_wp2_with fail;refine tJ (fun W=>Below w4.heap.size w4 W) (by kernel_rfl) (by kernel_rfl) HD4.out ?_;repeat(go_big_quiet_step (exact hcall _))
     refine wpQuiet_nil ?_;rintro W1 ⟨X,hX⟩;have b1:Below w4.heap.size w4 W1:=by rw[hX];exact X.ok
     clear hX hcall c1 cs p0 p1 p2 p3 p4 p5 p6 p7 p8 p9 p10 p11 p12 p13 p14;clear X hne0;obtain⟨-,-,-,-,-,-,-,-,-,-,z9,z10,z11,z12,-,-⟩:=HEB.out W1 (HB4e.out.trans (b1.mono HB4e.out.size));have HF:Hid (Below w1.heap.size w1 W1∧Below w3.heap.size w3 W1):=I ⟨HB4.out.trans (b1.mono HB4.out.size),HBP.out.trans ((HB4'.out.trans (b1.mono HB4'.out.size)).mono HBP.out.size)⟩;clear b1;rcases q3 with q3|⟨q3,q3'⟩|⟨q3,q3',q3''⟩;all_goals
      go_wp2_with fail;go_roundw;case rel=>exact⟨j+1,by simp,by omega,HF.out⟩
      case measure=>simp[intOf];omega
   ·obtain rfl:j=n:=by omega
    have dl:decide ((j:Int)<j)=false:=by simp
    have HB:=I hb;clear hb hb';go_wp2_with fail;refine(NA _).mono ?_;rintro e w5 ⟨rfl,hb5⟩;have HF:Hid (Below w.heap.size w w5):=I ((HB1.out _ HB.out).1.trans (hb5.mono (HB1.out _ HB.out).1.size));clear hb5;go_wp2_with fail;go_ret;exact⟨rfl,HF.out⟩
 ·rw[decide_eq_false hE];clear HCK hE HP;go_wp2_with fail;go_loopw [9] (fun i wr=>i=.i 0∧Below w1.heap.size w1 wr) (fun i _=>0);case atStart=>exact⟨rfl,HB3.out⟩
  case round=> clear d0 d1 d2;obtain⟨rfl,hb⟩:=hrel;have HB:=I hb;clear hb;go_wp2_with fail;refine(NA _).mono ?_;rintro e w5 ⟨rfl,hb5⟩;have HF:Hid (Below w.heap.size w w5):=I ((HB1.out _ HB.out).1.trans (hb5.mono (HB1.out _ HB.out).1.size));clear hb5;go_wp2_with fail;go_ret;exact⟨rfl,HF.out⟩
theorem x0(a:Int)(A:Option Addr)(len cap:Nat)(w:World){DA SA PA:Option Addr}{nd dc ns sc pn pc:Nat}{D:List Dv}{S:List (Int×Int)}{L:List Lk}(h:tE w DA SA PA nd dc ns sc pn pc D S L)(_:(Lit.int .i64 a).wf=true)(hr:RowsIn w A len cap Pt):Calls Tryz.prog 6 #[.agg #[.slice DA nd dc,.slice SA ns sc,.slice PA pn pc],.i a,.slice A len cap] w fun e w'=>e=.returned (.bool true)∧Below w.heap.size w w':=by obtain⟨f,hs⟩:=Nw hr;exact y5 h a hs
end
end Go.Proofs.YtkmamlifgbocgaaGreat
