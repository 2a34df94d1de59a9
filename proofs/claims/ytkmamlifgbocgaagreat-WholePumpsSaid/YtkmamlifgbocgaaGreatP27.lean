/- What the program's code does, as contracts, and what follows of it, part 27: for the law's proof. -/
import Derived.Test.YtkmamlifgbocgaaGreatP00
import Derived.Test.YtkmamlifgbocgaaGreatP23
import Derived.Test.YtkmamlifgbocgaaGreatP26
set_option linter.unusedVariables false
set_option linter.unusedSimpArgs false
set_option maxRecDepth 100000
set_option maxHeartbeats 16000000
namespace Go.Proofs.YtkmamlifgbocgaaGreat
section
open Go.RowKit Go.WideShapes Go.ChangeMaps
structure Mc where
 sl:List (Int×Int)
 ds:List Dm
 ln:LS
 now:Int
def Mc.slot(M:Mc):Int×Int:=rh M.sl M.now
def Mc.owner(M:Mc):Int:=(M.sl.getD M.slot.1.toNat (0,0)).1
def Mc.rQ(M:Mc):Mc:=if M.slot.2=M.now then{M with ds:=M.ds.modify M.owner.toNat fun D=>D.begin M.now}else M
def Mc.tick(M:Mc):Mc:={M with now:=M.now+1}.rQ
def xN.err(e:Int):xN:=⟨0,0,0,e,0,0⟩
def Mc.wX(M:Mc)(i:Nat)(D:Dm):Mc:={M with ds:=M.ds.set i D}
def Mc.uV(M:Mc)(s:LS):Mc:={M with ln:=s}
def Mc.act(M:Mc)(i:Nat)(D:Dm)(t:Int)(x:En):Mc×xN:=
 if 27≤x.op∧x.op≤34 then
  let r:=qE M.ln x.xr t x.op x.a x.b x.c
  ((M.uV r.2.2.2).wX i (D.tell t x r.1 r.2.1 r.2.2.1).1,(D.tell t x r.1 r.2.1 r.2.2.1).2)
 else if x.op≠2 then(M.wX i (D.xL t x).1,(D.xL t x).2)
 else if tC M.ln x.xr t=true then(M.wX i (D.tell t x 11 0 0).1,(D.tell t x 11 0 0).2)
 else((if(D.xL t x).2.e=0 then M.uV {M.ln with f:=vH M.ln.f x.xr t}else M).wX i (D.xL t x).1,(D.xL t x).2)
def Mc.xL(M:Mc)(x:En):Mc×xN:=
 if x.kind=1 then(if M.now=4611686018427387904 then(M,xN.err 13)else(M.tick,xN.err 0))
 else if x.kind≠2∨x.xr<0∨(M.ds.length:Int)≤x.xr then(M,xN.err 1)
 else if x.xr≠M.owner then(M,xN.err 5)
 else match M.ds[x.xr.toNat]? with
  |none=>(M,xN.err 1)
  |some D=>match D.qe x.pick with
   |none=>(M,xN.err 6)
   |some t=>M.act x.xr.toNat D t x
theorem Qo(L:List (Int×Int))(t:Int)(hL:0<L.length):0≤(rh L t).1∧(rh L t).1<L.length:=by
 have key:∀n,n≤L.length→0≤(qR L t (List.range n)).1∧(qR L t (List.range n)).1<L.length:=by
  intro n;induction n with
  |zero=>intro _;exact⟨Int.le_refl _,by show(0:Int)<L.length;omega⟩
  |succ n ih=>
   intro hn;have:=ih (by omega);unfold qR at this⊢;rw[yD,yq,List.foldl_cons,List.foldl_nil];unfold fF;split
   ·exact⟨by simp,by simp;omega⟩
   ·exact this
 exact key _ (zm _)
def pU(γ:U)(b gl:Nat)(s:LS):Prop:=
 ∃lv ev gm es clock vs,γ b=some (gl,.cells #[lv,ev,.map (some gm)] 128 (0,0))∧γ (b+1)=some (gm,.map es clock)∧vi es.toList s.f∧
  yR γ (b+2) 60 4 lv s.ls.length (vB s.ls)∧yR γ (b+3) 20 1 ev s.ls.length vs∧∀i l,s.ls[i]? =some l→tD γ (b+10+2*i) (vs.getD i undef) l.kind (s.en i)
theorem pU.at_{w0 w:World}{γ:U}{b gl:Nat}{s:LS}(h:pU γ b gl s)(ho:Own w0 w γ):qm w0 γ b gl s w:=⟨ho,h⟩
theorem pU.keep{γ γ':U}{b gl:Nat}{s:LS}(h:pU γ b gl s)(h8:s.ls.length≤8)(hk:∀k,b≤k→k<b+30→γ' k=γ k):pU γ' b gl s:=by obtain⟨lv,ev,gm,es,clock,vs,h0,h1,h2,h3,h4,h5⟩:=h;refine⟨lv,ev,gm,es,clock,vs,by rw[hk _ (by omega) (by omega)];exact h0,by rw[hk _ (by omega) (by omega)];exact h1,h2,h3.keep (hk _ (by omega) (by omega)),h4.keep (hk _ (by omega) (by omega)),fun i l hi=>(h5 i l hi).keep (hk _ ?_ ?_) (hk _ ?_ ?_)⟩;all_goals have:=(zk.1 hi).1;omega
structure kd where
 vs:Value
 vd:Value
 gl:Nat
 gd:List Nat
def fT(l:List Nat):List Value:=l.map fun g=>.p g
structure xR (γ:U) (b g:Nat) (p:kd) (M:Mc):Prop where
 xw:γ b=some (g,.cells #[p.vs,p.vd,.p p.gl,.i M.now] 105 (0,0))
 uu:yR γ (b+1) 70 2 p.vs M.sl.length (yW xF M.sl)
 qh:yR γ (b+2) 97 1 p.vd M.ds.length (fT p.gd)
 each:∀i D,M.ds[i]? =some D→uQ γ (b+100+200*i) (p.gd.getD i 0) D
 sC:pU γ (b+10) p.gl M.ln
 d8:M.ds.length≤8
 l8:M.ln.ls.length≤8
def wW(γ:U)(b g:Nat)(M:Mc):Prop:=∃p,xR γ b g p M
def xB(b k:Nat):Prop:=(b≤k∧k<b+3)∨(b+10≤k∧k<b+40)∨(b+100≤k∧k<b+1700)
def kK(w0:World)(γ:U)(b g:Nat)(M:Mc)(r:Value)(e:Ending)(w':World):Prop:=
 e=.returned r∧∃γ',Own w0 w' γ'∧wW γ' b g M∧∀k,(k<b∨b+2000≤k)→γ' k=γ k
structure wj (M:Mc) (a s:Nat):Prop where
 uu:eD M.sl
 gy:0<M.sl.length
 own:∀x∈M.sl,0≤x.1∧x.1<M.ds.length
 kg:∀D∈M.ds,yS D []∧0≤D.clock∧D.clock≤4611686018427387904∧D.seen.length≤s
 sX:∀i,i<M.ln.ls.length→(M.ln.en i).sX≤a
 n0:0≤M.now
 n1:M.now≤4611686018427387904
section
variable {w0 w:World} {γ γ':U} {b g:Nat} {p:kd} {M:Mc} {a s:Nat}
theorem uQ.keep{B:Nat}{D:Dm}(h:uQ γ B g D)(hk:∀k,xi B k→γ' k=γ k):uQ γ' B g D:=by obtain⟨q,h⟩:=h;exact⟨q,h.wK hk⟩
theorem xR.keep(h:xR γ b g p M)(hk:∀k,xB b k→γ' k=γ k):xR γ' b g p M where
 xw:=by rw[hk _ (by unfold xB;omega)];exact h.xw
 uu:=h.uu.keep (hk _ (by unfold xB;omega))
 qh:=h.qh.keep (hk _ (by unfold xB;omega))
 each:=fun i D hi=>(h.each i D hi).keep fun k hu=>hk k (by
  have:=(zk.1 hi).1
  have:=h.d8
  unfold xi at hu;unfold xB;omega)
 sC:=h.sC.keep h.l8 fun k q1 q2=>hk k (by unfold xB;omega)
 d8:=h.d8
 l8:=h.l8
theorem xR.wX(h:xR γ b g p M){i:Nat}{D:Dm}(hi:i<M.ds.length)(hd:uQ γ' (b+100+200*i) (p.gd.getD i 0) D)(hk:∀k,(k<b+100+200*i∨b+100+200*i+200≤k)→xB b k→γ' k=γ k):xR γ' b g p (M.wX i D):=by
 have h8:=h.d8;refine⟨by rw[hk _ (by omega) (by unfold xB;omega)];exact h.xw,h.uu.keep (hk _ (by omega) (by unfold xB;omega)),?_,fun j E hj=>?_,h.sC.keep h.l8 fun k q1 q2=>hk k (by omega) (by unfold xB;omega),?_,h.l8⟩
 ·show yR γ' (b+2) 97 1 p.vd (M.ds.set i D).length _;rw[zq];exact h.qh.keep (hk _ (by omega) (by unfold xB;omega))
 ·replace hj:(M.ds.set i D)[j]? =some E:=hj;by_cases e:j=i
  ·subst e;rw[zp hi]at hj;cases hj;exact hd
  ·rw[zt (Ne.symm e)]at hj;have:=(zk.1 hj).1;exact(h.each j E hj).keep fun k hu=>hk k (by unfold xi at hu;omega) (by unfold xi at hu;unfold xB;omega)
 ·show(M.ds.set i D).length≤8;rw[zq];exact h8
theorem xR.uV(h:xR γ b g p M){l:LS}(hl:pU γ' (b+10) p.gl l)(h8:l.ls.length≤8)(hk:∀k,(k<b+10∨b+40≤k)→xB b k→γ' k=γ k):xR γ' b g p (M.uV l)where
 xw:=by rw[hk _ (by omega) (by unfold xB;omega)];exact h.xw
 uu:=h.uu.keep (hk _ (by omega) (by unfold xB;omega))
 qh:=h.qh.keep (hk _ (by omega) (by unfold xB;omega))
 each:=fun i D hi=>by
  replace hi:M.ds[i]? =some D:=hi
  have:=(zk.1 hi).1
  have:=h.d8
  exact(h.each i D hi).keep fun k hu=>hk k (by unfold xi at hu;omega) (by unfold xi at hu;unfold xB;omega)
 sC:=hl
 d8:=h.d8
 l8:=h8
theorem xR.xr(h:xR γ b g p M)(ho:Own w0 w γ){i:Nat}{D:Dm}(hi:M.ds[i]? =some D):∃gs c,p.vd=.slice (zb gs) M.ds.length c∧w.cell? (zc gs i)=some (.p (p.gd.getD i 0)):=by
 have hlt:=(zk.1 hi).1;obtain⟨gs,c,hv,-,hc⟩:=h.qh.row ho (by omega);have hl:p.gd.length=M.ds.length:=by have:=h.qh.1;unfold fT at this;rw[zA]at this;omega
 refine⟨gs,c,hv,hc i _ ?_⟩;unfold fT;rw[zx,zn,zl (by omega)];rfl
theorem xR.WJ(h:xR γ b g p M)(ho:Own w0 w γ)(h0:0<M.sl.length):∃gs c,p.vs=.slice (zb gs) M.sl.length c∧M.sl.length≤c∧ss M.sl gs w∧gs<w.heap.size:=by
 obtain⟨gs,c,hv,hc,hr⟩:=h.uu.row ho h0;have hrow:ss M.sl gs w:=fun i x hx=>by have e0:=vf (f:=xF) (m:=2) (fun _=>rfl) hx 0 (by omega);have e1:=vf (f:=xF) (m:=2) (fun _=>rfl) hx 1 (by omega);exact⟨hr _ _ e0,hr _ _ e1⟩
 refine⟨gs,c,hv,hc,hrow,?_⟩;exact World.block_lt_of_cell? w _ (hrow 0 _ (zl h0)).1
theorem wj.Yk(h:wj M a s):∃x,M.sl[M.slot.1.toNat]? =some x∧M.owner=x.1∧0≤M.slot.1∧M.slot.1<M.sl.length∧0≤x.1∧x.1<M.ds.length:=by
 obtain⟨q1,q2⟩:=Qo M.sl M.now h.gy;have hlt:M.slot.1.toNat<M.sl.length:=by unfold Mc.slot;omega
 refine⟨M.sl[M.slot.1.toNat],zl hlt,?_,q1,q2,h.own _ (List.getElem_mem _)⟩;unfold Mc.owner;rw[zn,zl hlt];rfl
end
end
section
open Go.RowKit Go.WideShapes Go.ChangeMaps
section
variable {w0 w:World} {γ γ':U} {b g:Nat} {p:kd} {M:Mc} {a s:Nat}
theorem Ow(h:xR γ b g p M)(ho:Own w0 w γ):Calls Tryz.prog 30 #[.p g] w fun e w'=>e=.returned (.i M.now)∧w=w':=by have c3:=ho.cell h.xw (i:=3) (v:=.i M.now) rfl;clear h ho;generalize M.now=n at*;go_in;go_wp2_with fail;go_ret;exact⟨rfl,rfl⟩
theorem Ue(h:xR γ b g p M)(ho:Own w0 w γ):Calls Tryz.prog 31 #[.p g] w fun e w'=>e=.returned (.i M.ds.length)∧w=w':=by have c1:=ho.cell h.xw (i:=1) (v:=p.vd) rfl;obtain⟨A,c,hv,-⟩:=h.qh.form;rw[hv]at c1;clear h ho hv;generalize M.ds.length=n at*;go_in;go_wp2_with fail;go_ret;exact⟨rfl,rfl⟩
def kd.pY(p:kd)(M:Mc)(n:Int):Value:=if 0≤n∧n<M.ds.length then .p (p.gd.getD n.toNat 0)else .pointer none
theorem cM(h:xR γ b g p M)(ho:Own w0 w γ)(n:Int):Calls Tryz.prog 39 #[.p g,.i n] w fun e w'=>e=.returned (p.pY M n)∧w=w':=by
 have hd:=Ue h ho;have c1:=ho.cell h.xw (i:=1) (v:=p.vd) rfl;unfold kd.pY;by_cases h0:n<0
 ·have d0:decide (n<0)=true:=decide_eq_true h0;rw[if_neg (by omega)];clear h ho h0;go_in;go_wp2_with fail;go_ret;exact⟨rfl,rfl⟩
 ·have d0:decide (n<0)=false:=decide_eq_false h0;by_cases h1:(M.ds.length:Int)≤n
  ·have d1:decide ((M.ds.length:Int)≤n)=true:=decide_eq_true h1;rw[if_neg (by omega)];clear h ho h0 h1;generalize M.ds.length=m at*;go_in;go_wp2_with fail;refine hd.mono ?_;rintro e w' ⟨rfl,rfl⟩;go_wp2_with fail;go_ret;exact⟨rfl,rfl⟩
  ·have d1:decide ((M.ds.length:Int)≤n)=false:=decide_eq_false h1;rw[if_pos (by omega)];obtain⟨i,rfl⟩:∃i:Nat,n=i:=⟨n.toNat,by omega⟩;have hi:i<M.ds.length:=by omega
   obtain⟨gs,c,hv,c2⟩:=h.xr ho (zl hi);rw[hv]at c1;rw[zu];have hin:(i:Int)<M.ds.length:=by omega
   clear h ho h0 h1 hv;generalize M.ds.length=m at*;generalize p.gd.getD i 0=gd at*;go_in;go_wp2_with fail;refine hd.mono ?_;rintro e w' ⟨rfl,rfl⟩;go_wp2_with fail;go_ret;exact⟨rfl,rfl⟩
theorem bN(h:xR γ b g p M)(ho:Own w0 w γ)(hok:wj M a s):Calls Tryz.prog 45 #[.p g] w fun e w'=>e=.returned (.i M.owner)∧Below w.heap.size w w':=by
 obtain⟨gs,c,hv,hc,hrow,hlt⟩:=h.WJ ho hok.gy;obtain⟨x,hx,hown,hx0,hx1,-,-⟩:=hok.Yk;have hat:=PV hok.uu hok.gy hc (w:=w.drew) hrow hlt M.now hok.n0 hok.n1;have HO:=I ho;have hblk:=h.xw;rw[hv]at hblk;have HB:=I hblk;obtain⟨j,hj⟩:∃j:Nat,(rh M.sl M.now).1=j:=⟨(rh M.sl M.now).1.toNat,by unfold Mc.slot at hx0;omega⟩;unfold Mc.slot at hx hx1;rw[hj]at hx hx1;rw[zu]at hx;have hjn:(j:Int)<M.sl.length:=hx1;have cx:=(hrow j x hx).1;rw[hown];have c0:=ho.cell hblk (i:=0) rfl;have c3:=ho.cell hblk (i:=3) rfl;clear h ho hok hrow hx hown hx0 hv;rw[hj]at hat;generalize(rh M.sl M.now).2=z at*;generalize M.sl.length=m at*;generalize M.now=n at*;generalize x.1=r at*;clear hj;have HC:Hid (∀W,Below w.heap.size w W→W.cell? (zc g 0)=some (.slice (zb gs) m c)∧W.cell? (zc gs (j*2))=some (.i r)):=I fun W hW=>⟨(hW.cell (World.block_lt_of_cell? _ _ c0)).trans c0,(hW.cell (World.block_lt_of_cell? _ _ cx)).trans cx⟩;go_in;go_wp2_with fail;refine yP.region [0,1,2,3,4,5,6,7] (.step 8 (.step 9 (.step 10 (.step 11 (.step 12 (.step 13 .done)))))) (fun w'=>w'.cell? (zc g 0)=some (.slice (zb gs) m c)∧w'.cell? (zc g 3)=some (.i n)) (by kernel_rfl) (by kernel_rfl) (fun _ _ _ _ _ h=>h) ⟨c0,c3⟩ ?_;repeat
  refine Perm.xm rfl ?_ (fun w' hS=>?_) ?_;rotate_left
  ·(obtain⟨s0,s1⟩:=hS;go_simp;try with_reducible rfl)
  simp only[pt]
 refine Perm.xt ?_;refine yP.yY rfl (by rfl) ?_;refine yP.xJ rfl 62 _ _ rfl (by kernel_rfl) _ rfl (hat.mono ?_);rintro e w1 ⟨rfl,hb⟩;refine⟨_,rfl,Perm.xx (by kernel_rfl),?_⟩;simp only[pt];repeat
  refine yP.xA rfl (by rfl) ?_ (fun w'=>?_) ?_;rotate_left
  ·(go_simp;try with_reducible rfl)
  simp only[pt]
 refine yP.xC ?_;have hb':Below w.heap.size w w1:=((Below.refl _ _).drew).trans hb;obtain⟨d0,d1⟩:=HC.out w1 hb';have HF:=I hb';clear hb hb' hat c0 c3 cx;go_wp2_with fail;go_ret;exact⟨rfl,HF.out⟩
theorem PD(h:xR γ b g p M)(ho:Own w0 w γ){i:Nat}{D:Dm}(hi:M.ds[i]? =some D)(hn:D.seen.length≤1000000)(T:Nat)(hT:T<b∨b+2000≤T):Calls Tryz.prog 27 #[.p g,.i i] w fun e w'=>∃v γ',e=.returned v∧Own w0 w' γ'∧xR γ' b g p M∧xK γ' T 41 6 v D.seen.length (yW xN.yV D.seen)∧∀k,k≠T→γ' k=γ k:=by
 have hd:=cM h ho i;have hlt:=(zk.1 hi).1;have e1:p.pY M i=.p (p.gd.getD i 0):=by unfold kd.pY;rw[if_pos (by omega),zu]
 rw[e1]at hd;obtain⟨q,hD⟩:=h.each i D hi;have h8:=h.d8;have hs:=Pc hD ho hn T (by omega);have HF:Hid (∀γ',(∀k,k≠T→γ' k=γ k)→xR γ' b g p M):=I fun γ' hk=>h.keep fun k hu=>hk k (by unfold xB at hu;omega);clear h ho hD hi e1;generalize p.gd.getD i 0=gd at*;go_in;go_wp2_with fail;refine hd.mono ?_;rintro e w' ⟨rfl,rfl⟩;go_wp2_with fail;refine hs.mono ?_;rintro e w' ⟨v,γ',rfl,o,l,k⟩;have HZ:Hid (∃v0 γ',Ending.returned v=.returned v0∧Own w0 w' γ'∧xR γ' b g p M∧xK γ' T 41 6 v0 D.seen.length (yW xN.yV D.seen)∧∀k,k≠T→γ' k=γ k):=I ⟨v,γ',rfl,o,HF.out γ' k,l,k⟩;obtain⟨A,c,rfl⟩:=l.form;clear o l k hs hd HF;go_wp2_with fail;go_ret;exact HZ.out
end
end
section
def Dm.sc(D:Dm):List xN×Int:=(D.seen,D.clock)
section
variable (D:Dm)
theorem Dm.NM(x:Int)(o:Ob):(D.xg x o).sc=D.sc:=rfl
theorem Dm.Qx(t:Int):(D.wN t).sc=D.sc:=rfl
theorem Dm.tH:∀(l:List Int) (D:Dm),(D.xH l).sc=D.sc
 |[],_=>rfl
 |t::l,D=>(Dm.tH l (D.wN t)).trans (D.Qx t)
theorem Dm.Nk(t x n:Int):(D.block t x n).sc=D.sc:=rfl
theorem Dm.NI(t y:Int):(D.told t y).sc=D.sc:=rfl
theorem Dm.dD(t mh:Int):(D.again t mh).sc=D.sc:=by
 unfold Dm.again;split
 ·split<;>rfl
 ·rfl
theorem Dm.eQ(mh:Int):∀(l:List Int) (D:Dm),(D.wG l mh).sc=D.sc
 |[],_=>rfl
 |t::l,D=>(Dm.eQ mh l (D.again t mh)).trans (D.dD t mh)
theorem Dm.Xk(t y:Int):(D.drop t y).sc=D.sc:=by
 unfold Dm.drop;split
 ·rfl
 ·exact Dm.tH _ _
 ·exact Dm.tH _ _
 ·rfl
 ·rfl
 ·exact Dm.dD _ _ _
 ·rfl
theorem Dm.aR(t x:Int)(m:Mu):(D.unlock t x m).sc=D.sc:=by unfold Dm.unlock;split<;>rfl
theorem Dm.sy(t:Int)(x:En)(E:Int){D1:Dm}(h:D1.sc=D.sc):(D.xO t x E D1).sc=D.sc:=by
 unfold Dm.xO;split
 ·split
  ·exact h
  ·exact h
 ·rfl
theorem Dm.U4(t:Int)(x:En)(h:Int)(m:Mu):(D.alone t x h m).1.sc=D.sc:=by
 unfold Dm.alone;split
 ·rfl
 ·split
  ·exact D.aR _ _ _
  ·exact D.sy _ _ _ rfl
theorem Dm.Sd(t:Int)(x:En)(m:Rw):(D.pD t x m).1.sc=D.sc:=by
 unfold Dm.pD;split
 ·rfl
 ·split
  ·exact Dm.tH _ _
  ·exact D.sy _ _ _ rfl
theorem Dm.Ur(t:Int)(x:En)(m:Rw):(D.rZ t x m).1.sc=D.sc:=by
 unfold Dm.rZ;split
 ·rfl
 ·split
  ·exact Dm.tH _ _
  ·exact D.sy _ _ _ rfl
theorem Dm.WQ(t:Int)(x:En)(m:Sm):(D.sV t x m).1.sc=D.sc:=by
 unfold Dm.sV;split
 ·rfl
 ·split
  ·exact Dm.tH _ _
  ·exact D.sy _ _ _ rfl
theorem Dm.RO(t:Int)(x:En):(D.lock t x).1.sc=D.sc:=by
 unfold Dm.lock;split
 ·rfl
 ·split
  ·exact D.U4 _ _ _ _
  ·exact D.Sd _ _ _
  ·rfl
theorem Dm.R5(t:Int)(x:En):(D.read t x).1.sc=D.sc:=by
 unfold Dm.read;split
 ·rfl
 ·split
  ·exact D.Ur _ _ _
  ·rfl
theorem Dm.Sc(t:Int)(x:En):(D.pC t x).1.sc=D.sc:=by
 unfold Dm.pC;split
 ·rfl
 ·split
  ·exact D.WQ _ _ _
  ·rfl
theorem Dm.Si(t x mh:Int)(mm:Mu)(ws:List Int):(D.tQ t x mh mm ws).sc=D.sc:=by
 unfold Dm.tQ;split
 ·rfl
 ·exact D.aR _ _ _
theorem Dm.Qw(t:Int)(x:En):(D.wait t x).1.sc=D.sc:=by
 unfold Dm.wait;split
 ·rfl
 ·split
  ·exact D.sy _ _ _ rfl
  ·split
   ·exact D.sy _ _ _ (D.Si _ _ _ _ _)
   ·rfl
  ·rfl
theorem Dm.WI(x:En)(ws:List Int)(mh:Int):(D.sf x ws mh).1.sc=D.sc:=by
 unfold Dm.sf;split
 ·split
  ·rfl
  ·exact Dm.dD _ _ _
 ·exact Dm.eQ _ _ _
theorem Dm.UC(x:En):(D.qM x).1.sc=D.sc:=by
 unfold Dm.qM;split
 ·rfl
 ·split
  ·exact D.WI _ _ _
  ·rfl
theorem Dm.RZ(t:Int)(x:En):(D.gZ t x).1.sc=D.sc:=by
 unfold Dm.gZ;split
 ·rfl
 ·split
  ·unfold Dm.pw;split
   ·exact Dm.tH _ _
   ·exact D.sy _ _ _ rfl
  ·rfl
theorem Dm.QN(x:En):(D.add x).1.sc=D.sc:=by
 unfold Dm.add;split
 ·rfl
 ·split
  ·exact Dm.tH _ _
  ·rfl
theorem Dm.PX(t:Int)(x:En):(D.use t x).1.sc=D.sc:=by
 unfold Dm.use;split
 ·exact D.RO _ _
 split
 ·exact D.R5 _ _
 split
 ·exact D.Sc _ _
 split
 ·exact D.Qw _ _
 split
 ·exact D.UC _
 split
 ·exact D.RZ _ _
 split
 ·exact D.QN _
 ·rfl
theorem Dm.WX(t:Int)(x:En):(D.act t x).1.sc=D.sc:=by
 unfold Dm.act;split
 ·unfold Dm.spawn;split<;>rfl
 split
 ·unfold Dm.exit;dsimp only;split<;>rfl
 split
 ·rfl
 split
 ·rfl
 split
 ·unfold Dm.make;split
  ·rfl
  ·split<;>rfl
 split
 ·unfold Dm.free;dsimp only;split
  ·rfl
  ·split<;>rfl
 split
 ·unfold Dm.cancel;dsimp only;split
  ·exact D.Xk _ _
  ·rfl
 ·exact D.PX _ _
theorem Dm.Zx(t:Int)(x:En):(D.act t x).1.seen=D.seen:=by have h:=D.WX t x;unfold Dm.sc at h;exact(Prod.mk.inj h).1
theorem Dm.WW(t:Int)(x:En):(D.act t x).1.clock=D.clock:=by have h:=D.WX t x;unfold Dm.sc at h;exact(Prod.mk.inj h).2
theorem Dm.VJ(i:Nat):(D.sK i).sc=D.sc:=by
 unfold Dm.sK;split
 ·exact D.Xk _ _
 ·rfl
theorem Dm.ZN:∀(l:List Nat) (D:Dm),(D.uB l).sc=D.sc
 |[],_=>rfl
 |i::l,D=>(Dm.ZN l (D.sK i)).trans (D.VJ i)
theorem Dm.YP:D.empty.clock=D.clock:=rfl
theorem Dm.X9:D.empty.seen=D.seen:=rfl
theorem Dm.ZC(now:Int):(D.begun now).sc=(D.seen,now):=by unfold Dm.begun;rw[Dm.ZN];unfold Dm.pZ Dm.sc;generalize D.wh.due now=W;rfl
theorem Dm.dV(now:Int):(D.begun now).seen=D.seen:=by have h:=D.ZC now;unfold Dm.sc at h;exact(Prod.mk.inj h).1
theorem Dm.Yy(now:Int):(D.begun now).clock=now:=by have h:=D.ZC now;unfold Dm.sc at h;exact(Prod.mk.inj h).2
theorem Dm.df:∀(l:List (Int×Int)) (D:Dm),(D.ue l).clock=D.clock
 |[],_=>rfl
 |x::l,D=>(Dm.df l (D.vY x)).trans (D.kq x).2.2.2.2.2.2
theorem Dm.eR(now:Int):(D.begin now).clock=now:=by unfold Dm.begin;rw[Dm.df,Dm.YP,Dm.Yy]
theorem Dm.Rk(t:Int)(x:En):(D.xL t x).1.seen=D.seen++[(D.xL t x).2]:=by show(D.act t x).1.seen++_=_;rw[D.Zx];rfl
theorem Dm.UW(t:Int)(x:En)(e n m:Int):(D.tell t x e n m).1.seen=D.seen++[(D.tell t x e n m).2]:=rfl
theorem Dm.ZM(t:Int)(x:En):(D.xL t x).1.clock=D.clock:=D.WW t x
theorem Bu.j9{m:Bu}(h:m.l.length≤m.xE):m.out.length=m.xE:=by unfold Bu.out;rw[zr,zz];omega
variable {D:Dm}
theorem yS.QV(h:yS D []):D.bu.l.length≤D.bu.xE:=by rw[h.bm];have:=AV.many h.vr (l:=D.bu.l.map Prod.fst) (fun x hx=>by obtain⟨p,hp,rfl⟩:=yc.1 hx;exact(h.bu p hp).1) h.bd;rwa[zA]at this
theorem yS.W8(h:yS D [])(now:Int):(D.begin now).seen.length≤D.seen.length+8:=by
 have h1:=Dm.fw (D.begun now).bu.out (D.begun now).empty;have h2:=h.begun now;rw[Bu.j9 h2.QV,h2.bm]at h1;have:=h2.sl;have e:(D.begun now).empty.seen=D.seen:=by rw[Dm.X9,Dm.dV]
 rw[e]at h1;unfold Dm.begin;omega
theorem yS.xL(h:yS D []){t:Int}(ht:t∈D.sv.list)(x:En):yS (D.xL t x).1 []:=(h.act (h.yZ ht).1 (h.yZ ht).2 x).gu _
end
end
section
open Go.RowKit Go.WideShapes Go.ChangeMaps
theorem Wr{α:Type}{l:List α}{i:Nat}{x:α}(f:α→α)(h:l[i]? =some x):l.modify i f=l.set i (f x):=by
 apply yb;intro j;rw[List.getElem?_modify];by_cases e:i=j
 ·subst e;rw[zp (zk.1 h).1,h];simp
 ·rw[zt e];simp[e]
theorem Mc.W6{M:Mc}{D:Dm}(h:M.ds[M.owner.toNat]? =some D)(hn:M.slot.2=M.now):M.rQ=M.wX M.owner.toNat (D.begin M.now):=by unfold Mc.rQ Mc.wX;rw[if_pos hn,Wr _ h]
section
variable {w0 w:World} {γ γ':U} {b g:Nat} {p:kd} {M:Mc} {a s:Nat}
theorem Xr(h:xR γ b g p M)(ho:Own w0 w γ)(hok:wj M a s)(hsn:s≤900000):Calls Tryz.prog 44 #[.p g] w fun e w'=>(∃v,e=.returned v)∧∃γ',Own w0 w' γ'∧xR γ' b g p M.rQ∧∀k,(k<b+100∨b+1700≤k)→γ' k=γ k:=by
 obtain⟨gs,c,hv,hc,hrow,hlt⟩:=h.WJ ho hok.gy;obtain⟨x,hx,hown,hx0,hx1,hx2,hx3⟩:=hok.Yk;have hat:=PV hok.uu hok.gy hc (w:=w.drew) hrow hlt M.now hok.n0 hok.n1;have hD:M.ds[x.1.toNat]? =some M.ds[x.1.toNat]:=zl (by omega);generalize M.ds[x.1.toNat]=D at hD;obtain⟨gd,cd,hvd,-⟩:=h.xr ho hD;obtain⟨q,hDm⟩:=h.each _ D hD;obtain⟨k1,k2,k3,k4⟩:=hok.kg D (zo hD);have h8:=h.d8;have HBEG:Hid (∀W,Own w0 W γ→M.slot.2=M.now→Calls Tryz.prog 63 #[.p (p.gd.getD x.1.toNat 0),.i M.now] W fun e w'=>(∃v,e=.returned v)∧∃γ',Own w0 w' γ'∧xR γ' b g p M.rQ∧∀k,(k<b+100∨b+1700≤k)→γ' k=γ k):=I fun W hW hn=>by refine(Ra hDm hW k1 M.now hok.n0 hok.n1 (by rw[Dm.dV];omega)).mono ?_;rintro e w' ⟨he,γ',o,d,k⟩;refine⟨he,γ',o,?_,fun j hj=>k j (by unfold yU;omega)⟩;rw[Mc.W6 (D:=D) (by rw[hown];exact hD) hn,hown];exact h.wX (by omega) d fun j hj _=>k j (by unfold yU;omega)
 have HSAME:Hid (M.slot.2≠M.now→xR γ b g p M.rQ):=I fun hn=>by unfold Mc.rQ;rw[if_neg hn];exact h
 have hblk:=h.xw;rw[hv,hvd]at hblk;obtain⟨j,hj⟩:∃j:Nat,(rh M.sl M.now).1=j:=⟨(rh M.sl M.now).1.toNat,by unfold Mc.slot at hx0;omega⟩;unfold Mc.slot at hx hx1;rw[hj]at hx hx1;rw[zu]at hx;have hjn:(j:Int)<M.sl.length:=hx1;obtain⟨r,hr⟩:∃r:Nat,x.1=r:=⟨x.1.toNat,by omega⟩;have HC:Hid (∀W,Own w0 W γ→W.cell? (zc g 0)=some (.slice (zb gs) M.sl.length c)∧W.cell? (zc g 1)=some (.slice (zb gd) M.ds.length cd)∧W.cell? (zc g 3)=some (.i M.now)∧W.cell? (zc gs (j*2))=some (.i r)∧W.cell? (zc gd r)=some (.p (p.gd.getD r 0))):=I fun W hW=>by obtain⟨gs',c',hv',-,hrow',-⟩:=h.WJ hW hok.gy;obtain⟨gd',cd',hvd',hcd⟩:=h.xr hW hD;rw[hv]at hv';rw[hvd]at hvd';cases hv';cases hvd';have e0:=(hrow' j x hx).1;rw[hr]at e0 hcd;rw[zu]at hcd;exact⟨hW.cell hblk rfl,hW.cell hblk rfl,hW.cell hblk rfl,e0,hcd⟩
 have hrn:(r:Int)<M.ds.length:=by omega
 have HO:=I ho.drew;have hHo:=I ho;obtain⟨c0,c1,c3,cx,cd0⟩:=HC.out w ho;rw[hr,zu]at HBEG;unfold Mc.slot at HBEG HSAME;have hr2:(rh M.sl M.now).2=(rh M.sl M.now).2:=rfl;clear h ho hok hrow hx hown hx0 hv hvd hblk hDm k1 k2 k3 k4 hD hr2;rw[hj]at hat;generalize(rh M.sl M.now).2=z at*;generalize M.rQ=M2 at*;generalize p.gd.getD r 0=gr at*;generalize M.sl.length=m at*;generalize M.ds.length=md at*;generalize M.now=n at*;clear hj hr;go_in;go_wp2_with fail;refine yP.region [0,1,2,3,4,5,6,7] (.step 8 (.step 9 (.step 10 (.step 11 (.step 12 (.step 13 .done)))))) (fun w'=>w'.cell? (zc g 0)=some (.slice (zb gs) m c)∧w'.cell? (zc g 3)=some (.i n)) (by kernel_rfl) (by kernel_rfl) (fun _ _ _ _ _ h=>h) ⟨c0,c3⟩ ?_;repeat
  refine Perm.xm rfl ?_ (fun w' hS=>?_) ?_;rotate_left
  ·(obtain⟨s0,s1⟩:=hS;go_simp;try with_reducible rfl)
  simp only[pt]
 refine Perm.xt ?_;refine yP.yY rfl (by rfl) ?_;refine yP.xJ rfl 62 _ _ rfl (by kernel_rfl) _ rfl (hat.mono ?_);rintro e w1 ⟨rfl,hb⟩;refine⟨_,rfl,Perm.xx (by kernel_rfl),?_⟩;simp only[pt];repeat
  refine yP.xA rfl (by rfl) ?_ (fun w'=>?_) ?_;rotate_left
  ·(go_simp;try with_reducible rfl)
  simp only[pt]
 refine yP.xC ?_;have O1:=I (HO.out.xh hb);clear hb hat c0 c1 c3 cx cd0;obtain⟨c0,c1,c3,cx,cd0⟩:=HC.out w1 O1.out;cases hz:(z==n)with
 |false=>
  have hne:z≠n:=by simpa using hz
  have HF:=I (HSAME.out hne);clear hne HSAME;go_wp2_with fail;first|go_end0|refine bodyPost_ret (results_none rfl _ _ _) rfl ?_
  exact⟨⟨_,rfl⟩,γ,O1.out,HF.out,fun _ _=>rfl⟩
 |true=>
  have heq:z=n:=by simpa using hz
  have HF:=I (HBEG.out w1.drew O1.out.drew heq);clear heq HBEG;go_wp2_with fail;refine yP.region [0,1,2,3,4,5,6,7,8,9,10,11,12,13,14,15,16,17] (.step 18 .done) (fun w'=>Own w0 w' γ) (by kernel_rfl) (by kernel_rfl) (fun _ _ _ _ _ h=>h) O1.out.drew ?_;repeat
   refine Perm.xm rfl ?_ (fun w' hS=>?_) ?_;rotate_left
   ·(obtain⟨s0,s1,s3,sx,sd⟩:=HC.out _ hS;clear hS;go_simp;try with_reducible rfl)
   simp only[pt]
  refine Perm.xt ?_;refine yP.yY rfl (by rfl) ?_;refine yP.xJ rfl 63 _ _ rfl (by kernel_rfl) _ rfl (HF.out.mono ?_);rintro e w2 ⟨⟨v,rfl⟩,hfin⟩;refine⟨_,rfl,Perm.xx (by kernel_rfl),?_⟩;simp only[pt];refine yP.xC ?_;have HZ:=I hfin;clear hfin HF;go_wp2_with fail;first|go_end0|refine bodyPost_ret (results_none rfl _ _ _) rfl ?_
  exact⟨⟨_,rfl⟩,HZ.out⟩
end
end
section
open Go.RowKit Go.WideShapes Go.ChangeMaps
theorem qo{x:Int}(h0:-9223372036854775808≤x)(h1:x≤9223372036854775807):Fits x:=Go.WalkArith.wf_i64 ⟨h0,h1⟩
section
variable {w0 w:World} {γ γ':U} {b g:Nat} {p:kd} {M:Mc} {a s:Nat}
theorem uP{T gb:Nat}{c0 c1 c2 c3 c4 c5:Value}(o:Own w0 w γ)(q:γ T=some (gb,.cells #[c0,c1,c2,c3,c4,c5] 41 (0,0))):w.cell? (zc gb 0)=some c0∧w.cell? (zc gb 1)=some c1∧w.cell? (zc gb 2)=some c2∧w.cell? (zc gb 3)=some c3∧w.cell? (zc gb 4)=some c4∧w.cell? (zc gb 5)=some c5∧w.frozen? (zc gb 0)=false∧w.frozen? (zc gb 1)=false∧w.frozen? (zc gb 2)=false∧w.frozen? (zc gb 3)=false∧w.frozen? (zc gb 4)=false∧w.frozen? (zc gb 5)=false:=⟨o.cell q rfl,o.cell q rfl,o.cell q rfl,o.cell q rfl,o.cell q rfl,o.cell q rfl,o.free q 0,o.free q 1,o.free q 2,o.free q 3,o.free q 4,o.free q 5⟩
theorem uJ{T gb:Nat}{ty:TypeId}{c0 c1 c2 c3 c4 c5 c6:Value}(o:Own w0 w γ)(q:γ T=some (gb,.cells #[c0,c1,c2,c3,c4,c5,c6] ty (0,0))):w.cell? (zc gb 0)=some c0∧w.cell? (zc gb 1)=some c1∧w.cell? (zc gb 2)=some c2∧w.cell? (zc gb 3)=some c3∧w.cell? (zc gb 4)=some c4∧w.cell? (zc gb 5)=some c5∧w.cell? (zc gb 6)=some c6:=⟨o.cell q rfl,o.cell q rfl,o.cell q rfl,o.cell q rfl,o.cell q rfl,o.cell q rfl,o.cell q rfl⟩
theorem pU.forget{bl gl:Nat}{l:LS}(h:pU γ bl gl l)(ho:Own w0 w γ){d t:Int}(h1:Fits d)(h2:Fits t):Calls Tryz.prog 69 #[.p gl,.i d,.i t] w fun e w'=>(∃v,e=.returned v)∧∃γ',Own w0 w' γ'∧pU γ' bl gl {l with f:=vH l.f d t}∧∀k,k≠bl+1→γ' k=γ k:=by obtain⟨lv,ev,gm,es,clock,vs,q0,q1,q2,q3,q4,q5⟩:=h;refine(Wi ho q0 q1 q2 h1 h2).mono ?_;rintro e w' ⟨he,es',o,hf⟩;have hk:∀k,k≠bl+1→put γ (bl+1) gm (.map es' clock) k=γ k:=fun k hk=>yO _ _ _ hk;exact⟨⟨_,he⟩,_,o,⟨lv,ev,gm,es',clock,vs,by rw[hk _ (by omega)];exact q0,yQ _ _ _ _,hf,q3.keep (hk _ (by omega)),q4.keep (hk _ (by omega)),fun i l hi=>(q5 i l hi).keep (hk _ (by omega)) (hk _ (by omega))⟩,hk⟩
def qZ(w0:World)(γ:U)(b g:Nat)(M:Mc)(r:Value)(e:Ending)(w':World):Prop:=
 e=.returned r∧∃γ',Own w0 w' γ'∧wW γ' b g M∧∀k,(k<b∨b+2000≤k∨k=b+3∨k=b+4)→γ' k=γ k
def bP(w0:World)(γ:U)(b g:Nat)(p:kd)(M:Mc)(r:Value)(e:Ending)(w':World):Prop:=
 e=.returned r∧∃γ',Own w0 w' γ'∧xR γ' b g p M∧∀k,(k<b+100∨b+1700≤k)→γ' k=γ k
theorem Ug(h:xR γ b g p M)(ho:Own w0 w γ){i:Nat}{D:Dm}(hi:M.ds[i]? =some D){t:Int}(ht:t∈D.sv.list)(hn:D.seen.length≤1000000)(x:En)(e n m:Int):Calls Tryz.prog 66 #[.p (p.gd.getD i 0),.i t,x.val,.i e,.i n,.i m] w (bP w0 γ b g p (M.wX i (D.tell t x e n m).1) (.agg (D.tell t x e n m).2.xq)):=by obtain⟨q,hD⟩:=h.each i D hi;have hlt:=(zk.1 hi).1;have h8:=h.d8;refine(Pd hD ho x e n m ht hn).mono ?_;rintro e' w' ⟨he,γ',o,d,k⟩;exact⟨he,γ',o,h.wX hlt d fun j hj _=>k j (by unfold yU;omega),fun j hj=>k j (by unfold yU;omega)⟩
theorem Sy(h:xR γ b g p M)(ho:Own w0 w γ){i:Nat}{D:Dm}(hi:M.ds[i]? =some D){t:Int}(ht:t∈D.sv.list)(x:En)(hok:D.Zg t x)(hn:D.seen.length≤1000000):Calls Tryz.prog 67 #[.p (p.gd.getD i 0),.i t,x.val] w (bP w0 γ b g p (M.wX i (D.xL t x).1) (.agg (D.xL t x).2.xq)):=by obtain⟨q,hD⟩:=h.each i D hi;have hlt:=(zk.1 hi).1;have h8:=h.d8;refine(No hD ho x ht hok (by rw[Dm.Zx];exact hn)).mono ?_;rintro e' w' ⟨he,γ',o,d,k⟩;exact⟨he,γ',o,h.wX hlt d fun j hj _=>k j (by unfold yU;omega),fun j hj=>k j (by unfold yU;omega)⟩
theorem PC(h:xR γ b g p M)(ho:Own w0 w γ)(hok:wj M a s)(ha:a<999){d t:Int}(hd:Fits d)(ht:Fits t)(x:En):Calls Tryz.prog 65 #[.p p.gl,.i d,.i t,x.val] w fun e w'=>e=.returned (.tuple #[.i (qE M.ln d t x.op x.a x.b x.c).1,.i (qE M.ln d t x.op x.a x.b x.c).2.1,.i (qE M.ln d t x.op x.a x.b x.c).2.2.1])∧∃γ',Own w0 w' γ'∧xR γ' b g p (M.uV (qE M.ln d t x.op x.a x.b x.c).2.2.2)∧∀k,(k<b+10∨b+40≤k)→γ' k=γ k:=by have h8:=h.l8;refine(Wn (h.sC.at_ ho) (by omega) (fun i hi=>by have:=hok.sX i hi;omega) hd ht x.kind x.xr x.pick x.op x.a x.b x.c).mono ?_;rintro e w' ⟨he,γ',hl,k⟩;exact⟨he,γ',hl.own,h.uV hl.top (by rw[VG];exact h8) fun j hj _=>k j (by omega),fun j hj=>k j (by omega)⟩
theorem Wq(h:xR γ b g p M)(ho:Own w0 w γ)(hok:wj M a s)(ha:a<999)(hsn:s≤900000){i:Nat}{D:Dm}(hi:M.ds[i]? =some D){t:Int}(ht:t∈D.sv.list)(x:En)(hx:x.xr=i)(h27:27≤x.op)(h34:x.op≤34):Calls Tryz.prog 47 #[.p g,.p (p.gd.getD i 0),.i t,x.val] w (qZ w0 γ b g (M.act i D t x).1 (.agg (M.act i D t x).2.xq)):=by
 obtain⟨γ1,o1,b1,b2,k1⟩:=vv ho (b+5) (b+6) (by omega) x.xq #[.i 0,.i 0,.i 0,.i 0,.i 0,.i 0] 38 41;have h1:xR γ1 b g p M:=h.keep fun k hk=>k1 k (by unfold xB at hk;omega) (by unfold xB at hk;omega);obtain⟨q1,q2,q3,q4⟩:=hok.kg D (zo hi);have hlt:=(zk.1 hi).1;have h8:=h.d8;obtain⟨hlive,hrun⟩:=q1.yZ ht;have htm:=AV.rD q1.vr hlive;have htp:=AV.wJ hlive;have hfd:Fits x.xr:=qo (by omega) (by omega);have hft:Fits t:=qo (by omega) (by omega);have HK1:Hid (∀k,(k<b∨b+2000≤k∨k=b+3∨k=b+4)→γ1 k=γ k):=I fun k hk=>k1 k (by omega) (by omega);have hact:M.act i D t x=((M.uV (qE M.ln x.xr t x.op x.a x.b x.c).2.2.2).wX i (D.tell t x (qE M.ln x.xr t x.op x.a x.b x.c).1 (qE M.ln x.xr t x.op x.a x.b x.c).2.1 (qE M.ln x.xr t x.op x.a x.b x.c).2.2.1).1,(D.tell t x (qE M.ln x.xr t x.op x.a x.b x.c).1 (qE M.ln x.xr t x.op x.a x.b x.c).2.1 (qE M.ln x.xr t x.op x.a x.b x.c).2.2.1).2):=by unfold Mc.act;rw[if_pos ⟨h27,h34⟩]
 rw[hact];clear hact;have HLN:=I fun W (hW:Own w0 W γ1)=>PC h1 hW hok ha hfd hft x;generalize qE M.ln x.xr t x.op x.a x.b x.c=R at*;obtain⟨re,rn,rm,ls⟩:=R;simp only at HLN⊢;have HT:=I fun W γ2 (hW:Own w0 W γ2) (h2:xR γ2 b g p (M.uV ls))=>Ug h2 hW (D:=D) hi ht (by omega) x re rn rm;have HL2:Hid (∀W,Own w0 W γ1→Calls Tryz.prog 65 #[.p p.gl,.i x.xr,.i t,x.val] W fun e w2=>e=.returned (.tuple #[.i re,.i rn,.i rm])∧∃γ2,Own w0 w2 γ2∧(∀k,(k<b+10∨b+40≤k)→γ2 k=γ1 k)∧Calls Tryz.prog 66 #[.p (p.gd.getD i 0),.i t,x.val,.i re,.i rn,.i rm] w2 (bP w0 γ2 b g p ((M.uV ls).wX i (D.tell t x re rn rm).1) (.agg (D.tell t x re rn rm).2.xq))):=I fun W hW=>(HLN.out W hW).mono (by rintro e w2 ⟨he,γ2,o2,h2,k2⟩;exact⟨he,γ2,o2,k2,HT.out w2 γ2 o2 h2⟩);have HC2:Hid (∀W,Own w0 W γ1→W.cell? (zc g 2)=some (.p p.gl)):=I fun W hW=>hW.cell h1.xw rfl;clear HLN HT h1 k1 hok q1 q2 q3 q4 hlive hrun htm htp hi hlt h8 ht;generalize(M.uV ls).wX i (D.tell t x re rn rm).1=MZ at*;generalize(D.tell t x re rn rm).2=O at*;obtain⟨y1,y2,y3,y4,y5,y6⟩:=O;unfold xN.xq at*;generalize p.gd.getD i 0=gr at*;clear hx;obtain⟨xk,xd,xp,xo,xa,xb,xc⟩:=x;unfold En.val;unfold En.xq at b1 o1⊢;simp only at b1 o1 HL2 h27 h34 hfd⊢;show Calls _ _ #[_,_,_,.agg #[.i xk,.i xd,.i xp,.i xo,.i xa,.i xb,.i xc]] _ _;obtain⟨r0,r1,r2,r3,r4,r5,r6⟩:=uJ o1 b1;have HB1:=I (And.intro b1 b2);have HO:=I o1;unfold En.val En.xq at HL2;simp only at HL2;have d1:decide (27≤xo)=true:=decide_eq_true h27;have d2:decide (xo≤34)=true:=decide_eq_true h34;clear h27 h34 o1 b1 b2;go_in;go_wp2_with fail;generalize(w.alloc (.cells #[.i xk,.i xd,.i xp,.i xo,.i xa,.i xb,.i xc] 38)).alloc (.cells #[.i 0,.i 0,.i 0,.i 0,.i 0,.i 0] 41)=W1 at*;clear r0 r1 r2 r3 r4 r5 r6;refine yP.region [0,1,2,3,4,5,6,7] (.step 8 (.step 9 (.step 10 (.step 11 (.step 12 (.step 13 (.step 14 (.step 15 .done)))))))) (fun w'=>Own w0 w' γ1) (by kernel_rfl) (by kernel_rfl) (fun _ _ _ _ _ h=>h) HO.out.drew ?_;repeat
  refine Perm.xm rfl ?_ (fun w' hS=>?_) ?_;rotate_left
  ·(have s2:=HC2.out _ hS;obtain⟨r0,r1,r2,r3,r4,r5,r6⟩:=uJ hS HB1.out.1;clear hS;go_simp;try with_reducible rfl)
  simp only[pt]
 refine Perm.xt ?_;refine yP.yY rfl (by rfl) ?_;refine yP.xJ rfl 65 _ _ rfl (by kernel_rfl) _ rfl ((HL2.out _ HO.out.drew).mono ?_);rintro e w2 ⟨rfl,γ2,o2,k2,hc2⟩;refine⟨_,rfl,Perm.xx (by kernel_rfl),?_⟩;simp only[pt];repeat
  refine yP.xA rfl (by rfl) ?_ (fun w'=>?_) ?_;rotate_left
  ·(go_simp;try with_reducible rfl)
  simp only[pt]
 refine yP.xC ?_;obtain⟨r0,r1,r2,r3,r4,r5,r6⟩:=uJ o2 ((k2 (b+5) (by omega)).trans HB1.out.1);have HB:Hid (γ2 (b+5)=_∧γ2 (b+6)=_):=I ⟨(k2 (b+5) (by omega)).trans HB1.out.1,(k2 (b+6) (by omega)).trans HB1.out.2⟩;have HK:Hid (∀k,(k<b∨b+2000≤k∨k=b+3∨k=b+4)→γ2 k=γ k):=I fun k hk=>(k2 k (by omega)).trans (HK1.out k hk);have HC:=I hc2;clear hc2 o2 k2 HB1 HK1 HL2 HC2 HO;go_wp2_with fail;refine HC.out.mono ?_;rintro e w4 ⟨rfl,γ4,o4,h4,k4⟩;have b4:=(k4 (b+6) (by omega)).trans HB.out.2;obtain⟨z0,z1,z2,z3,z4,z5,f0,f1,f2,f3,f4,f5⟩:=uP o4 b4;obtain⟨γ5,o5,b5,k5⟩:=tA o4 b4 (.i y1) (.i y2) (.i y3) (.i y4) (.i y5) (.i y6);have HZ:Hid (Own w0 _ γ5∧γ5 (b+6)=_∧wW γ5 b g MZ∧∀k,(k<b∨b+2000≤k∨k=b+3∨k=b+4)→γ5 k=γ k):=I ⟨o5,b5,⟨p,h4.keep fun k hk=>k5 k (by unfold xB at hk;omega)⟩,fun k hk=>(k5 k (by omega)).trans ((k4 k (by omega)).trans (HK.out k hk))⟩;clear o4 h4 k4 b4 o5 b5 k5 HB HK;go_wp2_with fail;obtain⟨o13,b13,h13,k13⟩:=HZ.out;exact bodyPost_ret (results_cell_row rfl _ _ (w.heap.size+1) 41 _ (0,0) _ rfl (o13.own _ _ _ b13).2 Tryz.underlying41 rfl (by kernel_rfl)) rfl ⟨rfl,γ5,o13,h13,k13⟩
theorem TB(h:xR γ b g p M)(ho:Own w0 w γ)(hok:wj M a s)(hsn:s≤900000){i:Nat}{D:Dm}(hi:M.ds[i]? =some D){t:Int}(ht:t∈D.sv.list)(x:En)(hx:x.xr=i)(hop:x.op<27∨34<x.op)(h2:x.op≠2)(hxa:x.a≤9223372036854775807)(hxb:x.b≤9223372036854775807):Calls Tryz.prog 47 #[.p g,.p (p.gd.getD i 0),.i t,x.val] w (qZ w0 γ b g (M.act i D t x).1 (.agg (M.act i D t x).2.xq)):=by
 obtain⟨γ1,o1,b1,b2,k1⟩:=vv ho (b+5) (b+6) (by omega) x.xq #[.i 0,.i 0,.i 0,.i 0,.i 0,.i 0] 38 41;have h1:xR γ1 b g p M:=h.keep fun k hk=>k1 k (by unfold xB at hk;omega) (by unfold xB at hk;omega);obtain⟨q1,q2,q3,q4⟩:=hok.kg D (zo hi);have hlt:=(zk.1 hi).1;have h8:=h.d8;obtain⟨hlive,hrun⟩:=q1.yZ ht;have htm:=AV.rD q1.vr hlive;have htp:=AV.wJ hlive;have hfd:Fits x.xr:=qo (by omega) (by omega);have hft:Fits t:=qo (by omega) (by omega);have HK1:Hid (∀k,(k<b∨b+2000≤k∨k=b+3∨k=b+4)→γ1 k=γ k):=I fun k hk=>k1 k (by omega) (by omega);have hact:M.act i D t x=(M.wX i (D.xL t x).1,(D.xL t x).2):=by unfold Mc.act;rw[if_neg (by omega),if_pos h2]
 rw[hact];clear hact;have HC:=I (Sy h1 o1 hi ht x (q1.Sq hlive x ⟨q2,q3⟩ hxa hxb) (by omega));clear h1 k1 hok q1 q2 q3 q4 hlive hrun htm htp hi hlt h8 ht hxa hxb;generalize M.wX i (D.xL t x).1=MZ at*;generalize(D.xL t x).2=O at*;obtain⟨y1,y2,y3,y4,y5,y6⟩:=O;unfold xN.xq at*;generalize p.gd.getD i 0=gr at*;clear hx hft hfd;obtain⟨xk,xd,xp,xo,xa,xb,xc⟩:=x;unfold En.val;unfold En.xq at b1 o1⊢;simp only at b1 o1 HC hop h2⊢;show Calls _ _ #[_,_,_,.agg #[.i xk,.i xd,.i xp,.i xo,.i xa,.i xb,.i xc]] _ _;obtain⟨r0,r1,r2,r3,r4,r5,r6⟩:=uJ o1 b1;have HB1:=I (And.intro b1 b2);have HO:=I o1;unfold En.val En.xq at HC;simp only at HC;have d3:(xo != 2)=true:=by simpa using h2
 have hd:decide (27≤xo)=false∨decide (27≤xo)=true∧decide (xo≤34)=false:=by
  rcases hop with q|q
  ·exact .inl (decide_eq_false (by omega))
  ·exact .inr ⟨decide_eq_true (by omega),decide_eq_false (by omega)⟩
 clear hop h2 o1 b1 b2;have HB:Hid (γ1 (b+5)=_∧γ1 (b+6)=_):=HB1;have HK:=HK1;clear HB1 HK1;rcases hd with d1|⟨d1,d2⟩;all_goals go_in;go_wp2_with fail;refine HC.out.mono ?_;rintro e w4 ⟨rfl,γ4,o4,h4,k4⟩;have b4:=(k4 (b+6) (by omega)).trans HB.out.2;obtain⟨z0,z1,z2,z3,z4,z5,f0,f1,f2,f3,f4,f5⟩:=uP o4 b4;obtain⟨γ5,o5,b5,k5⟩:=tA o4 b4 (.i y1) (.i y2) (.i y3) (.i y4) (.i y5) (.i y6);have HZ:Hid (Own w0 _ γ5∧γ5 (b+6)=_∧wW γ5 b g MZ∧∀k,(k<b∨b+2000≤k∨k=b+3∨k=b+4)→γ5 k=γ k):=I ⟨o5,b5,⟨p,h4.keep fun k hk=>k5 k (by unfold xB at hk;omega)⟩,fun k hk=>(k5 k (by omega)).trans ((k4 k (by omega)).trans (HK.out k hk))⟩;clear o4 h4 k4 b4 o5 b5 k5 HB HK;go_wp2_with fail;obtain⟨o13,b13,h13,k13⟩:=HZ.out;exact bodyPost_ret (results_cell_row rfl _ _ (w.heap.size+1) 41 _ (0,0) _ rfl (o13.own _ _ _ b13).2 Tryz.underlying41 rfl (by kernel_rfl)) rfl ⟨rfl,γ5,o13,h13,k13⟩
theorem Wp(h:xR γ b g p M)(ho:Own w0 w γ)(hok:wj M a s)(hsn:s≤900000){i:Nat}{D:Dm}(hi:M.ds[i]? =some D){t:Int}(ht:t∈D.sv.list)(x:En)(hx:x.xr=i)(h2:x.op=2)(hwr:tC M.ln x.xr t=true):Calls Tryz.prog 47 #[.p g,.p (p.gd.getD i 0),.i t,x.val] w (qZ w0 γ b g (M.act i D t x).1 (.agg (M.act i D t x).2.xq)):=by
 obtain⟨γ1,o1,b1,b2,k1⟩:=vv ho (b+5) (b+6) (by omega) x.xq #[.i 0,.i 0,.i 0,.i 0,.i 0,.i 0] 38 41;have h1:xR γ1 b g p M:=h.keep fun k hk=>k1 k (by unfold xB at hk;omega) (by unfold xB at hk;omega);obtain⟨q1,q2,q3,q4⟩:=hok.kg D (zo hi);have hlt:=(zk.1 hi).1;have h8:=h.d8;obtain⟨hlive,hrun⟩:=q1.yZ ht;have htm:=AV.rD q1.vr hlive;have htp:=AV.wJ hlive;have hfd:Fits x.xr:=qo (by omega) (by omega);have hft:Fits t:=qo (by omega) (by omega);have HK1:Hid (∀k,(k<b∨b+2000≤k∨k=b+3∨k=b+4)→γ1 k=γ k):=I fun k hk=>k1 k (by omega) (by omega);have hact:M.act i D t x=(M.wX i (D.tell t x 11 0 0).1,(D.tell t x 11 0 0).2):=by unfold Mc.act;rw[if_neg (by omega),if_neg (by omega),if_pos hwr]
 rw[hact];clear hact;have HC1:=I fun W (hW:Own w0 W γ1)=>Ug h1 hW hi ht (by omega) x 11 0 0;have HW:=I fun W (hW:Own w0 W γ1)=>bg (h1.sC.at_ hW) (by have:=h1.l8;omega) x.xr t;unfold bf at HW;rw[hwr]at HW;have HC2:Hid (∀W,Own w0 W γ1→W.cell? (zc g 2)=some (.p p.gl)):=I fun W hW=>hW.cell h1.xw rfl;clear h1 k1 hok q1 q2 q3 q4 hlive hrun htm htp hi hlt h8 ht hwr;generalize M.wX i (D.tell t x 11 0 0).1=MZ at*;generalize(D.tell t x 11 0 0).2=O at*;obtain⟨y1,y2,y3,y4,y5,y6⟩:=O;unfold xN.xq at*;generalize p.gd.getD i 0=gr at*;clear hx hft hfd;obtain⟨xk,xd,xp,xo,xa,xb,xc⟩:=x;unfold En.val;unfold En.xq at b1 o1⊢;simp only at b1 o1 HC1 HW h2⊢;show Calls _ _ #[_,_,_,.agg #[.i xk,.i xd,.i xp,.i xo,.i xa,.i xb,.i xc]] _ _;obtain⟨r0,r1,r2,r3,r4,r5,r6⟩:=uJ o1 b1;have HB1:=I (And.intro b1 b2);have HO:=I o1;unfold En.val En.xq at HC1;simp only at HC1;subst h2;clear o1 b1 b2;have HK:=HK1;clear HK1;go_in;go_wp2_with fail;generalize(w.alloc (.cells #[.i xk,.i xd,.i xp,.i 2,.i xa,.i xb,.i xc] 38)).alloc (.cells #[.i 0,.i 0,.i 0,.i 0,.i 0,.i 0] 41)=W1 at*;clear r0 r1 r2 r3 r4 r5 r6;refine yP.region [0,1,2,3,4,5,6] (.step 7 (.step 8 .done)) (fun w'=>Own w0 w' γ1) (by kernel_rfl) (by kernel_rfl) (fun _ _ _ _ _ h=>h) HO.out.drew ?_;repeat
  refine Perm.xm rfl ?_ (fun w' hS=>?_) ?_;rotate_left
  ·(have s2:=HC2.out _ hS;obtain⟨r0,r1,r2,r3,r4,r5,r6⟩:=uJ hS HB1.out.1;clear hS;go_simp;try with_reducible rfl)
  simp only[pt]
 refine Perm.xt ?_;refine yP.yY rfl (by rfl) ?_;refine yP.xJ rfl 68 _ _ rfl (by kernel_rfl) _ rfl ((HW.out _ HO.out.drew).mono ?_);rintro e w2 ⟨rfl,hb2⟩;refine⟨_,rfl,Perm.xx (by kernel_rfl),?_⟩;simp only[pt];repeat
  refine yP.xA rfl (by rfl) ?_ (fun w'=>?_) ?_;rotate_left
  ·(go_simp;try with_reducible rfl)
  simp only[pt]
 refine yP.xC ?_;have O2:=I (HO.out.drew.xh hb2);obtain⟨r0,r1,r2,r3,r4,r5,r6⟩:=uJ O2.out HB1.out.1;have HC:=I (HC1.out w2 O2.out);have HB:Hid (γ1 (b+5)=_∧γ1 (b+6)=_):=HB1;clear hb2 HC1 HW HC2 HO HB1;go_wp2_with fail;refine HC.out.mono ?_;rintro e w4 ⟨rfl,γ4,o4,h4,k4⟩;have b4:=(k4 (b+6) (by omega)).trans HB.out.2;obtain⟨z0,z1,z2,z3,z4,z5,f0,f1,f2,f3,f4,f5⟩:=uP o4 b4;obtain⟨γ5,o5,b5,k5⟩:=tA o4 b4 (.i y1) (.i y2) (.i y3) (.i y4) (.i y5) (.i y6);have HZ:Hid (Own w0 _ γ5∧γ5 (b+6)=_∧wW γ5 b g MZ∧∀k,(k<b∨b+2000≤k∨k=b+3∨k=b+4)→γ5 k=γ k):=I ⟨o5,b5,⟨p,h4.keep fun k hk=>k5 k (by unfold xB at hk;omega)⟩,fun k hk=>(k5 k (by omega)).trans ((k4 k (by omega)).trans (HK.out k hk))⟩;clear o4 h4 k4 b4 o5 b5 k5 HB HK;go_wp2_with fail;obtain⟨o13,b13,h13,k13⟩:=HZ.out;exact bodyPost_ret (results_cell_row rfl _ _ (w.heap.size+1) 41 _ (0,0) _ rfl (o13.own _ _ _ b13).2 Tryz.underlying41 rfl (by kernel_rfl)) rfl ⟨rfl,γ5,o13,h13,k13⟩
theorem Wo(h:xR γ b g p M)(ho:Own w0 w γ)(hok:wj M a s)(hsn:s≤900000){i:Nat}{D:Dm}(hi:M.ds[i]? =some D){t:Int}(ht:t∈D.sv.list)(x:En)(hx:x.xr=i)(h2:x.op=2)(hwr:tC M.ln x.xr t=false)(hxa:x.a≤9223372036854775807)(hxb:x.b≤9223372036854775807):Calls Tryz.prog 47 #[.p g,.p (p.gd.getD i 0),.i t,x.val] w (qZ w0 γ b g (M.act i D t x).1 (.agg (M.act i D t x).2.xq)):=by
 obtain⟨γ1,o1,b1,b2,k1⟩:=vv ho (b+5) (b+6) (by omega) x.xq #[.i 0,.i 0,.i 0,.i 0,.i 0,.i 0] 38 41;have h1:xR γ1 b g p M:=h.keep fun k hk=>k1 k (by unfold xB at hk;omega) (by unfold xB at hk;omega);obtain⟨q1,q2,q3,q4⟩:=hok.kg D (zo hi);have hlt:=(zk.1 hi).1;have h8:=h.d8;obtain⟨hlive,hrun⟩:=q1.yZ ht;have htm:=AV.rD q1.vr hlive;have htp:=AV.wJ hlive;have hfd:Fits x.xr:=qo (by omega) (by omega);have hft:Fits t:=qo (by omega) (by omega);have HK1:Hid (∀k,(k<b∨b+2000≤k∨k=b+3∨k=b+4)→γ1 k=γ k):=I fun k hk=>k1 k (by omega) (by omega);have hact:M.act i D t x=((if(D.xL t x).2.e=0 then M.uV {M.ln with f:=vH M.ln.f x.xr t}else M).wX i (D.xL t x).1,(D.xL t x).2):=by unfold Mc.act;rw[if_neg (by omega),if_neg (by omega),if_neg (by rw[hwr];decide)]
 rw[hact];clear hact;have HC1:=I fun W (hW:Own w0 W γ1)=>Sy h1 hW hi ht x (q1.Sq hlive x ⟨q2,q3⟩ hxa hxb) (by omega);have HW:=I fun W (hW:Own w0 W γ1)=>bg (h1.sC.at_ hW) (by have:=h1.l8;omega) x.xr t;unfold bf at HW;rw[hwr]at HW;have HC2:Hid (∀W,Own w0 W γ1→W.cell? (zc g 2)=some (.p p.gl)):=I fun W hW=>hW.cell h1.xw rfl;have HG:Hid (∀W γ2,Own w0 W γ2→xR γ2 b g p (M.wX i (D.xL t x).1)→W.cell? (zc g 2)=some (.p p.gl)∧Calls Tryz.prog 69 #[.p p.gl,.i x.xr,.i t] W fun e w'=>(∃v,e=.returned v)∧∃γ',Own w0 w' γ'∧xR γ' b g p ((M.uV {M.ln with f:=vH M.ln.f x.xr t}).wX i (D.xL t x).1)∧∀k,k≠b+11→γ' k=γ2 k):=I fun W γ2 hW h2=>by refine⟨hW.cell h2.xw rfl,(h2.sC.forget hW hfd hft).mono ?_⟩;rintro e w' ⟨he,γ',o,l,k⟩;exact⟨he,γ',o,h2.uV l h2.l8 fun j hj hu=>k j (by unfold xB at hu;omega),fun j hj=>k j (by omega)⟩
 clear h1 k1 hok q1 q2 q3 q4 hlive hrun htm htp hi hlt h8 ht hwr hxa hxb;have HM:Hid (((D.xL t x).2.e=0→(if(D.xL t x).2.e=0 then M.uV {M.ln with f:=vH M.ln.f x.xr t}else M).wX i (D.xL t x).1=(M.uV {M.ln with f:=vH M.ln.f x.xr t}).wX i (D.xL t x).1)∧((D.xL t x).2.e≠0→(if(D.xL t x).2.e=0 then M.uV {M.ln with f:=vH M.ln.f x.xr t}else M).wX i (D.xL t x).1=M.wX i (D.xL t x).1)):=I ⟨fun e=>by rw[if_pos e],fun e=>by rw[if_neg e]⟩;generalize(if(D.xL t x).2.e=0 then M.uV {M.ln with f:=vH M.ln.f x.xr t}else M).wX i (D.xL t x).1=MZ at*;generalize(M.uV {M.ln with f:=vH M.ln.f x.xr t}).wX i (D.xL t x).1=MA at*;generalize M.wX i (D.xL t x).1=MB at*;generalize(D.xL t x).2=O at*;obtain⟨y1,y2,y3,y4,y5,y6⟩:=O;unfold xN.xq at*;simp only at HM;generalize p.gd.getD i 0=gr at*;clear hx hft hfd;obtain⟨xk,xd,xp,xo,xa,xb,xc⟩:=x;unfold En.val;unfold En.xq at b1 o1⊢;simp only at b1 o1 HC1 HW HG h2⊢;show Calls _ _ #[_,_,_,.agg #[.i xk,.i xd,.i xp,.i xo,.i xa,.i xb,.i xc]] _ _;obtain⟨r0,r1,r2,r3,r4,r5,r6⟩:=uJ o1 b1;have HB1:=I (And.intro b1 b2);have HO:=I o1;unfold En.val En.xq at HC1;simp only at HC1;subst h2;clear o1 b1 b2;have HK:=HK1;clear HK1;go_in;go_wp2_with fail;generalize(w.alloc (.cells #[.i xk,.i xd,.i xp,.i 2,.i xa,.i xb,.i xc] 38)).alloc (.cells #[.i 0,.i 0,.i 0,.i 0,.i 0,.i 0] 41)=W1 at*;clear r0 r1 r2 r3 r4 r5 r6;refine yP.region [0,1,2,3,4,5,6] (.step 7 (.step 8 .done)) (fun w'=>Own w0 w' γ1) (by kernel_rfl) (by kernel_rfl) (fun _ _ _ _ _ h=>h) HO.out.drew ?_;repeat
  refine Perm.xm rfl ?_ (fun w' hS=>?_) ?_;rotate_left
  ·(have s2:=HC2.out _ hS;obtain⟨r0,r1,r2,r3,r4,r5,r6⟩:=uJ hS HB1.out.1;clear hS;go_simp;try with_reducible rfl)
  simp only[pt]
 refine Perm.xt ?_;refine yP.yY rfl (by rfl) ?_;refine yP.xJ rfl 68 _ _ rfl (by kernel_rfl) _ rfl ((HW.out _ HO.out.drew).mono ?_);rintro e w2 ⟨rfl,hb2⟩;refine⟨_,rfl,Perm.xx (by kernel_rfl),?_⟩;simp only[pt];repeat
  refine yP.xA rfl (by rfl) ?_ (fun w'=>?_) ?_;rotate_left
  ·(go_simp;try with_reducible rfl)
  simp only[pt]
 refine yP.xC ?_;have O2:=I (HO.out.drew.xh hb2);obtain⟨r0,r1,r2,r3,r4,r5,r6⟩:=uJ O2.out HB1.out.1;have HC:=I (HC1.out w2 O2.out);clear hb2 HC1 HW HC2 HO;go_wp2_with fail;refine HC.out.mono ?_;rintro e w4 ⟨rfl,γ4,o4,h4,k4⟩;clear r0 r1 r2 r3 r4 r5 r6;have HB4:Hid (γ4 (b+5)=_∧γ4 (b+6)=_):=I ⟨(k4 (b+5) (by omega)).trans HB1.out.1,(k4 (b+6) (by omega)).trans HB1.out.2⟩;have H4:=I h4;have K4:Hid (∀k,(k<b∨b+2000≤k∨k=b+3∨k=b+4)→γ4 k=γ k):=I fun k hk=>(k4 k (by omega)).trans (HK.out k hk);have O4:=I o4;clear o4 h4 k4 HC O2 HB1 HK;have o6:=O4.out.new (b+7) (.cells #[.i y1,.i y2,.i y3,.i y4,.i y5,.i y6] 41);have HO6:=I o6;have B6:Hid (put γ4 (b+7) w4.heap.size (.cells #[.i y1,.i y2,.i y3,.i y4,.i y5,.i y6] 41) (b+7)=_∧put γ4 (b+7) w4.heap.size (.cells #[.i y1,.i y2,.i y3,.i y4,.i y5,.i y6] 41) (b+5)=_∧put γ4 (b+7) w4.heap.size (.cells #[.i y1,.i y2,.i y3,.i y4,.i y5,.i y6] 41) (b+6)=_):=I ⟨yQ _ _ _ _,(yO _ _ _ (by omega)).trans HB4.out.1,(yO _ _ _ (by omega)).trans HB4.out.2⟩;have H6:Hid (xR (put γ4 (b+7) w4.heap.size (.cells #[.i y1,.i y2,.i y3,.i y4,.i y5,.i y6] 41)) b g p MB):=I (H4.out.keep fun k hk=>yO _ _ _ (by unfold xB at hk;omega));have K6:Hid (∀k,(k<b∨b+2000≤k∨k=b+3∨k=b+4)→put γ4 (b+7) w4.heap.size (.cells #[.i y1,.i y2,.i y3,.i y4,.i y5,.i y6] 41) k=γ k):=I fun k hk=>(yO _ _ _ (by omega)).trans (K4.out k hk);generalize put γ4 (b+7) w4.heap.size (.cells #[.i y1,.i y2,.i y3,.i y4,.i y5,.i y6] 41)=γ6 at*;obtain⟨z0,z1,z2,z3,z4,z5,f0,f1,f2,f3,f4,f5⟩:=uP o6 B6.out.1;clear o6 H4 K4 O4 HB4;cases he:(y4==0)with
 |true=>
  have e0:y4=0:=by simpa using he
  obtain rfl:=HM.out.1 e0;clear HM e0;obtain⟨hc2,hcall⟩:=HG.out _ γ6 HO6.out.drew H6.out;have HCALL:=I hcall;have HC2:Hid (∀W,Own w0 W γ6→W.cell? (zc g 2)=some (.p p.gl)):=I fun W hW=>hW.cell H6.out.xw rfl;clear hc2 hcall HG;go_wp2_with fail;clear z0 z1 z2 z3 z4 z5 f0 f1 f2 f3 f4 f5;refine yP.region [0,1,2,3,4,5,6] (.step 7 .done) (fun w'=>Own w0 w' γ6) (by kernel_rfl) (by kernel_rfl) (fun _ _ _ _ _ h=>h) HO6.out.drew ?_;repeat
   refine Perm.xm rfl ?_ (fun w' hS=>?_) ?_;rotate_left
   ·(have s2:=HC2.out _ hS;obtain⟨r0,r1,r2,r3,r4,r5,r6⟩:=uJ hS B6.out.2.1;clear hS;go_simp;try with_reducible rfl)
   simp only[pt]
  refine Perm.xt ?_;refine yP.yY rfl (by rfl) ?_;refine yP.xJ rfl 69 _ _ rfl (by kernel_rfl) _ rfl (HCALL.out.mono ?_);rintro e w7 ⟨⟨v,rfl⟩,γ7,o7,h7,k7⟩;refine⟨_,rfl,Perm.xx (by kernel_rfl),?_⟩;simp only[pt];repeat
   refine yP.xA rfl (by rfl) ?_ (fun w'=>?_) ?_;rotate_left
   ·(go_simp;try with_reducible rfl)
   simp only[pt]
  refine yP.xC ?_;have O9:=I o7;have HB9:=I ((k7 (b+6) (by omega)).trans B6.out.2.2);have H9:=I h7;have K9:Hid (∀k,(k<b∨b+2000≤k∨k=b+3∨k=b+4)→γ7 k=γ k):=I fun k hk=>(k7 k (by omega)).trans (K6.out k hk);obtain⟨t0,t1,t2,t3,t4,t5,-⟩:=uP o7 ((k7 (b+7) (by omega)).trans B6.out.1);clear o7 h7 k7 HCALL HC2 HO6 B6 H6 K6;obtain⟨u0,u1,u2,u3,u4,u5,f0,f1,f2,f3,f4,f5⟩:=uP O9.out HB9.out;obtain⟨γ5,o5,b5,k5⟩:=tA O9.out HB9.out (.i y1) (.i y2) (.i y3) (.i y4) (.i y5) (.i y6);have HZ:Hid (Own w0 _ γ5∧γ5 (b+6)=_∧wW γ5 b g MZ∧∀k,(k<b∨b+2000≤k∨k=b+3∨k=b+4)→γ5 k=γ k):=I ⟨o5,b5,⟨p,H9.out.keep fun k hk=>k5 k (by unfold xB at hk;omega)⟩,fun k hk=>(k5 k (by omega)).trans (K9.out k hk)⟩;clear o5 b5 k5 O9 HB9 H9 K9;go_wp2_with fail;obtain⟨o13,b13,h13,k13⟩:=HZ.out;exact bodyPost_ret (results_cell_row rfl _ _ (w.heap.size+1) 41 _ (0,0) _ rfl (o13.own _ _ _ b13).2 Tryz.underlying41 rfl (by kernel_rfl)) rfl ⟨rfl,γ5,o13,h13,k13⟩
 |false=>
  have e0:y4≠0:=by simpa using he
  obtain rfl:=HM.out.2 e0;have O9:=HO6;have HB9:=I B6.out.2.2;have H9:=H6;have K9:=K6;clear e0 HM HG HO6 B6 H6 K6 f0 f1 f2 f3 f4 f5;obtain⟨u0,u1,u2,u3,u4,u5,f0,f1,f2,f3,f4,f5⟩:=uP O9.out HB9.out;obtain⟨γ5,o5,b5,k5⟩:=tA O9.out HB9.out (.i y1) (.i y2) (.i y3) (.i y4) (.i y5) (.i y6);have HZ:Hid (Own w0 _ γ5∧γ5 (b+6)=_∧wW γ5 b g MZ∧∀k,(k<b∨b+2000≤k∨k=b+3∨k=b+4)→γ5 k=γ k):=I ⟨o5,b5,⟨p,H9.out.keep fun k hk=>k5 k (by unfold xB at hk;omega)⟩,fun k hk=>(k5 k (by omega)).trans (K9.out k hk)⟩;clear o5 b5 k5 O9 HB9 H9 K9;go_wp2_with fail;obtain⟨o13,b13,h13,k13⟩:=HZ.out;exact bodyPost_ret (results_cell_row rfl _ _ (w.heap.size+1) 41 _ (0,0) _ rfl (o13.own _ _ _ b13).2 Tryz.underlying41 rfl (by kernel_rfl)) rfl ⟨rfl,γ5,o13,h13,k13⟩
theorem Ov(h:xR γ b g p M)(ho:Own w0 w γ)(hok:wj M a s)(ha:a<999)(hsn:s≤900000){i:Nat}{D:Dm}(hi:M.ds[i]? =some D){t:Int}(ht:t∈D.sv.list)(x:En)(hx:x.xr=i)(hxa:x.a≤9223372036854775807)(hxb:x.b≤9223372036854775807):Calls Tryz.prog 47 #[.p g,.p (p.gd.getD i 0),.i t,x.val] w (qZ w0 γ b g (M.act i D t x).1 (.agg (M.act i D t x).2.xq)):=by
 by_cases h1:27≤x.op∧x.op≤34
 ·exact Wq h ho hok ha hsn hi ht x hx h1.1 h1.2
 by_cases h2:x.op=2
 ·cases hw:tC M.ln x.xr t with
  |true=>exact Wp h ho hok hsn hi ht x hx h2 hw
  |false=>exact Wo h ho hok hsn hi ht x hx h2 hw hxa hxb
 ·exact TB h ho hok hsn hi ht x hx (by omega) h2 hxa hxb
end
end
end Go.Proofs.YtkmamlifgbocgaaGreat
