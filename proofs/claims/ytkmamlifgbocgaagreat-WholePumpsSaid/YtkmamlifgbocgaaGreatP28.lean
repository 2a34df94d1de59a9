/- What the program's code does, as contracts, and what follows of it, part 28: for the law's proof. -/
import Derived.Test.YtkmamlifgbocgaaGreatP00
import Derived.Test.YtkmamlifgbocgaaGreatP27
set_option linter.unusedVariables false
set_option linter.unusedSimpArgs false
set_option maxRecDepth 100000
set_option maxHeartbeats 16000000
namespace Go.Proofs.YtkmamlifgbocgaaGreat
section
open Go.RowKit Go.WideShapes Go.ChangeMaps
section
variable {w0 w:World} {γ γ':U} {b g:Nat} {p:kd} {M:Mc} {a s:Nat}
theorem wW.keep(h:wW γ b g M)(hk:∀k,xB b k→γ' k=γ k):wW γ' b g M:=by obtain⟨p,h⟩:=h;exact⟨p,h.keep hk⟩
theorem xR.PQ(h:xR γ b g p M)(n:Int)(hb:γ' b=some (g,.cells #[p.vs,p.vd,.p p.gl,.i n] 105 (0,0)))(hk:∀k,k≠b→xB b k→γ' k=γ k):xR γ' b g p {M with now:=n}where
 xw:=hb
 uu:=h.uu.keep (hk _ (by omega) (by unfold xB;omega))
 qh:=h.qh.keep (hk _ (by omega) (by unfold xB;omega))
 each:=fun i D hi=>by
  replace hi:M.ds[i]? =some D:=hi
  have:=(zk.1 hi).1
  have:=h.d8
  exact(h.each i D hi).keep fun k hu=>hk k (by unfold xi at hu;omega) (by unfold xi at hu;unfold xB;omega)
 sC:=h.sC.keep h.l8 fun k q1 q2=>hk k (by omega) (by unfold xB;omega)
 d8:=h.d8
 l8:=h.l8
theorem Ua(h:xR γ b g p M)(ho:Own w0 w γ)(hok:wj M a s)(ha:a<999)(hsn:s≤900000)(x:En)(hk:x.kind=1)(hn:M.now=4611686018427387904):Calls Tryz.prog 29 #[.p g,x.val] w (kK w0 γ b g (M.xL x).1 (.agg (M.xL x).2.xq)):=by
 obtain⟨γ1,o1,b1,b2,k1⟩:=vv ho (b+3) (b+4) (by omega) x.xq #[.i 0,.i 0,.i 0,.i 0,.i 0,.i 0] 38 41;have h1:xR γ1 b g p M:=h.keep fun k hk=>k1 k (by unfold xB at hk;omega) (by unfold xB at hk;omega);have K1:Hid (∀k,(k<b∨b+2000≤k)→γ1 k=γ k):=I fun k hk=>k1 k (by omega) (by omega);have hact:M.xL x=(M,xN.err 13):=by unfold Mc.xL;rw[if_pos hk,if_pos hn]
 rw[hact];have H0:=I (And.intro ho h);clear hact h ho k1;have cnow:=o1.cell h1.xw (i:=3) (v:=.i M.now) rfl;obtain⟨xk,xd,xp,xo,xa,xb,xc⟩:=x;unfold En.val xN.err xN.xq;unfold En.xq at b1 o1 cnow⊢;simp only at b1 o1 cnow hk⊢;show Calls _ _ #[_,.agg #[.i xk,.i xd,.i xp,.i xo,.i xa,.i xb,.i xc]] _ _;obtain⟨r0,r1,r2,r3,r4,r5,r6⟩:=uJ o1 b1;have HB1:=I (And.intro b1 b2);have HO:=I o1;subst hk;have dn:(M.now==4611686018427387904)=true:=by simpa using hn
 clear hn;generalize M.now=nw at*;clear h1 b1 b2 o1 HO HB1 K1;go_in;obtain⟨γ5,o5,-,b5,k5⟩:=vv H0.out.1 (b+3) (b+4) (by omega) #[.i 1,.i xd,.i xp,.i xo,.i xa,.i xb,.i xc] #[.i 0,.i 0,.i 0,.i 13,.i 0,.i 0] 38 41;have HZ:Hid (Own w0 _ γ5∧γ5 (b+4)=_∧wW γ5 b g M∧∀k,(k<b∨b+2000≤k)→γ5 k=γ k):=I ⟨o5,b5,⟨p,H0.out.2.keep fun k hk=>k5 k (by unfold xB at hk;omega) (by unfold xB at hk;omega)⟩,fun k hk=>k5 k (by omega) (by omega)⟩;clear o5 b5 k5 H0;go_wp2_with fail;obtain⟨o13,b13,h13,k13⟩:=HZ.out;exact bodyPost_ret (results_cell_row rfl _ _ (w.heap.size+1) 41 _ (0,0) _ rfl (o13.own _ _ _ b13).2 Tryz.underlying41 rfl (by kernel_rfl)) rfl ⟨rfl,γ5,o13,h13,k13⟩
theorem Ud(h:xR γ b g p M)(ho:Own w0 w γ)(hok:wj M a s)(ha:a<999)(hsn:s≤900000)(x:En)(hk:x.kind=1)(hn:M.now≠4611686018427387904):Calls Tryz.prog 29 #[.p g,x.val] w (kK w0 γ b g (M.xL x).1 (.agg (M.xL x).2.xq)):=by
 obtain⟨γ1,o1,b1,b2,k1⟩:=vv ho (b+3) (b+4) (by omega) x.xq #[.i 0,.i 0,.i 0,.i 0,.i 0,.i 0] 38 41;have h1:xR γ1 b g p M:=h.keep fun k hk=>k1 k (by unfold xB at hk;omega) (by unfold xB at hk;omega);have K1:Hid (∀k,(k<b∨b+2000≤k)→γ1 k=γ k):=I fun k hk=>k1 k (by omega) (by omega);have hact:M.xL x=(M.tick,xN.err 0):=by unfold Mc.xL;rw[if_pos hk,if_neg hn]
 rw[hact];have H0:=I (And.intro ho h);clear hact h ho k1;have cnow:=o1.cell h1.xw (i:=3) (v:=.i M.now) rfl;have n0:=hok.n0;have n1:=hok.n1;have fnow:=o1.free h1.xw 3;have o2:=o1.set h1.xw 3 (.i (M.now+1));have h2:xR (put γ1 b g (.cells #[p.vs,p.vd,.p p.gl,.i (M.now+1)] 105)) b g p {M with now:=M.now+1}:=h1.PQ _ (yQ _ _ _ _) fun k q1 _=>yO _ _ _ q1;have hok2:wj {M with now:=M.now+1} a s:=⟨hok.uu,hok.gy,hok.own,hok.kg,hok.sX,by show 0≤M.now+1;omega,by show M.now+1≤_;omega⟩;have k2:∀k,k≠b→put γ1 b g (.cells #[p.vs,p.vd,.p p.gl,.i (M.now+1)] 105) k=γ1 k:=fun k hk=>yO _ _ _ hk;have o2':Own w0 _ (put γ1 b g (.cells #[p.vs,p.vd,.p p.gl,.i (M.now+1)] 105)):=o2;clear o2;have HBG:=I (Xr h2 o2' hok2 hsn);have HB2:=I (And.intro ((k2 (b+3) (by omega)).trans b1) ((k2 (b+4) (by omega)).trans b2));have K2:Hid (∀k,(k<b∨b+2000≤k)→put γ1 b g (.cells #[p.vs,p.vd,.p p.gl,.i (M.now+1)] 105) k=γ k):=I fun k hk=>(k2 k (by omega)).trans (K1.out k hk);clear o2' h2 hok2 k2 K1 hok h1;unfold Mc.tick;generalize put γ1 b g (.cells #[p.vs,p.vd,.p p.gl,.i (M.now+1)] 105)=γ2 at*;generalize Mc.rQ {M with now:=M.now+1}=MZ at*;obtain⟨xk,xd,xp,xo,xa,xb,xc⟩:=x;unfold En.val xN.err xN.xq;unfold En.xq at b1 o1 cnow⊢;simp only at b1 o1 cnow hk HBG HB2 fnow⊢;show Calls _ _ #[_,.agg #[.i xk,.i xd,.i xp,.i xo,.i xa,.i xb,.i xc]] _ _;obtain⟨r0,r1,r2,r3,r4,r5,r6⟩:=uJ o1 b1;have HB1:=I (And.intro b1 b2);have HO:=I o1;unfold En.xq at HBG HB2 fnow;simp only at HBG HB2 fnow;subst hk;clear H0;have dn:(M.now==4611686018427387904)=false:=by simpa using hn
 have hn2:M.now<4611686018427387904:=by omega
 clear hn n1 b1 b2 o1 HB1 HO;generalize M.now=nw at*;go_in;go_wp2_with fail;refine HBG.out.mono ?_;rintro e w2 ⟨⟨v,rfl⟩,γ9,o9,h9,k9⟩;have O9:=I o9;have B9:=I ((k9 (b+4) (by omega)).trans HB2.out.2);have A9:Hid (wW γ9 b g MZ):=I ⟨p,h9⟩;have K9:Hid (∀k,(k<b∨b+2000≤k)→γ9 k=γ k):=I fun k hk=>(k9 k (by omega)).trans (K2.out k hk);clear o9 h9 k9 K2 HB2 HBG r0 r1 r2 r3 r4 r5 r6 cnow fnow;obtain⟨u0,u1,u2,u3,u4,u5,f0,f1,f2,f3,f4,f5⟩:=uP O9.out B9.out;obtain⟨γ5,o5,b5,k5⟩:=tA O9.out B9.out (.i 0) (.i 0) (.i 0) (.i 0) (.i 0) (.i 0);have HZ:Hid (Own w0 _ γ5∧γ5 (b+4)=_∧wW γ5 b g MZ∧∀k,(k<b∨b+2000≤k)→γ5 k=γ k):=I ⟨o5,b5,A9.out.keep fun k hk=>k5 k (by unfold xB at hk;omega),fun k hk=>(k5 k (by omega)).trans (K9.out k hk)⟩;clear o5 b5 k5 O9 B9 A9 K9;go_wp2_with fail;obtain⟨o13,b13,h13,k13⟩:=HZ.out;exact bodyPost_ret (results_cell_row rfl _ _ (w.heap.size+1) 41 _ (0,0) _ rfl (o13.own _ _ _ b13).2 Tryz.underlying41 rfl (by kernel_rfl)) rfl ⟨rfl,γ5,o13,h13,k13⟩
theorem V9(h:xR γ b g p M)(ho:Own w0 w γ)(hok:wj M a s)(ha:a<999)(hsn:s≤900000)(x:En)(hk:x.kind≠1)(hk2:x.kind≠2∨x.xr<0∨(M.ds.length:Int)≤x.xr):Calls Tryz.prog 29 #[.p g,x.val] w (kK w0 γ b g (M.xL x).1 (.agg (M.xL x).2.xq)):=by
 obtain⟨γ1,o1,b1,b2,k1⟩:=vv ho (b+3) (b+4) (by omega) x.xq #[.i 0,.i 0,.i 0,.i 0,.i 0,.i 0] 38 41;have h1:xR γ1 b g p M:=h.keep fun k hk=>k1 k (by unfold xB at hk;omega) (by unfold xB at hk;omega);have K1:Hid (∀k,(k<b∨b+2000≤k)→γ1 k=γ k):=I fun k hk=>k1 k (by omega) (by omega);have hact:M.xL x=(M,xN.err 1):=by unfold Mc.xL;rw[if_neg hk,if_pos hk2]
 rw[hact];have H0:=I (And.intro ho h);clear hact h ho k1;have cnow:=o1.cell h1.xw (i:=3) (v:=.i M.now) rfl;have hd:=I fun W (hW:Own w0 W γ1)=>cM h1 hW x.xr;have hdv:x.kind≠2∨p.pY M x.xr=.pointer none:=by
  rcases hk2 with q|q
  ·exact .inl q
  ·right;unfold kd.pY;rw[if_neg (by omega)]
 obtain⟨xk,xd,xp,xo,xa,xb,xc⟩:=x;unfold En.val xN.err xN.xq;unfold En.xq at b1 o1 cnow⊢;simp only at b1 o1 cnow hk hd hdv⊢;show Calls _ _ #[_,.agg #[.i xk,.i xd,.i xp,.i xo,.i xa,.i xb,.i xc]] _ _;obtain⟨r0,r1,r2,r3,r4,r5,r6⟩:=uJ o1 b1;have HB1:=I (And.intro b1 b2);have HO:=I o1;clear hk2 cnow;have d1:(xk==1)=false:=by simpa using hk
 clear hk;rcases hdv with hq|hq
 ·have d2:(xk != 2)=true:=by simpa using hq
  clear hq hd;clear h1 b1 b2 o1 HO HB1 K1;go_in;obtain⟨γ5,o5,-,b5,k5⟩:=vv H0.out.1 (b+3) (b+4) (by omega) #[.i xk,.i xd,.i xp,.i xo,.i xa,.i xb,.i xc] #[.i 0,.i 0,.i 0,.i 1,.i 0,.i 0] 38 41;have HZ:Hid (Own w0 _ γ5∧γ5 (b+4)=_∧wW γ5 b g M∧∀k,(k<b∨b+2000≤k)→γ5 k=γ k):=I ⟨o5,b5,⟨p,H0.out.2.keep fun k hk=>k5 k (by unfold xB at hk;omega) (by unfold xB at hk;omega)⟩,fun k hk=>k5 k (by omega) (by omega)⟩;clear o5 b5 k5 H0;go_wp2_with fail;obtain⟨o13,b13,h13,k13⟩:=HZ.out;exact bodyPost_ret (results_cell_row rfl _ _ (w.heap.size+1) 41 _ (0,0) _ rfl (o13.own _ _ _ b13).2 Tryz.underlying41 rfl (by kernel_rfl)) rfl ⟨rfl,γ5,o13,h13,k13⟩
 ·rw[hq]at hd;clear hq;cases d2:(xk != 2)with
  |true=> clear hd;clear h1 b1 b2 o1 HO HB1 K1;go_in;obtain⟨γ5,o5,-,b5,k5⟩:=vv H0.out.1 (b+3) (b+4) (by omega) #[.i xk,.i xd,.i xp,.i xo,.i xa,.i xb,.i xc] #[.i 0,.i 0,.i 0,.i 1,.i 0,.i 0] 38 41;have HZ:Hid (Own w0 _ γ5∧γ5 (b+4)=_∧wW γ5 b g M∧∀k,(k<b∨b+2000≤k)→γ5 k=γ k):=I ⟨o5,b5,⟨p,H0.out.2.keep fun k hk=>k5 k (by unfold xB at hk;omega) (by unfold xB at hk;omega)⟩,fun k hk=>k5 k (by omega) (by omega)⟩;clear o5 b5 k5 H0;go_wp2_with fail;obtain⟨o13,b13,h13,k13⟩:=HZ.out;exact bodyPost_ret (results_cell_row rfl _ _ (w.heap.size+1) 41 _ (0,0) _ rfl (o13.own _ _ _ b13).2 Tryz.underlying41 rfl (by kernel_rfl)) rfl ⟨rfl,γ5,o13,h13,k13⟩
  |false=> clear h1 b1 b2 o1 HB1 K1;go_in;go_wp2_with fail;refine(hd.out _ HO.out).mono ?_;rintro e w' ⟨rfl,rfl⟩;obtain⟨γ5,o5,-,b5,k5⟩:=vv H0.out.1 (b+3) (b+4) (by omega) #[.i xk,.i xd,.i xp,.i xo,.i xa,.i xb,.i xc] #[.i 0,.i 0,.i 0,.i 1,.i 0,.i 0] 38 41;have HZ:Hid (Own w0 _ γ5∧γ5 (b+4)=_∧wW γ5 b g M∧∀k,(k<b∨b+2000≤k)→γ5 k=γ k):=I ⟨o5,b5,⟨p,H0.out.2.keep fun k hk=>k5 k (by unfold xB at hk;omega) (by unfold xB at hk;omega)⟩,fun k hk=>k5 k (by omega) (by omega)⟩;clear o5 b5 k5 H0;go_wp2_with fail;obtain⟨o13,b13,h13,k13⟩:=HZ.out;exact bodyPost_ret (results_cell_row rfl _ _ (w.heap.size+1) 41 _ (0,0) _ rfl (o13.own _ _ _ b13).2 Tryz.underlying41 rfl (by kernel_rfl)) rfl ⟨rfl,γ5,o13,h13,k13⟩
theorem Uc(h:xR γ b g p M)(ho:Own w0 w γ)(hok:wj M a s)(ha:a<999)(hsn:s≤900000)(x:En)(hk:x.kind=2)(hd0:0≤x.xr)(hd1:x.xr<M.ds.length)(hne:x.xr≠M.owner):Calls Tryz.prog 29 #[.p g,x.val] w (kK w0 γ b g (M.xL x).1 (.agg (M.xL x).2.xq)):=by
 obtain⟨γ1,o1,b1,b2,k1⟩:=vv ho (b+3) (b+4) (by omega) x.xq #[.i 0,.i 0,.i 0,.i 0,.i 0,.i 0] 38 41;have h1:xR γ1 b g p M:=h.keep fun k hk=>k1 k (by unfold xB at hk;omega) (by unfold xB at hk;omega);have K1:Hid (∀k,(k<b∨b+2000≤k)→γ1 k=γ k):=I fun k hk=>k1 k (by omega) (by omega);have hact:M.xL x=(M,xN.err 5):=by unfold Mc.xL;rw[if_neg (by omega),if_neg (by omega),if_pos hne]
 rw[hact];have H0:=I (And.intro ho h);clear hact h ho k1;have cnow:=o1.cell h1.xw (i:=3) (v:=.i M.now) rfl;have hd:=I fun W (hW:Own w0 W γ1)=>cM h1 hW x.xr;have hdv:p.pY M x.xr=.p (p.gd.getD x.xr.toNat 0):=by unfold kd.pY;rw[if_pos (by omega)]
 rw[hdv]at hd;clear hdv;have how:=I fun W (hW:Own w0 W γ1)=>bN h1 hW hok;obtain⟨xk,xd,xp,xo,xa,xb,xc⟩:=x;unfold En.val xN.err xN.xq;unfold En.xq at b1 o1 cnow⊢;simp only at b1 o1 cnow hk hd hd0 hd1 hne⊢;show Calls _ _ #[_,.agg #[.i xk,.i xd,.i xp,.i xo,.i xa,.i xb,.i xc]] _ _;obtain⟨r0,r1,r2,r3,r4,r5,r6⟩:=uJ o1 b1;have HB1:=I (And.intro b1 b2);have HO:=I o1;subst hk;clear H0;have d1:(xd != M.owner)=true:=by simpa using hne
 clear hne hd0 hd1;generalize M.owner=ow at*;generalize p.gd.getD xd.toNat 0=gr at*;have O9:=HO;have B9:=I HB1.out.2;have A9:Hid (wW γ1 b g M):=I ⟨p,h1⟩;have K9:=K1;generalize M=MZ at*;clear K1 h1 b1 b2 o1;go_in;go_wp2_with fail;refine(hd.out _ HO.out).mono ?_;rintro e w' ⟨rfl,rfl⟩;go_wp2_with fail;refine yP.region [0,1,2] (.step 3 (.step 4 (.step 5 .done))) (fun w'=>Own w0 w' γ1) (by kernel_rfl) (by kernel_rfl) (fun _ _ _ _ _ h=>h) HO.out.drew ?_;repeat
  refine Perm.xm rfl ?_ (fun w' hS=>?_) ?_;rotate_left
  ·(obtain⟨r0,r1,r2,r3,r4,r5,r6⟩:=uJ hS HB1.out.1;clear hS;go_simp;try with_reducible rfl)
  simp only[pt]
 refine Perm.xt ?_;refine yP.yY rfl (by rfl) ?_;refine yP.xJ rfl 45 _ _ rfl (by kernel_rfl) _ rfl ((how.out _ HO.out.drew).mono ?_);rintro e w2 ⟨rfl,hb2⟩;refine⟨_,rfl,fun _ hS=>hS.xh hb2,?_⟩;simp only[pt];repeat
  refine yP.xA rfl (by rfl) ?_ (fun w'=>?_) ?_;rotate_left
  ·(go_simp;try with_reducible rfl)
  simp only[pt]
 refine yP.xC ?_;replace O9:=I (HO.out.drew.xh hb2);clear hb2 HO hd how HB1 r0 r1 r2 r3 r4 r5 r6;obtain⟨u0,u1,u2,u3,u4,u5,f0,f1,f2,f3,f4,f5⟩:=uP O9.out B9.out;obtain⟨γ5,o5,b5,k5⟩:=tA O9.out B9.out (.i 0) (.i 0) (.i 0) (.i 5) (.i 0) (.i 0);have HZ:Hid (Own w0 _ γ5∧γ5 (b+4)=_∧wW γ5 b g MZ∧∀k,(k<b∨b+2000≤k)→γ5 k=γ k):=I ⟨o5,b5,A9.out.keep fun k hk=>k5 k (by unfold xB at hk;omega),fun k hk=>(k5 k (by omega)).trans (K9.out k hk)⟩;clear o5 b5 k5 O9 B9 A9 K9;go_wp2_with fail;obtain⟨o13,b13,h13,k13⟩:=HZ.out;exact bodyPost_ret (results_cell_row rfl _ _ (w.heap.size+1) 41 _ (0,0) _ rfl (o13.own _ _ _ b13).2 Tryz.underlying41 rfl (by kernel_rfl)) rfl ⟨rfl,γ5,o13,h13,k13⟩
theorem set_eq_of_getElem?{α:Type}{l:List α}{i:Nat}{x:α}(h:l[i]? =some x):l.set i x=l:=by
 apply yb;intro j;by_cases e:i=j
 ·subst e;rw[zp (zk.1 h).1,h]
 ·rw[zt e]
theorem Ub(h:xR γ b g p M)(ho:Own w0 w γ)(hok:wj M a s)(ha:a<999)(hsn:s≤900000)(x:En)(hk:x.kind=2)(hd0:0≤x.xr)(hd1:x.xr<M.ds.length)(hne:x.xr=M.owner){D:Dm}(hi:M.ds[x.xr.toNat]? =some D)(hpk:D.qe x.pick=none):Calls Tryz.prog 29 #[.p g,x.val] w (kK w0 γ b g (M.xL x).1 (.agg (M.xL x).2.xq)):=by
 obtain⟨γ1,o1,b1,b2,k1⟩:=vv ho (b+3) (b+4) (by omega) x.xq #[.i 0,.i 0,.i 0,.i 0,.i 0,.i 0] 38 41;have h1:xR γ1 b g p M:=h.keep fun k hk=>k1 k (by unfold xB at hk;omega) (by unfold xB at hk;omega);have K1:Hid (∀k,(k<b∨b+2000≤k)→γ1 k=γ k):=I fun k hk=>k1 k (by omega) (by omega);have hact:M.xL x=(M,xN.err 6):=by unfold Mc.xL;rw[if_neg (by omega),if_neg (by omega),if_neg (by omega),hi];simp only[hpk]
 rw[hact];have H0:=I (And.intro ho h);clear hact h ho k1;have cnow:=o1.cell h1.xw (i:=3) (v:=.i M.now) rfl;have hd:=I fun W (hW:Own w0 W γ1)=>cM h1 hW x.xr;have hdv:p.pY M x.xr=.p (p.gd.getD x.xr.toNat 0):=by unfold kd.pY;rw[if_pos (by omega)]
 rw[hdv]at hd;clear hdv;have how:=I fun W (hW:Own w0 W γ1)=>bN h1 hW hok;obtain⟨gd,cd,hvd,-⟩:=h1.xr o1 hi;have HC:Hid (∀W,Own w0 W γ1→W.cell? (zc g 1)=some (.slice (zb gd) M.ds.length cd)∧W.cell? (zc gd x.xr.toNat)=some (.p (p.gd.getD x.xr.toNat 0))):=I fun W hW=>by obtain⟨gd',cd',hv',hc'⟩:=h1.xr hW hi;rw[hvd]at hv';cases hv';exact⟨(hW.cell h1.xw (i:=1) (v:=p.vd) rfl).trans (by rw[hvd]),hc'⟩
 have HP:Hid (∀W,Own w0 W γ1→Calls Tryz.prog 46 #[.p (p.gd.getD x.xr.toNat 0),.i x.pick] W (fun e w'=>e=.returned (jo (D.qe x.pick))∧∃γ',Own w0 w' γ'∧xR γ' b g p M∧∀k,(k<b+100∨b+1700≤k)→γ' k=γ1 k)):=I fun W hW=>by
  obtain⟨q,hD⟩:=h1.each _ D hi;have h8:=h1.d8;refine(Vy hD hW x.pick).mono ?_;rintro e w' ⟨he,γ',o,d,k⟩;have hs:=h1.wX (i:=x.xr.toNat) (D:=D) (by omega) d fun j hj _=>k j (by unfold yU;omega);have e2:M.wX x.xr.toNat D=M:=by unfold Mc.wX;rw[set_eq_of_getElem? hi]
  rw[e2]at hs;exact⟨he,γ',o,hs,fun j hj=>k j (by unfold yU;omega)⟩
 rw[hpk]at HP;unfold jo at HP;have HM:Hid (xR γ1 b g p M):=I h1;clear h1 hok hpk hi hvd;obtain⟨xk,xd,xp,xo,xa,xb,xc⟩:=x;unfold En.val xN.err xN.xq;unfold En.xq at b1 o1 cnow⊢;simp only at b1 o1 cnow hk hd hd0 hd1 hne HP HC⊢;show Calls _ _ #[_,.agg #[.i xk,.i xd,.i xp,.i xo,.i xa,.i xb,.i xc]] _ _;obtain⟨r0,r1,r2,r3,r4,r5,r6⟩:=uJ o1 b1;have HB1:=I (And.intro b1 b2);have HO:=I o1;subst hk;clear H0;have d1:(xd != M.owner)=false:=by simpa using hne
 clear hne;generalize M.owner=ow at*;generalize p.gd.getD xd.toNat 0=gr at*;obtain⟨j,rfl⟩:∃j:Nat,xd=j:=⟨xd.toNat,by omega⟩;rw[zu]at HC;generalize M.ds.length=nd at*;clear b1 b2 o1;go_in;go_wp2_with fail;refine(hd.out _ HO.out).mono ?_;rintro e w' ⟨rfl,rfl⟩;go_wp2_with fail;refine yP.region [0,1,2] (.step 3 (.step 4 (.step 5 .done))) (fun w'=>Own w0 w' γ1) (by kernel_rfl) (by kernel_rfl) (fun _ _ _ _ _ h=>h) HO.out.drew ?_;repeat
  refine Perm.xm rfl ?_ (fun w' hS=>?_) ?_;rotate_left
  ·(obtain⟨r0,r1,r2,r3,r4,r5,r6⟩:=uJ hS HB1.out.1;clear hS;go_simp;try with_reducible rfl)
  simp only[pt]
 refine Perm.xt ?_;refine yP.yY rfl (by rfl) ?_;refine yP.xJ rfl 45 _ _ rfl (by kernel_rfl) _ rfl ((how.out _ HO.out.drew).mono ?_);rintro e w2 ⟨rfl,hb2⟩;refine⟨_,rfl,fun _ hS=>hS.xh hb2,?_⟩;simp only[pt];repeat
  refine yP.xA rfl (by rfl) ?_ (fun w'=>?_) ?_;rotate_left
  ·(go_simp;try with_reducible rfl)
  simp only[pt]
 refine yP.xC ?_;have O2:=I (HO.out.drew.xh hb2);clear hb2 HO hd how r0 r1 r2 r3 r4 r5 r6 cnow;go_wp2_with fail;refine yP.region [0,1,2,3,4,5,6,7,8,9] (.step 10 (.step 11 (.step 12 (.step 13 (.step 14 (.step 15 .done)))))) (fun w'=>Own w0 w' γ1) (by kernel_rfl) (by kernel_rfl) (fun _ _ _ _ _ h=>h) O2.out.drew ?_;repeat
  refine Perm.xm rfl ?_ (fun w' hS=>?_) ?_;rotate_left
  ·(obtain⟨s1,s2⟩:=HC.out _ hS;obtain⟨r0,r1,r2,r3,r4,r5,r6⟩:=uJ hS HB1.out.1;clear hS;go_simp;try with_reducible rfl)
  simp only[pt]
 refine Perm.xt ?_;refine yP.yY rfl (by rfl) ?_;refine yP.xJ rfl 46 _ _ rfl (by kernel_rfl) _ rfl ((HP.out _ O2.out.drew).mono ?_);rintro e w3 ⟨rfl,γ3,o3,h3,k3⟩;refine⟨_,rfl,Perm.xx (by kernel_rfl),?_⟩;simp only[pt];repeat
  refine yP.xA rfl (by rfl) ?_ (fun w'=>?_) ?_;rotate_left
  ·(go_simp;try with_reducible rfl)
  simp only[pt]
 refine yP.xC ?_;have O9:=I o3;have B9:=I ((k3 (b+4) (by omega)).trans HB1.out.2);have A9:Hid (wW γ3 b g M):=I ⟨p,h3⟩;have K9:Hid (∀k,(k<b∨b+2000≤k)→γ3 k=γ k):=I fun k hk=>(k3 k (by omega)).trans (K1.out k hk);generalize M=MZ at*;clear o3 h3 k3 K1 HB1 O2 HP HC HM;obtain⟨u0,u1,u2,u3,u4,u5,f0,f1,f2,f3,f4,f5⟩:=uP O9.out B9.out;obtain⟨γ5,o5,b5,k5⟩:=tA O9.out B9.out (.i 0) (.i 0) (.i 0) (.i 6) (.i 0) (.i 0);have HZ:Hid (Own w0 _ γ5∧γ5 (b+4)=_∧wW γ5 b g MZ∧∀k,(k<b∨b+2000≤k)→γ5 k=γ k):=I ⟨o5,b5,A9.out.keep fun k hk=>k5 k (by unfold xB at hk;omega),fun k hk=>(k5 k (by omega)).trans (K9.out k hk)⟩;clear o5 b5 k5 O9 B9 A9 K9;go_wp2_with fail;obtain⟨o13,b13,h13,k13⟩:=HZ.out;exact bodyPost_ret (results_cell_row rfl _ _ (w.heap.size+1) 41 _ (0,0) _ rfl (o13.own _ _ _ b13).2 Tryz.underlying41 rfl (by kernel_rfl)) rfl ⟨rfl,γ5,o13,h13,k13⟩
theorem TC(h:xR γ b g p M)(ho:Own w0 w γ)(hok:wj M a s)(ha:a<999)(hsn:s≤900000)(x:En)(hk:x.kind=2)(hd0:0≤x.xr)(hd1:x.xr<M.ds.length)(hne:x.xr=M.owner){D:Dm}(hi:M.ds[x.xr.toNat]? =some D){t:Int}(hpk:D.qe x.pick=some t)(ht:t∈D.sv.list)(hxa:x.a≤9223372036854775807)(hxb:x.b≤9223372036854775807):Calls Tryz.prog 29 #[.p g,x.val] w (kK w0 γ b g (M.xL x).1 (.agg (M.xL x).2.xq)):=by
 obtain⟨γ1,o1,b1,b2,k1⟩:=vv ho (b+3) (b+4) (by omega) x.xq #[.i 0,.i 0,.i 0,.i 0,.i 0,.i 0] 38 41;have h1:xR γ1 b g p M:=h.keep fun k hk=>k1 k (by unfold xB at hk;omega) (by unfold xB at hk;omega);have K1:Hid (∀k,(k<b∨b+2000≤k)→γ1 k=γ k):=I fun k hk=>k1 k (by omega) (by omega);have hact:M.xL x=M.act x.xr.toNat D t x:=by unfold Mc.xL;rw[if_neg (by omega),if_neg (by omega),if_neg (by omega),hi];simp only[hpk]
 rw[hact];have H0:=I (And.intro ho h);clear hact h ho k1;have cnow:=o1.cell h1.xw (i:=3) (v:=.i M.now) rfl;have hd:=I fun W (hW:Own w0 W γ1)=>cM h1 hW x.xr;have hdv:p.pY M x.xr=.p (p.gd.getD x.xr.toNat 0):=by unfold kd.pY;rw[if_pos (by omega)]
 rw[hdv]at hd;clear hdv;have how:=I fun W (hW:Own w0 W γ1)=>bN h1 hW hok;obtain⟨gd,cd,hvd,-⟩:=h1.xr o1 hi;have HC:Hid (∀W,Own w0 W γ1→W.cell? (zc g 1)=some (.slice (zb gd) M.ds.length cd)∧W.cell? (zc gd x.xr.toNat)=some (.p (p.gd.getD x.xr.toNat 0))):=I fun W hW=>by obtain⟨gd',cd',hv',hc'⟩:=h1.xr hW hi;rw[hvd]at hv';cases hv';exact⟨(hW.cell h1.xw (i:=1) (v:=p.vd) rfl).trans (by rw[hvd]),hc'⟩
 have HP:Hid (∀W,Own w0 W γ1→Calls Tryz.prog 46 #[.p (p.gd.getD x.xr.toNat 0),.i x.pick] W (fun e w'=>e=.returned (jo (D.qe x.pick))∧∃γ',Own w0 w' γ'∧xR γ' b g p M∧∀k,(k<b+100∨b+1700≤k)→γ' k=γ1 k)):=I fun W hW=>by
  obtain⟨q,hD⟩:=h1.each _ D hi;have h8:=h1.d8;refine(Vy hD hW x.pick).mono ?_;rintro e w' ⟨he,γ',o,d,k⟩;have hs:=h1.wX (i:=x.xr.toNat) (D:=D) (by omega) d fun j hj _=>k j (by unfold yU;omega);have e2:M.wX x.xr.toNat D=M:=by unfold Mc.wX;rw[set_eq_of_getElem? hi]
  rw[e2]at hs;exact⟨he,γ',o,hs,fun j hj=>k j (by unfold yU;omega)⟩
 rw[hpk]at HP;unfold jo at HP;have HA:Hid (∀W γ2,Own w0 W γ2→xR γ2 b g p M→Calls Tryz.prog 47 #[.p g,.p (p.gd.getD x.xr.toNat 0),.i t,x.val] W (qZ w0 γ2 b g (M.act x.xr.toNat D t x).1 (.agg (M.act x.xr.toNat D t x).2.xq))):=I fun W γ2 hW h2=>Ov h2 hW hok ha hsn hi ht x (by omega) hxa hxb;have HC3:Hid (∀W γ2,Own w0 W γ2→xR γ2 b g p M→W.cell? (zc g 1)=some (.slice (zb gd) M.ds.length cd)∧W.cell? (zc gd x.xr.toNat)=some (.p (p.gd.getD x.xr.toNat 0))):=I fun W γ2 hW h2=>by obtain⟨gd',cd',hv',hc'⟩:=h2.xr hW hi;rw[hvd]at hv';cases hv';exact⟨(hW.cell h2.xw (i:=1) (v:=p.vd) rfl).trans (by rw[hvd]),hc'⟩
 clear h1 hok hpk hi hvd ht hxa hxb;generalize(M.act x.xr.toNat D t x).1=MZ at*;generalize(M.act x.xr.toNat D t x).2=O at*;obtain⟨y1,y2,y3,y4,y5,y6⟩:=O;unfold xN.xq at*;obtain⟨xk,xd,xp,xo,xa,xb,xc⟩:=x;unfold En.val;unfold En.xq at b1 o1 cnow⊢;simp only at b1 o1 cnow hk hd hd0 hd1 hne HP HC HA HC3⊢;show Calls _ _ #[_,.agg #[.i xk,.i xd,.i xp,.i xo,.i xa,.i xb,.i xc]] _ _;obtain⟨r0,r1,r2,r3,r4,r5,r6⟩:=uJ o1 b1;have HB1:=I (And.intro b1 b2);have HO:=I o1;unfold En.val En.xq at HA;simp only at HA;subst hk;clear H0;have d1:(xd != M.owner)=false:=by simpa using hne
 clear hne;generalize M.owner=ow at*;generalize p.gd.getD xd.toNat 0=gr at*;obtain⟨j,rfl⟩:∃j:Nat,xd=j:=⟨xd.toNat,by omega⟩;rw[zu]at HC HC3;generalize M.ds.length=nd at*;clear b1 b2 o1;go_in;go_wp2_with fail;refine(hd.out _ HO.out).mono ?_;rintro e w' ⟨rfl,rfl⟩;go_wp2_with fail;refine yP.region [0,1,2] (.step 3 (.step 4 (.step 5 .done))) (fun w'=>Own w0 w' γ1) (by kernel_rfl) (by kernel_rfl) (fun _ _ _ _ _ h=>h) HO.out.drew ?_;repeat
  refine Perm.xm rfl ?_ (fun w' hS=>?_) ?_;rotate_left
  ·(obtain⟨r0,r1,r2,r3,r4,r5,r6⟩:=uJ hS HB1.out.1;clear hS;go_simp;try with_reducible rfl)
  simp only[pt]
 refine Perm.xt ?_;refine yP.yY rfl (by rfl) ?_;refine yP.xJ rfl 45 _ _ rfl (by kernel_rfl) _ rfl ((how.out _ HO.out.drew).mono ?_);rintro e w2 ⟨rfl,hb2⟩;refine⟨_,rfl,fun _ hS=>hS.xh hb2,?_⟩;simp only[pt];repeat
  refine yP.xA rfl (by rfl) ?_ (fun w'=>?_) ?_;rotate_left
  ·(go_simp;try with_reducible rfl)
  simp only[pt]
 refine yP.xC ?_;have O2:=I (HO.out.drew.xh hb2);clear hb2 HO hd how r0 r1 r2 r3 r4 r5 r6 cnow;go_wp2_with fail;refine yP.region [0,1,2,3,4,5,6,7,8,9] (.step 10 (.step 11 (.step 12 (.step 13 (.step 14 (.step 15 .done)))))) (fun w'=>Own w0 w' γ1) (by kernel_rfl) (by kernel_rfl) (fun _ _ _ _ _ h=>h) O2.out.drew ?_;repeat
  refine Perm.xm rfl ?_ (fun w' hS=>?_) ?_;rotate_left
  ·(obtain⟨s1,s2⟩:=HC.out _ hS;obtain⟨r0,r1,r2,r3,r4,r5,r6⟩:=uJ hS HB1.out.1;clear hS;go_simp;try with_reducible rfl)
  simp only[pt]
 refine Perm.xt ?_;refine yP.yY rfl (by rfl) ?_;refine yP.xJ rfl 46 _ _ rfl (by kernel_rfl) _ rfl ((HP.out _ O2.out.drew).mono ?_);rintro e w3 ⟨rfl,γ3,o3,h3,k3⟩;refine⟨_,rfl,Perm.xx (by kernel_rfl),?_⟩;simp only[pt];repeat
  refine yP.xA rfl (by rfl) ?_ (fun w'=>?_) ?_;rotate_left
  ·(go_simp;try with_reducible rfl)
  simp only[pt]
 refine yP.xC ?_;have O3:=I o3;have H3:=I h3;have B3:Hid (γ3 (b+3)=_∧γ3 (b+4)=_):=I ⟨(k3 (b+3) (by omega)).trans HB1.out.1,(k3 (b+4) (by omega)).trans HB1.out.2⟩;have K3:Hid (∀k,(k<b∨b+2000≤k)→γ3 k=γ k):=I fun k hk=>(k3 k (by omega)).trans (K1.out k hk);clear o3 h3 k3 K1 HB1 O2 HP HC;go_wp2_with fail;refine yP.region [0,1,2,3,4,5,6,7,8,9,10] (.step 11 (.step 12 .done)) (fun w'=>Own w0 w' γ3) (by kernel_rfl) (by kernel_rfl) (fun _ _ _ _ _ h=>h) O3.out.drew ?_;repeat
  refine Perm.xm rfl ?_ (fun w' hS=>?_) ?_;rotate_left
  ·(obtain⟨s1,s2⟩:=HC3.out _ _ hS H3.out;obtain⟨r0,r1,r2,r3,r4,r5,r6⟩:=uJ hS B3.out.1;clear hS;go_simp;try with_reducible rfl)
  simp only[pt]
 refine Perm.xt ?_;refine yP.yY rfl (by rfl) ?_;refine yP.xJ rfl 47 _ _ rfl (by kernel_rfl) _ rfl ((HA.out _ _ O3.out.drew H3.out).mono ?_);rintro e w4 ⟨rfl,γ4,o4,h4,k4⟩;refine⟨_,rfl,Perm.xx (by kernel_rfl),?_⟩;simp only[pt];have b4:=(k4 (b+4) (by omega)).trans B3.out.2;obtain⟨u0,u1,u2,u3,u4,u5,f0,f1,f2,f3,f4,f5⟩:=uP o4 b4;obtain⟨γ5,o5,b5,k5⟩:=tA o4 b4 (.i y1) (.i y2) (.i y3) (.i y4) (.i y5) (.i y6);have HZ:Hid (Own w0 _ γ5∧γ5 (b+4)=_∧wW γ5 b g MZ∧∀k,(k<b∨b+2000≤k)→γ5 k=γ k):=I ⟨o5,b5,h4.keep fun k hk=>k5 k (by unfold xB at hk;omega),fun k hk=>(k5 k (by omega)).trans ((k4 k (by omega)).trans (K3.out k hk))⟩;clear o5 b5 k5 o4 h4 k4 b4 K3 B3 H3 O3 HA HC3;refine yP.yY rfl (by rfl) ?_;refine yP.xy rfl .skip undef (.inr ⟨rfl,rfl⟩) (w':=(((((w4.setCell (zc (w.heap.size+1) 0) (.i y1)).setCell (zc (w.heap.size+1) 1) (.i y2)).setCell (zc (w.heap.size+1) 2) (.i y3)).setCell (zc (w.heap.size+1) 3) (.i y4)).setCell (zc (w.heap.size+1) 4) (.i y5)).setCell (zc (w.heap.size+1) 5) (.i y6)) (by go_simp;try with_reducible rfl) (Perm.xx (by kernel_rfl)) ?_;simp only[pt];refine yP.xC ?_;clear u0 u1 u2 u3 u4 u5 f0 f1 f2 f3 f4 f5;go_wp2_with fail;obtain⟨o13,b13,h13,k13⟩:=HZ.out;exact bodyPost_ret (results_cell_row rfl _ _ (w.heap.size+1) 41 _ (0,0) _ rfl (o13.own _ _ _ b13).2 Tryz.underlying41 rfl (by kernel_rfl)) rfl ⟨rfl,γ5,o13,h13,k13⟩
theorem Dm.aA{D:Dm}{n t:Int}(h:D.qe n=some t):t∈D.sv.list:=by
 unfold Dm.qe at h;split at h
 ·rename_i hn;cases h;have hl:n.toNat<D.sv.list.length:=by unfold SV.list;rw[zA];omega
  rw[zn,zl hl];exact List.getElem_mem _
 ·cases h
theorem Nr(h:xR γ b g p M)(ho:Own w0 w γ)(hok:wj M a s)(ha:a<999)(hsn:s≤900000)(x:En)(hxa:x.a≤9223372036854775807)(hxb:x.b≤9223372036854775807):Calls Tryz.prog 29 #[.p g,x.val] w (kK w0 γ b g (M.xL x).1 (.agg (M.xL x).2.xq)):=by
 by_cases k1:x.kind=1
 ·by_cases n1:M.now=4611686018427387904
  ·exact Ua h ho hok ha hsn x k1 n1
  ·exact Ud h ho hok ha hsn x k1 n1
 by_cases k2:x.kind≠2∨x.xr<0∨(M.ds.length:Int)≤x.xr
 ·exact V9 h ho hok ha hsn x k1 k2
 by_cases k3:x.xr=M.owner
 ·have hi:M.ds[x.xr.toNat]? =some M.ds[x.xr.toNat]:=zl (by omega);generalize M.ds[x.xr.toNat]=D at hi;cases hp:D.qe x.pick with
  |none=>exact Ub h ho hok ha hsn x (by omega) (by omega) (by omega) k3 hi hp
  |some t=>exact TC h ho hok ha hsn x (by omega) (by omega) (by omega) k3 hi hp (Dm.aA hp) hxa hxb
 ·exact Uc h ho hok ha hsn x (by omega) (by omega) (by omega) k3
end
end
section
theorem gP{f:Nat→Int}:∀(n i:Nat),sY f n i=0→∀k,k<n→f (i+k)=0
 |0,_,_,_,hk=>by omega
 |n+1,i,h,k,hk=>by
  unfold sY at h
  by_cases e:f i=0
  ·rw[if_pos e]at h
   by_cases k0:k=0
   ·subst k0;exact e
   ·have:=gP n (i+1) h (k-1) (by omega)
    rwa[show i+1+(k-1)=i+k by omega]at this
  ·rw[if_neg e]at h
   exact absurd h e
theorem jY{a b c:Int}:vU a b c=true↔b≤a∧a≤c:=by simp[vU]
structure po (D:List Dv) (S:List (Int×Int)) (L:List Lk):Prop where
 d1:1≤D.length
 d8:D.length≤8
 s1:1≤S.length
 Uy:S.length≤16
 l8:L.length≤8
 xr:∀j,j<D.length→rU D j=0
 slot:∀x∈S,0≤x.1∧x.1<D.length∧1≤x.2∧x.2≤16
 has:vR S D.length=0
 lk:∀(j:Nat) x,L[j]? =some x→qd D x=0
section
variable {D:List Dv} {S:List (Int×Int)} {L:List Lk}
theorem po.of(h:ux D S L=0):po D S L:=by
 unfold ux at h;split at h
 ·cases h
 rename_i h0;simp only[Bool.or_eq_true,Bool.not_eq_true',not_or,Bool.not_eq_false,decide_eq_true_eq]at h0;obtain⟨⟨a1,a2⟩,a3⟩:=h0;rw[jY]at a1 a2;split at h
 ·rename_i q;exact absurd h q
 rename_i h1;split at h
 ·rename_i q;exact absurd h q
 rename_i h2;have h1':uO D=0:=by simpa using h1
 have h2':vR S D.length=0:=by simpa using h2
 refine⟨by omega,by omega,by omega,by omega,by omega,fun j hj=>?_,fun x hx=>?_,h2',fun j x hx=>?_⟩
 ·have:=gP _ 0 h1' j hj;rwa[zy]at this
 ·unfold vR at h2';split at h2'
  ·cases h2'
  ·rename_i hb;have hq:pB D.length x=false:=by
    cases hc:pB D.length x with
    |false=>rfl
    |true=>exact absurd (z7.2 ⟨x,hx,hc⟩) hb
   unfold pB at hq;simp only[Bool.or_eq_false_iff,Bool.not_eq_false']at hq;rw[jY,jY]at hq;omega
 ·have:=gP _ 0 h j (zk.1 hx).1;rw[zy]at this;simpa only[hx]using this
theorem po.VI(h:po D S L){d:Dv}(hd:d∈D):pJ d.nm=true∧pG d.lv d.ct=true∧1≤d.kt∧d.kt≤8∧0≤d.ko∧d.ko≤8∧1≤d.rg∧d.rg≤16:=by
 obtain⟨j,hj⟩:=zQ hd;have:=h.xr j (zk.1 hj).1;unfold rU at this;rw[hj]at this;simp only at this;split at this
 ·cases this
 rename_i h1;split at this
 ·cases this
 rename_i h2;split at this
 ·cases this
 rename_i h3;simp only[Bool.or_eq_true,Bool.not_eq_true',not_or,Bool.not_eq_false]at h1 h2 h3;obtain⟨⟨q1,q2⟩,q3⟩:=h3;rw[jY]at q1 q2 q3;exact⟨h1.1,h2,q1.1,q1.2,q2.1,q2.2,q3.1,q3.2⟩
theorem po.lk_of(h:po D S L){x:Lk}(hx:x∈L):0≤x.from_∧x.from_<D.length∧0≤x.aQ∧x.aQ<D.length∧x.from_≠x.aQ∧(x.kind=1∧1≤x.size∧x.size≤4∨x.kind=2∧1≤x.size∧x.size≤8):=by
 obtain⟨j,hj⟩:=zQ hx;have:=h.lk j x hj;unfold qd at this;split at this
 ·cases this
 rename_i h1;simp only[Bool.or_eq_true,Bool.not_eq_true',not_or,Bool.not_eq_false,beq_iff_eq]at h1;obtain⟨⟨⟨q1,q2⟩,q3⟩,q4⟩:=h1;rw[jY]at q1 q2 q4;unfold fP at q4;refine⟨by omega,by omega,by omega,by omega,q3,?_⟩;split at q4
 ·exact .inl ⟨by assumption,q4.1,q4.2⟩
 ·split at q4
  ·exact .inr ⟨by assumption,q4.1,q4.2⟩
  ·omega
end
def Lk.eu(x:Lk):wy:=⟨x.kind,x.from_,x.aQ,x.size⟩
def Dv.new(d:Dv):Dm:=Dm.new d.kt.toNat d.ko.toNat
def uC(D:List Dv)(S:List (Int×Int))(L:List Lk)(start:Int):Mc:=⟨S,D.map Dv.new,Zk (L.map Lk.eu),start⟩
def tZ(D:List Dv)(S:List (Int×Int))(L:List Lk)(start:Int):Mc:=(uC D S L start).rQ
theorem AV.Uk(k:Nat)(hk:k≤16):(AV.new k).Ok where
 len:=by simpa[AV.new]using hk
 gen:=fun i p h=>by
  replace h:(List.replicate k ((0:Nat),false))[i]? =some p:=h
  rw[zR]at h
  split at h
  ·cases h;exact Nat.zero_le _
  ·cases h
 fr:=fun i hi=>⟨0,by
  show(List.replicate k ((0:Nat),false))[i]? =_
  rw[zR,if_pos (by simpa[AV.new]using hi)]⟩
 dup:=List.nodup_range
theorem yS.new{kt ko:Nat}(h1:1≤kt)(h8:kt≤8)(ho:ko≤8):yS (Dm.new kt ko) []:=by
 have h0:yS {sv:=SV.new kt,av:=AV.new ko,yX:=List.replicate 8 none,wh:=Wh.new,bu:=⟨[],kt⟩,waits:=List.replicate 8 Wt.zero,seen:=[],clock:=0} []:=by
  have hw:∀i,(List.replicate 8 Wt.zero).getD i Wt.zero=Wt.zero:=fun i=>by rw[zn,zR];split<;>rfl
  have hob:∀j,(List.replicate 8 (none:Option Ob)).getD j none=none:=fun j=>by rw[zn,zR];split<;>rfl
  have hpl:∀(n i g:Nat),(List.replicate n ((0:Nat),false))[i]? =some (g,true)→False:=fun n i g h=>by
   rw[zR]at h;split at h
   ·simp at h
   ·cases h
  exact{
   vr:=AV.Uk kt (by omega),wV:=AV.Uk ko (by omega),sl:=by show(List.replicate kt _).length≤8;rw[zz];exact h8,al:=by show(List.replicate ko _).length≤8;rw[zz];exact ho,ol:=rfl,wl:=rfl,wD:=fun i g h=>(hpl kt i g h).elim,tI:=by show(List.replicate kt _).length=(List.replicate kt _).length;simp,run:=fun i h=>(nomatch h),rn:=yN,w1:=fun i h=>absurd (congrArg Wt.xI (hw i)) h,w2:=fun j t h=>(by
    have e:wz ((List.replicate 8 (none:Option Ob)).getD j none)=[]:=by rw[hob];rfl
    change t∈wz ((List.replicate 8 (none:Option Ob)).getD j none)at h;rw[e]at h;cases h),
   nd:=fun j=>by show(wz ((List.replicate 8 (none:Option Ob)).getD j none)).Nodup;rw[hob];exact yN,use:=fun j=>by show uc ((List.replicate 8 (none:Option Ob)).getD j none);rw[hob];trivial,cd:=fun j ws mh h=>(by change(List.replicate 8 (none:Option Ob)).getD j none=_ at h;rw[hob]at h;cases h),fr:=fun j o h=>(by change(List.replicate 8 (none:Option Ob)).getD j none=_ at h;rw[hob]at h;cases h),fl:=fun t h=>(nomatch h),fn:=yN,bu:=fun p h=>(nomatch h),bd:=yN,bm:=by show kt=(List.replicate kt _).length;simp,th:=fun j m h=>by change(List.replicate 8 (none:Option Ob)).getD j none=_ at h;rw[hob]at h;cases h}
 have:=h0.spawn;obtain⟨n,rfl⟩:∃n,kt=n+1:=⟨kt-1,by omega⟩;have hf:(SV.new (n+1)).ar.fr=0::(List.range n).map Nat.succ:=by show List.range (n+1)=_;rw[List.range_succ_eq_map]
 unfold Dm.spawn at this;simp only[hf]at this;exact this
section
variable {M:Mc} {a s:Nat}
theorem wj.start{D:List Dv}{S:List (Int×Int)}{L:List Lk}(h:po D S L){start:Int}(h0:0≤start)(h1:start≤4611686018427387904):wj (uC D S L start) 0 0 where
 uu:=⟨h.Uy,fun x hx=>(h.slot x hx).2.2⟩
 gy:=h.s1
 own:=fun x hx=>by
  have:=h.slot x hx
  show 0≤x.1∧x.1<((D.map Dv.new).length:Int)
  rw[zA]
  omega
 kg:=fun E hE=>by
  obtain⟨d,hd,rfl⟩:=yc.1 hE
  have:=h.VI hd
  exact⟨yS.new (by omega) (by omega) (by omega),Int.le_refl 0,by show(0:Int)≤_;omega,zm 0⟩
 sX:=fun i _=>by
  show(jZ (L.map Lk.eu) i).sX≤0
  exact Nat.le_of_eq (V4 _ i)
 n0:=h0
 n1:=h1
theorem Mc.ZB(M:Mc):M.rQ.sl=M.sl∧M.rQ.ln=M.ln∧M.rQ.now=M.now∧M.rQ.ds.length=M.ds.length:=by
 unfold Mc.rQ;split
 ·exact⟨rfl,rfl,rfl,List.length_modify _ _ _⟩
 ·exact⟨rfl,rfl,rfl,rfl⟩
theorem wj.wX(h:wj M a s){i:Nat}{D:Dm}{s':Nat}(hs:s≤s')(hD:yS D []∧0≤D.clock∧D.clock≤4611686018427387904∧D.seen.length≤s'):wj (M.wX i D) a s' where
 uu:=h.uu
 gy:=h.gy
 own:=fun x hx=>by
  show 0≤x.1∧x.1<((M.ds.set i D).length:Int)
  rw[zq]
  exact h.own x hx
 kg:=fun E hE=>by
  rcases yx hE with hE|rfl
  ·obtain⟨q1,q2,q3,q4⟩:=h.kg E hE
   exact⟨q1,q2,q3,by omega⟩
  ·exact hD
 sX:=h.sX
 n0:=h.n0
 n1:=h.n1
theorem wj.uV(h:wj M a s){l:LS}{a':Nat}(hl:∀i,i<l.ls.length→(l.en i).sX≤a'):wj (M.uV l) a' s:=⟨h.uu,h.gy,h.own,h.kg,hl,h.n0,h.n1⟩
theorem wj.more(h:wj M a s){a' s':Nat}(ha:a≤a')(hs:s≤s'):wj M a' s':=⟨h.uu,h.gy,h.own,fun D hD=>by obtain⟨q1,q2,q3,q4⟩:=h.kg D hD;exact⟨q1,q2,q3,by omega⟩,fun i hi=>by have:=h.sX i hi;omega,h.n0,h.n1⟩
theorem wj.rQ(h:wj M a s):wj M.rQ a (s+8):=by
 by_cases e:M.slot.2=M.now
 ·obtain⟨x,hx,ho,-,-,x0,x1⟩:=h.Yk;have hi:M.ds[M.owner.toNat]? =some M.ds[M.owner.toNat]:=zl (by rw[ho];omega);generalize M.ds[M.owner.toNat]=D at hi;rw[Mc.W6 hi e];obtain⟨q1,q2,q3,q4⟩:=h.kg D (zo hi);have:=q1.W8 M.now;exact h.wX (by omega) ⟨q1.begin _,by rw[Dm.eR];exact h.n0,by rw[Dm.eR];exact h.n1,by omega⟩
 ·unfold Mc.rQ;rw[if_neg e];exact h.more (zm _) (by omega)
theorem wj.xL(h:wj M a s)(x:En):wj (M.xL x).1 (if x.kind=1 then a else a+1) (s+8):=by
 unfold Mc.xL;by_cases k1:x.kind=1
 ·rw[if_pos k1,if_pos k1];split
  ·exact h.more (zm _) (by omega)
  ·rename_i hn;have h2:wj {M with now:=M.now+1} a s:=⟨h.uu,h.gy,h.own,h.kg,h.sX,by show 0≤M.now+1;have:=h.n0;omega,by show M.now+1≤_;have:=h.n1;omega⟩;exact h2.rQ
 rw[if_neg k1,if_neg k1];have hm:wj M (a+1) (s+8):=h.more (by omega) (by omega);split
 ·exact hm
 split
 ·exact hm
 split
 ·exact hm
 rename_i D hi;split
 ·exact hm
 rename_i t hp;have ht:=Dm.aA hp;obtain⟨q1,q2,q3,q4⟩:=h.kg D (zo hi);have htell:∀e n m,yS (D.tell t x e n m).1 []∧0≤(D.tell t x e n m).1.clock∧(D.tell t x e n m).1.clock≤4611686018427387904∧(D.tell t x e n m).1.seen.length≤s+8:=fun e n m=>⟨q1.gu _,q2,q3,by rw[Dm.UW,zr,yh];omega⟩;have hdo:yS (D.xL t x).1 []∧0≤(D.xL t x).1.clock∧(D.xL t x).1.clock≤4611686018427387904∧(D.xL t x).1.seen.length≤s+8:=⟨q1.xL ht x,by rw[Dm.ZM];exact q2,by rw[Dm.ZM];exact q3,by rw[Dm.Rk,zr,yh];omega⟩;unfold Mc.act;split
 ·refine wj.wX (M:=M.uV _) (s:=s) (h.uV fun i hi=>?_) (by omega) (htell _ _ _);rw[VG]at hi;have:=Rg M.ln x.xr t x.op x.a x.b x.c i;have:=h.sX i hi;omega
 split
 ·exact(h.more (Nat.le_succ a) (zm s)).wX (by omega) hdo
 split
 ·exact(h.more (Nat.le_succ a) (zm s)).wX (by omega) (htell _ _ _)
 ·refine wj.wX (s:=s) ?_ (by omega) hdo;split
  ·exact h.uV fun i hi=>by have:=h.sX i hi;show(M.ln.en i).sX≤a+1;omega
  ·exact h.more (by omega) (zm _)
end
end
end Go.Proofs.YtkmamlifgbocgaaGreat
