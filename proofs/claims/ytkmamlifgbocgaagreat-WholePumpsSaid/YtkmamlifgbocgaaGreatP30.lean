/- What the program's code does, as contracts, and what follows of it, part 30: for the law's proof. -/
import Derived.Test.YtkmamlifgbocgaaGreatP00
import Derived.Test.YtkmamlifgbocgaaGreatP29
import Derived.KernelRfl
import Derived.ChangeSame
import Derived.DataShut
set_option linter.unusedVariables false
set_option linter.unusedSimpArgs false
set_option maxRecDepth 100000
set_option maxHeartbeats 16000000
namespace Go.Proofs.YtkmamlifgbocgaaGreat
section
open Go.RowKit Go.WideShapes Go.ChangeMaps
theorem Tryz.V1:(Tryz.prog.info? 43).map (fun i=>(i.zero,i.size,i.bytes))=some (some (.agg #[.i 0,.i 0,.i 0,.i 0,.i 0,.i 0,.i 0,.i 0,.i 0,.i 0,.i 0,.i 0,.i 0,.i 0,.i 0]),15,120):=by kernel_rfl
theorem Va(γ:U):both (fun _=>none) γ=γ:=by funext k;unfold both;cases γ k<;>rfl
def bk(w:World)(gm:Nat)(M:Mc)(wR:List Ev)(v:Value)(W:World):Prop:=
 ∃γ,Own w W γ∧wW γ 0 gm M∧yR γ 2000 43 15 v wR.length (yW Ev.yV wR)
def jR(M:Mc)(n k:Nat):List Value:=(List.range n).map fun i=>.i (if i<k then((M.seen i).length:Int)else 0)
theorem kZ(M:Mc)(n k:Nat):(jR M n k).length=n:=by simp[jR]
theorem pg(M:Mc)(n k i:Nat)(h:i<n):(jR M n k)[i]? =some (.i (if i<k then((M.seen i).length:Int)else 0)):=by unfold jR;rw[zx,yM h];rfl
theorem Sg(M:Mc)(n k:Nat)(h:k<n):(jR M n k).set k (.i ((M.seen k).length:Int))=jR M n (k+1):=by
 apply yb;intro i;by_cases e:i=k
 ·subst e;rw[zp (by rw[kZ];exact h),pg _ _ _ _ h,if_pos (by omega)]
 ·rw[zt (Ne.symm e)];by_cases hi:i<n
  ·rw[pg _ _ _ _ hi,pg _ _ _ _ hi];have:(i<k)=(i<k+1):=propext ⟨fun h=>by omega,fun h=>by omega⟩;simp only[this]
  ·rw[zJ (by rw[kZ];omega),zJ (by rw[kZ];omega)]
theorem U2(M:Mc)(n:Nat):jR M n 0=ints (List.replicate n 0):=by
 apply yb;intro i;unfold ints;by_cases hi:i<n
 ·rw[pg _ _ _ _ hi,zx,zR,if_pos hi,if_neg (by omega)];rfl
 ·rw[zJ (by rw[kZ];omega),zJ (by simp;omega)]
theorem Mc.Qh{M:Mc}{k:Nat}{D:Dm}(h:M.ds[k]? =some D):M.seen k=D.seen:=by unfold Mc.seen;rw[h]
theorem Pk{w W:World}{γ:U}{gm:Nat}{M:Mc}(h:wW γ 0 gm M)(o:Own w W γ){a s:Nat}(hok:wj M a s)(hs:s≤100000){k:Nat}(hk:k<M.ds.length):Calls Tryz.prog 27 #[.p gm,.i k] W fun e w'=>∃v γ',e=.returned v∧Own w w' γ'∧wW γ' 0 gm M∧xK γ' 2002 41 6 v (M.seen k).length (yW xN.yV (M.seen k))∧∀j,j≠2002→γ' j=γ j:=by obtain⟨p,h⟩:=h;have hi:M.ds[k]? =some M.ds[k]:=zl hk;rw[Mc.Qh hi];refine(PD h o hi (by have:=(hok.kg _ (zo hi)).2.2.2;omega) 2002 (by omega)).mono ?_;rintro e w' ⟨v,γ',he,o',h',l,k'⟩;exact⟨v,γ',he,o',⟨p,h'⟩,l,k'⟩
theorem Su{w W:World}{γ:U}{gm:Nat}{M:Mc}(h:wW γ 0 gm M)(o:Own w W γ):Calls Tryz.prog 30 #[.p gm] W fun e w'=>e=.returned (.i M.now)∧W=w':=by obtain⟨p,h⟩:=h;exact Ow h o
theorem Pj{w W:World}{γ:U}{gm:Nat}{M:Mc}(h:wW γ 0 gm M)(o:Own w W γ):Calls Tryz.prog 31 #[.p gm] W fun e w'=>e=.returned (.i M.ds.length)∧W=w':=by obtain⟨p,h⟩:=h;exact Ue h o
theorem Ph{w W:World}{γ:U}{gm:Nat}{M:Mc}(h:wW γ 0 gm M)(o:Own w W γ){a s:Nat}(hok:wj M a s)(ha:a<999)(hs:s≤100000)(x:En)(hxa:x.a≤9223372036854775807)(hxb:x.b≤9223372036854775807):Calls Tryz.prog 29 #[.p gm,x.val] W fun e w'=>e=.returned (.agg (M.xL x).2.xq)∧∃γ',Own w w' γ'∧wW γ' 0 gm (M.xL x).1∧∀k,2000≤k→γ' k=γ k:=by obtain⟨p,h⟩:=h;refine(Nr h o hok ha (by omega) x hxa hxb).mono ?_;rintro e w' ⟨he,γ',o',h',k'⟩;exact⟨he,γ',o',h',fun k hk=>k' k (by omega)⟩
theorem wW.out{γ γ':U}{gm:Nat}{M:Mc}(h:wW γ 0 gm M)(hk:∀k,k<2000→γ' k=γ k):wW γ' 0 gm M:=h.keep fun k hu=>hk k (by unfold xB at hu;omega)
def XN(w:World)(gm:Nat)(M:Mc)(wR:List Ev)(v vw:Value)(n k:Nat)(W:World):Prop:=
 ∃γ,Own w W γ∧wW γ 0 gm M∧yR γ 2000 43 15 v wR.length (yW Ev.yV wR)∧yR γ 2001 3 1 vw n (jR M n k)
def Zw(w:World)(gm:Nat)(M M':Mc)(wR:List Ev)(vw:Value)(n:Nat)(v:Value)(W:World):Prop:=
 ∃γ,Own w W γ∧wW γ 0 gm M'∧yR γ 2000 43 15 v wR.length (yW Ev.yV wR)∧yR γ 2001 3 1 vw n (jR M n n)
def XK(w:World)(gm:Nat)(M M':Mc)(wR:List Ev)(vw:Value)(n k:Nat)(vl v:Value)(W:World):Prop:=
 ∃γ,Own w W γ∧wW γ 0 gm M'∧yR γ 2000 43 15 v wR.length (yW Ev.yV wR)∧yR γ 2001 3 1 vw n (jR M n n)∧xK γ 2002 41 6 vl (M'.seen k).length (yW xN.yV (M'.seen k))
def Mc.pO(M M':Mc)(k q:Nat):List Ev:=(((M'.seen k).take q).drop (M.seen k).length).map fun o=>⟨k,En.zero,o,M'.now⟩
theorem Mc.Qe(M M':Mc)(k:Nat):M.pO M' k (M.seen k).length=[]:=by unfold Mc.pO;rw[List.drop_eq_nil_of_le (by rw[zE];omega)];rfl
theorem Mc.T4{M M':Mc}{k q:Nat}{o:xN}(h:(M'.seen k)[q]? =some o)(hw:(M.seen k).length≤q):M.pO M' k (q+1)=M.pO M' k q++[⟨k,En.zero,o,M'.now⟩]:=by have hq:=(zk.1 h).1;unfold Mc.pO;rw[jI h,List.drop_append_of_le_length (by rw[zE];omega),yI];rfl
theorem Mc.Qc{M M':Mc}{k q:Nat}(h:(M'.seen k).length≤q):M.vx M' k++M.pO M' k q=M.vx M' (k+1):=by rw[Mc.de];unfold Mc.pO;rw[zO h]
theorem Mc.Qd{M M':Mc}{s:Nat}(h:∀k,(M'.seen k).length≤s)(k q:Nat):(M.pO M' k q).length≤s:=by have:=h k;unfold Mc.pO;rw[zA,ya,zE];omega
theorem ew{w:World}{DA SA PA:Option Addr}{nd dc ns sc pn pc:Nat}{D:List Dv}{S:List (Int×Int)}{L:List Lk}(h:tE w DA SA PA nd dc ns sc pn pc D S L)(start:Int)(hE:uI D S L start=0)(l:List En){vl:Value}(hl:je En.yV 7 w vl l)(hfit:∀x∈l,x.a≤9223372036854775807∧x.b≤9223372036854775807)(hdo:ke l≤120)(hlen:l.length≤2400):Calls Tryz.prog 10 #[.agg #[.slice DA nd dc,.slice SA ns sc,.slice PA pn pc],.i start,vl] w fun e w'=>∃v,e=.returned (.tuple #[v,.bool true])∧Below w.heap.size w w'∧je Ev.yV 15 w' v ((tZ D S L start).wR l):=by
 have hck:ux D S L=0∧0≤start∧start≤4611686018427387904:=by
  unfold uI at hE;split at hE
  ·rename_i q;exact absurd hE q
  ·rename_i q;split at hE
   ·cases hE
   ·exact⟨by simpa using q,by omega,by omega⟩
 obtain⟨hck,hs0,hs1⟩:=hck;have hP:=po.of hck;have hok0:wj (tZ D S L start) 0 8:=(wj.start hP hs0 hs1).rQ;have hlen0:(tZ D S L start).ds.length=nd:=by unfold tZ;rw[(Mc.ZB _).2.2.2];show(D.map Dv.new).length=nd;rw[zA];exact h.dl
 have hnd8:nd≤8:=by have:=hP.d8;rw[h.dl]at this;exact this
 have hb1:Below w.heap.size w (w.alloc (.cells #[.slice DA nd dc,.slice SA ns sc,.slice PA pn pc] 26)):=(Below.refl _ _).alloc (zm _) _;have hnew:=TE (h.below hb1) hck 0 start hs0 hs1;generalize tZ D S L start=M0 at*;have HNEW:=I hnew;have HB1:=I hb1;have HOK:Hid (∀j,j≤l.length→wj (M0.run (l.take j)) 120 20000∧(M0.wR (l.take j)).length≤480000000∧(M0.run (l.take j)).ds.length=nd):=I fun j hj=>by
  have e1:ke (l.take j)≤ke l:=by have:=cf (l.take j) (l.drop j);rw[List.take_append_drop]at this;omega
  have e2:(l.take j).length=j:=by rw[zE];omega
  have e3:=hok0.bI (a:=0) (s:=0) (l.take j) (by omega) (by omega);rw[e2]at e3;exact⟨(hok0.run (a:=0) (s:=0) (l.take j)).more (by omega) (by omega),by omega,by rw[Mc.Xy];exact hlen0⟩
 have HST:Hid (∀j x,l[j]? =some x→M0.run (l.take (j+1))=((M0.run (l.take j)).xL x).1∧M0.wR (l.take (j+1))=M0.wR (l.take j)++(M0.run (l.take j)).jL x):=I fun j x hx=>by rw[jI hx];exact⟨Mc.TZ _ _ _,Mc.ZP _ _ _⟩
 obtain⟨AL,cl,rfl,hcl,hrow⟩:=hl;have HROW:Hid (∀j x,l[j]? =some x→∃g,AL=zb g∧∀W,Below w.heap.size w W→W.cell? (zc g (j*7))=some (.i x.kind)∧W.cell? (zc g (j*7+1))=some (.i x.xr)∧W.cell? (zc g (j*7+2))=some (.i x.pick)∧W.cell? (zc g (j*7+3))=some (.i x.op)∧W.cell? (zc g (j*7+4))=some (.i x.a)∧W.cell? (zc g (j*7+5))=some (.i x.b)∧W.cell? (zc g (j*7+6))=some (.i x.c)):=I fun j x hx=>by obtain⟨g,e,q⟩:=hrow j x hx;exact⟨g,e,fun W hW=>⟨Below.xT hW (q 0 _ rfl),Below.xT hW (q 1 _ rfl),Below.xT hW (q 2 _ rfl),Below.xT hW (q 3 _ rfl),Below.xT hW (q 4 _ rfl),Below.xT hW (q 5 _ rfl),Below.xT hW (q 6 _ rfl)⟩⟩
 have HFIT:=I hfit;have HFIN:Hid (∀v W,bk w 0 M0 [] v W→True):=I fun _ _ _=>trivial;clear hnew hb1 hok0 hlen0 h hP hE hck hrow hfit hdo HFIN;obtain⟨N,hN⟩:∃N,l.length=N:=⟨_,rfl⟩;have HN:=I hN;rw[hN]at hlen hcl;rw[hN];rw[hN]at HOK;clear hN;go_in;go_wp2_with fail;refine HNEW.out.mono ?_;rintro e w2 ⟨gm,γ2,rfl,o2,m2,k2⟩;have o2':=(((Own.start w).xh HB1.out).join o2);rw[Va]at o2';have o3:=o2'.new 2000 (.cells #[] 43);have hI:bk w gm (M0.run (l.take 0)) (M0.wR (l.take 0)) (.slice (zb w2.heap.size) 0 0) (w2.alloc (.cells #[] 43)):=by refine⟨_,o3,m2.out fun k hk=>yO _ _ _ (by omega),?_⟩;exact⟨rfl,.inr ⟨w2.heap.size,0,_,rfl,yQ _ _ _ _,zm _,by unfold maxLen;omega,rfl,rfl⟩⟩
 have HI:=I hI;clear o2 o2' o3 m2 k2 hI HNEW HB1;go_wp2_with fail;generalize w2.alloc (.cells #[] 43)=w3 at*;go_loopw [10,11] (fun v i wr=>∃j:Nat,i=.i j∧j≤N∧bk w gm (M0.run (l.take j)) (M0.wR (l.take j)) v wr) (fun _ i _=>3000-(intOf i).toNat);case atStart=>exact⟨0,rfl,by omega,HI.out⟩
 case round=>
  clear HI;obtain⟨j,rfl,hj,hst⟩:=hrel;obtain⟨hok,hel,hdl⟩:=HOK.out j hj;by_cases hlt:j<N
  ·have hlt':(j:Int)<N:=by omega
   obtain⟨x,hx⟩:∃x,l[j]? =some x:=⟨l[j]'(by rw[HN.out];exact hlt),zl (by rw[HN.out];exact hlt)⟩;obtain⟨gl,rfl,hcells⟩:=HROW.out j x hx;obtain⟨hM,hV⟩:=HST.out j x hx;obtain⟨fa,fb⟩:=HFIT.out x (zo hx);obtain⟨hok2,hel2,hdl2⟩:=HOK.out (j+1) (by omega);have HNX:Hid (∀v W,bk w gm ((M0.run (l.take j)).xL x).1 (M0.wR (l.take j)++(M0.run (l.take j)).jL x) v W→bk w gm (M0.run (l.take (j+1))) (M0.wR (l.take (j+1))) v W):=I fun v W q=>by rw[hM,hV];exact q
   rw[hM]at hok2 hdl2;rw[hV]at hel2;have HC:=I hcells;clear hcells hM hV hx;generalize M0.run (l.take j)=M at*;generalize M0.wR (l.take j)=wR at*;have e1:M.jL x=if x.kind=1 then M.vx (M.xL x).1 M.ds.length else if(M.xL x).2.xI≠0 then [⟨x.xr,x,(M.xL x).2,(M.xL x).1.now⟩]else []:=rfl;obtain⟨γ,o,m,sl⟩:=hst;obtain⟨A0,c0,rfl,-⟩:=sl.form;obtain⟨q0,q1,q2,q3,q4,q5,q6⟩:=HC.out wr o.below;have hdoc:=Ph m o hok (by omega) (by omega) x fa fb;by_cases hk1:x.kind=1
   ·rw[if_pos hk1]at e1;rw[e1]at HNX;have dk:(x.kind != 1)=false:=by simp[hk1]
    have hsl8:∀k,((M.xL x).1.seen k).length≤20000:=fun k=>hok2.XB k;have HBD:Hid (∀k q,k≤nd→(wR++M.vx (M.xL x).1 k++M.pO (M.xL x).1 k q).length≤500000000):=I fun k q hk=>by have a1:=Mc.fu (M:=M) hsl8 k;have a2:=Mc.Qd (M:=M) hsl8 k q;have a3:20000*k≤20000*8:=Nat.mul_le_mul_left _ (by omega);rw[zr,zr];omega
    rw[hdl]at HNX;have HDOK:Hid (∀W γ',Own w W γ'→wW γ' 0 gm M→Calls Tryz.prog 29 #[.p gm,x.val] W fun e w'=>e=.returned (.agg (M.xL x).2.xq)∧∃γ'',Own w w' γ''∧wW γ'' 0 gm (M.xL x).1∧∀k,2000≤k→γ'' k=γ' k):=I fun W γ' o' m'=>Ph m' o' hok (by omega) (by omega) x fa fb;have HSEEN:Hid (∀W γ' k,Own w W γ'→wW γ' 0 gm M→k<nd→Calls Tryz.prog 27 #[.p gm,.i (k:Nat)] W fun e w'=>∃v γ'',e=.returned v∧Own w w' γ''∧wW γ'' 0 gm M∧xK γ'' 2002 41 6 v (M.seen k).length (yW xN.yV (M.seen k))∧∀j,j≠2002→γ'' j=γ' j):=I fun W γ' k o' m' hk=>Pk m' o' hok (by omega) (by omega);have HSEEN2:Hid (∀W γ' k,Own w W γ'→wW γ' 0 gm (M.xL x).1→k<nd→Calls Tryz.prog 27 #[.p gm,.i (k:Nat)] W fun e w'=>∃v γ'',e=.returned v∧Own w w' γ''∧wW γ'' 0 gm (M.xL x).1∧xK γ'' 2002 41 6 v ((M.xL x).1.seen k).length (yW xN.yV ((M.xL x).1.seen k))∧∀j,j≠2002→γ'' j=γ' j):=I fun W γ' k o' m' hk=>Pk m' o' hok2 (by omega) (by omega);have hdm:=Pj m o;rw[hdl]at hdm;obtain⟨mk1,mk2,mk3⟩:=qL nd (by omega) wr;have o2:=o.new 2001 (.cells (wm nd) 3);have HW0:Hid (XN w gm M wR (.slice A0 wR.length c0) (.slice (zb wr.heap.size) nd nd) nd 0 (wr.alloc (.cells (wm nd) 3))):=by refine I ⟨_,o2,m.out fun k hk=>yO _ _ _ (by omega),sl.keep (yO _ _ _ (by omega)),?_⟩;refine⟨by rw[kZ];omega,.inr ⟨wr.heap.size,nd,_,rfl,yQ _ _ _ _,zm _,by unfold maxLen;omega,by rw[mk1,yG],?_⟩⟩;rw[yG,mk2,U2,zO (by simp[ints])]
    have HXS:Hid (x.val=.agg #[.i x.kind,.i x.xr,.i x.pick,.i x.op,.i x.a,.i x.b,.i x.c]):=I rfl;have HS8:=I hsl8;clear mk1 mk2 o2 e1 hok2 hdl2 hel2 hok fa fb hdoc hsl8 hk1;generalize(M.xL x).1=M2 at*;generalize(M.xL x).2=OZ at*;rw[HXS.out]at HDOK;clear HXS;obtain⟨el,hel0⟩:∃el,wR.length=el:=⟨_,rfl⟩;rw[hel0]at HW0 hel⊢;clear sl o m;go_wp2_with fail;refine hdm.mono ?_;rintro e w' ⟨rfl,rfl⟩;clear hdm;go_wp2_with fail;clear mk3 q0 q1 q2 q3 q4 q5 q6;generalize wr.alloc (.cells (wm nd) 3)=wA at*;generalize wr.heap.size=gw at*;go_loopw [14] (fun i w9=>∃k:Nat,i=.i k∧k≤nd∧XN w gm M wR (.slice A0 el c0) (.slice (zb gw) nd nd) nd k w9) (fun i _=>100-(intOf i).toNat);case atStart=>exact⟨0,rfl,by omega,HW0.out⟩
    case round=>
     clear HW0;rename_i w9 _;obtain⟨k,rfl,hk,γ,o,m,sl,sw⟩:=hrel;by_cases hkn:k<nd
     ·have hkn':(k:Int)<nd:=by omega
      have hsn:=HSEEN.out _ γ k o m hkn;have HSL:=I sl;have HSW:=I sw;clear sl sw o m;go_wp2_with fail;refine hsn.mono ?_;rintro e w4 ⟨v,γ4,rfl,o4,m4,p4,k4⟩;obtain⟨AV',cV,rfl⟩:=p4.form;obtain⟨gw',cw,ev,cz,fz,hset⟩:=(HSW.out.keep (k4 2001 (by omega))).jP o4 hkn;cases ev;obtain⟨γ5,o5,s5,k5⟩:=hset (.i ((M.seen k).length:Int));rw[Sg _ _ _ hkn]at s5;have HN5:Hid (XN w gm M wR (.slice A0 el c0) (.slice (zb gw) nd nd) nd (k+1) _):=I ⟨γ5,o5,m4.out fun j hj=>k5 j (by omega),(HSL.out.keep (k4 2000 (by omega))).keep (k5 2000 (by omega)),s5⟩;rw[zn,pg _ _ _ _ hkn]at cz;simp only[yt]at cz;generalize(M.seen k).length=sk at*;clear o4 m4 p4 k4 o5 s5 k5 HSL HSW hsn;go_wp2_with fail;go_roundw;case rel=>exact⟨k+1,by simp,by omega,HN5.out⟩
      case measure=>simp[intOf];omega
     ·obtain rfl:k=nd:=by omega
      have dl:decide ((k:Int)<k)=false:=by simp
      obtain⟨q0,q1,q2,q3,q4,q5,q6⟩:=HC.out _ o.below;have hdd:=HDOK.out _ γ o m;have HSL:=I sl;have HSW:=I sw;clear sl sw o m HSEEN HDOK HC;go_wp2_with fail;refine hdd.mono ?_;rintro e w4 ⟨rfl,γ4,o4,m4,k4⟩;have HT0:Hid (Zw w gm M M2 (wR++M.vx M2 0) (.slice (zb gw) k k) k (.slice A0 el c0) w4):=I ⟨γ4,o4,m4,by rw[show wR++M.vx M2 0=wR by simp[Mc.vx]];exact HSL.out.keep (k4 2000 (by omega)),HSW.out.keep (k4 2001 (by omega))⟩;clear o4 m4 k4 HSL HSW hdd q0 q1 q2 q3 q4 q5 q6;go_wp2_with fail;go_loopw [10,15] (fun v i w9=>∃n:Nat,i=.i n∧n≤k∧Zw w gm M M2 (wR++M.vx M2 n) (.slice (zb gw) k k) k v w9) (fun _ i _=>100-(intOf i).toNat);case atStart=>exact⟨0,rfl,by omega,HT0.out⟩
      case round=>
       clear HT0;obtain⟨n,rfl,hn,γ,o,m,sl,sw⟩:=hrel;obtain⟨A1,c1,rfl,-⟩:=sl.form;by_cases hnk:n<k
       ·have hnk':(n:Int)<k:=by omega
        have hsn:=HSEEN2.out _ γ n o m hnk;have HSL:=I sl;have HSW:=I sw;obtain⟨l1,hl1⟩:∃l1,(wR++M.vx M2 n).length=l1:=⟨_,rfl⟩;rw[hl1]at HSL⊢;have HL1:=I hl1;clear sl sw o m hl1;go_wp2_with fail;refine hsn.mono ?_;rintro e w4 ⟨v,γ4,rfl,o4,m4,p4,k4⟩;obtain⟨gw',cw,ev,-,cz⟩:=(HSW.out.keep (k4 2001 (by omega))).row o4 (by omega);cases ev;replace cz:=cz n _ (pg M k k n hnk);rw[if_pos hnk]at cz;have HS0:Hid (XK w gm M M2 (wR++M.vx M2 n++M.pO M2 n (M.seen n).length) (.slice (zb gw) k k) k n v (.slice A1 l1 c1) w4):=I ⟨γ4,o4,m4,by rw[Mc.Qe,zP,HL1.out];exact HSL.out.keep (k4 2000 (by omega)),HSW.out.keep (k4 2001 (by omega)),p4⟩;have HWK:Hid (∀q,(M2.seen n).length≤q→wR++M.vx M2 n++M.pO M2 n q=wR++M.vx M2 (n+1)):=I fun q hq=>by rw[zU,Mc.Qc hq]
        obtain⟨wk,hwk⟩:∃wk,(M.seen n).length=wk:=⟨_,rfl⟩;rw[hwk]at cz HS0;have HWKE:=I hwk;obtain⟨sn,hsn0⟩:∃sn,(M2.seen n).length=sn:=⟨_,rfl⟩;have HSNE:=I hsn0;have hsb:sn≤20000:=by rw[←hsn0];exact HS8.out n
        rw[hsn0]at HWK;obtain⟨AV',cV,rfl⟩:=p4.form;rw[hsn0]at HS0⊢;clear o4 m4 p4 k4 HSL HSW hsn hwk hsn0;go_wp2_with fail;clear cz;go_loopw [10,17] (fun v i w9=>∃q:Nat,i=.i q∧wk≤q∧(q≤sn∨q=wk)∧XK w gm M M2 (wR++M.vx M2 n++M.pO M2 n q) (.slice (zb gw) k k) k n (.slice AV' sn cV) v w9) (fun _ i _=>sn-(intOf i).toNat);case atStart=>exact⟨wk,rfl,by omega,.inr rfl,HS0.out⟩
        case round=>
         clear HS0;obtain⟨q,rfl,hq1,hq2,γ,o,m,sl,sw,pl⟩:=hrel;obtain⟨A2,c2,rfl,-⟩:=sl.form;by_cases hqs:q<sn
         ·have hqs':(q:Int)<sn:=by omega
          obtain⟨ob,hob⟩:∃ob,(M2.seen n)[q]? =some ob:=⟨(M2.seen n)[q]'(by rw[HSNE.out];exact hqs),zl (by rw[HSNE.out];exact hqs)⟩;have hsaw:=Mc.T4 (M:=M) hob (by rw[HWKE.out];exact hq1);obtain⟨z1,z2,z3,z4,z5,z6⟩:=ob;rw[HSNE.out]at pl;obtain⟨gq,cq,eq1,-,-⟩:=pl.row o (by omega);cases eq1;have HU:Hid (∀W,Own w W γ→W.cell? (zc gq (q*6))=some (.i z1)∧W.cell? (zc gq (q*6+1))=some (.i z2)∧W.cell? (zc gq (q*6+2))=some (.i z3)∧W.cell? (zc gq (q*6+3))=some (.i z4)∧W.cell? (zc gq (q*6+4))=some (.i z5)∧W.cell? (zc gq (q*6+5))=some (.i z6)):=I fun W hW=>by obtain⟨gq',cq',eq1,-,hr⟩:=pl.row hW (by omega);cases eq1;exact⟨hr _ _ (vf xN.len hob 0 (by omega)),hr _ _ (vf xN.len hob 1 (by omega)),hr _ _ (vf xN.len hob 2 (by omega)),hr _ _ (vf xN.len hob 3 (by omega)),hr _ _ (vf xN.len hob 4 (by omega)),hr _ _ (vf xN.len hob 5 (by omega))⟩
          have hbd:=HBD.out n q (by omega);have HSW:=I sw;have HPL:=I pl;have HM:=I m;have HSAW:=I hsaw;obtain⟨l2,hl2⟩:∃l2,(wR++M.vx M2 n++M.pO M2 n q).length=l2:=⟨_,rfl⟩;rw[hl2]at sl hbd⊢;have HL2:=I hl2;have HSL:=I sl;have HO:=I o.drew;have HNOW:Hid (∀W,Own w W γ→Calls Tryz.prog 30 #[.p gm] W fun e w'=>e=.returned (.i M2.now)∧W=w'):=I fun W hW=>Su HM.out hW;clear sl sw pl o m hob hsaw hl2;go_wp2_with fail;refine yP.region [0,1,2,3,4,5,6,7] (.step 8 (.step 9 (.step 10 (.step 11 (.step 12 .done))))) (fun w'=>Own w w' γ) (by kernel_rfl) (by kernel_rfl) (fun _ _ _ _ _ h=>h) HO.out ?_;repeat
           refine Perm.xm rfl ?_ (fun w' hS=>?_) ?_;rotate_left
           ·(obtain⟨u0,u1,u2,u3,u4,u5⟩:=HU.out _ hS;clear hS;go_simp;try with_reducible rfl)
           simp only[pt]
          refine Perm.xt ?_;refine yP.yY rfl (by rfl) ?_;refine yP.xJ rfl 30 _ _ rfl (by kernel_rfl) _ rfl ((HNOW.out _ HO.out).mono ?_);rintro e w' ⟨rfl,rfl⟩;refine⟨_,rfl,fun _ hS=>hS,?_⟩;simp only[pt];repeat
           refine yP.xA rfl (by rfl) ?_ (fun w'=>?_) ?_;rotate_left
           ·(go_simp;try with_reducible rfl)
           simp only[pt]
          have o6:=HO.out.new 2004 (.cells (Ev.yV ⟨(n:Int),En.zero,⟨z1,z2,z3,z4,z5,z6⟩,M2.now⟩).toArray 43);have k6:∀k',k'≠2004→put γ 2004 wr.drew.heap.size (.cells (Ev.yV ⟨(n:Int),En.zero,⟨z1,z2,z3,z4,z5,z6⟩,M2.now⟩).toArray 43) k'=γ k':=fun k' hk'=>yO _ _ _ hk';have HR6:=I (eI o6 (yQ _ _ _ _) rfl (Ev.one _));have HO6:=I o6;have HS6:=I (HSL.out.keep (k6 2000 (by omega)));have HM6:=I (HM.out.out fun k hk=>k6 k (by omega));have HW6:=I (HSW.out.keep (k6 2001 (by omega)));have HP6:=I (HPL.out.keep (k6 2002 (by omega)));have HD6:Hid (Own w _ γ):=I (HO.out.xh ((Below.refl _ _).alloc (zm _) (.cells (Ev.yV ⟨(n:Int),En.zero,⟨z1,z2,z3,z4,z5,z6⟩,M2.now⟩).toArray 43)));generalize put γ 2004 wr.drew.heap.size (.cells (Ev.yV ⟨(n:Int),En.zero,⟨z1,z2,z3,z4,z5,z6⟩,M2.now⟩).toArray 43)=γ6 at*;clear o6 k6 HSL HM HSW HPL HNOW HU;refine yP.yY rfl (by rfl) ?_;refine yP.xy rfl (.value (.slice (zb wr.heap.size) 1 1)) _ (.inl rfl) (w':=wr.drew.alloc (.cells (Ev.yV ⟨(n:Int),En.zero,⟨z1,z2,z3,z4,z5,z6⟩,M2.now⟩).toArray 43)) (by unfold Ev.yV En.yV xN.yV En.zero;go_simp;try with_reducible rfl) (fun _ _=>HD6.out) ?_;simp only[pt];refine yP.yY rfl (by rfl) ?_;refine yP.pF rfl fun K' hK=>tN (.tmp 105) (.tmp 115) 28 rfl 43 _ 15 120 Tryz.underlying28 Tryz.V1 rfl (by decide) HO6.out HS6.out rfl HR6.out rfl (by unfold maxLen;omega) (by omega) fun A9 c9 w9 γ9 hA9 o9 s9 k9=>hK _ _ (Perm.xx (by kernel_rfl)) ?_;simp only[pt];have HF:Hid (XK w gm M M2 (wR++M.vx M2 n++M.pO M2 n (q+1)) (.slice (zb gw) k k) k n (.slice (zb gq) sn cV) (.slice A9 (l2+1) c9) w9):=I ⟨γ9,o9,HM6.out.out fun k hk=>k9 k (by omega),by rw[HSAW.out,←zU,zr,yh,HL2.out,←sz];exact s9,HW6.out.keep (k9 2001 (by omega)),by rw[HSNE.out];exact HP6.out.keep (k9 2002 (by omega))⟩;clear o9 s9 k9 hA9 HO6 HS6 HR6 HM6 HD6 HW6 HP6 HO HSAW HL2;repeat
           refine yP.xA rfl (by rfl) ?_ (fun w'=>?_) ?_;rotate_left
           ·(go_simp;try with_reducible rfl)
           simp only[pt]
          refine yP.xC ?_;go_wp2_with fail;go_roundw;case rel=>exact⟨q+1,by simp,by omega,.inl (by omega),HF.out⟩
          case measure=>simp[intOf];omega
         ·have hqs':sn≤q:=by omega
          have HF:Hid (Zw w gm M M2 (wR++M.vx M2 (n+1)) (.slice (zb gw) k k) k (.slice A2 (wR++M.vx M2 n++M.pO M2 n q).length c2) _):=I ⟨γ,o,m,by rw[HWK.out q hqs']at sl⊢;exact sl,sw⟩;obtain⟨l2,hl2⟩:∃l2,(wR++M.vx M2 n++M.pO M2 n q).length=l2:=⟨_,rfl⟩;rw[hl2]at HF⊢;clear sl sw pl o m hl2 HWK;go_wp2_with fail;go_roundw;case rel=>exact⟨n+1,by simp,by omega,HF.out⟩
          case measure=>simp[intOf];omega
       ·obtain rfl:n=k:=by omega
        have dl:decide ((n:Int)<n)=false:=by simp
        have HF:=I (HNX.out _ _ ⟨γ,o,m,sl⟩);obtain⟨l1,hl1⟩:∃l1,(wR++M.vx M2 n).length=l1:=⟨_,rfl⟩;rw[hl1]at HF⊢;clear sl sw o m hl1 HNX;go_wp2_with fail;go_roundw;case rel=>exact⟨j+1,by simp,by omega,HF.out⟩
        case measure=>simp[intOf];omega
   ·rw[if_neg hk1]at e1;have dk:(x.kind != 1)=true:=by simpa using hk1
    rw[e1]at HNX;clear e1 fa fb hel2 hok hdl hok2 hdl2 m;have HSL:=I sl;have HDO:=I hdoc;generalize(M.xL x).1=M2 at*;generalize(M.xL x).2=O at*;obtain⟨xk,xd,xp,xo,xa,xb,xc⟩:=x;obtain⟨y1,y2,y3,y4,y5,y6⟩:=O;unfold En.val En.xq xN.xq at HDO;simp only at HDO q0 q1 q2 q3 q4 q5 q6 dk HNX HC;obtain⟨el,hel0⟩:∃el,wR.length=el:=⟨_,rfl⟩;rw[hel0]at HSL hel⊢;have HEL:=I hel0;clear sl hdoc hk1 o hel0;go_wp2_with fail;refine HDO.out.mono ?_;rintro e w4 ⟨rfl,γ4,o4,m4,k4⟩;clear HDO q0 q1 q2 q3 q4 q5 q6;have o5:=o4.new 2003 (.cells #[.i y1,.i y2,.i y3,.i y4,.i y5,.i y6] 41);have k5:∀k,k≠2003→put γ4 2003 w4.heap.size (.cells #[.i y1,.i y2,.i y3,.i y4,.i y5,.i y6] 41) k=γ4 k:=fun k hk=>yO _ _ _ hk;have b5:=yQ γ4 2003 w4.heap.size (.cells #[.i y1,.i y2,.i y3,.i y4,.i y5,.i y6] 41);generalize put γ4 2003 w4.heap.size (.cells #[.i y1,.i y2,.i y3,.i y4,.i y5,.i y6] 41)=γ5 at*;have M5:Hid (wW γ5 0 gm M2):=I (m4.out fun k hk=>k5 k (by omega));have S5:Hid (yR γ5 2000 43 15 (.slice A0 el c0) el (yW Ev.yV wR)):=I (HSL.out.keep ((k5 2000 (by omega)).trans (k4 2000 (by omega))));have O5:=I o5;have B5:=I b5;obtain⟨u0,u1,u2,u3,u4,u5,-⟩:=uP o5 b5;clear o4 m4 k4 o5 k5 b5 HSL;cases hy:(y1 != 0)with
    |false=>
     have hy0:y1=0:=by simpa using hy
     rw[if_neg (by simp[hy0]),zP]at HNX;have HF:=I (HNX.out (.slice A0 el c0) _ ⟨γ5,O5.out,M5.out,by rw[HEL.out];exact S5.out⟩);clear hy0 M5 S5 O5 B5 HNX;go_wp2_with fail;go_roundw;case rel=>exact⟨j+1,by simp,by omega,HF.out⟩
     case measure=>simp[intOf];omega
    |true=>
     have hy0:y1≠0:=by simpa using hy
     rw[if_pos (by simpa using hy0)]at HNX;clear hy0;go_wp2_with fail;generalize hWg:w4.alloc (.cells #[.i y1,.i y2,.i y3,.i y4,.i y5,.i y6] 41)=W5 at*;clear hWg u0 u1 u2 u3 u4 u5;have HD5:=I O5.out.drew;have HNOW:Hid (∀W,Own w W γ5→Calls Tryz.prog 30 #[.p gm] W fun e w'=>e=.returned (.i M2.now)∧W=w'):=I fun W hW=>Su M5.out hW;refine yP.region [0,1,2,3,4,5,6,7,8,9,10,11] (.step 12 (.step 13 (.step 14 (.step 15 (.step 16 .done))))) (fun w'=>Own w w' γ5) (by kernel_rfl) (by kernel_rfl) (fun _ _ _ _ _ h=>h) HD5.out ?_;repeat
      refine Perm.xm rfl ?_ (fun w' hS=>?_) ?_;rotate_left
      ·(obtain⟨q0,q1,q2,q3,q4,q5,q6⟩:=HC.out _ hS.below;obtain⟨u0,u1,u2,u3,u4,u5,-⟩:=uP hS B5.out;clear hS;go_simp;try with_reducible rfl)
      simp only[pt]
     refine Perm.xt ?_;refine yP.yY rfl (by rfl) ?_;refine yP.xJ rfl 30 _ _ rfl (by kernel_rfl) _ rfl ((HNOW.out _ HD5.out).mono ?_);rintro e w' ⟨rfl,rfl⟩;refine⟨_,rfl,fun _ hS=>hS,?_⟩;simp only[pt];repeat
      refine yP.xA rfl (by rfl) ?_ (fun w'=>?_) ?_;rotate_left
      ·(go_simp;try with_reducible rfl)
      simp only[pt]
     have o6:=HD5.out.new 2004 (.cells (Ev.yV ⟨xd,⟨xk,xd,xp,xo,xa,xb,xc⟩,⟨y1,y2,y3,y4,y5,y6⟩,M2.now⟩).toArray 43);have k6:∀k,k≠2004→put γ5 2004 W5.drew.heap.size (.cells (Ev.yV ⟨xd,⟨xk,xd,xp,xo,xa,xb,xc⟩,⟨y1,y2,y3,y4,y5,y6⟩,M2.now⟩).toArray 43) k=γ5 k:=fun k hk=>yO _ _ _ hk;have HR6:=I (eI o6 (yQ _ _ _ _) rfl (Ev.one _));have HO6:=I o6;have HS6:=I (S5.out.keep (k6 2000 (by omega)));have HM6:=I (M5.out.out fun k hk=>k6 k (by omega));have HD6:Hid (Own w _ γ5):=I (HD5.out.xh ((Below.refl _ _).alloc (zm _) (.cells (Ev.yV ⟨xd,⟨xk,xd,xp,xo,xa,xb,xc⟩,⟨y1,y2,y3,y4,y5,y6⟩,M2.now⟩).toArray 43)));generalize put γ5 2004 W5.drew.heap.size (.cells (Ev.yV ⟨xd,⟨xk,xd,xp,xo,xa,xb,xc⟩,⟨y1,y2,y3,y4,y5,y6⟩,M2.now⟩).toArray 43)=γ6 at*;clear o6 k6 S5 M5 O5 B5 HNOW HC;refine yP.yY rfl (by rfl) ?_;refine yP.xy rfl (.value (.slice (zb W5.heap.size) 1 1)) _ (.inl rfl) (w':=W5.drew.alloc (.cells (Ev.yV ⟨xd,⟨xk,xd,xp,xo,xa,xb,xc⟩,⟨y1,y2,y3,y4,y5,y6⟩,M2.now⟩).toArray 43)) (by unfold Ev.yV En.yV xN.yV;go_simp;try with_reducible rfl) (fun _ _=>HD6.out) ?_;simp only[pt];refine yP.yY rfl (by rfl) ?_;refine yP.pF rfl fun K' hK=>tN (.tmp 48) (.tmp 62) 28 rfl 43 _ 15 120 Tryz.underlying28 Tryz.V1 rfl (by decide) HO6.out HS6.out rfl HR6.out rfl (by unfold maxLen;omega) (by omega) fun A9 c9 w9 γ9 hA9 o9 s9 k9=>hK _ _ (Perm.xx (by kernel_rfl)) ?_;simp only[pt];have HF:Hid (bk w gm (M0.run (l.take (j+1))) (M0.wR (l.take (j+1))) (.slice A9 (el+1) c9) w9):=I (HNX.out _ _ ⟨γ9,o9,HM6.out.out fun k hk=>k9 k (by omega),by rw[zr,yh,HEL.out,←sz];exact s9⟩);clear o9 s9 k9 hA9 HO6 HS6 HR6 HM6 HD6 HD5 HNX;repeat
      refine yP.xA rfl (by rfl) ?_ (fun w'=>?_) ?_;rotate_left
      ·(go_simp;try with_reducible rfl)
      simp only[pt]
     refine yP.xC ?_;go_wp2_with fail;go_roundw;case rel=>exact⟨j+1,by simp,by omega,HF.out⟩
     case measure=>simp[intOf];omega
  ·obtain rfl:j=N:=by omega
   have dl:decide ((j:Int)<j)=false:=by simp
   obtain⟨γ,o,m,sl⟩:=hst;have htk:l.take j=l:=by rw[←HN.out,yA]
   obtain⟨A0,c0,rfl,-⟩:=sl.form;have hrd:=sl.rdL Ev.len (by omega) o;have HF:Hid (Below w.heap.size w wr∧je Ev.yV 15 wr (.slice A0 (M0.wR (l.take j)).length c0) (M0.wR l)):=I ⟨o.below,by rw[htk]at hrd⊢;exact hrd⟩;clear o m sl hrd;go_wp2_with fail;go_ret2;exact⟨_,rfl,HF.out.1,HF.out.2⟩
end
def SN:List Dv:=[⟨⟨#[97]⟩,0,0,2,1,2⟩,⟨⟨#[98]⟩,1,0,1,0,2⟩]
def SO:List (Int×Int):=[(0,1),(1,1)]
def eC:List En:=[⟨2,0,0,1,0,0,0⟩,⟨2,0,0,5,1,0,0⟩,⟨2,0,0,7,1,0,0⟩,⟨2,0,1,7,1,0,0⟩,⟨2,0,0,9,1,0,0⟩,⟨1,0,0,0,0,0,0⟩,⟨1,0,0,0,0,0,0⟩]
theorem P0:uI SN SO [] 0=0:=by kernel_rfl
theorem PZ:(tZ SN SO [] 0).wR eC=[⟨0,⟨2,0,0,1,0,0,0⟩,⟨1,0,1,0,2,0⟩,0⟩,⟨0,⟨2,0,0,5,1,0,0⟩,⟨1,0,5,0,1,0⟩,0⟩,⟨0,⟨2,0,0,7,1,0,0⟩,⟨1,0,7,0,0,0⟩,0⟩,⟨0,⟨2,0,1,7,1,0,0⟩,⟨2,0,7,14,0,0⟩,0⟩,⟨0,⟨2,0,0,9,1,0,0⟩,⟨1,0,9,0,0,0⟩,0⟩,⟨0,En.zero,⟨2,2,0,0,0,0⟩,2⟩]:=by kernel_rfl
section
open Go.RowKit Go.WideShapes Go.ChangeMaps
def Ev.xq(v:Ev):Array Value:=v.yV.toArray
section
variable {w:World} {DA SA PA:Option Addr} {nd dc ns sc pn pc:Nat} {D:List Dv} {S:List (Int×Int)} {L:List Lk}
theorem TD(h:tE w DA SA PA nd dc ns sc pn pc D S L)(start:Int)(hE:uI D S L start≠0):Calls Tryz.prog 28 #[.agg #[.slice DA nd dc,.slice SA ns sc,.slice PA pn pc],.i start] w fun e w'=>e=.returned (.tuple #[.pointer none,.i (uI D S L start)])∧Below w.heap.size w w':=by
 by_cases h1:ux D S L=0
 ·have h2:start<0∨4611686018427387904<start:=zC fun c=>hE (by unfold uI;rw[if_neg (by rw[h1];decide),if_neg c]);have e:uI D S L start=1:=by unfold uI;rw[if_neg (by rw[h1];decide),if_pos h2]
  rw[e];exact YZ h h1 start h2
 ·have e:uI D S L start=ux D S L:=by unfold uI;rw[if_pos h1]
  rw[e];exact Uf h h1 start
theorem Yr(h:tE w DA SA PA nd dc ns sc pn pc D S L)(start:Int)(hE:uI D S L start≠0)(vl:Value):Calls Tryz.prog 10 #[.agg #[.slice DA nd dc,.slice SA ns sc,.slice PA pn pc],.i start,vl] w fun e w'=>e=.returned (.tuple #[.slice none 0 0,.bool false])∧Below w.heap.size w w':=by
 have hb1:Below w.heap.size w (w.alloc (.cells #[.slice DA nd dc,.slice SA ns sc,.slice PA pn pc] 26)):=(Below.refl _ _).alloc (zm _) _;have HC:=I (TD (h.below hb1) start hE);have HB:=I hb1;generalize uI D S L start=E at*;have hd:(E != 0)=true:=by simpa using hE
 clear hb1 h hE;go_in;go_wp2_with fail;refine HC.out.mono ?_;rintro e w2 ⟨rfl,hb⟩;have HF:Hid (Below w.heap.size w w2):=I (HB.out.trans (hb.mono HB.out.size));clear hb HC HB;go_wp2_with fail;go_ret2;exact⟨rfl,HF.out⟩
end
theorem Qq(v:Ev)(w:World):Calls Tryz.prog 13 #[.agg v.xq] w fun e w'=>e=.returned (.bool (v.x.kind==0))∧Below w.heap.size w w':=by obtain⟨d,⟨x1,x2,x3,x4,x5,x6,x7⟩,⟨o1,o2,o3,o4,o5,o6⟩,t⟩:=v;show Calls _ _ #[.agg #[.i d,.i x1,.i x2,.i x3,.i x4,.i x5,.i x6,.i x7,.i o1,.i o2,.i o3,.i o4,.i o5,.i o6,.i t]] _ _;have hb:Below w.heap.size w (w.alloc (.cells #[.i d,.i x1,.i x2,.i x3,.i x4,.i x5,.i x6,.i x7,.i o1,.i o2,.i o3,.i o4,.i o5,.i o6,.i t] 43)):=(Below.refl _ _).alloc (zm _) _;simp only;go_in;go_wp2_with fail;go_ret;exact⟨rfl,hb⟩
def fD:Array Value:=#[.string ⟨#[97]⟩,.i 0,.i 0,.i 2,.i 1,.i 2,.string ⟨#[98]⟩,.i 1,.i 0,.i 1,.i 0,.i 2]
def eB:Array Value:=#[.i 0,.i 1,.i 1,.i 1]
theorem NA(w:World):Calls Tryz.prog 16 #[] w fun e w'=>e=.returned (.bool true)∧Below w.heap.size w w':=by
 have o1:=(Own.start w).new 0 (.cells fD 80);have o2:=o1.new 1 (.cells eB 70);have e2:(w.alloc (.cells fD 80)).heap.size=w.heap.size+1:=by simp
 rw[e2]at o2;have o3:=o2.new 2 (.cells #[.slice (zb w.heap.size) 2 2,.slice (zb (w.heap.size+1)) 2 2,.slice none 0 0] 26);have e3:((w.alloc (.cells fD 80)).alloc (.cells eB 70)).heap.size=w.heap.size+2:=by simp
 rw[e3]at o3;have o4:=o3.new 3 (.cells (yW En.yV eC).toArray 38);have e4:(((w.alloc (.cells fD 80)).alloc (.cells eB 70)).alloc (.cells #[.slice (zb w.heap.size) 2 2,.slice (zb (w.heap.size+1)) 2 2,.slice none 0 0] 26)).heap.size=w.heap.size+3:=by simp
 rw[e4]at o4;have q3:=yQ (put (put (put (fun _=>none) 0 w.heap.size (.cells fD 80)) 1 (w.heap.size+1) (.cells eB 70)) 2 (w.heap.size+2) (.cells #[.slice (zb w.heap.size) 2 2,.slice (zb (w.heap.size+1)) 2 2,.slice none 0 0] 26)) 3 (w.heap.size+3) (.cells (yW En.yV eC).toArray 38);have q0:put (put (put (put (fun _=>none) 0 w.heap.size (.cells fD 80)) 1 (w.heap.size+1) (.cells eB 70)) 2 (w.heap.size+2) (.cells #[.slice (zb w.heap.size) 2 2,.slice (zb (w.heap.size+1)) 2 2,.slice none 0 0] 26)) 3 (w.heap.size+3) (.cells (yW En.yV eC).toArray 38) 0=some (w.heap.size,.cells fD 80):=rfl;have q1:put (put (put (put (fun _=>none) 0 w.heap.size (.cells fD 80)) 1 (w.heap.size+1) (.cells eB 70)) 2 (w.heap.size+2) (.cells #[.slice (zb w.heap.size) 2 2,.slice (zb (w.heap.size+1)) 2 2,.slice none 0 0] 26)) 3 (w.heap.size+3) (.cells (yW En.yV eC).toArray 38) 1=some (w.heap.size+1,.cells eB 70):=rfl;generalize put (put (put (put (fun _=>none) 0 w.heap.size (.cells fD 80)) 1 (w.heap.size+1) (.cells eB 70)) 2 (w.heap.size+2) (.cells #[.slice (zb w.heap.size) 2 2,.slice (zb (w.heap.size+1)) 2 2,.slice none 0 0] 26)) 3 (w.heap.size+3) (.cells (yW En.yV eC).toArray 38)=γ at*
 have hP:tE ((((w.alloc (.cells fD 80)).alloc (.cells eB 70)).alloc (.cells #[.slice (zb w.heap.size) 2 2,.slice (zb (w.heap.size+1)) 2 2,.slice none 0 0] 26)).alloc (.cells (yW En.yV eC).toArray 38)) (zb w.heap.size) (zb (w.heap.size+1)) none 2 2 2 2 0 0 SN SO []:={
  dl:=rfl,dc:=zm _,dr:=fun j x hx=>(by
   refine⟨w.heap.size,0,rfl,?_⟩;match j,hx with
   |0,hx=>cases hx;exact⟨o4.cell q0 rfl,o4.cell q0 rfl,o4.cell q0 rfl,o4.cell q0 rfl,o4.cell q0 rfl,o4.cell q0 rfl⟩
   |1,hx=>cases hx;exact⟨o4.cell q0 rfl,o4.cell q0 rfl,o4.cell q0 rfl,o4.cell q0 rfl,o4.cell q0 rfl,o4.cell q0 rfl⟩
   |j+2,hx=>simp[SN]at hx),
  sl:=rfl,sc:=zm _,sr:=fun j x hx=>(by
   refine⟨w.heap.size+1,0,rfl,?_⟩;match j,hx with
   |0,hx=>cases hx;exact⟨o4.cell q1 rfl,o4.cell q1 rfl⟩
   |1,hx=>cases hx;exact⟨o4.cell q1 rfl,o4.cell q1 rfl⟩
   |j+2,hx=>simp[SO]at hx),
  ll:=rfl,lc:=zm _,lr:=fun j x hx=>by simp at hx,ln:=fun _=>rfl}
 have hL:je En.yV 7 ((((w.alloc (.cells fD 80)).alloc (.cells eB 70)).alloc (.cells #[.slice (zb w.heap.size) 2 2,.slice (zb (w.heap.size+1)) 2 2,.slice none 0 0] 26)).alloc (.cells (yW En.yV eC).toArray 38)) (.slice (zb (w.heap.size+3)) 7 7) eC:=by refine⟨_,7,rfl,zm _,fun i x hx=>⟨_,rfl,fun j u hj=>o4.cell q3 ?_⟩⟩;have hjm:j<7:=(zk.1 hj).1;have:=vf En.len hx j hjm;rw[hj]at this;simpa using this
 have hev:=ew hP 0 P0 eC hL (by decide) (by decide) (by decide);have hb4:=o4.below;rw[PZ]at hev;have HB4:=I hb4;have HE:=I hev;clear hP hL o1 o2 o3 o4 e2 e3 e4 q0 q1 q3 hev hb4;unfold fD eB eC at HB4 HE;simp only[yW,yK,List.map_nil,List.flatten_cons,List.flatten_nil,En.yV,zP,zT,zD]at HB4 HE;go_in;go_wp2_with fail;refine HE.out.mono ?_;rintro e w5 ⟨v,rfl,hb5,A5,c5,rfl,hc5,hr⟩;obtain⟨g5,rfl,h3⟩:=hr 3 _ rfl;obtain⟨g5',e5,h5⟩:=hr 5 _ rfl;cases e5;have x3:w5.cell? (zc g5 56)=some (.i 14):=h3 11 _ rfl;have y0:w5.cell? (zc g5 75)=some (.i 0):=h5 0 _ rfl;have y1:w5.cell? (zc g5 76)=some (.i 0):=h5 1 _ rfl;have y2:w5.cell? (zc g5 77)=some (.i 0):=h5 2 _ rfl;have y3:w5.cell? (zc g5 78)=some (.i 0):=h5 3 _ rfl;have y4:w5.cell? (zc g5 79)=some (.i 0):=h5 4 _ rfl;have y5:w5.cell? (zc g5 80)=some (.i 0):=h5 5 _ rfl;have y6:w5.cell? (zc g5 81)=some (.i 0):=h5 6 _ rfl;have y7:w5.cell? (zc g5 82)=some (.i 0):=h5 7 _ rfl;have y8:w5.cell? (zc g5 83)=some (.i 2):=h5 8 _ rfl;have y9:w5.cell? (zc g5 84)=some (.i 2):=h5 9 _ rfl;have y10:w5.cell? (zc g5 85)=some (.i 0):=h5 10 _ rfl;have y11:w5.cell? (zc g5 86)=some (.i 0):=h5 11 _ rfl;have y12:w5.cell? (zc g5 87)=some (.i 0):=h5 12 _ rfl;have y13:w5.cell? (zc g5 88)=some (.i 0):=h5 13 _ rfl;have y14:w5.cell? (zc g5 89)=some (.i 2):=h5 14 _ rfl;have hwk:=Qq ⟨0,En.zero,⟨2,2,0,0,0,0⟩,2⟩ w5;unfold Ev.xq Ev.yV En.yV En.zero xN.yV at hwk;simp only[zT,zD]at hwk;have HX:Hid (∀W,Below w5.heap.size w5 W→Below w.heap.size w W∧W.cell? (zc g5 83)=some (.i 2)∧W.cell? (zc g5 84)=some (.i 2)∧W.cell? (zc g5 85)=some (.i 0)∧W.cell? (zc g5 86)=some (.i 0)∧W.cell? (zc g5 87)=some (.i 0)∧W.cell? (zc g5 88)=some (.i 0)∧W.cell? (zc g5 89)=some (.i 2)):=I fun W hW=>⟨HB4.out.trans ((hb5.mono HB4.out.size).trans (hW.mono (yn HB4.out.size hb5.size))),Below.xT hW y8,Below.xT hW y9,Below.xT hW y10,Below.xT hW y11,Below.xT hW y12,Below.xT hW y13,Below.xT hW y14⟩;clear hb5 hr h3 h5 HE HB4;go_wp2_with fail;refine hwk.mono ?_;rintro e w6 ⟨rfl,hb6⟩;obtain⟨hbz,t8,t9,t10,t11,t12,t13,t14⟩:=HX.out w6 hb6;have HZ:=I hbz;clear hb6 hbz HX hwk;go_wp2_with fail;go_ret;exact⟨rfl,HZ.out⟩
end
section
open Go.RowKit Go.WideShapes Go.ChangeMaps
theorem Ym(f:Nat→En):∀n,ke (uE f n)≤n
 |0=>by simp[uE,ke]
 |n+1=>by
  have ih:=Ym f n
  rw[js,cf]
  have:ke (List.replicate (f n).times.toNat (f n).norm)≤1:=by
   unfold ke
   by_cases h:(f n).kind=1
   ·have e:((f n).norm.kind != 1)=false:=by unfold En.norm;rw[if_pos h];rfl
    rw[List.filter_replicate,if_neg (by rw[e];decide)]
    simp
   ·have e:(f n).times=1:=by unfold En.times;rw[if_neg (fun c=>h c.1)]
    rw[e]
    refine yn (List.length_filter_le _ _) ?_
    simp
  omega
theorem Yn{f:Nat→En}{m:Int}(hm:0≤m):∀n,(∀i,i<n→(f i).a≤m∧(f i).b≤m)→∀x∈uE f n,x.a≤m∧x.b≤m
 |0,_,x,hx=>by simp[uE]at hx
 |n+1,h,x,hx=>by
  rw[js]at hx
  rcases zB.1 hx with hx|hx
  ·exact Yn hm n (fun i hi=>h i (by omega)) x hx
  ·rw[(List.mem_replicate.1 hx).2]
   unfold En.norm
   split
   ·exact⟨hm,hm⟩
   ·exact h n (by omega)
def Uz(f:Nat→En)(len xE:Nat):List En:=uE f (min len xE)
theorem OX{w:World}{A:Option Addr}{len cap:Nat}{f:Nat→En}(hs:jc w A len cap f)(xE:Nat)(hm:xE≤120):Calls Tryz.prog 11 #[.slice A len cap,.i xE] w fun e w'=>∃v,e=.returned v∧Below w.heap.size w w'∧je En.yV 7 w' v (Uz f len xE):=by refine(U0 hs xE hm).mono ?_;rintro e w' ⟨γ,v,he,o,s⟩;exact⟨v,he,o.below,s.rdL En.len (by omega) o⟩
structure XL (l:List En):Prop where
 fit:∀x∈l,x.a≤9223372036854775807∧x.b≤9223372036854775807
 dos:ke l≤120
 len:l.length≤2400
theorem jc.Uz{w:World}{A:Option Addr}{len cap:Nat}{f:Nat→En}(hs:jc w A len cap f){xE:Nat}(hm:xE≤120):XL (Uz f len xE):=by
 refine⟨Yn (by decide) _ fun i hi=>hs.fit i (by omega),?_,?_⟩
 ·have:=Ym f (min len xE);unfold Go.Proofs.YtkmamlifgbocgaaGreat.Uz;omega
 ·have:=dQ f (min len xE);unfold Go.Proofs.YtkmamlifgbocgaaGreat.Uz;omega
theorem jc.below{w w':World}{A:Option Addr}{len cap:Nat}{f:Nat→En}(hs:jc w A len cap f)(hb:Below w.heap.size w w'):jc w' A len cap f:=⟨hs.lc,hs.lm,fun i hi=>by obtain⟨g,off,e,q⟩:=hs.row i hi;exact⟨g,off,e,fun j u hj=>Below.xT hb (q j u hj)⟩,hs.fit⟩
def VO(D:List Dv)(S:List (Int×Int))(L:List Lk)(start:Int)(l:List En):Bool×List Ev:=if uI D S L start=0 then(true,(tZ D S L start).wR l)else(false,[])
theorem OW{w:World}{DA SA PA:Option Addr}{nd dc ns sc pn pc:Nat}{D:List Dv}{S:List (Int×Int)}{L:List Lk}(h:tE w DA SA PA nd dc ns sc pn pc D S L)(start:Int){l:List En}(hk:XL l){vl:Value}(hl:je En.yV 7 w vl l):Calls Tryz.prog 10 #[.agg #[.slice DA nd dc,.slice SA ns sc,.slice PA pn pc],.i start,vl] w fun e w'=>∃v,e=.returned (.tuple #[v,.bool (VO D S L start l).1])∧Below w.heap.size w w'∧je Ev.yV 15 w' v (VO D S L start l).2:=by
 unfold VO;by_cases hE:uI D S L start=0
 ·rw[if_pos hE];exact ew h start hE l hl hk.fit hk.dos hk.len
 ·rw[if_neg hE];refine(Yr h start hE vl).mono ?_;rintro e w' ⟨rfl,hb⟩;exact⟨_,rfl,hb,none,0,rfl,zm _,fun i x hx=>by simp at hx⟩
theorem NE(D:List Dv)(S:List (Int×Int))(L:List Lk)(start:Int){l:List En}(hk:XL l):(VO D S L start l).2.length≤480000000:=by
 unfold VO;by_cases hE:uI D S L start=0
 ·rw[if_pos hE];unfold uI at hE;split at hE
  ·rename_i q;exact absurd hE q
  rename_i q;split at hE
  ·cases hE
  have hP:=po.of (by simpa using q);have hok0:wj (tZ D S L start) 0 8:=(wj.start hP (by omega) (by omega)).rQ;have hl:=hk.len;have h8:(tZ D S L start).ds.length≤8:=by unfold tZ;rw[(Mc.ZB _).2.2.2];show(D.map Dv.new).length≤8;rw[zA];exact hP.d8
  have:=hok0.bI (a:=0) (s:=0) l h8 (by omega);show((tZ D S L start).wR l).length≤_;omega
 ·rw[if_neg hE];exact Nat.zero_le _
theorem NF(w:World)(a b c:Value):∀W,Below (w.alloc (.cells #[a,b,c] 26)).heap.size (w.alloc (.cells #[a,b,c] 26)) W→Below w.heap.size w W∧W.cell? (zc w.heap.size 0)=some a∧W.cell? (zc w.heap.size 1)=some b∧W.cell? (zc w.heap.size 2)=some c:=fun W hW=>by have hb1:Below w.heap.size w (w.alloc (.cells #[a,b,c] 26)):=(Below.refl _ _).alloc (zm _) _;have hc:∀(j:Nat) v,(#[a,b,c]:Array Value)[j]? =some v→W.cell? (zc w.heap.size j)=some v:=fun j v hj=>Below.xT hW (by rw[World.cell?_alloc_at _ _ _ _ rfl];exact hj);exact⟨hb1.trans (hW.mono hb1.size),hc 0 _ rfl,hc 1 _ rfl,hc 2 _ rfl⟩
theorem Ev.row{W:World}{g k:Nat}{v:Ev}(h:∀(j:Nat) u,v.yV[j]? =some u→W.cell? (zc g (k+j))=some u):W.cell? (zc g k)=some (.i v.xr)∧W.cell? (zc g (k+1))=some (.i v.x.kind)∧W.cell? (zc g (k+2))=some (.i v.x.xr)∧W.cell? (zc g (k+3))=some (.i v.x.pick)∧W.cell? (zc g (k+4))=some (.i v.x.op)∧W.cell? (zc g (k+5))=some (.i v.x.a)∧W.cell? (zc g (k+6))=some (.i v.x.b)∧W.cell? (zc g (k+7))=some (.i v.x.c)∧W.cell? (zc g (k+8))=some (.i v.o.xI)∧W.cell? (zc g (k+9))=some (.i v.o.clock)∧W.cell? (zc g (k+10))=some (.i v.o.op)∧W.cell? (zc g (k+11))=some (.i v.o.e)∧W.cell? (zc g (k+12))=some (.i v.o.n)∧W.cell? (zc g (k+13))=some (.i v.o.m)∧W.cell? (zc g (k+14))=some (.i v.tick):=⟨h 0 _ rfl,h 1 _ rfl,h 2 _ rfl,h 3 _ rfl,h 4 _ rfl,h 5 _ rfl,h 6 _ rfl,h 7 _ rfl,h 8 _ rfl,h 9 _ rfl,h 10 _ rfl,h 11 _ rfl,h 12 _ rfl,h 13 _ rfl,h 14 _ rfl⟩
end
section
open Go.RowKit Go.Deep Go.WideShapes Go.ChangeMaps
theorem kO{H:Type}{rV:TypeId×Value→H}{P:Program}{w:World}{t e:TypeId}{cs:List Value}{y:DataW H×List MemPlace}{fuel:Nat}(f:Nat)(ks:List CK)(ht:P.underlying t=some (.slice e))(hfl:flat P f e=some ks)(hn:P.cellsOf e=ks.length)(h0:0<ks.length)(hf:DataW.trod rV P w 0 (fun _=>true) true fuel t cs=some y):∃A len cap,cs=[.slice A len cap]∧RowsIn w A len cap ks:=by
 rcases open_slice ht hf with⟨hcs,_⟩|⟨x,l,c,m,n,D,Pl,hcs,_,hl,hm,hmm,_,hel⟩
 ·exact⟨_,_,_,hcs,.inl ⟨rfl,rfl⟩⟩
 ·refine⟨_,_,_,hcs,?_⟩;simp only[if_true]at hmm;subst hmm;have hall:∀i,i<m→∀(j:Nat) k,ks[j]? =some k→∃v,w.cell? ((x.add (i*ks.length)).add j)=some v∧k.fits v:=by intro i hi j k hj;obtain⟨cs',h1,h2⟩:=hel i hi;rw[hn]at h1;exact af f hfl hn (by rw[hn];exact h1) h2 j k hj
  obtain⟨b,off,spot⟩:=x;by_cases hz:m=0
  ·subst hz;have hl0:l=0:=by omega
   subst hl0;exact .inl ⟨rfl,rfl⟩
  ·obtain⟨k0,hk0⟩:∃k,ks[0]? =some k:=⟨ks[0],zl h0⟩;obtain⟨v,hv,_⟩:=hall 0 (by omega) 0 k0 hk0;have hspot:spot=none:=by simpa[Addr.add]using World.cell?_spot hv
   subst hspot;refine .inr ⟨b,off,rfl,hl,hm,fun i hi j k hj=>?_⟩;obtain⟨v,hv,hk⟩:=hall i hi j k hj;refine⟨v,?_,hk⟩;rw[add_plain,add_plain]at hv;rw[←hv,Nat.add_assoc]
abbrev Tu:List CK:=[.int .i64,.int .i64]
abbrev Tv:List CK:=[.int .i64,.int .i64,.int .i64,.int .i64]
abbrev Pt:List CK:=[.int .i64,.int .i64,.int .i64,.int .i64,.int .i64,.int .i64,.int .i64]
abbrev Tj:List CK:=[.str,.int .i64,.int .i64,.int .i64,.int .i64,.int .i64]
theorem gV{α:Type}{f:Nat→α}{n j:Nat}{x:α}(h:((List.range n).map f)[j]? =some x):j<n∧x=f j:=by
 rw[zx]at h;by_cases hj:j<n
 ·rw[yM hj]at h;cases h;exact⟨hj,rfl⟩
 ·rw[zJ (by simpa using hj)]at h;cases h
section
variable {w:World} {A:Option Addr} {len cap:Nat}
theorem Uw(h:RowsIn w A len cap Tj):len≤cap∧∃D:List Dv,D.length=len∧rI w A D:=by
 rcases h with⟨rfl,rfl⟩|⟨b,off,hA,hl,hm,hc⟩
 ·exact⟨zm _,[],rfl,fun j x hx=>by simp at hx⟩
 ·obtain⟨f,hf⟩:=Go.Deep.choose_lt (α:=ByteArray×Int×Int×Int×Int×Int) (n:=len) (p:=fun i x=>Zu w b (off+i*6) ⟨x.1,x.2.1,x.2.2.1,x.2.2.2.1,x.2.2.2.2.1,x.2.2.2.2.2⟩) (fun i hi=>by
   obtain⟨v0,h0,x0,rfl⟩:=hc i (by omega) 0 _ rfl;obtain⟨v1,h1,x1,rfl,_⟩:=hc i (by omega) 1 _ rfl;obtain⟨v2,h2,x2,rfl,_⟩:=hc i (by omega) 2 _ rfl;obtain⟨v3,h3,x3,rfl,_⟩:=hc i (by omega) 3 _ rfl;obtain⟨v4,h4,x4,rfl,_⟩:=hc i (by omega) 4 _ rfl;obtain⟨v5,h5,x5,rfl,_⟩:=hc i (by omega) 5 _ rfl;have e:∀j,off+(i*Tj.length+j)=off+i*6+j:=fun j=>by show off+(i*6+j)=_;omega
   rw[e]at h0 h1 h2 h3 h4 h5;exact⟨(x0,x1,x2,x3,x4,x5),h0,h1,h2,h3,h4,h5⟩);refine⟨hl,(List.range len).map fun i=>⟨(f i).1,(f i).2.1,(f i).2.2.1,(f i).2.2.2.1,(f i).2.2.2.2.1,(f i).2.2.2.2.2⟩,by simp,fun j x hx=>?_⟩;obtain⟨hj,rfl⟩:=gV hx;exact⟨b,off,hA,hf j hj⟩
theorem Wz(h:RowsIn w A len cap Tu):len≤cap∧∃S:List (Int×Int),S.length=len∧dU w A S:=by
 rcases h with⟨rfl,rfl⟩|⟨b,off,hA,hl,hm,hc⟩
 ·exact⟨zm _,[],rfl,fun j x hx=>by simp at hx⟩
 ·obtain⟨f,hf⟩:=Go.Deep.choose_lt (α:=Int×Int) (n:=len) (p:=fun i x=>w.cell? (zc b (off+i*2))=some (.i x.1)∧w.cell? (zc b (off+i*2+1))=some (.i x.2)) (fun i hi=>by
   obtain⟨v0,h0,x0,rfl,_⟩:=hc i (by omega) 0 _ rfl;obtain⟨v1,h1,x1,rfl,_⟩:=hc i (by omega) 1 _ rfl;have e:∀j,off+(i*Tu.length+j)=off+i*2+j:=fun j=>by show off+(i*2+j)=_;omega
   rw[e]at h0 h1;exact⟨(x0,x1),h0,h1⟩);refine⟨hl,(List.range len).map f,by simp,fun j x hx=>?_⟩;obtain⟨hj,rfl⟩:=gV hx;exact⟨b,off,hA,hf j hj⟩
theorem TY(h:RowsIn w A len cap Tv):len≤cap∧(A=none→cap=0)∧∃L:List Lk,L.length=len∧Zh w A L:=by
 rcases h with⟨rfl,rfl⟩|⟨b,off,hA,hl,hm,hc⟩
 ·exact⟨zm _,fun _=>rfl,[],rfl,fun j x hx=>by simp at hx⟩
 ·obtain⟨f,hf⟩:=Go.Deep.choose_lt (α:=Int×Int×Int×Int) (n:=len) (p:=fun i x=>w.cell? (zc b (off+i*4))=some (.i x.1)∧w.cell? (zc b (off+i*4+1))=some (.i x.2.1)∧w.cell? (zc b (off+i*4+2))=some (.i x.2.2.1)∧w.cell? (zc b (off+i*4+3))=some (.i x.2.2.2)) (fun i hi=>by
   obtain⟨v0,h0,x0,rfl,_⟩:=hc i (by omega) 0 _ rfl;obtain⟨v1,h1,x1,rfl,_⟩:=hc i (by omega) 1 _ rfl;obtain⟨v2,h2,x2,rfl,_⟩:=hc i (by omega) 2 _ rfl;obtain⟨v3,h3,x3,rfl,_⟩:=hc i (by omega) 3 _ rfl;have e:∀j,off+(i*Tv.length+j)=off+i*4+j:=fun j=>by show off+(i*4+j)=_;omega
   rw[e]at h0 h1 h2 h3;exact⟨(x0,x1,x2,x3),h0,h1,h2,h3⟩);refine⟨hl,(fun hn=>by rw[hA]at hn;cases hn),(List.range len).map fun i=>⟨(f i).1,(f i).2.1,(f i).2.2.1,(f i).2.2.2⟩,by simp,fun j x hx=>?_⟩;obtain⟨hj,rfl⟩:=gV hx;exact⟨b,off,hA,hf j hj⟩
theorem SM{x:Int}(h:(Lit.int .i64 x).wf=true):x≤9223372036854775807:=((Lit.wf_int_iff .i64 x).1 h).2
instance:Inhabited En:=⟨En.zero⟩
theorem Nw(h:RowsIn w A len cap Pt):∃f,jc w A len cap f:=by
 rcases h with⟨rfl,rfl⟩|⟨b,off,hA,hl,hm,hc⟩
 ·exact⟨fun _=>En.zero,zm _,by omega,fun i hi=>by omega,fun i hi=>by omega⟩
 ·obtain⟨f,hf⟩:=Go.Deep.choose_lt (α:=En) (n:=len) (p:=fun i x=>(∀(j:Nat) u,x.yV[j]? =some u→w.cell? (zc b (off+i*7+j))=some u)∧x.a≤9223372036854775807∧x.b≤9223372036854775807) (fun i hi=>by
   obtain⟨v0,h0,x0,rfl,_⟩:=hc i (by omega) 0 _ rfl;obtain⟨v1,h1,x1,rfl,_⟩:=hc i (by omega) 1 _ rfl;obtain⟨v2,h2,x2,rfl,_⟩:=hc i (by omega) 2 _ rfl;obtain⟨v3,h3,x3,rfl,_⟩:=hc i (by omega) 3 _ rfl;obtain⟨v4,h4,x4,rfl,w4⟩:=hc i (by omega) 4 _ rfl;obtain⟨v5,h5,x5,rfl,w5⟩:=hc i (by omega) 5 _ rfl;obtain⟨v6,h6,x6,rfl,_⟩:=hc i (by omega) 6 _ rfl;have e:∀j,off+(i*Pt.length+j)=off+i*7+j:=fun j=>by show off+(i*7+j)=_;omega
   rw[e]at h0 h1 h2 h3 h4 h5 h6;refine⟨⟨x0,x1,x2,x3,x4,x5,x6⟩,fun j u hj=>?_,SM w4,SM w5⟩;match j with
   |0=>simp[En.yV]at hj;subst hj;exact h0
   |1=>simp[En.yV]at hj;subst hj;exact h1
   |2=>simp[En.yV]at hj;subst hj;exact h2
   |3=>simp[En.yV]at hj;subst hj;exact h3
   |4=>simp[En.yV]at hj;subst hj;exact h4
   |5=>simp[En.yV]at hj;subst hj;exact h5
   |6=>simp[En.yV]at hj;subst hj;exact h6
   |j+7=>simp[En.yV]at hj);unfold maxLen at hm;exact⟨f,hl,by omega,fun i hi=>⟨b,off,hA,(hf i hi).1⟩,fun i hi=>(hf i hi).2⟩
end
theorem Nt{H:Type}{rV:TypeId×Value→H}{w:World}{r:Reach}{b0:Nat}{v:Value}{d:DataW H}{ps:List MemPlace}(hv:Value.okWide Tryz.prog w r b0 26 v)(h:DataW.Trod rV Tryz.prog w 0 (fun _=>true) true 26 v d ps):∃DA nd dc SA ns sc PA pn pc D S L,v=.agg #[.slice DA nd dc,.slice SA ns sc,.slice PA pn pc]∧tE w DA SA PA nd dc ns sc pn pc D S L:=by
 obtain⟨cs,rfl,hsz⟩:=okWide_struct Tryz.underlying26 hv;obtain⟨fuel,hf⟩:=h;obtain⟨xs,n,_,_,hl,hlen,hfs⟩:=DataW.trod_struct Tryz.underlying26 hf;have h3:Tryz.prog.cellsOf 26=3:=by kernel_rfl
 rw[h3]at hsz;have h22:Tryz.prog.cellsOf 22=1:=by kernel_rfl
 have h23:Tryz.prog.cellsOf 23=1:=by kernel_rfl
 have h24:Tryz.prog.cellsOf 24=1:=by kernel_rfl
 have h0:=hfs 0 _ rfl;have h1:=hfs 1 _ rfl;have h2:=hfs 2 _ rfl;have hx:xs.length=3:=by rw[hlen];rfl
 rw[zl (by omega)]at h0 h1 h2;change DataW.trod rV Tryz.prog w 0 (fun x=>true) true n 22 (List.take (Tryz.prog.cellsOf 22) (List.drop 0 (Value.agg cs).cells.toList))=some xs[0]at h0;change DataW.trod rV Tryz.prog w 0 (fun x=>true) true n 23 (List.take (Tryz.prog.cellsOf 23) (List.drop 1 (Value.agg cs).cells.toList))=some xs[1]at h1;change DataW.trod rV Tryz.prog w 0 (fun x=>true) true n 24 (List.take (Tryz.prog.cellsOf 24) (List.drop 2 (Value.agg cs).cells.toList))=some xs[2]at h2;rw[h22]at h0;rw[h23]at h1;rw[h24]at h2;obtain⟨DA,nd,dc,hc0,hr0⟩:=kO 16 Tj Tryz.underlying22 (by kernel_rfl) (by kernel_rfl) (by decide) h0;obtain⟨SA,ns,sc,hc1,hr1⟩:=kO 8 Tu Tryz.underlying23 (by kernel_rfl) (by kernel_rfl) (by decide) h1;obtain⟨PA,pn,pc,hc2,hr2⟩:=kO 8 Tv Tryz.underlying24 (by kernel_rfl) (by kernel_rfl) (by decide) h2;obtain⟨q0,D,l0,r0⟩:=Uw hr0;obtain⟨q1,S,l1,r1⟩:=Wz hr1;obtain⟨q2,q2',L,l2,r2⟩:=TY hr2;refine⟨DA,nd,dc,SA,ns,sc,PA,pn,pc,D,S,L,?_,⟨l0,q0,r0,l1,q1,r1,l2,q2,r2,q2'⟩⟩;obtain⟨l⟩:=cs;match l,hsz with
 |[a,b,c],_=> simp[Value.cells]at hc0 hc1 hc2;simp[hc0,hc1,hc2]
end
end Go.Proofs.YtkmamlifgbocgaaGreat
