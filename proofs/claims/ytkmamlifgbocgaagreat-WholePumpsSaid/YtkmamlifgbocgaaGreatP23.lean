/- What the program's code does, as contracts, and what follows of it, part 23: for the law's proof. -/
import Derived.Test.YtkmamlifgbocgaaGreatP00
import Derived.Test.YtkmamlifgbocgaaGreatP22
set_option linter.unusedVariables false
set_option linter.unusedSimpArgs false
set_option maxRecDepth 100000
set_option maxHeartbeats 16000000
namespace Go.Proofs.YtkmamlifgbocgaaGreat
section
open Go.RowKit Go.WideShapes
theorem vZ.inn{L0:List (List Nat)}{m:Nat}{at_:List Int}{now:Int}:∀(ids:List Nat) {s:qQ},vZ L0 m s→ids.Nodup→(∀x∈ids,x∈s.1.flatten)→vZ L0 m (vN at_ now s ids)
 |[],_,h,_,_=>h
 |i::r,s,h,hn,hs=>by
  have hnd:s.1.flatten.Nodup:=(yd.1 (h.perm.nodup_iff.2 h.nd)).2.1
  show vZ L0 m (vN at_ now (qG at_ now s i) r)
  refine vZ.inn r ?_ (zN.1 hn).2 fun x hx=>eS (fun e=>(zN.1 hn).1 (e ▸ hx)) (hs x (by simp[hx])) hnd
  unfold qG
  split
  ·exact h.one (hs i (by simp))
  ·exact h
theorem vZ.to{L0:List (List Nat)}{m:Nat}(h:vZ L0 m (L0,[]))(at_:List Int)(now:Int):∀n,vZ L0 m (v7 at_ now L0 n)
 |0=>h
 |n+1=>by
  have ih:=vZ.to h at_ now n
  rw[ch]
  have hnd:(v7 at_ now L0 n).1.flatten.Nodup:=(yd.1 (ih.perm.nodup_iff.2 ih.nd)).2.1
  rw[zn]
  cases hq:(v7 at_ now L0 n).1[n]? with
  |none=>exact ih
  |some ids=>
   have hmem:=zo hq
   exact vZ.inn ids ih ((List.pairwise_flatten.1 hnd).1 ids hmem) fun x hx=>List.mem_flatten.2 ⟨ids,hmem,hx⟩
section
variable {w0 w:World} {γ:U} {B g:Nat} {p:vG} {D:Dm}
theorem yT.Yg{γ':U}(h:yT γ B g p D)(c:Int)(hb:γ' B=some (g,.cells (p.cells c) 121 (0,0)))(hk:∀k,k≠B→xi B k→γ' k=γ k):yT γ' B g p {D with clock:=c}where
 xw:=hb
 xD:=h.xD.keep fun k q1 q2=>hk k (by omega) (by unfold xi;omega)
 places:=h.places.keep fun k q1 q2=>hk k (by omega) (by unfold xi;omega)
 yX:=h.yX.keep (hk _ (by omega) (by unfold xi;omega))
 ol:=h.ol
 each:=fun i hi=>(h.each i hi).keep fun k q1 q2=>hk k (by omega) (by unfold xi;omega)
 timers:=h.timers.keep fun k q1 q2=>hk k (by omega) (by unfold xi;omega)
 w8:=h.w8
 out:=h.out.keep (hk _ (by omega) (by unfold xi;omega))
 log:=h.log.keep fun k q1 q2=>hk k (by omega) (by unfold xi;omega)
 waits:=h.waits.keep (hk _ (by omega) (by unfold xi;omega))
 wl:=h.wl
 seen:=h.seen.keep (hk _ (by omega) (by unfold xi;omega))
 sl:=h.sl
 al:=h.al
theorem yT.Qi{γ':U}(h:yT γ B g p D){s:Bu}(hs:ti γ' (B+40) p.gb s)(hk:∀k,(k<B+40∨B+48≤k)→xi B k→γ' k=γ k):yT γ' B g p {D with bu:=s}where
 xw:=by rw[hk _ (by omega) (by unfold xi;omega)];exact h.xw
 xD:=h.xD.keep fun k q1 q2=>hk k (by omega) (by unfold xi;omega)
 places:=h.places.keep fun k q1 q2=>hk k (by omega) (by unfold xi;omega)
 yX:=h.yX.keep (hk _ (by omega) (by unfold xi;omega))
 ol:=h.ol
 each:=fun i hi=>(h.each i hi).keep fun k q1 q2=>hk k (by omega) (by unfold xi;omega)
 timers:=h.timers.keep fun k q1 q2=>hk k (by omega) (by unfold xi;omega)
 w8:=h.w8
 out:=hs
 log:=h.log.keep fun k q1 q2=>hk k (by omega) (by unfold xi;omega)
 waits:=h.waits.keep (hk _ (by omega) (by unfold xi;omega))
 wl:=h.wl
 seen:=h.seen.keep (hk _ (by omega) (by unfold xi;omega))
 sl:=h.sl
 al:=h.al
theorem Pg(h:yT γ B g p D)(now:Int):(D.wh.sW now).length≤8∧∀i∈D.wh.sW now,i<8:=by
 obtain⟨gf,va,vt,q⟩:=h.timers;have hs:=vZ.start q.2.2.2.1;have hd:=vZ.to hs D.wh.at_ now 16;refine⟨?_,fun i hi=>?_⟩
 ·unfold Wh.sW;rw[au];have:=hd.j9;have:=h.w8;omega
 ·have:=hd.Un i (V5 hi);have:=h.w8;omega
theorem Dm.Yq:∀(l:List (Int×Int)) (D:Dm),(D.ue l).sv.ar=D.sv.ar
 |[],_=>rfl
 |x::l,D=>(Dm.Yq l (D.vY x)).trans (D.kq x).1
attribute [local irreducible] Wh.due Wh.sW Dm.begun Dm.begin Dm.uB Dm.ue Dm.pZ
theorem Rq{γ':U}{now:Int}(h1:yT γ B g p {D with clock:=now}){W:Wh}(hw:uS γ' (B+30) p.gw W)(hl:W.at_.length=8)(hk:∀k,(k<B+30∨B+38≤k)→xi B k→γ' k=γ k):yT γ' B g p {D with clock:=now,wh:=W}:=h1.jr hw hl hk
theorem Rr(v:Wh)(now:Int):(v.due now).at_=v.at_:=by unfold Wh.due;rfl
theorem Dm.VL(D:Dm):D.uB []=D:=by unfold Dm.uB;rfl
theorem Dm.UZ(D:Dm):D.ue []=D:=by unfold Dm.ue;rfl
theorem Dm.X8(D:Dm)(l:List Nat)(i:Nat):D.uB (l++[i])=(D.uB l).sK i:=by unfold Dm.uB;rw[yq];rfl
theorem Dm.WN(D:Dm)(l:List (Int×Int))(x:Int×Int):D.ue (l++[x])=(D.ue l).vY x:=by unfold Dm.ue;rw[yq];rfl
theorem jI{α:Type}{l:List α}{j:Nat}{x:α}(h:l[j]? =some x):l.take (j+1)=l.take j++[x]:=by rw[yk,h];rfl
def gC(w0:World)(γ:U)(B g:Nat)(p:vG)(D:Dm)(L:List Nat)(v:Value)(j:Nat)(W:World):Prop:=
 ∃γ',Own w0 W γ'∧yT γ' B g p (D.uB (L.take j))∧xK γ' (B+97) 3 1 v L.length (ints (wo L))∧∀k,(k<B∨B+200≤k)→γ' k=γ k
def gG(w0:World)(γ:U)(B g:Nat)(D:Dm)(L:List (Int×Int))(v:Value)(j:Nat)(W:World):Prop:=
 ∃γ',Own w0 W γ'∧uQ γ' B g (D.ue (L.take j))∧yR γ' (B+98) 169 2 v L.length (yW xF L)∧∀k,(k<B∨B+200≤k)→γ' k=γ k
theorem Ra(h:yT γ B g p D)(ho:Own w0 w γ)(hok:yS D [])(now:Int)(t0:0≤now)(t1:now≤4611686018427387904)(hn:(D.begun now).seen.length≤900000):Calls Tryz.prog 63 #[.p g,.i now] w fun e w'=>(∃v,e=.returned v)∧∃γ',Own w0 w' γ'∧uQ γ' B g (D.begin now)∧∀k,yU 40 B k→γ' k=γ k:=by
 have o1:=ho.set h.xw 8 (.i now);have h1:yT (put γ B g (.cells ((p.cells D.clock).setIfInBounds 8 (.i now)) 121)) B g p {D with clock:=now}:=h.Yg now (yQ _ _ _ _) fun k q1 _=>yO _ _ _ q1;have k1:∀k,k≠B→put γ B g (.cells ((p.cells D.clock).setIfInBounds 8 (.i now)) 121) k=γ k:=fun k hk=>yO _ _ _ hk;generalize put γ B g (.cells ((p.cells D.clock).setIfInBounds 8 (.i now)) 121)=γ1 at*;have c8:=ho.cell h.xw (i:=8) (v:=.i D.clock) rfl;have f8:=ho.free h.xw 8;have c3:=ho.cell h.xw (i:=3) (v:=.p p.gw) rfl;have hdue:=OO h1.timers o1 (by have:=h1.w8;omega) (B+97) (B+96) (by omega) (by omega) (by omega) now t0 t1;obtain⟨hl8,hli⟩:=Pg h now;have H1:=I h1;have K1:=I k1;have hok1:=hok.pZ now;have HB:Hid (D.begun now=(D.pZ now).uB (D.wh.sW now)):=I (by unfold Dm.begun;rfl);have HD1:Hid (∀γ',uS γ' (B+30) p.gw (D.wh.due now)→(∀k,(k<B+30∨B+38≤k)→k≠B+97→k≠B+96→γ' k=γ1 k)→yT γ' B g p (D.pZ now)):=I fun γ' hw hk=>by unfold Dm.pZ;exact Rq h1 hw (by rw[Rr];exact h1.w8) fun k q1 q2=>hk k q1 (by unfold xi at q2;omega) (by unfold xi at q2;omega)
 have HBG:Hid (D.begin now=(D.begun now).empty.ue (D.begun now).bu.out):=I (by unfold Dm.begin;rfl);have hokb:=hok.begun now;clear h ho h1 k1 o1 hok;generalize D.begin now=DZ at*;generalize D.begun now=DY at*;generalize D.pZ now=DX at*;have HDUE:Hid (Calls Tryz.prog 82 #[.p p.gw,.i now] (w.setCell (zc g 8) (.i now)) fun e w'=>∃vo γ',e=.returned vo∧Own w0 w' γ'∧uS γ' (B+30) p.gw (D.wh.due now)∧xK γ' (B+97) 3 1 vo (D.wh.sW now).length (ints (wo (D.wh.sW now)))∧∀k,(k<B+30∨B+30+8≤k)→k≠B+97→k≠B+96→γ' k=γ1 k):=I hdue;clear hdue;generalize D.wh.sW now=L at*;generalize D.wh.due now=WD at*;go_in;go_wp2_with fail;refine HDUE.out.mono ?_;rintro e w2 ⟨vo,γ2,rfl,o2,wh2,l2,k2⟩;obtain⟨A2,c2,rfl⟩:=l2.form;have HL:Hid (gC w0 γ B g p DX L (.slice A2 L.length c2) 0 w2):=I ⟨γ2,o2,by rw[List.take_zero,Dm.VL];exact HD1.out γ2 wh2 fun k q1 q2 q3=>k2 k (by omega) q2 q3,l2,fun k hk=>(k2 k (by omega) (by omega) (by omega)).trans (K1.out k (by omega))⟩;clear o2 wh2 l2 k2 HDUE HD1 H1 K1 c8 f8 c3;go_wp2_with fail;go_loopw [22] (fun i wr=>∃j:Nat,i=.i j∧j≤L.length∧gC w0 γ B g p DX L (.slice A2 L.length c2) j wr) (fun i _=>100-(intOf i).toNat)
 case atStart=>exact⟨0,rfl,by omega,HL.out⟩
 case round=>
  clear HL;obtain⟨j,rfl,hj,γ',o,h,l,k⟩:=hrel;by_cases hlt:j<L.length
  ·have dl:decide ((j:Int)<L.length)=true:=by simp;omega
   have hlt':(j:Int)<L.length:=by omega
   obtain⟨i,hi⟩:∃i,L[j]? =some i:=⟨_,zl hlt⟩;have hi8:=hli i (zo hi);obtain⟨gL,cL,hvL,-,hcL⟩:=l.row o (by omega);cases hvL;have ci:=hcL j (.i i) (by simp[ints,wo,hi]);have hs:Hid (DX.uB (L.take (j+1))=(DX.uB (L.take j)).sK i):=I (by rw[jI hi,Dm.X8]);have hokd:yS (DX.uB (L.take j)) []:=hok1.uB _;have hskip:Hid (((DX.uB (L.take j)).wt i).xI=0→gC w0 γ B g p DX L (.slice (zb gL) L.length c2) (j+1) wr):=I fun hz=>⟨γ',o,by rw[hs.out];unfold Dm.sK;rw[if_neg (by simpa using hz)];exact h,l,k⟩;generalize DX.uB (L.take j)=D5 at*;obtain⟨gv,cw,hvw,⟨w1,-⟩,-⟩:=wM h.waits o h.wl hi8;have c6:wr.cell? (zc g 6)=some (.slice (zb gv) 8 cw):=by rw[←hvw];exact o.cell h.xw rfl
   have hi8':(i:Int)<8:=by omega
   have hdr:Hid ((D5.wt i).xI≠0→Calls Tryz.prog 83 #[.p g,.i (D5.wt i).xI,.i 15] wr fun e w'=>(∃v,e=.returned v)∧gC w0 γ B g p DX L (.slice (zb gL) L.length c2) (j+1) w'):=I fun hz=>by obtain⟨p1,p2⟩:=hokd.cQ hz;refine(Vm h o (D5.wt i).xI 15 (hokd.VK p2 (by rw[p1]))).mono ?_;rintro e w' ⟨hv,γ6,o6,h6,k6⟩;refine⟨hv,γ6,o6,?_,l.keep (k6 _ (by unfold Out;omega) (by omega)),fun q hq=>(k6 q (by unfold Out;omega) (by omega)).trans (k q hq)⟩;rw[hs.out];unfold Dm.sK;rw[if_pos hz];exact h6
   replace w1:wr.cell? (zc gv (i*4))=some (.i (D5.wt i).xI):=w1;generalize(D5.wt i).xI=tk at*;clear o h l k hcL hokd hvw hs;cases hz:(tk != 0)with
   |true=>
    have hz':tk≠0:=by simpa using hz
    have HC:=I (hdr.out hz');clear hdr hskip hz';go_wp2_with fail;refine HC.out.mono ?_;rintro e w' ⟨⟨v,rfl⟩,hl⟩;have HL2:=I hl;clear hl HC ci w1 c6;go_wp2_with fail;exact⟨⟨j+1,by simp,by omega,HL2.out⟩,by simp[intOf];omega⟩
   |false=>
    have hz':tk=0:=by simpa using hz
    have HL2:=I (hskip.out hz');clear hdr hskip hz';go_wp2_with fail;exact⟨⟨j+1,by simp,by omega,HL2.out⟩,by simp[intOf];omega⟩
  ·obtain rfl:j=L.length:=by omega
   have dl:decide ((L.length:Int)<L.length)=false:=by simp
   rw[yA,←HB.out]at h;have hdel:=Vb h.out o (B+98) (by omega);have c4:=o.cell h.xw (i:=4) (v:=.p p.gb) rfl;have H5:=I h;have K5:=I k;have HDEL:=I hdel;clear o h l k hdel;go_wp2_with fail;refine HDEL.out.mono ?_;rintro e w3 ⟨v3,γ3,rfl,o3,b3,s3,k3⟩;have hOL:DY.bu.out.length=DY.bu.xE∧DY.bu.xE≤8:=by obtain⟨cs,q⟩:=H5.out.out;have:=q.2.2.2.2.2;unfold Bu.out;rw[zr,zz];omega
   rw[←hOL.1]at s3;have h3:yT γ3 B g p DY.empty:=H5.out.Qi b3 fun k hk hu=>k3 k (by omega) (by unfold xi at hu;omega);obtain⟨A3,c3,rfl,-⟩:=s3.form;have hoke:=hokb.empty;have htl:=hokb.XF;have hse:DY.empty.seen.length≤900000:=hn;have hbe:DY.empty.bu.l=[]:=rfl;have HL:Hid (gG w0 γ B g DY.empty DY.bu.out (.slice A3 DY.bu.out.length c3) 0 w3):=I ⟨γ3,o3,by rw[List.take_zero,Dm.UZ];exact⟨p,h3⟩,s3,fun k hk=>(k3 k (by omega) (by omega)).trans (K5.out k hk)⟩;clear o3 b3 s3 k3 h3 H5 K5 HDEL c4 hn hokb;generalize DY.bu.out=O at*;generalize DY.empty=DE at*;have hO8:O.length≤8:=by omega
   clear hOL;go_wp2_with fail;go_loopw [46] (fun i wr=>∃j:Nat,i=.i j∧j≤O.length∧gG w0 γ B g DE O (.slice A3 O.length c3) j wr) (fun i _=>100-(intOf i).toNat);case atStart=>exact⟨0,rfl,by omega,HL.out⟩
   case round=>
    clear HL;obtain⟨j,rfl,hj,γ',o,⟨p5,h⟩,s,k⟩:=hrel;by_cases hlt:j<O.length
    ·have dl:decide ((j:Int)<O.length)=true:=by simp;omega
     have hlt':(j:Int)<O.length:=by omega
     obtain⟨x,hx⟩:∃x,O[j]? =some x:=⟨_,zl hlt⟩;obtain⟨gO,cO,hvO,-,hcO,-⟩:=yR.elem rC s o hx hlt;cases hvO;have ca:=(hcO 0 (.i x.1) rfl).1;have cb:=(hcO 1 (.i x.2) rfl).1;rw[yv]at ca;have hs:Hid (DE.ue (O.take (j+1))=(DE.ue (O.take j)).vY x):=I (by rw[jI hx,Dm.WN]);have htk:∀l,(DE.ue l).sv.ar=DE.sv.ar:=fun l=>Dm.Yq l DE;have hpx:x.1≠0→x.1≤9223372036854775807:=fun h0=>by have:=(htl x (zo hx) h0).1;have:=AV.rD hoke.vr this;omega
     have hsn:(DE.ue (O.take j)).seen.length≤1000000:=by
      have:=Dm.fw (O.take j) DE;have:(O.take j).length≤8:=by rw[zE];omega
      omega
     have o1:=o.new (B+95) (.cells #[.i x.1,.i x.2] 169);have b1:=yQ γ' (B+95) wr.heap.size (.cells #[.i x.1,.i x.2] 169);have kk:∀q,q≠B+95→put γ' (B+95) wr.heap.size (.cells #[.i x.1,.i x.2] 169) q=γ' q:=fun q hq=>yO _ _ _ hq;generalize put γ' (B+95) wr.heap.size (.cells #[.i x.1,.i x.2] 169)=γ6 at*;have h6:=h.wK (γ':=γ6) fun q hq=>kk q (by unfold xi at hq;omega);have s6:=s.keep (γ':=γ6) (kk (B+98) (by omega));have k6:∀q,(q<B∨B+200≤q)→γ6 q=γ q:=fun q hq=>(kk q (by omega)).trans (k q hq);have hskip:Hid (x.1=0→gG w0 γ B g DE O (.slice (zb gO) O.length c3) (j+1) (wr.alloc (.cells #[.i x.1,.i x.2] 169))):=I fun hz=>⟨γ6,o1,by rw[hs.out];unfold Dm.vY;rw[if_neg (by simpa using hz)];exact⟨p5,h6⟩,s6,k6⟩;generalize DE.ue (O.take j)=D7 at*;obtain⟨t,tc⟩:=x;simp only at ca cb hpx o1 b1 hskip hs;have H6:=I h6;have S6:=I s6;have K6:=I k6;have B6:=I b1;have O6:=I o1;clear o h s k hcO kk h6 s6 k6 b1 o1;cases hz:(t != 0)with
     |true=>
      have hz':t≠0:=by simpa using hz
      have hready:=bZ H6.out.xD O6.out.drew t (hpx hz');have HRD:=I hready;have HD6:=I O6.out.drew;have HC:Hid (∀W,Own w0 W γ6→W.cell? (zc g 0)=some (.p p5.gt)∧W.cell? (zc wr.heap.size 0)=some (.i t)):=I fun W hW=>⟨hW.cell H6.out.xw rfl,hW.cell B6.out rfl⟩;have hne:Hid (DE.ue (O.take (j+1))=(D7.pN t).note ⟨t,0,0,tc,0,0⟩):=I (by rw[hs.out];unfold Dm.vY;rw[if_pos hz']);clear hready hskip hs;go_wp2_with fail;refine yP.region [0,1,2,3,4,5] (.step 6 .done) (fun w'=>Own w0 w' γ6) (by kernel_rfl) (by kernel_rfl) (fun _ _ _ _ _ h=>h) HD6.out ?_;repeat
       refine Perm.xm rfl ?_ (fun w' hS=>?_) ?_;rotate_left
       ·(obtain⟨q0,q1⟩:=HC.out _ hS;clear hS;go_simp;try with_reducible rfl)
       simp only[pt]
      refine Perm.xt ?_;refine yP.yY rfl (by rfl) ?_;refine yP.xJ rfl 85 _ _ rfl (by kernel_rfl) _ rfl (HRD.out.mono ?_);rintro e w7 ⟨rfl,γ7,o7,sc7,k7⟩;refine⟨_,rfl,Perm.xx (by kernel_rfl),?_⟩;simp only[pt];refine yP.xC ?_;have h7:yT γ7 B g p5 (D7.pN t):=H6.out.qk sc7 (by rw[SV.fj];exact H6.out.sl) fun q hq=>k7 q (by omega);have b7:=(k7 (B+95) (by omega)).trans B6.out;have q0:=o7.cell b7 (i:=0) (v:=.i t) rfl;have q1:=o7.cell b7 (i:=1) (v:=.i tc) rfl;have hnote:=ZJ h7 o7 ⟨t,0,0,tc,0,0⟩ ⟨0,0,0,0,0,0,0⟩ hsn;have HN:Hid (Calls Tryz.prog 86 #[.p g,.agg #[.i t,.i 0,.i 0,.i tc,.i 0,.i 0],.agg #[.i 0,.i 0,.i 0,.i 0,.i 0,.i 0,.i 0]] w7 fun e w'=>(∃v,e=.returned v)∧gG w0 γ B g DE O (.slice (zb gO) O.length c3) (j+1) w'):=I (hnote.mono fun e w' hp=>by obtain⟨he,γ8,o8,h8,k8⟩:=hp;refine⟨⟨_,he⟩,γ8,o8,by rw[hne.out];exact h8,S6.out.keep ((k8 _ (by unfold yU;omega)).trans (k7 _ (by omega))),fun q hq=>(k8 q (by unfold yU;omega)).trans ((k7 q (by omega)).trans (K6.out q hq))⟩);clear hnote h7 o7 sc7 k7 b7 HRD HD6 HC ca cb hz hz' H6 S6 K6 B6 O6 hne;generalize(D7.sv.rG t)=rb at*;go_wp2_with fail;refine HN.out.mono ?_;rintro e w8 ⟨⟨v,rfl⟩,hl⟩;have HL2:=I hl;clear hl HN q0 q1;go_wp2_with fail;exact⟨⟨j+1,by simp,by omega,HL2.out⟩,by simp[intOf];omega⟩
     |false=>
      have hz':t=0:=by simpa using hz
      have HL2:=I (hskip.out hz');clear hskip hz';go_wp2_with fail;exact⟨⟨j+1,by simp,by omega,HL2.out⟩,by simp[intOf];omega⟩
    ·obtain rfl:j=O.length:=by omega
     have dl:decide ((O.length:Int)<O.length)=false:=by simp
     have HF:Hid (∃γ',Own w0 wr γ'∧uQ γ' B g DZ∧∀k,yU 40 B k→γ' k=γ k):=by rw[yA]at h;exact I ⟨γ',o,by rw[HBG.out];exact⟨p5,h⟩,fun q hq=>k q (by unfold yU at hq;omega)⟩
     clear o h s k;go_wp2_with fail;first|go_end0|refine bodyPost_ret (results_none rfl _ _ _) rfl ?_
     exact⟨⟨_,rfl⟩,HF.out⟩
end
end
section
open Go.RowKit Go.WideShapes
theorem To(c:Nat)(w:World):(binOp .eql 82 (.slice none 0 c) (.slice none 0 0)).run Tryz.prog w=.ok (.bool true) w:=by kernel_rfl
theorem VN(a:Addr)(n cap:Nat)(w:World):(binOp .eql 82 (.slice (some a) n cap) (.slice none 0 0)).run Tryz.prog w=.ok (.bool false) w:=by kernel_rfl
section
variable {w0 w:World} {γ:U} {ts t n:Nat} {v:Value} {l:List xN}
theorem S8(hs:yR γ ts 41 6 v n (yW xN.yV l))(ho:Own w0 w γ)(hn:n≤1000000)(t:Nat)(ht:t≠ts):Calls Tryz.prog 49 #[v] w fun e w'=>∃v' γ',e=.returned v'∧Own w0 w' γ'∧yR γ' t 41 6 v' n (yW xN.yV l)∧∀k,k≠t→γ' k=γ k:=by
 have hsl:=hs.1;rcases hs.2 with⟨rfl,rfl⟩|⟨g,cap,cur,rfl,-⟩
 ·have hl:yW xN.yV l=[]:=yL.1 (by omega);rw[hl];have HF:Hid (∃v' γ',Ending.returned (.slice none 0 0)=.returned v'∧Own w0 w γ'∧yR γ' t 41 6 v' 0 []∧∀k,k≠t→γ' k=γ k):=by
   refine I ⟨_,fun k=>if k=t then none else γ k,rfl,ho.less fun k x hx=>?_,yR.nil _ _ _ _,fun k hk=>if_neg hk⟩;by_cases e:k=t
   ·simp[e]at hx
   ·simpa[e]using hx
  have hb:=To 0 w;clear hs ho hsl hl;go_in;go_wp2_with fail;go_ret;exact HF.out
 ·have h1:=ho.new t (.cells #[] 41);have hb:=VN (zc g 0) n cap w;have HO:=I h1;have HR:Hid (Reads (w.alloc (.cells #[] 41)) 6 (.slice (zb g) n cap) n (yW xN.yV l)):=I ((hs.reads ho (si xN.one _)).keep fun p u hp=>xU hp _);have HS:Hid (yR (put γ t w.heap.size (.cells #[] 41)) t 41 6 (.slice (zb w.heap.size) 0 0) 0 []):=I ⟨rfl,.inr ⟨_,0,_,rfl,yQ _ _ _ _,zm _,by unfold maxLen;omega,rfl,rfl⟩⟩;clear hs ho h1 hsl;go_in;go_wp2_with (at_builtin;refine xG rfl (.tmp 5) (.tmp 6) 82 rfl 41 _ 6 48 Tryz.underlying82 Tryz.V0 rfl (by decide) HO.out HS.out rfl HR.out rfl ?_ ?_ ?_)
  ·unfold maxLen;omega
  ·omega
  intro A' cap' w2 γ3 hA2 ho4 hs4 hk4;have HF:Hid (∃v' γ',Ending.returned (.slice A' n cap')=.returned v'∧Own w0 w2 γ'∧yR γ' t 41 6 v' n (yW xN.yV l)∧∀k,k≠t→γ' k=γ k):=I ⟨_,γ3,rfl,ho4,hs4,fun k hk=>(hk4 k hk).trans (yO _ _ _ hk)⟩;clear hs4 ho4 hk4 hA2;go_wp2_with fail;go_ret;exact HF.out
theorem XS(w:World)(c:Nat):Calls Tryz.prog 48 #[.slice none 0 c] w fun e w'=>e=.returned (.slice none 0 0)∧w=w':=by go_in;go_wp2_with fail;go_ret;exact⟨rfl,rfl⟩
theorem YE(w:World)(g n c:Nat)(h:n≤c)(hn:n≤1000000):Calls Tryz.prog 48 #[.slice (zb g) n c] w fun e w'=>e=.returned (.slice (zb g) n n)∧w=w':=by
 have h1:(n:Int)≤c:=by omega
 go_in;go_wp2_with fail;go_ret;exact⟨rfl,rfl⟩
theorem Q3(hs:yR γ t 41 6 v n (yW xN.yV l))(hn:n≤1000000):Calls Tryz.prog 48 #[v] w fun e w'=>∃v',e=.returned v'∧xK γ t 41 6 v' n (yW xN.yV l)∧w=w':=by
 rcases hs.2 with⟨rfl,h0⟩|⟨g',cap,cur,rfl,hg,hcap,hm,hsz,htk⟩
 ·exact(XS _ _).mono fun e w' ⟨h1,h2⟩=>⟨_,h1,hs.qN,h2⟩
 ·exact(YE _ _ _ _ hcap hn).mono fun e w' ⟨h1,h2⟩=>⟨_,h1,⟨hs.1,.inr ⟨_,_,_,rfl,hg,zm _,by omega,htk⟩⟩,h2⟩
variable {B g:Nat} {p:vG} {D:Dm}
theorem Pc(h:yT γ B g p D)(ho:Own w0 w γ)(hn:D.seen.length≤1000000)(T:Nat)(hT:T<B∨B+4≤T):Calls Tryz.prog 40 #[.p g] w fun e w'=>∃v γ',e=.returned v∧Own w0 w' γ'∧xK γ' T 41 6 v D.seen.length (yW xN.yV D.seen)∧∀k,k≠T→γ' k=γ k:=by have hcl:=S8 h.seen ho hn T (by omega);have c7:=ho.cell h.xw (i:=7) (v:=p.vs) rfl;obtain⟨A,c,hv,-⟩:=h.seen.form;rw[hv]at hcl c7;clear h ho hv;go_in;go_wp2_with fail;refine hcl.mono ?_;rintro e w2 ⟨v2,γ2,rfl,o2,s2,k2⟩;have hcp:=fun W=>Q3 (w:=W) s2 hn;have HF:Hid (∀v',xK γ2 T 41 6 v' D.seen.length (yW xN.yV D.seen)→∃v γ',Ending.returned v'=.returned v∧Own w0 w2 γ'∧xK γ' T 41 6 v D.seen.length (yW xN.yV D.seen)∧∀k,k≠T→γ' k=γ k):=I fun v' hp=>⟨_,γ2,rfl,o2,hp,k2⟩;have HC:=I hcp;obtain⟨A2,c2,rfl,-⟩:=s2.form;clear hcl hcp o2 s2 k2 c7;go_wp2_with fail;refine(HC.out _).mono ?_;rintro e w3 ⟨v3,rfl,hp,rfl⟩;obtain⟨A3,c3,rfl⟩:=hp.form;go_wp2_with fail;go_ret;exact HF.out _ hp
end
end
section
open Go.RowKit Go.WideShapes
theorem j8{P:Program}{o:Oper}{a:Act}{w:World}{K:Act→World→Prop}{Q:Exit→Act→World→Prop}(f:FuncId)(args:Array Operand)(tys:Array TypeId)(ho:o.op=Op.call {callee:=.value (.func f),args:=args,argTypes:=tys})(hf:enters P f=true)(yV:Array Value)(hv:(args.toList.map a.eval).toArray=yV)(h:Calls P f yV w fun e w'=>∃v,e=.returned v∧K (a.put o.dst v) w'):o.wp P a w K Q:=by unfold Oper.wp;rw[fm f args tys ho hf yV hv];refine Calls.mono h fun e w' he=>?_;obtain⟨v,rfl,hk⟩:=he;exact hk
theorem Um{P:Program}{o:Oper}{a:Act}{w w':World}{K:Act→World→Prop}{Q:Exit→Act→World→Prop}(v:Value)(hr:(execOp a.eval o).run P w=.ok (.value v) w')(h:K (a.put o.dst v) w'):o.wp P a w K Q:=by unfold Oper.wp;rw[hr];exact h
def Dm.new(kt ko:Nat):Dm:={sv:=(SV.new kt).spawn,av:=AV.new ko,yX:=List.replicate 8 none,wh:=Wh.new,bu:=⟨[],kt⟩,waits:=List.replicate 8 Wt.zero,seen:=[],clock:=0}
theorem Tryz.cE:(Tryz.prog.info? 20).map (fun i=>(i.zero,i.size,i.bytes))=some (some .nilIface,1,16):=by kernel_rfl
theorem Tryz.RI:(Tryz.prog.info? 182).map (fun i=>(i.zero,i.size,i.bytes))=some (some (.agg #[.i 0,.i 0,.i 0,.bool false]),4,32):=by kernel_rfl
theorem Y4(w:World):(Instr.makeSlice 115 (.i 8) (.i 8)).run Tryz.prog w=.ok (.slice (zb w.heap.size) 8 8) (w.alloc (.cells #[.nilIface,.nilIface,.nilIface,.nilIface,.nilIface,.nilIface,.nilIface,.nilIface] 20)):=by obtain⟨i0,hi,hz0,hz1,hz2⟩:=info_parts Tryz.cE;have:=run_makeSlice w (P:=Tryz.prog) 115 20 i0 _ Tryz.underlying115 hi hz0 .i64 .i64 8 8 (by omega) (by omega) (by rw[hz1];simp) (by rw[hz2];omega) (by omega);rw[hz1]at this;rw[show#[Value.nilIface,.nilIface,.nilIface,.nilIface,.nilIface,.nilIface,.nilIface,.nilIface]=madeCells #[.nilIface] 8 by kernel_rfl];simpa[Value.cells]using this
theorem Y5(w:World):(Instr.makeSlice 119 (.i 8) (.i 8)).run Tryz.prog w=.ok (.slice (zb w.heap.size) 8 8) (w.alloc (.cells (yW Wt.yV (List.replicate 8 Wt.zero)).toArray 182)):=by obtain⟨i0,hi,hz0,hz1,hz2⟩:=info_parts Tryz.RI;have:=run_makeSlice w (P:=Tryz.prog) 119 182 i0 _ Tryz.underlying119 hi hz0 .i64 .i64 8 8 (by omega) (by omega) (by rw[hz1];simp) (by rw[hz2];omega) (by omega);rw[hz1]at this;rw[show(yW Wt.yV (List.replicate 8 Wt.zero)).toArray=madeCells #[.i 0,.i 0,.i 0,.bool false] 32 by kernel_rfl];simpa[Value.cells]using this
structure tn (w0:World) (γ:U) (B kt ko:Nat) (f:Nat→Bool) (x2 x6 x7 x8 x12 x15 x16:Value) (W:World) (γ':U):Prop where
 own:Own w0 W γ'
 xD:f 2=true→∃g,x2=.p g∧tS γ' (B+10) g (SV.new kt).spawn
 places:f 6=true→∃g,x6=.p g∧rL γ' (B+24) g (AV.new ko)
 yX:f 7=true→yR γ' (B+1) 20 1 x7 8 (List.replicate 8 .nilIface)
 timers:f 8=true→∃g,x8=.p g∧uS γ' (B+30) g Wh.new
 out:f 12=true→∃g,x12=.p g∧ti γ' (B+40) g ⟨[],kt⟩
 log:f 15=true→∃g,x15=.p g∧kw γ' (B+48) g
 waits:f 16=true→yR γ' (B+2) 182 4 x16 8 (yW Wt.yV (List.replicate 8 Wt.zero))
 frame:∀k,(k<B∨B+200≤k)→γ' k=γ k
section
variable {w0 w W W':World} {γ γ1 γ2:U} {B kt ko:Nat} {f:Nat→Bool} {x2 x6 x7 x8 x12 x15 x16:Value}
theorem tn.s2(h:tn w0 γ B kt ko f x2 x6 x7 x8 x12 x15 x16 W γ1)(o2:Own w0 W' γ2)(hk:∀k,(k<B+10∨B+20≤k)→γ2 k=γ1 k){v:Value}(hn:∃g,v=.p g∧tS γ2 (B+10) g (SV.new kt).spawn):tn w0 γ B kt ko (fun k=>f k||k==2) v x6 x7 x8 x12 x15 x16 W' γ2 where
 own:=o2
 xD:=fun _=>hn
 places:=fun hf=>by
  obtain⟨g,hx,hs⟩:=h.places (by simpa using hf)
  exact⟨g,hx,hs.keep fun k q1 q2=>hk k (by omega)⟩
 yX:=fun hf=>(h.yX (by simpa using hf)).keep (hk _ (by omega))
 timers:=fun hf=>by
  obtain⟨g,hx,hs⟩:=h.timers (by simpa using hf)
  exact⟨g,hx,hs.keep fun k q1 q2=>hk k (by omega)⟩
 out:=fun hf=>by
  obtain⟨g,hx,hs⟩:=h.out (by simpa using hf)
  exact⟨g,hx,hs.keep (hk _ (by omega))⟩
 log:=fun hf=>by
  obtain⟨g,hx,hs⟩:=h.log (by simpa using hf)
  exact⟨g,hx,hs.keep fun k q1 q2=>hk k (by omega)⟩
 waits:=fun hf=>(h.waits (by simpa using hf)).keep (hk _ (by omega))
 frame:=fun k q=>(hk k (by omega)).trans (h.frame k q)
theorem tn.s6(h:tn w0 γ B kt ko f x2 x6 x7 x8 x12 x15 x16 W γ1)(o2:Own w0 W' γ2)(hk:∀k,(k<B+24∨B+27≤k)→γ2 k=γ1 k){v:Value}(hn:∃g,v=.p g∧rL γ2 (B+24) g (AV.new ko)):tn w0 γ B kt ko (fun k=>f k||k==6) x2 v x7 x8 x12 x15 x16 W' γ2 where
 own:=o2
 xD:=fun hf=>by
  obtain⟨g,hx,hs⟩:=h.xD (by simpa using hf)
  exact⟨g,hx,hs.keep fun k q1 q2=>hk k (by omega)⟩
 places:=fun _=>hn
 yX:=fun hf=>(h.yX (by simpa using hf)).keep (hk _ (by omega))
 timers:=fun hf=>by
  obtain⟨g,hx,hs⟩:=h.timers (by simpa using hf)
  exact⟨g,hx,hs.keep fun k q1 q2=>hk k (by omega)⟩
 out:=fun hf=>by
  obtain⟨g,hx,hs⟩:=h.out (by simpa using hf)
  exact⟨g,hx,hs.keep (hk _ (by omega))⟩
 log:=fun hf=>by
  obtain⟨g,hx,hs⟩:=h.log (by simpa using hf)
  exact⟨g,hx,hs.keep fun k q1 q2=>hk k (by omega)⟩
 waits:=fun hf=>(h.waits (by simpa using hf)).keep (hk _ (by omega))
 frame:=fun k q=>(hk k (by omega)).trans (h.frame k q)
theorem tn.s7(h:tn w0 γ B kt ko f x2 x6 x7 x8 x12 x15 x16 W γ1)(o2:Own w0 W' γ2)(hk:∀k,(k<B+1∨B+2≤k)→γ2 k=γ1 k){v:Value}(hn:yR γ2 (B+1) 20 1 v 8 (List.replicate 8 .nilIface)):tn w0 γ B kt ko (fun k=>f k||k==7) x2 x6 v x8 x12 x15 x16 W' γ2 where
 own:=o2
 xD:=fun hf=>by
  obtain⟨g,hx,hs⟩:=h.xD (by simpa using hf)
  exact⟨g,hx,hs.keep fun k q1 q2=>hk k (by omega)⟩
 places:=fun hf=>by
  obtain⟨g,hx,hs⟩:=h.places (by simpa using hf)
  exact⟨g,hx,hs.keep fun k q1 q2=>hk k (by omega)⟩
 yX:=fun _=>hn
 timers:=fun hf=>by
  obtain⟨g,hx,hs⟩:=h.timers (by simpa using hf)
  exact⟨g,hx,hs.keep fun k q1 q2=>hk k (by omega)⟩
 out:=fun hf=>by
  obtain⟨g,hx,hs⟩:=h.out (by simpa using hf)
  exact⟨g,hx,hs.keep (hk _ (by omega))⟩
 log:=fun hf=>by
  obtain⟨g,hx,hs⟩:=h.log (by simpa using hf)
  exact⟨g,hx,hs.keep fun k q1 q2=>hk k (by omega)⟩
 waits:=fun hf=>(h.waits (by simpa using hf)).keep (hk _ (by omega))
 frame:=fun k q=>(hk k (by omega)).trans (h.frame k q)
theorem tn.s8(h:tn w0 γ B kt ko f x2 x6 x7 x8 x12 x15 x16 W γ1)(o2:Own w0 W' γ2)(hk:∀k,(k<B+30∨B+38≤k)→γ2 k=γ1 k){v:Value}(hn:∃g,v=.p g∧uS γ2 (B+30) g Wh.new):tn w0 γ B kt ko (fun k=>f k||k==8) x2 x6 x7 v x12 x15 x16 W' γ2 where
 own:=o2
 xD:=fun hf=>by
  obtain⟨g,hx,hs⟩:=h.xD (by simpa using hf)
  exact⟨g,hx,hs.keep fun k q1 q2=>hk k (by omega)⟩
 places:=fun hf=>by
  obtain⟨g,hx,hs⟩:=h.places (by simpa using hf)
  exact⟨g,hx,hs.keep fun k q1 q2=>hk k (by omega)⟩
 yX:=fun hf=>(h.yX (by simpa using hf)).keep (hk _ (by omega))
 timers:=fun _=>hn
 out:=fun hf=>by
  obtain⟨g,hx,hs⟩:=h.out (by simpa using hf)
  exact⟨g,hx,hs.keep (hk _ (by omega))⟩
 log:=fun hf=>by
  obtain⟨g,hx,hs⟩:=h.log (by simpa using hf)
  exact⟨g,hx,hs.keep fun k q1 q2=>hk k (by omega)⟩
 waits:=fun hf=>(h.waits (by simpa using hf)).keep (hk _ (by omega))
 frame:=fun k q=>(hk k (by omega)).trans (h.frame k q)
theorem tn.s12(h:tn w0 γ B kt ko f x2 x6 x7 x8 x12 x15 x16 W γ1)(o2:Own w0 W' γ2)(hk:∀k,(k<B+40∨B+41≤k)→γ2 k=γ1 k){v:Value}(hn:∃g,v=.p g∧ti γ2 (B+40) g ⟨[],kt⟩):tn w0 γ B kt ko (fun k=>f k||k==12) x2 x6 x7 x8 v x15 x16 W' γ2 where
 own:=o2
 xD:=fun hf=>by
  obtain⟨g,hx,hs⟩:=h.xD (by simpa using hf)
  exact⟨g,hx,hs.keep fun k q1 q2=>hk k (by omega)⟩
 places:=fun hf=>by
  obtain⟨g,hx,hs⟩:=h.places (by simpa using hf)
  exact⟨g,hx,hs.keep fun k q1 q2=>hk k (by omega)⟩
 yX:=fun hf=>(h.yX (by simpa using hf)).keep (hk _ (by omega))
 timers:=fun hf=>by
  obtain⟨g,hx,hs⟩:=h.timers (by simpa using hf)
  exact⟨g,hx,hs.keep fun k q1 q2=>hk k (by omega)⟩
 out:=fun _=>hn
 log:=fun hf=>by
  obtain⟨g,hx,hs⟩:=h.log (by simpa using hf)
  exact⟨g,hx,hs.keep fun k q1 q2=>hk k (by omega)⟩
 waits:=fun hf=>(h.waits (by simpa using hf)).keep (hk _ (by omega))
 frame:=fun k q=>(hk k (by omega)).trans (h.frame k q)
theorem tn.s15(h:tn w0 γ B kt ko f x2 x6 x7 x8 x12 x15 x16 W γ1)(o2:Own w0 W' γ2)(hk:∀k,(k<B+48∨B+50≤k)→γ2 k=γ1 k){v:Value}(hn:∃g,v=.p g∧kw γ2 (B+48) g):tn w0 γ B kt ko (fun k=>f k||k==15) x2 x6 x7 x8 x12 v x16 W' γ2 where
 own:=o2
 xD:=fun hf=>by
  obtain⟨g,hx,hs⟩:=h.xD (by simpa using hf)
  exact⟨g,hx,hs.keep fun k q1 q2=>hk k (by omega)⟩
 places:=fun hf=>by
  obtain⟨g,hx,hs⟩:=h.places (by simpa using hf)
  exact⟨g,hx,hs.keep fun k q1 q2=>hk k (by omega)⟩
 yX:=fun hf=>(h.yX (by simpa using hf)).keep (hk _ (by omega))
 timers:=fun hf=>by
  obtain⟨g,hx,hs⟩:=h.timers (by simpa using hf)
  exact⟨g,hx,hs.keep fun k q1 q2=>hk k (by omega)⟩
 out:=fun hf=>by
  obtain⟨g,hx,hs⟩:=h.out (by simpa using hf)
  exact⟨g,hx,hs.keep (hk _ (by omega))⟩
 log:=fun _=>hn
 waits:=fun hf=>(h.waits (by simpa using hf)).keep (hk _ (by omega))
 frame:=fun k q=>(hk k (by omega)).trans (h.frame k q)
theorem tn.Uy(h:tn w0 γ B kt ko f x2 x6 x7 x8 x12 x15 x16 W γ1)(o2:Own w0 W' γ2)(hk:∀k,(k<B+2∨B+3≤k)→γ2 k=γ1 k){v:Value}(hn:yR γ2 (B+2) 182 4 v 8 (yW Wt.yV (List.replicate 8 Wt.zero))):tn w0 γ B kt ko (fun k=>f k||k==16) x2 x6 x7 x8 x12 x15 v W' γ2 where
 own:=o2
 xD:=fun hf=>by
  obtain⟨g,hx,hs⟩:=h.xD (by simpa using hf)
  exact⟨g,hx,hs.keep fun k q1 q2=>hk k (by omega)⟩
 places:=fun hf=>by
  obtain⟨g,hx,hs⟩:=h.places (by simpa using hf)
  exact⟨g,hx,hs.keep fun k q1 q2=>hk k (by omega)⟩
 yX:=fun hf=>(h.yX (by simpa using hf)).keep (hk _ (by omega))
 timers:=fun hf=>by
  obtain⟨g,hx,hs⟩:=h.timers (by simpa using hf)
  exact⟨g,hx,hs.keep fun k q1 q2=>hk k (by omega)⟩
 out:=fun hf=>by
  obtain⟨g,hx,hs⟩:=h.out (by simpa using hf)
  exact⟨g,hx,hs.keep (hk _ (by omega))⟩
 log:=fun hf=>by
  obtain⟨g,hx,hs⟩:=h.log (by simpa using hf)
  exact⟨g,hx,hs.keep fun k q1 q2=>hk k (by omega)⟩
 waits:=fun _=>hn
 frame:=fun k q=>(hk k (by omega)).trans (h.frame k q)
def Nh(w0 w:World)(γ:U)(B kt ko:Nat)(nm:ByteArray)(lv ct rg:Int)(f:Nat→Bool)(a:Act)(W:World):Prop:=
 ∃x2 x6 x7 x8 x12 x15 x16 γ',a={tmps:=#[.agg #[.string nm,.i lv,.i ct,.i kt,.i ko,.i rg],.p w.heap.size,.pointer none,.pointer (some (zc w.heap.size 3)),.i kt,x2,.pointer (some (zc w.heap.size 4)),.i ko,.i ko,x6,x7,x8,.pointer (some (zc w.heap.size 3)),.i kt,.i kt,x12,.pointer (some (zc w.heap.size 5)),.i rg,x15,x16,undef,undef],defers:=[]}∧tn w0 γ B kt ko f x2 x6 x7 x8 x12 x15 x16 W γ'∧γ' (B+60)=some (w.heap.size,.cells #[.string nm,.i lv,.i ct,.i kt,.i ko,.i rg] 80 (0,0))
theorem ZR{α:Type}(x d:α){n i:Nat}(h:i<n):(List.replicate n x).getD i d=x:=by rw[zn,zR,if_pos h];rfl
theorem SV.UI(s:SV):s.spawn.ar.pl.length=s.ar.pl.length:=by
 unfold SV.spawn;split
 ·rw[SV.fj];exact AV.take_len _
 ·rfl
structure Do where
 name:ByteArray
 level:Int
 Nl:Int
 xD:Int
 yX:Int
 ring:Int
def Do.xq(x:Do):Array Value:=#[.string x.name,.i x.level,.i x.Nl,.i x.xD,.i x.yX,.i x.ring]
theorem Od(ho:Own w0 w γ)(d:Do)(B:Nat)(hkt:d.xD=(kt:Int))(hkt1:1≤kt)(hkt8:kt≤8)(hko:d.yX=(ko:Int))(hko8:ko≤8):Calls Tryz.prog 43 #[.agg d.xq] w fun e w'=>∃g γ',e=.returned (.p g)∧Own w0 w' γ'∧uQ γ' B g (Dm.new kt ko)∧∀k,yU 40 B k→γ' k=γ k:=by
 obtain⟨nm,lv,ct,tk,ob,rg⟩:=d;simp only at hkt hko;subst hkt hko;have o1:=ho.new (B+60) (.cells (Do.xq ⟨nm,lv,ct,kt,ko,rg⟩) 80);have b1:=yQ γ (B+60) w.heap.size (.cells (Do.xq ⟨nm,lv,ct,kt,ko,rg⟩) 80);have k1:∀k,k≠B+60→put γ (B+60) w.heap.size (.cells (Do.xq ⟨nm,lv,ct,kt,ko,rg⟩) 80) k=γ k:=fun k hk=>yO _ _ _ hk;generalize put γ (B+60) w.heap.size (.cells (Do.xq ⟨nm,lv,ct,kt,ko,rg⟩) 80)=γ1 at*;have HC:Hid (∀W,(∃γ',Own w0 W γ'∧γ' (B+60)=some (w.heap.size,.cells (Do.xq ⟨nm,lv,ct,kt,ko,rg⟩) 80 (0,0)))→W.cell? (zc w.heap.size 3)=some (.i kt)∧W.cell? (zc w.heap.size 4)=some (.i ko)∧W.cell? (zc w.heap.size 5)=some (.i rg)):=I fun W ⟨γ',hW,hb⟩=>⟨hW.cell hb rfl,hW.cell hb rfl,hW.cell hb rfl⟩;have HO:=I o1.drew;have B1:=I b1;have K1:=I k1;have hmin:min (ko:Int) 8=ko:=by omega
 have hmax:max (1:Int) kt=kt:=by omega
 clear ho o1 b1 k1;unfold Do.xq at HC B1;show Calls _ _ #[.agg #[.string nm,.i lv,.i ct,.i kt,.i ko,.i rg]] _ _;go_in;go_wp2_with fail;refine yP.R8 [0,1,3,4,5,9,10,11,13,14] [2,6,7,8,12,15,16] (.step 17 (.step 18 (.step 19 .done))) (fun W=>∃γ',Own w0 W γ'∧γ' (B+60)=some (w.heap.size,.cells #[.string nm,.i lv,.i ct,.i kt,.i ko,.i rg] 80 (0,0))) (Nh w0 w γ B kt ko nm lv ct rg) (by kernel_rfl) (by kernel_rfl) (fun _ _ _ _ _ h=>h) ⟨γ1,HO.out,B1.out⟩ ?_ ?_ ?_
 ·repeat
   refine Perm.xm rfl ?_ (fun w' hS=>?_) ?_;rotate_left
   ·(obtain⟨q1,q2,q3⟩:=HC.out _ hS;clear hS;go_simp;try with_reducible rfl)
   simp only[pt]
  refine Perm.xt ?_;exact⟨undef,undef,undef,undef,undef,undef,undef,γ1,rfl,⟨HO.out,(fun h=>nomatch h),(fun h=>nomatch h),(fun h=>nomatch h),(fun h=>nomatch h),(fun h=>nomatch h),(fun h=>nomatch h),(fun h=>nomatch h),fun k hk=>K1.out k (by omega)⟩,B1.out⟩
 ·rintro f i a W hi hf ⟨x2,x6,x7,x8,x12,x15,x16,γ',rfl,hJ,hb⟩ o ho;simp only[List.mem_cons,List.not_mem_nil,or_false]at hi;rcases hi with rfl|rfl|rfl|rfl|rfl|rfl|rfl
  ·cases ho;refine j8 57 _ _ rfl (by kernel_rfl) _ rfl ((OH hJ.own (B+10) kt kt (by omega)).mono ?_);rintro e W' ⟨g,γ2,he,o2,h2,k2⟩;have hb2:=(k2 (B+60) (by omega)).trans hb;exact⟨_,he,fun _ _=>⟨γ2,o2,hb2⟩,_,x6,x7,x8,x12,x15,x16,γ2,rfl,hJ.s2 o2 (fun k hk=>k2 k (by omega)) ⟨g,rfl,h2⟩,hb2⟩
  ·cases ho;refine j8 58 _ _ rfl (by kernel_rfl) _ rfl ((Xe hJ.own (B+24) ko ko (by omega)).mono ?_);rintro e W' ⟨g,γ2,he,o2,h2,k2⟩;have hb2:=(k2 (B+60) (by omega)).trans hb;exact⟨_,he,fun _ _=>⟨γ2,o2,hb2⟩,x2,_,x7,x8,x12,x15,x16,γ2,rfl,hJ.s6 o2 (fun k hk=>k2 k (by omega)) ⟨g,rfl,_,h2,td.new ko (by omega)⟩,hb2⟩
  ·cases ho;have hm:=Y4 W;refine Um (.slice (zb W.heap.size) 8 8) (w':=W.alloc (.cells #[.nilIface,.nilIface,.nilIface,.nilIface,.nilIface,.nilIface,.nilIface,.nilIface] 20)) (by go_simp;try with_reducible rfl) ?_;have o2:=hJ.own.new (B+1) (.cells #[.nilIface,.nilIface,.nilIface,.nilIface,.nilIface,.nilIface,.nilIface,.nilIface] 20);have k2:∀k,k≠B+1→put γ' (B+1) W.heap.size (.cells #[.nilIface,.nilIface,.nilIface,.nilIface,.nilIface,.nilIface,.nilIface,.nilIface] 20) k=γ' k:=fun k hk=>yO _ _ _ hk;have hb2:=(k2 (B+60) (by omega)).trans hb;exact⟨fun _ _=>⟨_,o2,hb2⟩,x2,x6,_,x8,x12,x15,x16,_,rfl,hJ.s7 o2 (fun k hk=>k2 k (by omega)) ⟨rfl,.inr ⟨_,8,_,rfl,yQ _ _ _ _,zm _,by unfold maxLen;omega,rfl,rfl⟩⟩,hb2⟩
  ·cases ho;refine j8 59 _ _ rfl (by kernel_rfl) _ rfl ((OP hJ.own (B+30)).mono ?_);rintro e W' ⟨g,γ2,he,o2,h2,k2⟩;have hb2:=(k2 (B+60) (by omega)).trans hb;exact⟨_,he,fun _ _=>⟨γ2,o2,hb2⟩,x2,x6,x7,_,x12,x15,x16,γ2,rfl,hJ.s8 o2 (fun k hk=>k2 k (by omega)) ⟨g,rfl,h2⟩,hb2⟩
  ·cases ho;refine j8 60 _ _ rfl (by kernel_rfl) _ rfl ((SZ hJ.own (B+40) kt kt (by omega) hkt8 rfl).mono ?_);rintro e W' ⟨g,he,γ2,o2,h2,k2⟩;have hb2:=(k2 (B+60) (by omega)).trans hb;exact⟨_,he,fun _ _=>⟨γ2,o2,hb2⟩,x2,x6,x7,x8,_,x15,x16,γ2,rfl,hJ.s12 o2 (fun k hk=>k2 k (by omega)) ⟨g,rfl,h2⟩,hb2⟩
  ·cases ho;refine j8 61 _ _ rfl (by kernel_rfl) _ rfl ((Ou hJ.own (B+48) rg).mono ?_);rintro e W' ⟨g,γ2,he,o2,h2,k2⟩;have hb2:=(k2 (B+60) (by omega)).trans hb;exact⟨_,he,fun _ _=>⟨γ2,o2,hb2⟩,x2,x6,x7,x8,x12,_,x16,γ2,rfl,hJ.s15 o2 (fun k hk=>k2 k (by omega)) ⟨g,rfl,h2⟩,hb2⟩
  ·cases ho;have hm:=Y5 W;refine Um (.slice (zb W.heap.size) 8 8) (w':=W.alloc (.cells (yW Wt.yV (List.replicate 8 Wt.zero)).toArray 182)) (by go_simp;try with_reducible rfl) ?_;have o2:=hJ.own.new (B+2) (.cells (yW Wt.yV (List.replicate 8 Wt.zero)).toArray 182);have k2:∀k,k≠B+2→put γ' (B+2) W.heap.size (.cells (yW Wt.yV (List.replicate 8 Wt.zero)).toArray 182) k=γ' k:=fun k hk=>yO _ _ _ hk;have hb2:=(k2 (B+60) (by omega)).trans hb;exact⟨fun _ _=>⟨_,o2,hb2⟩,x2,x6,x7,x8,x12,x15,_,_,rfl,hJ.Uy o2 (fun k hk=>k2 k (by omega)) ⟨rfl,.inr ⟨_,8,_,rfl,yQ _ _ _ _,zm _,by unfold maxLen;omega,rfl,rfl⟩⟩,hb2⟩
 ·rintro f a W hall ⟨x2,x6,x7,x8,x12,x15,x16,γ',rfl,hJ,hb⟩;obtain⟨g2,rfl,h2⟩:=hJ.xD (hall 2 (by simp));obtain⟨g6,rfl,h6⟩:=hJ.places (hall 6 (by simp));have h7:=hJ.yX (hall 7 (by simp));obtain⟨g8,rfl,h8⟩:=hJ.timers (hall 8 (by simp));obtain⟨g12,rfl,h12⟩:=hJ.out (hall 12 (by simp));obtain⟨g15,rfl,h15⟩:=hJ.log (hall 15 (by simp));have h16:=hJ.waits (hall 16 (by simp));obtain⟨A7,c7,rfl,-⟩:=h7.form;obtain⟨A16,c16,rfl,-⟩:=h16.form;refine yP.xA rfl (by rfl) ?_ (fun w'=>?_) ?_;rotate_left
  ·(go_simp;try with_reducible rfl)
  simp only[pt];have oB:=hJ.own.new B (.cells #[.p g2,.p g6,.slice A7 8 c7,.p g8,.p g12,.p g15,.slice A16 8 c16,.slice none 0 0,.i 0] 121);have kB:∀k,k≠B→put γ' B W.heap.size (.cells #[.p g2,.p g6,.slice A7 8 c7,.p g8,.p g12,.p g15,.slice A16 8 c16,.slice none 0 0,.i 0] 121) k=γ' k:=fun k hk=>yO _ _ _ hk;have bB:=yQ γ' B W.heap.size (.cells #[.p g2,.p g6,.slice A7 8 c7,.p g8,.p g12,.p g15,.slice A16 8 c16,.slice none 0 0,.i 0] 121);generalize put γ' B W.heap.size (.cells #[.p g2,.p g6,.slice A7 8 c7,.p g8,.p g12,.p g15,.slice A16 8 c16,.slice none 0 0,.i 0] 121)=γB at*;have HZ:Hid (∃g γ2,Ending.returned (.p W.heap.size)=.returned (.p g)∧Own w0 (W.alloc (.cells #[.p g2,.p g6,.slice A7 8 c7,.p g8,.p g12,.p g15,.slice A16 8 c16,.slice none 0 0,.i 0] 121)) γ2∧uQ γ2 B g (Dm.new kt ko)∧∀k,yU 40 B k→γ2 k=γ k):=by
   have hs0:∀W0:U,yR (fun k=>if k=B+3 then none else W0 k) (B+3) 41 6 (.slice none 0 0) 0 []:=fun _=>yR.nil _ _ _ _;have hk3:∀k,k≠B+3→(fun k=>if k=B+3 then none else γB k) k=γB k:=fun k hk=>if_neg hk;refine I ⟨W.heap.size,fun k=>if k=B+3 then none else γB k,rfl,oB.less fun k x hk=>?_,⟨⟨g2,g6,.slice A7 8 c7,g8,g12,g15,.slice A16 8 c16,.slice none 0 0,List.replicate 8 .nilIface⟩,?_⟩,fun k hk=>(hk3 k (by unfold yU at hk;omega)).trans ((kB k (by unfold yU at hk;omega)).trans (hJ.frame k (by unfold yU at hk;omega)))⟩
   ·by_cases e:k=B+3
    ·simp[e]at hk
    ·simpa[e]using hk
   ·have hkk:∀k,k≠B→k≠B+3→(fun k=>if k=B+3 then none else γB k) k=γ' k:=fun k q1 q2=>(hk3 k q2).trans (kB k q1);exact{xw:=(hk3 B (by omega)).trans bB,xD:=h2.keep fun k q1 q2=>hkk k (by omega) (by omega),places:=h6.keep fun k q1 q2=>hkk k (by omega) (by omega),yX:=h7.keep (hkk _ (by omega) (by omega)),ol:=rfl,each:=fun i hi=>by have e1:(List.replicate 8 Value.nilIface).getD i undef=.nilIface:=ZR _ _ hi;have e2:(Dm.new kt ko).yX.getD i none=none:=ZR (n:=8) _ _ hi;show tr _ _ ((List.replicate 8 Value.nilIface).getD i undef) _;rw[e1,e2];rfl,timers:=h8.keep fun k q1 q2=>hkk k (by omega) (by omega),w8:=rfl,out:=h12.keep (hkk _ (by omega) (by omega)),log:=h15.keep fun k q1 q2=>hkk k (by omega) (by omega),waits:=h16.keep (hkk _ (by omega) (by omega)),wl:=rfl,seen:=hs0 _,sl:=by show(SV.new kt).spawn.ar.pl.length≤8;rw[SV.UI];show(List.replicate kt (0,false)).length≤8;rw[zz];exact hkt8,al:=by show(List.replicate ko (0,false)).length≤8;rw[zz];exact hko8}
  clear oB kB bB hJ hb h2 h6 h7 h8 h12 h15 h16 hall;refine yP.yY rfl (by rfl) ?_;refine yP.xy rfl (.value (.p W.heap.size)) _ (.inl rfl) (w':=W.alloc (.cells #[.p g2,.p g6,.slice A7 8 c7,.p g8,.p g12,.p g15,.slice A16 8 c16,.slice none 0 0,.i 0] 121)) (by go_simp;try with_reducible rfl) (Perm.xx (by kernel_rfl)) ?_;simp only[pt];refine yP.xA rfl (by rfl) ?_ (fun w'=>?_) ?_;rotate_left
  ·(go_simp;try with_reducible rfl)
  simp only[pt];refine yP.xC ?_;go_wp2_with fail;go_ret;exact HZ.out
end
end
end Go.Proofs.YtkmamlifgbocgaaGreat
