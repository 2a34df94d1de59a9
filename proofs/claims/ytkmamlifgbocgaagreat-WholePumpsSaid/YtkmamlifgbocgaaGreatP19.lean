/- What the program's code does, as contracts, and what follows of it, part 19: for the law's proof. -/
import Derived.Test.YtkmamlifgbocgaaGreatP00
import Derived.Test.YtkmamlifgbocgaaGreatP18
set_option linter.unusedVariables false
set_option linter.unusedSimpArgs false
set_option maxRecDepth 100000
set_option maxHeartbeats 16000000
namespace Go.Proofs.YtkmamlifgbocgaaGreat
section
open Go.RowKit Go.WideShapes
def Dm.make(D:Dm)(kind arg:Int):Dm×Int×Int:=
 if D.rz kind arg≠0 then(D,0,D.rz kind arg)else match D.av.fr with
 |[]=>(D,0,9)
 |i::_=>({D with av:=D.av.take,yX:=D.yX.set i (some (wT kind arg))},D.av.hand i,0)
def uo(n:Nat)(w0:World)(γ:U)(B g:Nat)(D:Dm)(r:Value)(e:Ending)(w':World):Prop:=
 e=.returned r∧∃γ',Own w0 w' γ'∧uQ γ' B g D∧∀k,yU n B k→γ' k=γ k
section
variable {w0 w:World} {γ γ':U} {B g:Nat} {p:vG} {D:Dm}
theorem xj.toA{n:Nat}{r:Value}{e:Ending}{w':World}(h:xj n w0 γ B g p D r e w'):uo n w0 γ B g D r e w':=by obtain⟨h1,γ',h2,h3,h4⟩:=h;exact⟨h1,γ',h2,⟨p,h3⟩,h4⟩
theorem fN{l:List Value}{i:Nat}{x:Value}(h:i<l.length):(l.set i x).getD i undef=x:=by rw[zn,zp h];rfl
theorem dJ{l:List Value}{i j:Nat}{x:Value}(h:i≠j):(l.set i x).getD j undef=l.getD j undef:=by rw[zn,zt h,←zn]
theorem TH{γ:U}{b:Nat}{v:Value}{o:Ob}(h:tr γ b v (some o)):∃u q,v=.iface u q:=by
 cases o with
 |cd ws mh=>obtain⟨gw,g,h,_⟩:=h;exact⟨_,_,h⟩
 |mu m=>obtain⟨g,h,_⟩:=h;exact⟨_,_,h⟩
 |rw m=>obtain⟨g,h,_⟩:=h;exact⟨_,_,h⟩
 |sm m=>obtain⟨g,h,_⟩:=h;exact⟨_,_,h⟩
 |on m=>obtain⟨g,h,_⟩:=h;exact⟨_,_,h⟩
 |gp m=>obtain⟨g,h,_⟩:=h;exact⟨_,_,h⟩
theorem yT.Yh(h:yT γ B g p D){i:Nat}(hi:i<8){o:Option Ob}{v:Value}(hs:yR γ' (B+1) 20 1 p.vo 8 (p.os.set i v))(ha:tr γ' (B+100+8*i) v o){av:AV}(hp:rL γ' (B+24) p.gp av)(hal:av.pl.length≤8)(hk:∀k,(k<B+100+8*i∨B+100+8*i+8≤k)→k≠B+1→(k<B+24∨B+26≤k)→xi B k→γ' k=γ k):yT γ' B g {p with os:=p.os.set i v} {D with av:=av,yX:=D.yX.set i o}where
 xw:=by rw[hk _ (by omega) (by omega) (by omega) (by unfold xi;omega)];exact h.xw
 xD:=h.xD.keep fun k q1 q2=>hk k (by omega) (by omega) (by omega) (by unfold xi;omega)
 places:=hp
 yX:=hs
 ol:=by show(D.yX.set i o).length=8;rw[zq];exact h.ol
 each:=fun j hj=>by
  have hol:p.os.length=8:=by have:=h.yX.1;omega
  show tr γ' _ ((p.os.set i v).getD j undef) ((D.yX.set i o).getD j none)
  by_cases e:j=i
  ·subst e
   rw[fN (by omega),wq (by rw[h.ol];exact hi)]
   exact ha
  ·rw[dJ (Ne.symm e),ub (Ne.symm e)]
   exact(h.each j hj).keep fun k q1 q2=>hk k (by omega) (by omega) (by omega) (by unfold xi;omega)
 timers:=h.timers.keep fun k q1 q2=>hk k (by omega) (by omega) (by omega) (by unfold xi;omega)
 w8:=h.w8
 out:=h.out.keep (hk _ (by omega) (by omega) (by omega) (by unfold xi;omega))
 log:=h.log.keep fun k q1 q2=>hk k (by omega) (by omega) (by omega) (by unfold xi;omega)
 waits:=h.waits.keep (hk _ (by omega) (by omega) (by omega) (by unfold xi;omega))
 wl:=h.wl
 seen:=h.seen.keep (hk _ (by omega) (by omega) (by omega) (by unfold xi;omega))
 sl:=h.sl
 al:=hal
theorem Q8(h:yT γ B g p D)(ho:Own w0 w γ)(kind arg:Int)(hx:arg≤9223372036854775807):Calls Tryz.prog 136 #[.p g,.i kind,.i arg] w (uo 30 w0 γ B g (D.make kind arg).1 (.tuple #[.i (D.make kind arg).2.1,.i (D.make kind arg).2.2])):=by
 by_cases hE:D.rz kind arg=0
 ·have hmk:D.make kind arg=match D.av.fr with
   |[]=>(D,0,9)
   |i::_=>({D with av:=D.av.take,yX:=D.yX.set i (some (wT kind arg))},D.av.hand i,0):=if_neg (by simpa using hE)
  rw[hmk];clear hmk;cases hfr:D.av.fr with
  |nil=>
   have hfs:=bG h ho kind arg hx (B+80);rw[hE]at hfs;have HH:Hid (∀w1 γ1,Own w0 w1 γ1→(∀k,(k<B+80∨B+80+8≤k)→γ1 k=γ k)→rL γ1 (B+24) p.gp D.av∧γ1 B=some (g,.cells (p.cells D.clock) 121 (0,0))∧∀w2 γ2,Own w0 w2 γ2→(∀k,(k<B+24∨B+24+2≤k)→γ2 k=γ1 k)→rL γ2 (B+24) p.gp D.av→∃γ',Own w0 w2 γ'∧uQ γ' B g D∧∀k,yU 30 B k→γ' k=γ k):=I fun w1 γ1 o1 k1=>by have h1:yT γ1 B g p D:=h.wK fun k hk=>k1 k (by unfold xi at hk;omega);refine⟨h1.places,h1.xw,fun w2 γ2 o2 k2 a2=>⟨γ2,o2,⟨p,h1.aH a2 h.al (fun k hk=>k2 k (by omega))⟩,fun k hk=>(k2 k (by unfold yU at hk;omega)).trans (k1 k (by unfold yU at hk;omega))⟩⟩
   have htk:D.av.take=D.av:=by unfold AV.take;rw[hfr]
   have htn:D.av.taken=.tuple #[.i 0,.bool false]:=by unfold AV.taken;rw[hfr]
   clear h ho hE hfr;go_in;go_wp2_with fail;refine hfs.mono ?_;rintro e w1 ⟨v,γ1,rfl,o1,a1,v1,k1⟩;obtain⟨hpl,hblk,HN⟩:=HH.out w1 γ1 o1 k1;have c1:=o1.cell hblk (i:=1) (v:=.p p.gp) rfl;have hta:=bD hpl o1;rw[htk,htn]at hta;have HN':=I HN;clear hfs o1 a1 v1 k1 hpl hblk HN HH;go_wp2_with fail;refine hta.mono ?_;rintro e w2 ⟨rfl,γ2,o2,a2,k2⟩;have HF:=I (HN'.out w2 γ2 o2 k2 a2);clear hta o2 a2 k2 HN';go_wp2_with fail;go_ret2;exact⟨rfl,HF.out⟩
  |cons i r=>
   have hvok:=h.places.wV;obtain⟨gg,hgg⟩:=hvok.fr i (by rw[hfr];simp);have hil:=(zk.1 hgg).1;have hi8:i<8:=by have:=h.al;omega
   obtain⟨-,hh1,hh2⟩:=AV.sQ hvok hil;have htp:=AV.ft hvok hfr;have htn:D.av.taken=.tuple #[.i (D.av.hand i),.bool true]:=by unfold AV.taken;rw[hfr]
   have htl:D.av.take.pl.length≤8:=by rw[AV.take_len];exact h.al
   have hfs:=bG h ho kind arg hx (B+100+8*i);rw[hE]at hfs;have H:=I h;generalize hhd:D.av.hand i=hd at*;have HD:=I hhd;clear hhd;clear ho hE hfr hgg hil hvok h;go_in;go_wp2_with fail;refine hfs.mono ?_;rintro e w1 ⟨v,γ1,rfl,o1,a1,v1,k1⟩;obtain⟨vu,vq,rfl⟩:=TH (a1 rfl);have hblk1:=(k1 B (by omega)).trans H.out.xw;have c1:=o1.cell hblk1 (i:=1) (v:=.p p.gp) rfl;have hta:=bD (H.out.places.keep (γ':=γ1) fun k q1 q2=>k1 k (by omega)) o1;rw[htn]at hta;have A1:=I (a1 rfl);have K1:=I k1;clear hfs o1 a1 v1 k1;go_wp2_with fail;refine hta.mono ?_;rintro e w2 ⟨rfl,γ2,o2,a2,k2⟩;have hblk2:=(k2 B (by omega)).trans hblk1;have hso:yR γ2 (B+1) 20 1 p.vo 8 p.os:=H.out.yX.keep ((k2 _ (by omega)).trans (K1.out _ (by omega)));have hpc:=fun W (hW:Own w0 W γ2)=>xS (w:=W) a2 hW hd (by omega);rw[htp]at hpc;have HPC:=I hpc;obtain⟨go,cgo,hvo,-,hfz,hset⟩:=yR.jP hso o2.drew hi8;obtain⟨go',cgo',hvo',hcell⟩:=hso.at_ o2.drew hi8;rw[hvo]at hvo';cases hvo';obtain⟨γ3,o3,s3,k3⟩:=hset (.iface vu vq);have HC:Hid (∀W,Own w0 W γ2→W.cell? (zc g 2)=some (.slice (zb go) 8 cgo)∧W.cell? (zc g 1)=some (.p p.gp)):=I fun W hW=>⟨by rw[←hvo];exact hW.cell hblk2 rfl,hW.cell hblk2 rfl⟩;have HF:Hid (∃γ',Own w0 (w2.drew.setCell (zc go i) (.iface vu vq)) γ'∧uQ γ' B g {D with av:=D.av.take,yX:=D.yX.set i (some (wT kind arg))}∧∀k,yU 30 B k→γ' k=γ k):=I ⟨γ3,o3,⟨_,H.out.Yh hi8 (o:=some (wT kind arg)) s3 (A1.out.keep fun k q1 q2=>(k3 k (by omega)).trans (k2 k (by omega))) (a2.keep fun k q1 q2=>k3 k (by omega)) htl (fun k q1 q2 q3 q4=>(k3 k q2).trans ((k2 k (by omega)).trans (K1.out k (by omega))))⟩,fun k hk=>(k3 k (by unfold yU at hk;omega)).trans ((k2 k (by unfold yU at hk;omega)).trans (K1.out k (by unfold yU at hk;omega)))⟩;have HO:=I o2.drew;have hi8':(i:Int)<8:=by omega
   clear hta a2 k2 hso hpc hset o3 s3 k3 hblk1 hblk2 o2 A1 K1 H hvo htl;go_wp2_with fail;refine yP.region [0,1,2,3,4,5,6,7,8,10] (.step 9 (.step 11 (.step 12 .done))) (fun w'=>Own w0 w' γ2) (by kernel_rfl) (by kernel_rfl) (fun _ _ _ _ _ h=>h) HO.out ?_;repeat
    refine Perm.xm rfl ?_ (fun w' hS=>?_) ?_;rotate_left
    ·(obtain⟨q1,q2⟩:=HC.out _ hS;clear hS;go_simp;try with_reducible rfl)
    simp only[pt]
   refine Perm.xt ?_;generalize w2.drew=wd at*;refine yP.yY rfl (by rfl) ?_;refine yP.xJ rfl 112 _ _ rfl (by kernel_rfl) _ rfl ((HPC.out _ HO.out).mono ?_);rintro e w5 ⟨rfl,rfl⟩;refine⟨_,rfl,fun _ h=>h,?_⟩;simp only[pt];refine yP.yY rfl (by rfl) ?_;refine yP.rP rfl (.pointer (some (zc go i))) (by go_simp;try with_reducible rfl) ?_;simp only[pt];refine yP.yY rfl (by rfl) ?_;refine yP.xy rfl .skip undef (.inr ⟨rfl,rfl⟩) (w':=wd.setCell (zc go i) (.iface vu vq)) (by go_simp;try with_reducible rfl) (Perm.xx (by kernel_rfl)) ?_;simp only[pt];refine yP.xC ?_;clear hcell hfz HC HO HPC;go_wp2_with fail;go_ret2;exact⟨by first|rfl|(rw[HD.out];rfl)|(dsimp only;rw[HD.out];rfl),HF.out⟩
 ·have hmk:D.make kind arg=(D,0,D.rz kind arg):=if_pos hE;rw[hmk];have hb:(D.rz kind arg != 0)=true:=by simpa using hE
  have hfs:=bG h ho kind arg hx (B+80);have HH:Hid (∀w1 γ1,Own w0 w1 γ1→(∀k,(k<B+80∨B+80+8≤k)→γ1 k=γ k)→∃γ',Own w0 w1 γ'∧uQ γ' B g D∧∀k,yU 30 B k→γ' k=γ k):=I fun w1 γ1 o1 k1=>⟨γ1,o1,⟨p,h.wK fun k hk=>k1 k (by unfold xi at hk;omega)⟩,fun k hk=>k1 k (by unfold yU at hk;omega)⟩;generalize D.rz kind arg=ee at*;clear h ho hE hmk;go_in;go_wp2_with fail;refine hfs.mono ?_;rintro e w1 ⟨v,γ1,rfl,o1,a1,v1,k1⟩;have HF:=I (HH.out w1 γ1 o1 k1);clear hfs o1 a1 v1 k1 HH;go_wp2_with fail;go_ret2;exact⟨rfl,HF.out⟩
end
end
section
open Go.RowKit Go.WideShapes
def Dm.binds(D:Dm)(h x:Int):Bool:=if D.av.place x= -1 then false else match D.ob x with
 |some (.cd _ mh)=>mh==h
 |_=>false
def Dm.qB(D:Dm)(h:Int):Bool:=D.av.live.any (D.binds h)
def Uq(w0:World)(γ:U)(B a b:Nat)(r:Value)(e:Ending)(w':World):Prop:=
 e=.returned r∧∃γ',Own w0 w' γ'∧∀k,(k<B+a∨B+b≤k)→γ' k=γ k
section
variable {w0 w:World} {γ γ':U} {B g:Nat} {p:vG} {D:Dm}
theorem AV.Tx{v:AV}(hv:v.Ok):∀x∈v.live,x≤9223372036854775807:=by intro x hx;unfold AV.live at hx;obtain⟨i,hi,rfl⟩:=yc.1 hx;have:=(List.mem_filter.1 hi).1;rw[List.mem_range]at this;obtain⟨-,hh1,hh2⟩:=AV.sQ hv this;omega
theorem AV.Tw(v:AV):v.live.length≤v.pl.length:=by unfold AV.live;rw[zA];have:=List.length_filter_le (fun i=>((v.pl[i]?).map Prod.snd).getD false) (List.range v.pl.length);simpa using this
theorem P9(h:yT γ B g p D)(ho:Own w0 w γ){b1 b2:Nat}{hh:Int}(c1:w.cell? (zc b1 0)=some (.p g))(c2:w.cell? (zc b2 0)=some (.i hh))(x:Int)(hx:x≤9223372036854775807):Calls Tryz.prog 273 #[.i x,.p b1,.p b2] w fun e w'=>e=.returned (.bool (D.binds hh x))∧Below w.heap.size w w':=by
 by_cases hp:D.av.place x= -1
 ·rw[show D.binds hh x=false from if_pos hp];have hf:=cB h ho x hx hp;clear h ho hp;go_in;go_wp2_with fail;refine hf.mono ?_;rintro e w' ⟨rfl,rfl⟩;clear hf;go_wp2_with (go_quiet (fail));go_ret;exact⟨rfl,rfl,rfl,rfl,zm _,fun _ _=>rfl⟩
 ·have hat:=xX h hp;have hbd:D.binds hh x=match D.ob x with|some (.cd _ mh)=>mh==hh|_=>false:=if_neg hp
  rw[hbd];clear hbd;by_cases hm:∃ws mh,D.ob x=some (.cd ws mh)
  ·obtain⟨ws,mh,hm⟩:=hm;rw[hm]at hat⊢;obtain⟨gw,gm,hos,hw,-⟩:=hat;have d1:=ho.cell hw (i:=1) (v:=.i mh) rfl;have hf:=sP h ho x hx hp true hos (fun W=>pR _ W) (by simp);rw[if_pos rfl]at hf;clear h ho hp hm hos hw;go_in;go_wp2_with fail;refine hf.mono ?_;rintro e w' ⟨rfl,rfl⟩;clear hf;go_wp2_with (go_quiet (fail));go_ret;exact⟨rfl,rfl,rfl,rfl,zm _,fun _ _=>rfl⟩
  ·have hfl:(match D.ob x with|some (.cd _ mh)=>mh==hh|_=>false)=false:=by
    split
    ·rename_i ws mh e;exact absurd ⟨ws,mh,e⟩ hm
    ·rfl
   rw[hfl];have hf:=sP h ho x hx hp false rfl (bT hat (fun ws mh e=>hm ⟨ws,mh,e⟩)) (by simp);rw[if_neg (by simp)]at hf;clear h ho hp hm hfl hat;go_in;go_wp2_with fail;refine hf.mono ?_;rintro e w' ⟨rfl,rfl⟩;clear hf;go_wp2_with (go_quiet (fail));go_ret;exact⟨rfl,rfl,rfl,rfl,zm _,fun _ _=>rfl⟩
theorem Rb(h:yT γ B g p D)(ho:Own w0 w γ)(hh:Int):Calls Tryz.prog 219 #[.p g,.i hh] w (Uq w0 γ B 60 65 (.bool (D.qB hh))):=by
 have hmf:∀(fn:Fn) (first cap:Array Value) (w:World),(Instr.makeFunc fn first cap).run Tryz.prog w=.ok (.func fn first cap) w:=fun _ _ _ _=>rfl;obtain⟨γ1,o1,b1,b2,k1⟩:=vv ho (B+60) (B+61) (by omega) #[.p g] #[.i hh] 97 3;have h1:yT γ1 B g p D:=h.wK fun k hk=>k1 k (by unfold xi at hk;omega) (by unfold xi at hk;omega);have q0:=o1.cell b1 (i:=0) (v:=.p g) rfl;have q1:=o1.cell h1.xw (i:=1) (v:=.p p.gp) rfl;have hlv:=SW h1.places o1 (B+62) (B+63) (B+64) (by omega) (by omega) (by omega) (by omega) (by omega) (by omega);have HH:Hid (∀(v:Value) γ2 W,Own w0 W γ2→xK γ2 (B+62) 3 1 v D.av.live.length (ints D.av.live)→(∀k,k≠B+63→k≠B+64→k≠B+62→γ2 k=γ1 k)→∃A cap,v=.slice A D.av.live.length cap∧Calls Tryz.prog 271 #[.slice A D.av.live.length cap,.func (.func 273) #[] #[.p w.heap.size,.p (w.heap.size+1)]] W (Uq w0 γ B 60 65 (.bool (D.qB hh)))):=I fun v γ2 W o2 hpt k2=>by
  obtain⟨A,cap,rfl⟩:=hpt.form;have h2:yT γ2 B g p D:=h1.wK fun k hk=>k2 k (by unfold xi at hk;omega) (by unfold xi at hk;omega) (by unfold xi at hk;omega);have b1':=(k2 (B+60) (by omega) (by omega) (by omega)).trans b1;have b2':=(k2 (B+61) (by omega) (by omega) (by omega)).trans b2;refine⟨A,cap,rfl,(cc (w:=W) rfl (by have:=AV.Tw D.av;have:=h.al;omega) 273 #[.p w.heap.size,.p (w.heap.size+1)] (enters_of Tryz.func273 (by kernel_rfl) rfl) (D.binds hh) (fun x hx W' hW=>?_) (fun j x hj=>?_)).mono ?_⟩
  ·have o3:=o2.xh hW;exact(P9 h2 o3 (o3.cell b1' rfl) (o3.cell b2' rfl) x (AV.Tx h.places.wV x hx)).mono fun e w' ⟨e1,e2⟩=>⟨e1,Below.trans' hW e2⟩
  ·have hjl:=(zk.1 hj).1;obtain⟨gv,cv,hv,-,hc⟩:=hpt.row o2 (by omega);cases hv;exact⟨gv,rfl,hc j _ (by unfold ints;rw[zx,hj];rfl)⟩
  ·rintro e w' ⟨rfl,hb⟩;exact⟨rfl,γ2,o2.xh hb,fun k hk=>(k2 k (by omega) (by omega) (by omega)).trans (k1 k (by omega) (by omega))⟩
 generalize D.av.live=L at*;generalize D.qB hh=R at*;clear h ho o1 b1 b2 k1 h1;go_in;go_wp2_with fail;refine hlv.mono ?_;rintro e w2 ⟨v,γ2,rfl,o2,hpt,k2⟩;obtain⟨A,cap,rfl,hcall⟩:=HH.out v γ2 w2 o2 hpt k2;clear HH hlv o2 hpt k2 q0 q1;go_wp2_with fail;refine hcall.mono ?_;rintro e w3 ⟨rfl,hF⟩;have HF:=I hF;clear hF hcall;go_wp2_with fail;go_ret;exact⟨rfl,HF.out⟩
end
end
section
open Go.RowKit Go.WideShapes
def Dm.P7(D:Dm)(h:Int):Option Ob→Bool
 |some (.mu m)=>if(m.h != 0)=true then true else D.qB h
 |some (.rw m)=>if(m.w != 0)=true then true else decide (0<m.rs.length)
 |some (.sm m)=>if decide (m.f<m.size)=true then true else decide (0<m.ws.length)
 |some (.cd ws _)=>decide (0<ws.length)
 |some (.on m)=>m.d != 0
 |some (.gp m)=>m.n != 0
 |none=>false
def Dm.busy(D:Dm)(h:Int):Bool:=D.P7 h (D.ob h)
section
variable {w0 w:World} {γ γ':U} {B g:Nat} {p:vG} {D:Dm}
theorem Y3{x:Int}{o:Ob}(hl:D.yX.length=8)(hx:D.at_ x<8)(h:D.ob x=some o):D.xg x o=D:=by
 unfold Dm.xg;have:D.yX.set (D.at_ x) (some o)=D.yX:=by unfold Dm.ob at h;rw[zn,zl (by omega)]at h;simp only[yt]at h;rw[←h];exact List.set_getElem_self (by omega)
 rw[this]
theorem yT.pf(h:yT γ B g p D){x:Int}(hp:D.Has x){o:Ob}(hob:D.ob x=some o)(hs:tr γ' (B+100+8*D.at_ x) (p.os.getD (D.at_ x) undef) (some o))(hk:∀k,(k<B+100+8*D.at_ x∨B+100+8*D.at_ x+7≤k)→k≠B+65→γ' k=γ k):yT γ' B g p D:=by have h1:=h.setObj (xv h x hp.2).2 hs (fun k q1 q2=>hk k (by omega) (by unfold xi at q2;omega));have h2:D.xg x o=D:=Y3 h.ol (xv h x hp.2).2 hob;unfold Dm.xg at h2;rw[h2]at h1;exact h1
theorem drewN_zero(w:World)(n:Nat):Below w.heap.size w (w.drewN n):=⟨rfl,rfl,rfl,zm _,fun _ _=>rfl⟩
theorem YG(h:yT γ B g p D)(ho:Own w0 w γ)(hh:Int)(hx:D.Has hh){m:Mu}(hk:D.ob hh=some (.mu m))(hb:(m.h != 0)=true):Calls Tryz.prog 172 #[.p g,.i hh] w (xj 20 w0 γ B g p D (.bool (D.busy hh))):=by
 have hbz:D.busy hh=true:=by unfold Dm.busy;rw[hk];exact if_pos hb
 rw[hbz];clear hbz;have hat:=xX h hx.2;rw[hk]at hat;obtain⟨gm0,hos,hob⟩:=hat;obtain⟨hpo,hpo8⟩:=xv h hh hx.2;have hpl2:=fun W (hW:Own w0 W γ)=>xS (w:=W) h.places hW hh hx.1;rw[hpo]at hpl2;obtain⟨go,cgo,hvo,hcgo,-⟩:=wH h ho hpo8;rw[hos]at hcgo;have d2:w.cell? (zc g 2)=some (.slice (zb go) 8 cgo):=by rw[←hvo];exact ho.cell h.xw rfl
 have d1:w.cell? (zc g 1)=some (.p p.gp):=ho.cell h.xw rfl;have hpo8':(D.at_ hh:Int)<8:=by omega
 have ta217:∀W:World,_:=fun W=>qx (zc gm0 0) W;have HO:=I ho;have HP2:=I hpl2;have H1:=I h;have HX:=I hx;have HOS:=I hos;have HK:=I hk;have HB:=I hob;generalize hpx:D.at_ hh=px at*;have HPX:=I hpx;clear h ho hx hpl2 hvo hos hk hpo hpx hob;go_in;go_wp2_with fail;go_quiet ((go_at_call 112;exact Calls.quiet_of_same ((HP2.out _ (HO.out.drewN _)).mono fun e w' ⟨h1,h2⟩=>⟨h1,h2.symm⟩)));have o2:=HO.out.drewN nq;have hcall:=gW HB.out o2;have HF:Hid (∀r,xj 20 w0 γ B g p D r (.returned r) (w.drewN nq)):=I fun r=>wC 20 H1.out o2 r;clear HO o2 HP2 H1 HX HOS HK HB HPX;generalize w.drewN nq=W2 at*;clear d1 d2 hcgo;go_wp2_with fail;refine hcall.mono ?_;rintro e w3 ⟨rfl,rfl⟩;clear hcall;go_wp2_with fail;go_ret;exact HF.out _
theorem YF(h:yT γ B g p D)(ho:Own w0 w γ)(hh:Int)(hx:D.Has hh){m:Mu}(hk:D.ob hh=some (.mu m))(hb:(m.h != 0)=false):Calls Tryz.prog 172 #[.p g,.i hh] w (xj 20 w0 γ B g p D (.bool (D.busy hh))):=by
 have hbz:D.busy hh=D.qB hh:=by unfold Dm.busy;rw[hk];exact if_neg (by rw[hb];simp)
 rw[hbz];clear hbz;have hat:=xX h hx.2;rw[hk]at hat;obtain⟨gm0,hos,hob⟩:=hat;obtain⟨hpo,hpo8⟩:=xv h hh hx.2;have hpl2:=fun W (hW:Own w0 W γ)=>xS (w:=W) h.places hW hh hx.1;rw[hpo]at hpl2;obtain⟨go,cgo,hvo,hcgo,-⟩:=wH h ho hpo8;rw[hos]at hcgo;have d2:w.cell? (zc g 2)=some (.slice (zb go) 8 cgo):=by rw[←hvo];exact ho.cell h.xw rfl
 have d1:w.cell? (zc g 1)=some (.p p.gp):=ho.cell h.xw rfl;have hpo8':(D.at_ hh:Int)<8:=by omega
 have ta217:∀W:World,_:=fun W=>qx (zc gm0 0) W;have HO:=I ho;have HP2:=I hpl2;have H1:=I h;have HX:=I hx;have HOS:=I hos;have HK:=I hk;have HB:=I hob;generalize hpx:D.at_ hh=px at*;have HPX:=I hpx;clear h ho hx hpl2 hvo hos hk hpo hpx hob;go_in;go_wp2_with fail;go_quiet ((go_at_call 112;exact Calls.quiet_of_same ((HP2.out _ (HO.out.drewN _)).mono fun e w' ⟨h1,h2⟩=>⟨h1,h2.symm⟩)));have o2:=HO.out.drewN nq;have hcall:=gW HB.out o2;have hbd:=Rb H1.out o2 hh;have HF:Hid (∀r w',(∃γ',Own w0 w' γ'∧∀k,(k<B+60∨B+65≤k)→γ' k=γ k)→xj 20 w0 γ B g p D r (.returned r) w'):=I fun r w' ⟨γ',o',k'⟩=>⟨rfl,γ',o',H1.out.wK (fun k hk=>k' k (by unfold xi at hk;omega)),fun k hk=>k' k (by unfold yU at hk;omega)⟩;clear HO o2 HP2 H1 HX HOS HK HB HPX;generalize w.drewN nq=W2 at*;clear d1 d2 hcgo;go_wp2_with fail;refine hcall.mono ?_;rintro e w3 ⟨rfl,rfl⟩;clear hcall;go_wp2_with fail;refine hbd.mono ?_;rintro e w4 ⟨rfl,hex⟩;have HG:=I (HF.out (.bool (D.qB hh)) _ hex);clear hex hbd HF;generalize D.qB hh=R at*;go_wp2_with fail;go_ret;exact HG.out
theorem YJ(h:yT γ B g p D)(ho:Own w0 w γ)(hh:Int)(hx:D.Has hh){m:Rw}(hk:D.ob hh=some (.rw m))(hb:(m.w != 0)=true):Calls Tryz.prog 172 #[.p g,.i hh] w (xj 20 w0 γ B g p D (.bool (D.busy hh))):=by
 have hbz:D.busy hh=true:=by unfold Dm.busy;rw[hk];exact if_pos hb
 rw[hbz];clear hbz;have hat:=xX h hx.2;rw[hk]at hat;obtain⟨gm0,hos,hob⟩:=hat;obtain⟨hpo,hpo8⟩:=xv h hh hx.2;have hpl2:=fun W (hW:Own w0 W γ)=>xS (w:=W) h.places hW hh hx.1;rw[hpo]at hpl2;obtain⟨go,cgo,hvo,hcgo,-⟩:=wH h ho hpo8;rw[hos]at hcgo;have d2:w.cell? (zc g 2)=some (.slice (zb go) 8 cgo):=by rw[←hvo];exact ho.cell h.xw rfl
 have d1:w.cell? (zc g 1)=some (.p p.gp):=ho.cell h.xw rfl;have hpo8':(D.at_ hh:Int)<8:=by omega
 have ta217:∀W:World,_:=fun W=>qw (zc gm0 0) W;have ta218:∀W:World,_:=fun W=>rH (zc gm0 0) W;have HO:=I ho;have HP2:=I hpl2;have H1:=I h;have HX:=I hx;have HOS:=I hos;have HK:=I hk;have HB:=I hob;generalize hpx:D.at_ hh=px at*;have HPX:=I hpx;clear h ho hx hpl2 hvo hos hk hpo hpx hob;go_in;go_wp2_with fail;go_quiet ((go_at_call 112;exact Calls.quiet_of_same ((HP2.out _ (HO.out.drewN _)).mono fun e w' ⟨h1,h2⟩=>⟨h1,h2.symm⟩)));have o2:=HO.out.drewN nq;have hcall:=fo HB.out o2;have HF:Hid (∀r,xj 20 w0 γ B g p D r (.returned r) (w.drewN nq)):=I fun r=>wC 20 H1.out o2 r;clear HO o2 HP2 H1 HX HOS HK HB HPX;generalize w.drewN nq=W2 at*;clear d1 d2 hcgo;go_wp2_with fail;refine hcall.mono ?_;rintro e w3 ⟨rfl,rfl⟩;clear hcall;go_wp2_with fail;go_ret;exact HF.out _
theorem YI(h:yT γ B g p D)(ho:Own w0 w γ)(hh:Int)(hx:D.Has hh){m:Rw}(hk:D.ob hh=some (.rw m))(hb:(m.w != 0)=false):Calls Tryz.prog 172 #[.p g,.i hh] w (xj 20 w0 γ B g p D (.bool (D.busy hh))):=by
 have hbz:D.busy hh=decide (0<m.rs.length):=by unfold Dm.busy;rw[hk];exact if_neg (by rw[hb];simp)
 rw[hbz];clear hbz;have hat:=xX h hx.2;rw[hk]at hat;obtain⟨gm0,hos,hob⟩:=hat;obtain⟨hpo,hpo8⟩:=xv h hh hx.2;have hpl2:=fun W (hW:Own w0 W γ)=>xS (w:=W) h.places hW hh hx.1;rw[hpo]at hpl2;obtain⟨go,cgo,hvo,hcgo,-⟩:=wH h ho hpo8;rw[hos]at hcgo;have d2:w.cell? (zc g 2)=some (.slice (zb go) 8 cgo):=by rw[←hvo];exact ho.cell h.xw rfl
 have d1:w.cell? (zc g 1)=some (.p p.gp):=ho.cell h.xw rfl;have hpo8':(D.at_ hh:Int)<8:=by omega
 have ta217:∀W:World,_:=fun W=>qw (zc gm0 0) W;have ta218:∀W:World,_:=fun W=>rH (zc gm0 0) W;have HO:=I ho;have HP2:=I hpl2;have H1:=I h;have HX:=I hx;have HOS:=I hos;have HK:=I hk;have HB:=I hob;generalize hpx:D.at_ hh=px at*;have HPX:=I hpx;clear h ho hx hpl2 hvo hos hk hpo hpx hob;go_in;go_wp2_with fail;go_quiet ((go_at_call 112;exact Calls.quiet_of_same ((HP2.out _ (HO.out.drewN _)).mono fun e w' ⟨h1,h2⟩=>⟨h1,h2.symm⟩)));have o2:=HO.out.drewN nq;have hcall:=fo HB.out o2;have hgot:=aF HB.out o2 (B+65) (by omega);have HF:Hid (∀r w' γ',Own w0 w' γ'→wZ γ' (B+100+8*px) gm0 m→(∀k,(k<B+100+8*px∨B+100+8*px+7≤k)→k≠B+65→γ' k=γ k)→xj 20 w0 γ B g p D r (.returned r) w'):=I fun r w' γ' o' a' k'=>by have e:=HPX.out;subst e;exact⟨rfl,γ',o',H1.out.pf HX.out HK.out ⟨gm0,HOS.out,a'⟩ (fun k q1 q2=>k' k q1 q2),fun k hk=>k' k (by unfold yU at hk;omega) (by unfold yU at hk;omega)⟩
 clear HO o2 HP2 H1 HX HK HB HPX HOS;generalize w.drewN nq=W2 at*;clear d1 d2 hcgo;go_wp2_with fail;refine hcall.mono ?_;rintro e w3 ⟨rfl,rfl⟩;clear hcall;go_wp2_with fail;refine hgot.mono ?_;rintro e w4 ⟨v,γ4,rfl,o4,a4,p4,k4⟩;obtain⟨A,c,rfl⟩:=p4.form;have HG:=I (fun r=>HF.out r _ _ o4 a4 k4);clear o4 a4 p4 k4 hgot HF;generalize m.rs.length=n at*;go_wp2_with fail;go_ret;exact HG.out _
theorem YL(h:yT γ B g p D)(ho:Own w0 w γ)(hh:Int)(hx:D.Has hh){m:Sm}(hk:D.ob hh=some (.sm m))(hb:decide (m.f<m.size)=true):Calls Tryz.prog 172 #[.p g,.i hh] w (xj 20 w0 γ B g p D (.bool (D.busy hh))):=by
 have hbz:D.busy hh=true:=by unfold Dm.busy;rw[hk];exact if_pos hb
 rw[hbz];clear hbz;have hat:=xX h hx.2;rw[hk]at hat;obtain⟨gm0,hos,hob⟩:=hat;obtain⟨hpo,hpo8⟩:=xv h hh hx.2;have hpl2:=fun W (hW:Own w0 W γ)=>xS (w:=W) h.places hW hh hx.1;rw[hpo]at hpl2;obtain⟨go,cgo,hvo,hcgo,-⟩:=wH h ho hpo8;rw[hos]at hcgo;have d2:w.cell? (zc g 2)=some (.slice (zb go) 8 cgo):=by rw[←hvo];exact ho.cell h.xw rfl
 have d1:w.cell? (zc g 1)=some (.p p.gp):=ho.cell h.xw rfl;have hpo8':(D.at_ hh:Int)<8:=by omega
 have ta217:∀W:World,_:=fun W=>pP (zc gm0 0) W;have ta218:∀W:World,_:=fun W=>pQ (zc gm0 0) W;have ta221:∀W:World,_:=fun W=>jC (zc gm0 0) W;have HO:=I ho;have HP2:=I hpl2;have H1:=I h;have HX:=I hx;have HOS:=I hos;have HK:=I hk;have HB:=I hob;generalize hpx:D.at_ hh=px at*;have HPX:=I hpx;clear h ho hx hpl2 hvo hos hk hpo hpx hob;go_in;go_wp2_with fail;go_quiet ((go_at_call 112;exact Calls.quiet_of_same ((HP2.out _ (HO.out.drewN _)).mono fun e w' ⟨h1,h2⟩=>⟨h1,h2.symm⟩)));have o2:=HO.out.drewN nq;have hcall:=UF HB.out o2;have hcall2:=UH HB.out o2;have HF:Hid (∀r,xj 20 w0 γ B g p D r (.returned r) (w.drewN nq)):=I fun r=>wC 20 H1.out o2 r;clear HO o2 HP2 H1 HX HOS HK HB HPX;generalize w.drewN nq=W2 at*;clear d1 d2 hcgo;go_wp2_with fail;refine hcall.mono ?_;rintro e w3 ⟨rfl,rfl⟩;clear hcall;go_wp2_with fail;refine hcall2.mono ?_;rintro e w3 ⟨rfl,rfl⟩;clear hcall2;go_wp2_with fail;go_ret;exact HF.out _
theorem YK(h:yT γ B g p D)(ho:Own w0 w γ)(hh:Int)(hx:D.Has hh){m:Sm}(hk:D.ob hh=some (.sm m))(hb:decide (m.f<m.size)=false):Calls Tryz.prog 172 #[.p g,.i hh] w (xj 20 w0 γ B g p D (.bool (D.busy hh))):=by
 have hbz:D.busy hh=decide (0<(m.ws.map Prod.fst).length):=by unfold Dm.busy;rw[hk];rw[zA];exact if_neg (by rw[hb];simp)
 rw[hbz];clear hbz;have hat:=xX h hx.2;rw[hk]at hat;obtain⟨gm0,hos,hob⟩:=hat;obtain⟨hpo,hpo8⟩:=xv h hh hx.2;have hpl2:=fun W (hW:Own w0 W γ)=>xS (w:=W) h.places hW hh hx.1;rw[hpo]at hpl2;obtain⟨go,cgo,hvo,hcgo,-⟩:=wH h ho hpo8;rw[hos]at hcgo;have d2:w.cell? (zc g 2)=some (.slice (zb go) 8 cgo):=by rw[←hvo];exact ho.cell h.xw rfl
 have d1:w.cell? (zc g 1)=some (.p p.gp):=ho.cell h.xw rfl;have hpo8':(D.at_ hh:Int)<8:=by omega
 have ta217:∀W:World,_:=fun W=>pP (zc gm0 0) W;have ta218:∀W:World,_:=fun W=>pQ (zc gm0 0) W;have ta221:∀W:World,_:=fun W=>jC (zc gm0 0) W;have HO:=I ho;have HP2:=I hpl2;have H1:=I h;have HX:=I hx;have HOS:=I hos;have HK:=I hk;have HB:=I hob;generalize hpx:D.at_ hh=px at*;have HPX:=I hpx;clear h ho hx hpl2 hvo hos hk hpo hpx hob;go_in;go_wp2_with fail;go_quiet ((go_at_call 112;exact Calls.quiet_of_same ((HP2.out _ (HO.out.drewN _)).mono fun e w' ⟨h1,h2⟩=>⟨h1,h2.symm⟩)));have o2:=HO.out.drewN nq;have hcall:=UF HB.out o2;have hcall2:=UH HB.out o2;have hgot:=Qm HB.out o2 (B+65) (by omega);have HF:Hid (∀r w' γ',Own w0 w' γ'→vJ γ' (B+100+8*px) gm0 m→(∀k,(k<B+100+8*px∨B+100+8*px+7≤k)→k≠B+65→γ' k=γ k)→xj 20 w0 γ B g p D r (.returned r) w'):=I fun r w' γ' o' a' k'=>by have e:=HPX.out;subst e;exact⟨rfl,γ',o',H1.out.pf HX.out HK.out ⟨gm0,HOS.out,a'⟩ (fun k q1 q2=>k' k q1 q2),fun k hk=>k' k (by unfold yU at hk;omega) (by unfold yU at hk;omega)⟩
 clear HO o2 HP2 H1 HX HK HB HPX HOS;generalize w.drewN nq=W2 at*;clear d1 d2 hcgo;go_wp2_with fail;refine hcall.mono ?_;rintro e w3 ⟨rfl,rfl⟩;clear hcall;go_wp2_with fail;refine hcall2.mono ?_;rintro e w3 ⟨rfl,rfl⟩;clear hcall2;go_wp2_with fail;refine hgot.mono ?_;rintro e w4 ⟨v,γ4,rfl,o4,a4,p4,k4⟩;obtain⟨A,c,rfl⟩:=p4.form;have HG:=I (fun r=>HF.out r _ _ o4 a4 k4);clear o4 a4 p4 k4 hgot HF;generalize(m.ws.map Prod.fst).length=n at*;go_wp2_with fail;go_ret;exact HG.out _
theorem Vj(h:yT γ B g p D)(ho:Own w0 w γ)(hh:Int)(hx:D.Has hh){ws:List Int}{mh:Int}(hk:D.ob hh=some (.cd ws mh)):Calls Tryz.prog 172 #[.p g,.i hh] w (xj 20 w0 γ B g p D (.bool (D.busy hh))):=by
 have hbz:D.busy hh=decide (0<ws.length):=by unfold Dm.busy;rw[hk];rfl
 rw[hbz];clear hbz;have hat:=xX h hx.2;rw[hk]at hat;obtain⟨gm0,gc,hos,hw,hob⟩:=hat;have d3:=fun W (hW:Own w0 W γ)=>hW.cell hw (i:=0) (v:=.p gc) rfl;obtain⟨hpo,hpo8⟩:=xv h hh hx.2;have hpl2:=fun W (hW:Own w0 W γ)=>xS (w:=W) h.places hW hh hx.1;rw[hpo]at hpl2;obtain⟨go,cgo,hvo,hcgo,-⟩:=wH h ho hpo8;rw[hos]at hcgo;have d2:w.cell? (zc g 2)=some (.slice (zb go) 8 cgo):=by rw[←hvo];exact ho.cell h.xw rfl
 have d1:w.cell? (zc g 1)=some (.p p.gp):=ho.cell h.xw rfl;have hpo8':(D.at_ hh:Int)<8:=by omega
 have ta217:∀W:World,_:=fun W=>jw (zc gm0 0) W;have ta218:∀W:World,_:=fun W=>jA (zc gm0 0) W;have ta221:∀W:World,_:=fun W=>ef (zc gm0 0) W;have ta224:∀W:World,_:=fun W=>pR (zc gm0 0) W;have HO:=I ho;have HP2:=I hpl2;have H1:=I h;have HX:=I hx;have HOS:=I hos;have HK:=I hk;have HB:=I hob;generalize hpx:D.at_ hh=px at*;have HPX:=I hpx;clear h ho hx hpl2 hvo hos hk hpo hpx hob;go_in;go_wp2_with fail;go_quiet ((go_at_call 112;exact Calls.quiet_of_same ((HP2.out _ (HO.out.drewN _)).mono fun e w' ⟨h1,h2⟩=>⟨h1,h2.symm⟩)));have o2:=HO.out.drewN nq;have HW:=I hw;replace d3:=d3 _ o2;clear hw;have hgot:=S3 HB.out o2 (B+65) (by omega);have HF:Hid (∀r w' γ',Own w0 w' γ'→vQ γ' (B+100+8*px) gc ws→(∀k,(k<B+100+8*px∨B+100+8*px+7≤k)→k≠B+65→γ' k=γ k)→xj 20 w0 γ B g p D r (.returned r) w'):=I fun r w' γ' o' a' k'=>by have e:=HPX.out;subst e;exact⟨rfl,γ',o',H1.out.pf HX.out HK.out ⟨gm0,gc,HOS.out,(k' _ (by omega) (by omega)).trans HW.out,a'⟩ (fun k q1 q2=>k' k q1 q2),fun k hk=>k' k (by unfold yU at hk;omega) (by unfold yU at hk;omega)⟩
 clear HW HO o2 HP2 H1 HX HK HB HPX HOS;generalize w.drewN nq=W2 at*;clear d1 d2 hcgo;go_wp2_with fail;refine hgot.mono ?_;rintro e w4 ⟨v,γ4,rfl,o4,a4,p4,k4⟩;obtain⟨A,c,rfl⟩:=p4.form;have HG:=I (fun r=>HF.out r _ _ o4 a4 k4);clear o4 a4 p4 k4 hgot HF;generalize ws.length=n at*;go_wp2_with fail;go_ret;exact HG.out _
theorem Vl(h:yT γ B g p D)(ho:Own w0 w γ)(hh:Int)(hx:D.Has hh){m:On}(hk:D.ob hh=some (.on m)):Calls Tryz.prog 172 #[.p g,.i hh] w (xj 20 w0 γ B g p D (.bool (D.busy hh))):=by
 have hbz:D.busy hh=(m.d != 0):=by unfold Dm.busy;rw[hk];rfl
 rw[hbz];clear hbz;have hat:=xX h hx.2;rw[hk]at hat;obtain⟨gm0,hos,hob⟩:=hat;obtain⟨hpo,hpo8⟩:=xv h hh hx.2;have hpl2:=fun W (hW:Own w0 W γ)=>xS (w:=W) h.places hW hh hx.1;rw[hpo]at hpl2;obtain⟨go,cgo,hvo,hcgo,-⟩:=wH h ho hpo8;rw[hos]at hcgo;have d2:w.cell? (zc g 2)=some (.slice (zb go) 8 cgo):=by rw[←hvo];exact ho.cell h.xw rfl
 have d1:w.cell? (zc g 1)=some (.p p.gp):=ho.cell h.xw rfl;have hpo8':(D.at_ hh:Int)<8:=by omega
 have ta217:∀W:World,_:=fun W=>jt (zc gm0 0) W;have ta218:∀W:World,_:=fun W=>jy (zc gm0 0) W;have ta221:∀W:World,_:=fun W=>ec (zc gm0 0) W;have ta224:∀W:World,_:=fun W=>aN (zc gm0 0) W;have ta222:∀W:World,_:=fun W=>jE (zc gm0 0) W;have HO:=I ho;have HP2:=I hpl2;have H1:=I h;have HX:=I hx;have HOS:=I hos;have HK:=I hk;have HB:=I hob;generalize hpx:D.at_ hh=px at*;have HPX:=I hpx;clear h ho hx hpl2 hvo hos hk hpo hpx hob;go_in;go_wp2_with fail;go_quiet ((go_at_call 112;exact Calls.quiet_of_same ((HP2.out _ (HO.out.drewN _)).mono fun e w' ⟨h1,h2⟩=>⟨h1,h2.symm⟩)));have o2:=HO.out.drewN nq;have hcall:=Ul HB.out o2;have HF:Hid (∀r,xj 20 w0 γ B g p D r (.returned r) (w.drewN nq)):=I fun r=>wC 20 H1.out o2 r;clear HO o2 HP2 H1 HX HOS HK HB HPX;generalize w.drewN nq=W2 at*;clear d1 d2 hcgo;go_wp2_with fail;refine hcall.mono ?_;rintro e w3 ⟨rfl,rfl⟩;clear hcall;go_wp2_with fail;go_ret;exact HF.out _
theorem Vk(h:yT γ B g p D)(ho:Own w0 w γ)(hh:Int)(hx:D.Has hh){m:Gp}(hk:D.ob hh=some (.gp m)):Calls Tryz.prog 172 #[.p g,.i hh] w (xj 20 w0 γ B g p D (.bool (D.busy hh))):=by
 have hbz:D.busy hh=(m.n != 0):=by unfold Dm.busy;rw[hk];rfl
 rw[hbz];clear hbz;have hat:=xX h hx.2;rw[hk]at hat;obtain⟨gm0,hos,hob⟩:=hat;obtain⟨hpo,hpo8⟩:=xv h hh hx.2;have hpl2:=fun W (hW:Own w0 W γ)=>xS (w:=W) h.places hW hh hx.1;rw[hpo]at hpl2;obtain⟨go,cgo,hvo,hcgo,-⟩:=wH h ho hpo8;rw[hos]at hcgo;have d2:w.cell? (zc g 2)=some (.slice (zb go) 8 cgo):=by rw[←hvo];exact ho.cell h.xw rfl
 have d1:w.cell? (zc g 1)=some (.p p.gp):=ho.cell h.xw rfl;have hpo8':(D.at_ hh:Int)<8:=by omega
 have ta217:∀W:World,_:=fun W=>ju (zc gm0 0) W;have ta218:∀W:World,_:=fun W=>jz (zc gm0 0) W;have ta221:∀W:World,_:=fun W=>ed (zc gm0 0) W;have ta224:∀W:World,_:=fun W=>aO (zc gm0 0) W;have ta222:∀W:World,_:=fun W=>jD (zc gm0 0) W;have ta223:∀W:World,_:=fun W=>jG (zc gm0 0) W;have HO:=I ho;have HP2:=I hpl2;have H1:=I h;have HX:=I hx;have HOS:=I hos;have HK:=I hk;have HB:=I hob;generalize hpx:D.at_ hh=px at*;have HPX:=I hpx;clear h ho hx hpl2 hvo hos hk hpo hpx hob;go_in;go_wp2_with fail;go_quiet ((go_at_call 112;exact Calls.quiet_of_same ((HP2.out _ (HO.out.drewN _)).mono fun e w' ⟨h1,h2⟩=>⟨h1,h2.symm⟩)));have o2:=HO.out.drewN nq;have hcall:=Rs HB.out o2;have HF:Hid (∀r,xj 20 w0 γ B g p D r (.returned r) (w.drewN nq)):=I fun r=>wC 20 H1.out o2 r;clear HO o2 HP2 H1 HX HOS HK HB HPX;generalize w.drewN nq=W2 at*;clear d1 d2 hcgo;go_wp2_with fail;refine hcall.mono ?_;rintro e w3 ⟨rfl,rfl⟩;clear hcall;go_wp2_with fail;go_ret;exact HF.out _
theorem YH(h:yT γ B g p D)(ho:Own w0 w γ)(hh:Int)(hx:D.Has hh)(hk:D.ob hh=none):Calls Tryz.prog 172 #[.p g,.i hh] w (xj 20 w0 γ B g p D (.bool (D.busy hh))):=by
 have hbz:D.busy hh=false:=by unfold Dm.busy;rw[hk];rfl
 rw[hbz];clear hbz;have hat:=xX h hx.2;rw[hk]at hat;have hos:p.os.getD (D.at_ hh) undef=.nilIface:=hat;obtain⟨hpo,hpo8⟩:=xv h hh hx.2;have hpl2:=fun W (hW:Own w0 W γ)=>xS (w:=W) h.places hW hh hx.1;rw[hpo]at hpl2;obtain⟨go,cgo,hvo,hcgo,-⟩:=wH h ho hpo8;rw[hos]at hcgo;have d2:w.cell? (zc g 2)=some (.slice (zb go) 8 cgo):=by rw[←hvo];exact ho.cell h.xw rfl
 have d1:w.cell? (zc g 1)=some (.p p.gp):=ho.cell h.xw rfl;have hpo8':(D.at_ hh:Int)<8:=by omega
 have ta217:∀W:World,_:=fun W=>jx W;have ta218:∀W:World,_:=fun W=>jB W;have ta221:∀W:World,_:=fun W=>eh W;have ta224:∀W:World,_:=fun W=>ep W;have ta222:∀W:World,_:=fun W=>jF W;have ta223:∀W:World,_:=fun W=>eo W;have HO:=I ho;have HP2:=I hpl2;have HF:Hid (∀r W,Own w0 W γ→xj 20 w0 γ B g p D r (.returned r) W):=I fun r W oW=>wC 20 h oW r;generalize D.at_ hh=px at*;clear h ho hx hpl2 hvo hos hk hpo hat;go_in;go_wp2_with fail;go_quiet ((go_at_call 112;exact Calls.quiet_of_same ((HP2.out _ (HO.out.drewN _)).mono fun e w' ⟨h1,h2⟩=>⟨h1,h2.symm⟩)));have o2:=HO.out.drewN nq;have HG:=I (fun r=>HF.out r _ o2);clear HO o2 HP2 HF;generalize w.drewN nq=W2 at*;clear d1 d2 hcgo;go_wp2_with fail;go_ret;exact HG.out _
theorem Vi(h:yT γ B g p D)(ho:Own w0 w γ)(hh:Int)(hx:D.Has hh):Calls Tryz.prog 172 #[.p g,.i hh] w (xj 20 w0 γ B g p D (.bool (D.busy hh))):=by
 cases hk:D.ob hh with
 |none=>exact YH h ho hh hx hk
 |some o=>
  cases o with
  |mu m=>cases hb:(m.h != 0)with
   |true=>exact YG h ho hh hx hk hb
   |false=>exact YF h ho hh hx hk hb
  |rw m=>cases hb:(m.w != 0)with
   |true=>exact YJ h ho hh hx hk hb
   |false=>exact YI h ho hh hx hk hb
  |sm m=>cases hb:decide (m.f<m.size)with
   |true=>exact YL h ho hh hx hk hb
   |false=>exact YK h ho hh hx hk hb
  |cd ws mh=>exact Vj h ho hh hx hk
  |on m=>exact Vl h ho hh hx hk
  |gp m=>exact Vk h ho hh hx hk
end
end
section
open Go.RowKit Go.WideShapes
def Dm.free(D:Dm)(h:Int):Dm×Int:=if D.av.place h= -1 then(D,7)else if D.busy h=true then(D,12)else({D with av:=D.av.free h,yX:=D.yX.set (D.at_ h) none},0)
section
variable {w0 w:World} {γ γ':U} {B g:Nat} {p:vG} {D:Dm}
theorem XZ(h:yT γ B g p D)(ho:Own w0 w γ)(hh:Int)(hx:D.Has hh)(hbz:D.busy hh=false):Calls Tryz.prog 137 #[.p g,.i hh] w (uo 30 w0 γ B g (D.free hh).1 (.i (D.free hh).2)):=by
 have hfr:D.free hh=({D with av:=D.av.free hh,yX:=D.yX.set (D.at_ hh) none},0):=by unfold Dm.free;rw[if_neg hx.2,if_neg (by rw[hbz];simp)]
 rw[hfr];obtain⟨hpo,hpo8⟩:=xv h hh hx.2;have hpl:=xS h.places ho hh hx.1;rw[hpo]at hpl;have d1:w.cell? (zc g 1)=some (.p p.gp):=ho.cell h.xw rfl;have hbusy:=Vi h ho hh hx;rw[hbz]at hbusy;have H:=I h;have HX:=I hx;have HPO:=I hpo;generalize hpx:D.at_ hh=px at*;have HPX:=I hpx;have hpo8':(px:Int)<8:=by omega
 clear h ho hx hbz hfr hpo hpx;go_in;go_wp2_with fail;refine hpl.mono ?_;rintro e w1 ⟨rfl,rfl⟩;go_wp2_with fail;refine hbusy.mono ?_;rintro e w2 ⟨rfl,γ2,o2,h2,k2⟩;have hpc:=fun W (hW:Own w0 W γ2)=>xS (w:=W) h2.places hW hh HX.out.1;rw[HPO.out]at hpc;have HPC:=I hpc;have hso:=h2.yX;obtain⟨go,cgo,hvo,-,hfz,hset⟩:=yR.jP hso o2.drew hpo8;obtain⟨go',cgo',hvo',hcell⟩:=hso.at_ o2.drew hpo8;rw[hvo]at hvo';cases hvo';obtain⟨γ3,o3,s3,k3⟩:=hset .nilIface;have HC:Hid (∀W,Own w0 W γ2→W.cell? (zc g 2)=some (.slice (zb go) 8 cgo)∧W.cell? (zc g 1)=some (.p p.gp)):=I fun W hW=>⟨by rw[←hvo];exact hW.cell h2.xw rfl,hW.cell h2.xw rfl⟩;have h3:yT γ3 B g {p with os:=p.os.set px .nilIface} {D with av:=D.av,yX:=D.yX.set px none}:=h2.Yh hpo8 (o:=none) s3 rfl (h2.places.keep fun k q1 q2=>k3 k (by omega)) h2.al (fun k q1 q2 q3 q4=>k3 k q2);have hfre:=Xd h3.places o3 hh HX.out.1;have d1':(w2.drew.setCell (zc go px) .nilIface).cell? (zc g 1)=some (.p p.gp):=o3.cell h3.xw rfl;have H3:=I h3;have K3:Hid (∀k,yU 30 B k→γ3 k=γ k):=I fun k hk=>(k3 k (by unfold yU at hk;omega)).trans (k2 k (by unfold yU at hk⊢;omega));have HO:=I o2.drew;clear hpl hbusy o2 h2 k2 hpc hso hset o3 s3 k3 h3 hvo d1;go_wp2_with fail;refine yP.region [0,1,2,3,4,5,6,7,8] (.step 9 (.step 10 (.step 11 .done))) (fun w'=>Own w0 w' γ2) (by kernel_rfl) (by kernel_rfl) (fun _ _ _ _ _ h=>h) HO.out ?_;repeat
  refine Perm.xm rfl ?_ (fun w' hS=>?_) ?_;rotate_left
  ·(obtain⟨q1,q2⟩:=HC.out _ hS;clear hS;go_simp;try with_reducible rfl)
  simp only[pt]
 refine Perm.xt ?_;generalize w2.drew=wd at*;refine yP.yY rfl (by rfl) ?_;refine yP.xJ rfl 112 _ _ rfl (by kernel_rfl) _ rfl ((HPC.out _ HO.out).mono ?_);rintro e w5 ⟨rfl,rfl⟩;refine⟨_,rfl,fun _ h=>h,?_⟩;simp only[pt];refine yP.yY rfl (by rfl) ?_;refine yP.rP rfl (.pointer (some (zc go px))) (by go_simp;try with_reducible rfl) ?_;simp only[pt];refine yP.yY rfl (by rfl) ?_;refine yP.xy rfl .skip undef (.inr ⟨rfl,rfl⟩) (w':=wd.setCell (zc go px) .nilIface) (by go_simp;try with_reducible rfl) (Perm.xx (by kernel_rfl)) ?_;simp only[pt];refine yP.xC ?_;generalize wd.setCell (zc go px) .nilIface=WM at*;clear hfz hcell HC HO HPC;go_wp2_with fail;refine hfre.mono ?_;rintro e w6 ⟨rfl,γ6,o6,a6,k6⟩;have HF:Hid (∃γ',Own w0 w6 γ'∧uQ γ' B g {D with av:=D.av.free hh,yX:=D.yX.set px none}∧∀k,yU 30 B k→γ' k=γ k):=I ⟨γ6,o6,⟨_,H3.out.aH a6 (by rw[AV.gQ];exact H3.out.al) k6⟩,fun k hk=>(k6 k (by unfold yU at hk;omega)).trans (K3.out k hk)⟩;clear hfre o6 a6 k6 K3;go_wp2_with fail;go_ret;exact⟨rfl,HF.out⟩
theorem Q6(h:yT γ B g p D)(ho:Own w0 w γ)(hh:Int)(hx:hh≤9223372036854775807):Calls Tryz.prog 137 #[.p g,.i hh] w (uo 30 w0 γ B g (D.free hh).1 (.i (D.free hh).2)):=by
 by_cases hp:D.av.place hh= -1
 ·rw[show D.free hh=(D,7)from if_pos hp];have hpl:=xS h.places ho hh hx;rw[hp]at hpl;have d1:w.cell? (zc g 1)=some (.p p.gp):=ho.cell h.xw rfl;have HF:=I (wC 30 h ho (.i 7)).toA;clear h ho hp;go_in;go_wp2_with fail;refine hpl.mono ?_;rintro e w1 ⟨rfl,rfl⟩;go_wp2_with fail;go_ret;exact HF.out
 ·cases hbz:D.busy hh with
  |false=>exact XZ h ho hh ⟨hx,hp⟩ hbz
  |true=> rw[show D.free hh=(D,12)by unfold Dm.free;rw[if_neg hp,if_pos hbz]];obtain⟨hpo,hpo8⟩:=xv h hh hp;have hpl:=xS h.places ho hh hx;rw[hpo]at hpl;have d1:w.cell? (zc g 1)=some (.p p.gp):=ho.cell h.xw rfl;have hbusy:=Vi h ho hh ⟨hx,hp⟩;rw[hbz]at hbusy;generalize D.at_ hh=px at*;clear h ho hp hbz hpo;go_in;go_wp2_with fail;refine hpl.mono ?_;rintro e w1 ⟨rfl,rfl⟩;go_wp2_with fail;refine hbusy.mono ?_;rintro e w2 ⟨rfl,γ2,o2,h2,k2⟩;have HF:Hid (uo 30 w0 γ B g D (.i 12) (.returned (.i 12)) w2):=I ⟨rfl,γ2,o2,⟨p,h2⟩,fun k hk=>k2 k (by unfold yU at hk⊢;omega)⟩;clear hbusy o2 h2 k2 hpl;go_wp2_with fail;go_ret;exact HF.out
end
end
section
open Go.RowKit Go.WideShapes
theorem Za{w:World}{A:Option Addr}{n cap:Nat}{l:List (Value×Bool)}(hl:l.length=n)(hn:n≤1000)(gf:Nat)(lb:Array Value)(eg:∀args w,(callFunc gf args).run Tryz.prog w=.ok (.enter gf args) w)(p:(Value×Bool)→Bool)(R:World→Prop)(h0:R w)(hp:∀x∈l,∀W,R W→Calls Tryz.prog gf (#[x.1]++lb) W fun e W'=>e=.returned (.bool (p x))∧R W')(hc:∀W,R W→∀j x,l[j]? =some x→∃g,A=zb g∧W.cell? (zc g j)=some x.1):Calls Tryz.prog 269 #[.slice A n cap,.func (.func gf) #[] lb] w fun e w'=>e=.returned (.i (vj l p))∧R w':=by
 have HC:=I hc;have HP:=I hp;clear hc hp;go_in;go_wp2_with fail;go_loopw [8] (fun i wr=>∃j:Nat,i=.i j∧j≤n∧R wr∧∀y∈l.take j,p y=false) (fun i _=>n-(intOf i).toNat);case atStart=>exact⟨0,rfl,by omega,h0,by simp⟩
 case round=>
  obtain⟨j,rfl,hj,hb,hnot⟩:=hrel;by_cases hlt:j<n
  ·have dl:decide ((j:Int)<n)=true:=by simpa using hlt
   have hx:l[j]? =some l[j]:=zl (by omega);generalize l[j]=x at*;obtain⟨g,rfl,c0⟩:=HC.out wr hb j x hx;have hm:x∈l:=zo hx;have hcall:=HP.out x hm wr hb;cases hpx:p x with
   |true=> have HR:=I (qX hnot hx hpx);rw[hpx]at hcall;clear hnot hx hm hb hpx;go_wp2_with fail;refine hcall.mono ?_;rintro e w' ⟨rfl,hb'⟩;go_wp2_with fail;go_ret;exact⟨by rw[HR.out];rfl,hb'⟩
   |false=>
    have HN:=I (vK hnot hx hpx);rw[hpx]at hcall;clear hnot hx hm hb hpx;go_wp2_with fail;refine hcall.mono ?_;rintro e w' ⟨rfl,hb'⟩;go_wp2_with fail;go_roundw;case rel=>exact⟨j+1,rfl,by omega,hb',HN.out⟩
    case measure=>simp[intOf];omega
  ·obtain rfl:j=n:=by omega
   have dl:decide ((j:Int)<j)=false:=by simp
   have hr:vj l p= -1:=rA (by rw[zO (by omega)]at hnot;exact hnot);have HR:=I hr;have HB:=I hb;clear hr hb hnot;go_wp2_with fail;go_ret;exact⟨by rw[HR.out];rfl,HB.out⟩
theorem dH{w:World}{A:Option Addr}{n cap:Nat}{l:List (Value×Bool)}(hl:l.length=n)(hn:n≤1000)(gf:Nat)(lb:Array Value)(eg:∀args w,(callFunc gf args).run Tryz.prog w=.ok (.enter gf args) w)(p:(Value×Bool)→Bool)(R:World→Prop)(h0:R w)(hp:∀x∈l,∀W,R W→Calls Tryz.prog gf (#[x.1]++lb) W fun e W'=>e=.returned (.bool (p x))∧R W')(hc:∀W,R W→∀j x,l[j]? =some x→∃g,A=zb g∧W.cell? (zc g j)=some x.1):Calls Tryz.prog 206 #[.slice A n cap,.func (.func gf) #[] lb] w fun e w'=>e=.returned (.bool (l.any p))∧R w':=by have hi:=Za (cap:=cap) hl hn gf lb eg p R h0 hp hc;rw[←qW];generalize vj l p=y at*;clear hp hc eg;go_in;go_wp2_with fail;refine hi.mono ?_;rintro e w' ⟨rfl,hb⟩;have HB:=I hb;clear hb hi;go_wp2_with fail;go_ret;exact⟨rfl,HB.out⟩
def kH(t:Int):Option Ob→Bool
 |some (.mu m)=>m.h==t
 |some (.rw m)=>if(m.w==t)=true then true else decide (t∈m.rs)
 |some (.on m)=>m.d==t
 |_=>false
def Dm.holds(D:Dm)(t:Int):Bool:=if t<1 then false else D.yX.any (kH t)
section
variable {w0 w:World} {γ γ':U} {B g:Nat} {p:vG} {D:Dm}
theorem X7(w:World)(n:Nat):Below w.heap.size w (w.drewN n):=⟨rfl,rfl,rfl,zm _,fun _ _=>rfl⟩
theorem Ry(ho:Own w0 w γ){b gm b1:Nat}{t:Int}{m:Mu}(hat:tj γ b gm m)(c1:w.cell? (zc b1 0)=some (.i t)):Calls Tryz.prog 207 #[.iface 217 (.p gm),.p b1] w fun e w'=>e=.returned (.bool (m.h==t))∧Below w.heap.size w w':=by have hcall:=fun W (hW:Own w0 W γ)=>gW (w:=W) hat hW;have HP:=I hcall;have HO:=I ho;have ta217:∀W:World,_:=fun W=>qx (zc gm 0) W;clear hcall ho hat;go_in;go_wp2_with (go_quiet ((go_at_call 208;exact Calls.quiet_of_same ((HP.out _ (HO.out.drewN _)).mono fun e w' ⟨h1,h2⟩=>⟨h1,h2.symm⟩))));go_ret;exact⟨rfl,X7 _ _⟩
theorem Rz(ho:Own w0 w γ){b gm b1:Nat}{t:Int}{m:On}(hat:tR γ b gm m)(c1:w.cell? (zc b1 0)=some (.i t)):Calls Tryz.prog 207 #[.iface 222 (.p gm),.p b1] w fun e w'=>e=.returned (.bool (m.d==t))∧Below w.heap.size w w':=by have hcall:=fun W (hW:Own w0 W γ)=>Ul (w:=W) hat hW;have HP:=I hcall;have HO:=I ho;have ta217:∀W:World,_:=fun W=>jt (zc gm 0) W;have ta218:∀W:World,_:=fun W=>jy (zc gm 0) W;have ta222:∀W:World,_:=fun W=>jE (zc gm 0) W;clear hcall ho hat;go_in;go_wp2_with (go_quiet ((go_at_call 211;exact Calls.quiet_of_same ((HP.out _ (HO.out.drewN _)).mono fun e w' ⟨h1,h2⟩=>⟨h1,h2.symm⟩))));go_ret;exact⟨rfl,X7 _ _⟩
theorem VY(ho:Own w0 w γ){b gm b1:Nat}{t:Int}{m:Rw}(hat:wZ γ b gm m)(hb:(m.w==t)=true)(c1:w.cell? (zc b1 0)=some (.i t)):Calls Tryz.prog 207 #[.iface 218 (.p gm),.p b1] w fun e w'=>e=.returned (.bool (if(m.w==t)=true then true else decide (t∈m.rs)))∧Below w.heap.size w w':=by rw[if_pos hb];have hcall:=fun W (hW:Own w0 W γ)=>fo (w:=W) hat hW;have HP:=I hcall;have HO:=I ho;have ta217:∀W:World,_:=fun W=>qw (zc gm 0) W;have ta218:∀W:World,_:=fun W=>rH (zc gm 0) W;clear hcall ho hat;go_in;go_wp2_with (go_quiet ((go_at_call 209;exact Calls.quiet_of_same ((HP.out _ (HO.out.drewN _)).mono fun e w' ⟨h1,h2⟩=>⟨h1,h2.symm⟩))));go_ret;exact⟨rfl,X7 _ _⟩
theorem RA(ho:Own w0 w γ){b gm b1:Nat}{t:Int}(c1:w.cell? (zc b1 0)=some (.i t)):Calls Tryz.prog 207 #[.iface 221 (.p gm),.p b1] w fun e w'=>e=.returned (.bool (false))∧Below w.heap.size w w':=by have ta217:∀W:World,_:=fun W=>pP (zc gm 0) W;have ta218:∀W:World,_:=fun W=>pQ (zc gm 0) W;have ta222:∀W:World,_:=fun W=>aL (zc gm 0) W;clear ho;go_in;go_wp2_with fail;go_ret;exact⟨rfl,Below.refl _ _⟩
theorem Rv(ho:Own w0 w γ){b gm b1:Nat}{t:Int}(c1:w.cell? (zc b1 0)=some (.i t)):Calls Tryz.prog 207 #[.iface 224 (.p gm),.p b1] w fun e w'=>e=.returned (.bool (false))∧Below w.heap.size w w':=by have ta217:∀W:World,_:=fun W=>jw (zc gm 0) W;have ta218:∀W:World,_:=fun W=>jA (zc gm 0) W;have ta222:∀W:World,_:=fun W=>ei (zc gm 0) W;clear ho;go_in;go_wp2_with fail;go_ret;exact⟨rfl,Below.refl _ _⟩
theorem Rx(ho:Own w0 w γ){b gm b1:Nat}{t:Int}(c1:w.cell? (zc b1 0)=some (.i t)):Calls Tryz.prog 207 #[.iface 223 (.p gm),.p b1] w fun e w'=>e=.returned (.bool (false))∧Below w.heap.size w w':=by have ta217:∀W:World,_:=fun W=>ju (zc gm 0) W;have ta218:∀W:World,_:=fun W=>jz (zc gm 0) W;have ta222:∀W:World,_:=fun W=>jD (zc gm 0) W;clear ho;go_in;go_wp2_with fail;go_ret;exact⟨rfl,Below.refl _ _⟩
theorem Ts{b1:Nat}{t:Int}(c1:w.cell? (zc b1 0)=some (.i t)):Calls Tryz.prog 207 #[.nilIface,.p b1] w fun e w'=>e=.returned (.bool false)∧Below w.heap.size w w':=by have ta217:∀W:World,_:=fun W=>jx W;have ta218:∀W:World,_:=fun W=>jB W;have ta222:∀W:World,_:=fun W=>jF W;go_in;go_wp2_with fail;go_ret;exact⟨rfl,Below.refl _ _⟩
def pi(w0:World)(γ:U)(B g:Nat)(p:vG)(D:Dm)(b1:Nat)(t:Int)(W:World):Prop:=
 ∃γ',Own w0 W γ'∧yT γ' B g p D∧γ' (B+60)=some (b1,.cells #[.i t] 3 (0,0))∧∀k,yU 20 B k→γ' k=γ k
theorem yT.Qb(h:yT γ B g p D){i:Nat}(hi:i<8){o:Ob}(hob:D.yX.getD i none=some o)(hs:tr γ' (B+100+8*i) (p.os.getD i undef) (some o))(hk:∀k,(k<B+100+8*i∨B+100+8*i+7≤k)→k≠B+65→γ' k=γ k):yT γ' B g p D:=by
 have h1:=h.setObj hi hs (fun k q1 q2=>hk k (by omega) (by unfold xi at q2;omega));have h2:D.yX.set i (some o)=D.yX:=by rw[zn,zl (by have:=h.ol;omega)]at hob;simp only[yt]at hob;rw[←hob];exact List.set_getElem_self (by have:=h.ol;omega)
 rw[h2]at h1;exact h1
theorem VX(h:yT γ B g p D)(ho:Own w0 w γ){i gm b1:Nat}{t:Int}{m:Rw}(hi:i<8)(hob:D.yX.getD i none=some (.rw m))(hos:p.os.getD i undef=.iface 218 (.p gm))(hat:wZ γ (B+100+8*i) gm m)(hb:(m.w==t)=false)(hbx:γ (B+60)=some (b1,.cells #[.i t] 3 (0,0))):Calls Tryz.prog 207 #[.iface 218 (.p gm),.p b1] w fun e w'=>e=.returned (.bool (if(m.w==t)=true then true else decide (t∈m.rs)))∧pi w0 γ B g p D b1 t w':=by
 rw[if_neg (by rw[hb];simp)];have hlen:m.rs.length≤1000:=by obtain⟨_,_,_,-,-,-,-,q⟩:=hat;omega
 have HO:=I ho.drew;have c1:w.cell? (zc b1 0)=some (.i t):=ho.cell hbx rfl;have hw9:=fo hat ho.drew;have hrd:=aF hat ho.drew (B+65) (by omega);have HF:Hid (∀w' v γ',Own w0 w' γ'→wZ γ' (B+100+8*i) gm m→xK γ' (B+65) 3 1 v m.rs.length (ints m.rs)→(∀k,(k<B+100+8*i∨B+100+8*i+7≤k)→k≠B+65→γ' k=γ k)→(∃A c,v=.slice A m.rs.length c)∧pi w0 γ B g p D b1 t w'∧w'.cell? (zc b1 0)=some (.i t)∧Calls Tryz.prog 93 #[v,.i t] w' fun e w''=>e=.returned (.bool (decide (t∈m.rs)))∧w'=w''):=I fun w' v γ' o' a' p' k'=>by have hbx':=(k' (B+60) (by omega) (by omega)).trans hbx;exact⟨p'.form,⟨γ',o',h.Qb hi hob ⟨gm,hos,a'⟩ k',hbx',fun k hk=>k' k (by unfold yU at hk;omega) (by unfold yU at hk;omega)⟩,o'.cell hbx' rfl,pq p' o' hlen t⟩
 have ta217:∀W:World,_:=fun W=>qw (zc gm 0) W;have ta218:∀W:World,_:=fun W=>rH (zc gm 0) W;generalize hR:decide (t∈m.rs)=R at*;clear ho hat hob hos h hlen hbx hR;go_in;go_wp2_with fail;go_region_with (first|(go_at_call 209;refine hw9.mono ?_;rintro e w' ⟨rfl,rfl⟩)|(go_at_call 210;refine hrd.mono ?_;rintro e w4 ⟨v,γ4,rfl,o4,a4,p4,k4⟩;obtain⟨⟨A,c,rfl⟩,HR,d1,hc93⟩:=HF.out _ _ _ o4 a4 p4 k4;replace HR:=I HR;clear o4 a4 p4 k4)|(go_at_call 93;refine hc93.mono ?_;rintro e w' ⟨rfl,rfl⟩));all_goals go_wp2_with fail;go_ret;exact⟨rfl,HR.out⟩
end
end
end Go.Proofs.YtkmamlifgbocgaaGreat
