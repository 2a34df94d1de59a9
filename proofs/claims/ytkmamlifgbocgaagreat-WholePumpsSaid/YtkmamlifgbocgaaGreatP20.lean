/- What the program's code does, as contracts, and what follows of it, part 20: for the law's proof. -/
import Derived.Test.YtkmamlifgbocgaaGreatP00
import Derived.Test.YtkmamlifgbocgaaGreatP19
set_option linter.unusedVariables false
set_option linter.unusedSimpArgs false
set_option maxRecDepth 100000
set_option maxHeartbeats 16000000
namespace Go.Proofs.YtkmamlifgbocgaaGreat
section
open Go.RowKit Go.WideShapes
def Dm.exit(D:Dm)(t:Int):Dm×Int:=if D.holds t=true then(D,11)else({D with sv:=D.sv.exit t},0)
def Dm.spawn(D:Dm):Dm×Int×Int:=match D.sv.ar.fr with
 |[]=>(D,0,9)
 |i::_=>({D with sv:=D.sv.spawn},D.sv.ar.hand i,0)
def SV.yield(s:SV)(x:Int):SV:=if s.rR x=true then(s.block x).ready x else s.block x
def Dm.sN(D:Dm)(t:Int):Int:=if D.sv.ar.place t= -1 then 7 else if((D.waits.getD (D.pl t) Wt.zero).xI==0)=true then 11 else if(D.waits.getD (D.pl t) Wt.zero).again=true then 11 else 0
def Dm.cancel(D:Dm)(t:Int):Dm×Int:=if D.sN t=0 then(D.drop t 16,0)else(D,D.sN t)
section
variable {w0 w:World} {γ γ':U} {B g:Nat} {p:vG} {D:Dm}
theorem Xc{α β:Type}:∀(l:List α) (m:List β) (f:β→Bool),l.length=m.length→(l.zip (m.map f)).any Prod.snd=m.any f
 |[],[],_,_=>rfl
 |x::l,y::m,f,h=>by simp only[yK,List.zip_cons_cons,List.any_cons];rw[Xc l m f (by simpa using h)]
 |[],_::_,_,h=>by simp at h
 |_::_,[],_,h=>by simp at h
theorem Ru{b1:Nat}{t:Int}{W:World}(hR:pi w0 γ B g p D b1 t W){i:Nat}(hi:i<8):Calls Tryz.prog 207 #[p.os.getD i undef,.p b1] W fun e W'=>e=.returned (.bool (kH t (D.yX.getD i none)))∧pi w0 γ B g p D b1 t W':=by
 obtain⟨γ',ho,h,hbx,hk⟩:=hR;have c1:W.cell? (zc b1 0)=some (.i t):=ho.cell hbx rfl;have hB:∀W',Below W.heap.size W W'→pi w0 γ B g p D b1 t W':=fun W' hW=>⟨γ',ho.xh hW,h,hbx,hk⟩;have hat:=h.each i hi;have hup:∀{W'},pi w0 γ' B g p D b1 t W'→pi w0 γ B g p D b1 t W':=fun⟨γ2,o2,h2,b2,k2⟩=>⟨γ2,o2,h2,b2,fun k q=>(k2 k q).trans (hk k q)⟩;cases hob:D.yX.getD i none with
 |none=> rw[hob]at hat;rw[show p.os.getD i undef=.nilIface from hat];exact(Ts c1).mono fun e W' ⟨e1,e2⟩=>⟨e1,hB _ e2⟩
 |some o=>
  rw[hob]at hat;cases o with
  |mu m=> obtain⟨gm,hos,hat⟩:=hat;rw[hos];exact(Ry ho hat c1).mono fun e W' ⟨e1,e2⟩=>⟨e1,hB _ e2⟩
  |rw m=>
   obtain⟨gm,hos,hat⟩:=hat;rw[hos];cases hb:(m.w==t)with
   |true=>exact(VY ho hat hb c1).mono fun e W' ⟨e1,e2⟩=>⟨e1,hB _ e2⟩
   |false=>exact(VX h ho hi hob hos hat hb hbx).mono fun e W' ⟨e1,e2⟩=>⟨e1,hup e2⟩
  |sm m=> obtain⟨gm,hos,hat⟩:=hat;rw[hos];exact(RA (b:=0) ho c1).mono fun e W' ⟨e1,e2⟩=>⟨e1,hB _ e2⟩
  |cd ws mh=> obtain⟨gm,gc,hos,hat⟩:=hat;rw[hos];exact(Rv (b:=0) ho c1).mono fun e W' ⟨e1,e2⟩=>⟨e1,hB _ e2⟩
  |on m=> obtain⟨gm,hos,hat⟩:=hat;rw[hos];exact(Rz ho hat c1).mono fun e W' ⟨e1,e2⟩=>⟨e1,hB _ e2⟩
  |gp m=> obtain⟨gm,hos,hat⟩:=hat;rw[hos];exact(Rx (b:=0) ho c1).mono fun e W' ⟨e1,e2⟩=>⟨e1,hB _ e2⟩
theorem Rd(h:yT γ B g p D)(ho:Own w0 w γ)(t:Int):Calls Tryz.prog 168 #[.p g,.i t] w (xj 20 w0 γ B g p D (.bool (D.holds t))):=by
 have hmf:∀(fn:Fn) (first cap:Array Value) (w:World),(Instr.makeFunc fn first cap).run Tryz.prog w=.ok (.func fn first cap) w:=fun _ _ _ _=>rfl;have o1:=ho.new (B+60) (.cells #[.i t] 3);have b1:=yQ γ (B+60) w.heap.size (.cells #[.i t] 3);have k1:∀k,yU 20 B k→put γ (B+60) w.heap.size (.cells #[.i t] 3) k=γ k:=fun k hk=>yO _ _ _ (by unfold yU at hk;omega);have h1:yT (put γ (B+60) w.heap.size (.cells #[.i t] 3)) B g p D:=h.wK fun k hk=>yO _ _ _ (by unfold xi at hk;omega);generalize put γ (B+60) w.heap.size (.cells #[.i t] 3)=γ1 at*;have q0:=o1.cell b1 (i:=0) (v:=.i t) rfl;by_cases ht:t<1
 ·rw[show D.holds t=false from if_pos ht];have dt:decide (t<1)=true:=by simpa using ht
  have HF:Hid (xj 20 w0 γ B g p D (.bool false) (.returned (.bool false)) (w.alloc (.cells #[.i t] 3))):=I ⟨rfl,γ1,o1,h1,k1⟩;clear h ho o1 b1 k1 h1 ht;go_in;go_wp2_with fail;go_ret;exact HF.out
 ·have hd:D.holds t=D.yX.any (kH t):=if_neg ht;rw[hd];have dt:decide (t<1)=false:=by simpa using ht
  have hol:p.os.length=8:=by have:=h1.yX.1;omega
  obtain⟨go,cgo,hvo,-⟩:=h1.yX.at_ o1 (i:=0) (by omega);have d2:(w.alloc (.cells #[.i t] 3)).cell? (zc g 2)=some (.slice (zb go) 8 cgo):=by rw[←hvo];exact o1.cell h1.xw rfl
  have hR0:pi w0 γ B g p D w.heap.size t (w.alloc (.cells #[.i t] 3)):=⟨γ1,o1,h1,b1,k1⟩;have hany:=Xc p.os D.yX (kH t) (by rw[hol,h1.ol])
  have hcall:=dH (w:=w.alloc (.cells #[.i t] 3)) (A:=zb go) (n:=8) (cap:=cgo) (l:=p.os.zip (D.yX.map (kH t))) (by rw[List.length_zip,zA,hol,h1.ol];rfl) (by omega) 207 #[.p w.heap.size] (enters_of Tryz.func207 (by kernel_rfl) rfl) Prod.snd (pi w0 γ B g p D w.heap.size t) hR0 (fun x hx W hW=>by
   obtain⟨i,hi⟩:=List.mem_iff_getElem?.1 hx;rw[List.getElem?_zip_eq_some,zx]at hi;obtain⟨e1,e2⟩:=hi;have hi8:i<8:=by have:=(zk.1 e1).1;omega
   have:=Ru hW hi8;rw[show p.os.getD i undef=x.1 by rw[zn,e1];rfl]at this;rw[show kH t (D.yX.getD i none)=x.2 by
    rw[zn];cases hq:D.yX[i]? with
    |none=>rw[hq]at e2;cases e2
    |some o=>rw[hq]at e2;exact Option.some.inj e2]at this;exact this)
   (fun W hW j x hj=>by
   obtain⟨γ2,o2,h2,-,-⟩:=hW;rw[List.getElem?_zip_eq_some]at hj;have hj8:j<8:=by have:=(zk.1 hj.1).1;omega
   obtain⟨go',c',hv',hc'⟩:=h2.yX.at_ o2 hj8;rw[hvo]at hv';cases hv';refine⟨go,rfl,hc'.trans ?_⟩;rw[zn,hj.1];rfl)
  rw[hany]at hcall;have HF:Hid (∀r W,pi w0 γ B g p D w.heap.size t W→xj 20 w0 γ B g p D r (.returned r) W):=I fun r W ⟨γ2,o2,h2,_,k2⟩=>⟨rfl,γ2,o2,h2,k2⟩;generalize D.yX.any (kH t)=R at*;clear h ho o1 b1 k1 h1 ht hd hol hvo hR0 hany;go_in;go_wp2_with fail;refine hcall.mono ?_;rintro e w2 ⟨rfl,hR⟩;have HG:=I (HF.out (.bool R) _ hR);clear hR hcall HF;go_wp2_with fail;go_ret;exact HG.out
theorem Q4(h:yT γ B g p D)(ho:Own w0 w γ)(t:Int)(hx:t≤9223372036854775807):Calls Tryz.prog 134 #[.p g,.i t] w (xj 20 w0 γ B g p (D.exit t).1 (.i (D.exit t).2)):=by
 have hh:=Rd h ho t;cases hb:D.holds t with
 |true=> rw[show D.exit t=(D,11)from if_pos hb];rw[hb]at hh;clear h ho hb;go_in;go_wp2_with fail;refine hh.mono ?_;rintro e w2 ⟨rfl,hex⟩;have HG:=I hex;clear hex hh;go_wp2_with fail;go_ret;exact⟨rfl,HG.out⟩
 |false=>
  rw[show D.exit t=({D with sv:=D.sv.exit t},0)from if_neg (by rw[hb];simp)];rw[hb]at hh;have hl:(D.sv.exit t).ar.pl.length≤8:=by
   have:=h.sl;unfold SV.exit;split
   ·exact this
   ·show(D.sv.ar.free t).pl.length≤8;rw[AV.gQ];exact this
  have HH:Hid (∀w1 γ1,Own w0 w1 γ1→yT γ1 B g p D→(∀k,yU 20 B k→γ1 k=γ k)→w1.cell? (zc g 0)=some (.p p.gt)∧Calls Tryz.prog 169 #[.p p.gt,.i t] w1 fun e w2=>e=.returned (.bool (D.sv.ar.place t != -1))∧xj 20 w0 γ B g p {D with sv:=D.sv.exit t} (.i 0) (.returned (.i 0)) w2):=I fun w1 γ1 o1 h1 k1=>⟨o1.cell h1.xw rfl,(PN h1.xD o1 t hx).mono fun e w2 ⟨q1,γ2,o2,s2,k2⟩=>⟨q1,rfl,γ2,o2,h1.qk s2 hl (fun k hk=>k2 k (by omega)),fun k hk=>(k2 k (by unfold yU at hk;omega)).trans (k1 k hk)⟩⟩;clear h ho hb;go_in;go_wp2_with fail;refine hh.mono ?_;rintro e w1 ⟨rfl,γ1,o1,h1,k1⟩;obtain⟨c0,hcall⟩:=HH.out w1 γ1 o1 h1 k1;clear HH hh o1 h1 k1;go_wp2_with fail;refine hcall.mono ?_;rintro e w2 ⟨rfl,hp2⟩;have HG:=I hp2;clear hp2 hcall;go_wp2_with fail;go_ret;exact HG.out
theorem Re(h:yT γ B g p D)(ho:Own w0 w γ):Calls Tryz.prog 133 #[.p g] w (xj 20 w0 γ B g p D.spawn.1 (.tuple #[.i D.spawn.2.1,.i D.spawn.2.2])):=by
 have c0:w.cell? (zc g 0)=some (.p p.gt):=ho.cell h.xw rfl;have hs:=XA h.xD ho;have hsl:=h.sl;cases hfr:D.sv.ar.fr with
 |nil=>
  have e1:D.spawn=(D,0,9):=by unfold Dm.spawn;rw[hfr]
  have e2:D.sv.ar.taken=.tuple #[.i 0,.bool false]:=by unfold AV.taken;rw[hfr]
  rw[e1];rw[e2,aJ hfr]at hs;have HF:Hid (∀w2 γ2,Own w0 w2 γ2→tS γ2 (B+10) p.gt D.sv→(∀k,(k<B+10∨B+10+10≤k)→γ2 k=γ k)→∃γ',Own w0 w2 γ'∧yT γ' B g p D∧∀k,yU 20 B k→γ' k=γ k):=I fun w2 γ2 o2 s2 k2=>⟨γ2,o2,h.qk s2 hsl (fun k hk=>k2 k (by omega)),fun k hk=>k2 k (by unfold yU at hk;omega)⟩;clear h ho hfr e1 e2;go_in;go_wp2_with fail;refine hs.mono ?_;rintro e w2 ⟨rfl,γ2,o2,s2,k2⟩;have HG:=I (HF.out _ _ o2 s2 k2);clear hs o2 s2 k2 HF;go_wp2_with fail;go_ret2;exact⟨rfl,HG.out⟩
 |cons i r=>
  have e1:D.spawn=({D with sv:=D.sv.spawn},D.sv.ar.hand i,0):=by unfold Dm.spawn;rw[hfr]
  have e2:D.sv.ar.taken=.tuple #[.i (D.sv.ar.hand i),.bool true]:=by unfold AV.taken;rw[hfr]
  rw[e1];rw[e2]at hs;have hl:D.sv.spawn.ar.pl.length≤8:=by
   rw[fq hfr];unfold SV.ready;split
   ·show D.sv.ar.take.pl.length≤8;rw[AV.take_len];exact hsl
   ·split<;>(show D.sv.ar.take.pl.length≤8;rw[AV.take_len];exact hsl)
  have HF:Hid (∀w2 γ2,Own w0 w2 γ2→tS γ2 (B+10) p.gt D.sv.spawn→(∀k,(k<B+10∨B+10+10≤k)→γ2 k=γ k)→∃γ',Own w0 w2 γ'∧yT γ' B g p {D with sv:=D.sv.spawn}∧∀k,yU 20 B k→γ' k=γ k):=I fun w2 γ2 o2 s2 k2=>⟨γ2,o2,h.qk s2 hl (fun k hk=>k2 k (by omega)),fun k hk=>k2 k (by unfold yU at hk;omega)⟩;generalize D.sv.ar.hand i=hd at*;clear h ho hfr e1 e2 hl;go_in;go_wp2_with fail;refine hs.mono ?_;rintro e w2 ⟨rfl,γ2,o2,s2,k2⟩;have HG:=I (HF.out _ _ o2 s2 k2);clear hs o2 s2 k2 HF;go_wp2_with fail;go_ret2;exact⟨rfl,HG.out⟩
end
end
section
open Go.RowKit Go.WideShapes
def Dm.yield(D:Dm)(t:Int):Dm:={D with sv:=D.sv.yield t}
def Dm.act(D:Dm)(t:Int)(x:En):Dm×Int×Int:=
 if x.op=1 then D.spawn
 else if x.op=2 then((D.exit t).1,0,(D.exit t).2)
 else if x.op=3 then(D.yield t,0,0)
 else if x.op=4 then(D,D.clock,0)
 else if x.op=5 then D.make x.a x.b
 else if x.op=6 then((D.free x.a).1,0,(D.free x.a).2)
 else if x.op=26 then((D.cancel x.a).1,0,(D.cancel x.a).2)
 else D.use t x
structure Dm.Zg (D:Dm) (t:Int) (x:En):Prop where
 t1:t≤9223372036854775807
 a1:x.a≤9223372036854775807
 b1:x.b≤9223372036854775807
 can:x.op=26→D.sN x.a=0→D.ri x.a
 use:D.tT t x
section
variable {w0 w:World} {γ γ':U} {b B g:Nat} {p:vG} {D:Dm} {s:SV}
theorem Qg(h:tS γ b g s)(ho:Own w0 w γ)(x:Int)(hx:x≤9223372036854775807):Calls Tryz.prog 135 #[.p g,.i x] w fun e w'=>∃r,ud w0 γ b g (s.yield x) (.bool r) e w':=by
 have hb:=bY h ho x hx;unfold SV.yield;cases hc:s.rR x with
 |false=> rw[hc]at hb;rw[if_neg (by simp)];clear h ho hc;show Calls _ _ _ _ (fun e w'=>∃r,ud w0 γ b g (s.block x) (.bool r) e w');go_in;go_wp2_with fail;refine hb.mono ?_;rintro e w' ⟨rfl,hex⟩;have HG:=I hex;clear hex hb;go_wp2_with fail;go_ret;exact⟨_,rfl,HG.out⟩
 |true=> rw[hc]at hb;rw[if_pos rfl];have HH:Hid (∀w1 γ1,Own w0 w1 γ1→tS γ1 b g (s.block x)→(∀k,(k<b∨b+10≤k)→γ1 k=γ k)→Calls Tryz.prog 85 #[.p g,.i x] w1 (ud w0 γ b g ((s.block x).ready x) (.bool ((s.block x).rG x)))):=I fun w1 γ1 o1 s1 k1=>(bZ s1 o1 x hx).mono fun e w2 ⟨q1,γ2,o2,s2,k2⟩=>⟨q1,γ2,o2,s2,fun k hk=>(k2 k hk).trans (k1 k hk)⟩;clear h ho hc;generalize(s.block x).rG x=rb at*;show Calls _ _ _ _ (fun e w'=>∃r,ud w0 γ b g ((s.block x).ready x) (.bool r) e w');go_in;go_wp2_with fail;refine hb.mono ?_;rintro e w1 ⟨rfl,γ1,o1,s1,k1⟩;have hr:=HH.out w1 γ1 o1 s1 k1;clear o1 s1 k1 hb HH;go_wp2_with fail;refine hr.mono ?_;rintro e w' ⟨rfl,hex⟩;have HG:=I hex;clear hex hr;go_wp2_with fail;go_ret;exact⟨_,rfl,HG.out⟩
theorem SV.Sl(s:SV)(x:Int):(s.yield x).ar=s.ar:=by
 have hb:(s.block x).ar=s.ar:=by unfold SV.block;split<;>rfl
 unfold SV.yield;split
 ·unfold SV.ready;split
  ·exact hb
  ·split<;>exact hb
 ·exact hb
theorem Te(h:yT γ B g p D)(ho:Own w0 w γ)(t:Int)(hx:t≤9223372036854775807)(hok:D.sN t=0→D.ri t):Calls Tryz.prog 138 #[.p g,.i t] w (xj 20 w0 γ B g p (D.cancel t).1 (.i (D.cancel t).2)):=by
 have hplc:=ur h.xD ho t hx;have c0:=ho.cell h.xw (i:=0) (v:=.p p.gt) rfl;by_cases hp:D.sv.ar.place t= -1
 ·have e1:D.sN t=7:=if_pos hp;rw[show D.cancel t=(D,7)by unfold Dm.cancel;rw[e1];rfl];have HF:=I (wC 20 h ho (.i 7));rw[hp]at hplc;clear h ho hok e1 hp;go_in;go_wp2_with fail;refine hplc.mono ?_;rintro e w' ⟨rfl,rfl⟩;go_wp2_with fail;go_ret;exact HF.out
 ·have hplt:=AV.wI h.xD.wV t;have hsl:=h.sl;obtain⟨pl,hpl⟩:∃pl:Nat,D.sv.ar.place t=pl:=⟨(D.sv.ar.place t).toNat,by omega⟩;have hpl8:pl<8:=by omega
  have hpl8':(pl:Int)<8:=by omega
  have hpe:D.pl t=pl:=by unfold Dm.pl;rw[hpl];rfl
  rw[hpl]at hplc;obtain⟨gv,cw,hvw,⟨q0,-,-,q3⟩,-⟩:=wM h.waits ho h.wl hpl8;have c6:w.cell? (zc g 6)=some (.slice (zb gv) 8 cw):=by rw[←hvw];exact ho.cell h.xw rfl
  have hE:D.sN t=if((D.waits.getD pl Wt.zero).xI==0)=true then 11 else if(D.waits.getD pl Wt.zero).again=true then 11 else 0:=by unfold Dm.sN;rw[if_neg hp,hpe]
  have HF:Hid (∀r,xj 20 w0 γ B g p D r (.returned r) w):=I fun r=>wC 20 h ho r;generalize(D.waits.getD pl Wt.zero).xI=tk at*;generalize(D.waits.getD pl Wt.zero).again=ag at*;cases h0:(tk==0)with
  |true=> rw[h0,if_pos rfl]at hE;rw[show D.cancel t=(D,11)by unfold Dm.cancel;rw[hE];rfl];clear h ho hok hE hp hpl hvw hpe;go_in;go_wp2_with fail;refine hplc.mono ?_;rintro e w' ⟨rfl,rfl⟩;go_wp2_with fail;go_ret;exact HF.out _
  |false=>
   rw[h0,if_neg (by simp)]at hE;cases ag with
   |true=> rw[if_pos rfl]at hE;rw[show D.cancel t=(D,11)by unfold Dm.cancel;rw[hE];rfl];clear h ho hok hE hp hpl hvw hpe;go_in;go_wp2_with fail;refine hplc.mono ?_;rintro e w' ⟨rfl,rfl⟩;go_wp2_with fail;go_ret;exact HF.out _
   |false=> rw[if_neg (by simp)]at hE;rw[show D.cancel t=(D.drop t 16,0)from if_pos hE];have hd:=Vm h ho t 16 (hok hE);clear h ho hok hE hp hpl hvw hpe HF;go_in;go_wp2_with fail;refine hplc.mono ?_;rintro e w' ⟨rfl,rfl⟩;go_wp2_with fail;refine hd.mono ?_;rintro e w2 ⟨⟨v,rfl⟩,γ2,o2,h2,k2⟩;have HG:Hid (xj 20 w0 γ B g p (D.drop t 16) (.i 0) (.returned (.i 0)) w2):=I ⟨rfl,γ2,o2,h2,fun k hk=>k2 k hk.out (by unfold yU at hk;omega)⟩;clear o2 h2 k2 hd;go_wp2_with fail;go_ret;exact HG.out
theorem Oa(h:yT γ B g p D)(ho:Own w0 w γ){t:Int}(x:En)(hok:D.Zg t x):Calls Tryz.prog 94 #[.p g,.i t,x.val] w (uo 35 w0 γ B g (D.act t x).1 (.tuple #[.i (D.act t x).2.1,.i (D.act t x).2.2])):=by
 obtain⟨γ1,o1,bx,k1⟩:∃γ1,Own w0 (w.alloc (.cells x.xq 38)) γ1∧γ1 (B+90)=some (w.heap.size,.cells x.xq 38 (0,0))∧∀k,k≠B+90→γ1 k=γ k:=⟨_,ho.new (B+90) _,yQ _ _ _ _,fun k hk=>yO _ _ _ hk⟩;have h1:yT γ1 B g p D:=h.wK fun k hk=>k1 k (by unfold xi at hk;omega);have hbx:=vD (w:=w) x;have r3:=hbx 3 (.i x.op) rfl;have r4:=hbx 4 (.i x.a) rfl;have r5:=hbx 5 (.i x.b) rfl;have r0:=hbx 0 (.i x.kind) rfl;have r1:=hbx 1 (.i x.xr) rfl;have r2:=hbx 2 (.i x.pick) rfl;have r6:=hbx 6 (.i x.c) rfl;have HA:Hid (∀(D':Dm) (r:Value) (e:Ending) (w':World) (n:Nat),n≤30→xj n w0 γ1 B g p D' r e w'→uo 35 w0 γ B g D' r e w'):=I fun D' r e w' n hn ⟨q1,γ2,q2,q3,q4⟩=>⟨q1,γ2,q2,⟨p,q3⟩,fun k hk=>(q4 k (by unfold yU at hk⊢;omega)).trans (k1 k (by unfold yU at hk;omega))⟩;have HB:Hid (∀(D':Dm) (r:Value) (e:Ending) (w':World),uo 30 w0 γ1 B g D' r e w'→uo 35 w0 γ B g D' r e w'):=I fun D' r e w' ⟨q1,γ2,q2,q3,q4⟩=>⟨q1,γ2,q2,q3,fun k hk=>(q4 k (by unfold yU at hk⊢;omega)).trans (k1 k (by unfold yU at hk;omega))⟩;have hval:x.val=.agg #[.i x.kind,.i x.xr,.i x.pick,.i x.op,.i x.a,.i x.b,.i x.c]:=rfl;have harr:x.xq=#[.i x.kind,.i x.xr,.i x.pick,.i x.op,.i x.a,.i x.b,.i x.c]:=rfl;by_cases c1:x.op=1
 ·skip;have hact:D.act t x=D.spawn:=by unfold Dm.act;rw[if_pos c1]
  rw[hact];clear hact;have hc:=(Re h1 o1).mono fun e w2 hp=>HA.out _ _ _ _ _ (by omega) hp;rw[hval];rw[harr]at r0 r1 r2 r3 r4 r5 r6 hc;have d1:(x.op==1)=true:=by simpa using c1
  clear h ho h1 o1 bx k1 hbx hval harr hok HA HB;generalize D.spawn=Q at*;obtain⟨D2,va,ve⟩:=Q;generalize x.op=op at*;clear c1;go_in;go_wp2_with fail;refine hc.mono ?_;rintro e w2 ⟨rfl,hp2⟩;have HG:=I hp2;clear hp2 hc;go_wp2_with fail;go_ret2;exact⟨rfl,HG.out⟩
 by_cases c2:x.op=2
 ·skip;have hact:D.act t x=((D.exit t).1,0,(D.exit t).2):=by unfold Dm.act;rw[if_neg c1];rw[if_pos c2]
  rw[hact];clear hact;have hc:=(Q4 h1 o1 t hok.t1).mono fun e w2 hp=>HA.out _ _ _ _ _ (by omega) hp;rw[hval];rw[harr]at r0 r1 r2 r3 r4 r5 r6 hc;have d1:(x.op==1)=false:=by simpa using c1
  have d2:(x.op==2)=true:=by simpa using c2
  clear h ho h1 o1 bx k1 hbx hval harr hok HA HB;generalize D.exit t=Q at*;obtain⟨D2,ve⟩:=Q;generalize x.op=op at*;clear c1 c2;go_in;go_wp2_with fail;refine hc.mono ?_;rintro e w2 ⟨rfl,hp2⟩;have HG:=I hp2;clear hp2 hc;go_wp2_with fail;go_ret2;exact⟨rfl,HG.out⟩
 by_cases c3:x.op=3
 ·skip;have hact:D.act t x=(D.yield t,0,0):=by unfold Dm.act;rw[if_neg c1];rw[if_neg c2];rw[if_pos c3]
  rw[hact];clear hact;have q0:=o1.cell h1.xw (i:=0) (v:=.p p.gt) rfl;have hl:(D.sv.yield t).ar.pl.length≤8:=by rw[SV.Sl];exact h1.sl
  have hc:Calls Tryz.prog 135 #[.p p.gt,.i t] (w.alloc (.cells x.xq 38)) fun e w2=>(∃r,e=.returned (.bool r))∧uo 35 w0 γ B g (D.yield t) (.tuple #[.i 0,.i 0]) (.returned (.tuple #[.i 0,.i 0])) w2:=(Qg h1.xD o1 t hok.t1).mono fun e w2 ⟨r,q1,γ2,q2,q3,q4⟩=>⟨⟨r,q1⟩,HA.out _ _ _ _ 20 (by omega) ⟨rfl,γ2,q2,h1.qk q3 hl (fun k hk=>q4 k (by omega)),fun k hk=>q4 k (by unfold yU at hk;omega)⟩⟩;rw[hval];rw[harr]at r0 r1 r2 r3 r4 r5 r6 hc q0;have d1:(x.op==1)=false:=by simpa using c1
  have d2:(x.op==2)=false:=by simpa using c2
  have d3:(x.op==3)=true:=by simpa using c3
  clear h ho h1 o1 bx k1 hbx hval harr hok HA HB hl;generalize D.yield t=D2 at*;generalize x.op=op at*;clear c1 c2 c3;go_in;go_wp2_with fail;refine hc.mono ?_;rintro e w2 ⟨⟨r,rfl⟩,hp2⟩;have HG:=I hp2;clear hp2 hc;go_wp2_with fail;go_ret2;exact HG.out
 by_cases c4:x.op=4
 ·skip;have hact:D.act t x=(D,D.clock,0):=by unfold Dm.act;rw[if_neg c1];rw[if_neg c2];rw[if_neg c3];rw[if_pos c4]
  rw[hact];clear hact;have q8:=o1.cell h1.xw (i:=8) (v:=.i D.clock) rfl;have HG:=I (HA.out _ _ _ _ 20 (by omega) (wC 20 h1 o1 (.tuple #[.i D.clock,.i 0])));rw[hval];rw[harr]at r0 r1 r2 r3 r4 r5 r6 q8 HG;have d1:(x.op==1)=false:=by simpa using c1
  have d2:(x.op==2)=false:=by simpa using c2
  have d3:(x.op==3)=false:=by simpa using c3
  have d4:(x.op==4)=true:=by simpa using c4
  clear h ho h1 o1 bx k1 hbx hval harr hok HA HB;generalize D.clock=cl at*;generalize x.op=op at*;clear c1 c2 c3 c4;go_in;go_wp2_with fail;go_ret2;exact HG.out
 by_cases c5:x.op=5
 ·skip;have hact:D.act t x=D.make x.a x.b:=by unfold Dm.act;rw[if_neg c1];rw[if_neg c2];rw[if_neg c3];rw[if_neg c4];rw[if_pos c5]
  rw[hact];clear hact;have hc:=(Q8 h1 o1 x.a x.b hok.b1).mono fun e w2 hp=>HB.out _ _ _ _ hp;rw[hval];rw[harr]at r0 r1 r2 r3 r4 r5 r6 hc;have d1:(x.op==1)=false:=by simpa using c1
  have d2:(x.op==2)=false:=by simpa using c2
  have d3:(x.op==3)=false:=by simpa using c3
  have d4:(x.op==4)=false:=by simpa using c4
  have d5:(x.op==5)=true:=by simpa using c5
  clear h ho h1 o1 bx k1 hbx hval harr hok HA HB;generalize D.make x.a x.b=Q at*;obtain⟨D2,va,ve⟩:=Q;generalize x.op=op at*;clear c1 c2 c3 c4 c5;go_in;go_wp2_with fail;refine hc.mono ?_;rintro e w2 ⟨rfl,hp2⟩;have HG:=I hp2;clear hp2 hc;go_wp2_with fail;go_ret2;exact⟨rfl,HG.out⟩
 by_cases c6:x.op=6
 ·skip;have hact:D.act t x=((D.free x.a).1,0,(D.free x.a).2):=by unfold Dm.act;rw[if_neg c1];rw[if_neg c2];rw[if_neg c3];rw[if_neg c4];rw[if_neg c5];rw[if_pos c6]
  rw[hact];clear hact;have hc:=(Q6 h1 o1 x.a hok.a1).mono fun e w2 hp=>HB.out _ _ _ _ hp;rw[hval];rw[harr]at r0 r1 r2 r3 r4 r5 r6 hc;have d1:(x.op==1)=false:=by simpa using c1
  have d2:(x.op==2)=false:=by simpa using c2
  have d3:(x.op==3)=false:=by simpa using c3
  have d4:(x.op==4)=false:=by simpa using c4
  have d5:(x.op==5)=false:=by simpa using c5
  have d6:(x.op==6)=true:=by simpa using c6
  clear h ho h1 o1 bx k1 hbx hval harr hok HA HB;generalize D.free x.a=Q at*;obtain⟨D2,ve⟩:=Q;generalize x.op=op at*;clear c1 c2 c3 c4 c5 c6;go_in;go_wp2_with fail;refine hc.mono ?_;rintro e w2 ⟨rfl,hp2⟩;have HG:=I hp2;clear hp2 hc;go_wp2_with fail;go_ret2;exact⟨rfl,HG.out⟩
 by_cases c26:x.op=26
 ·skip;have hact:D.act t x=((D.cancel x.a).1,0,(D.cancel x.a).2):=by unfold Dm.act;rw[if_neg c1];rw[if_neg c2];rw[if_neg c3];rw[if_neg c4];rw[if_neg c5];rw[if_neg c6];rw[if_pos c26]
  rw[hact];clear hact;have hc:=(Te h1 o1 x.a hok.a1 (hok.can c26)).mono fun e w2 hp=>HA.out _ _ _ _ _ (by omega) hp;rw[hval];rw[harr]at r0 r1 r2 r3 r4 r5 r6 hc;have d1:(x.op==1)=false:=by simpa using c1
  have d2:(x.op==2)=false:=by simpa using c2
  have d3:(x.op==3)=false:=by simpa using c3
  have d4:(x.op==4)=false:=by simpa using c4
  have d5:(x.op==5)=false:=by simpa using c5
  have d6:(x.op==6)=false:=by simpa using c6
  have d26:(x.op==26)=true:=by simpa using c26
  clear h ho h1 o1 bx k1 hbx hval harr hok HA HB;generalize D.cancel x.a=Q at*;obtain⟨D2,ve⟩:=Q;generalize x.op=op at*;clear c1 c2 c3 c4 c5 c6 c26;go_in;go_wp2_with fail;refine hc.mono ?_;rintro e w2 ⟨rfl,hp2⟩;have HG:=I hp2;clear hp2 hc;go_wp2_with fail;go_ret2;exact⟨rfl,HG.out⟩
 have hact:D.act t x=D.use t x:=by unfold Dm.act;rw[if_neg c1];rw[if_neg c2];rw[if_neg c3];rw[if_neg c4];rw[if_neg c5];rw[if_neg c6];rw[if_neg c26];skip
 rw[hact];clear hact;have hc:=(Oe h1 o1 x hok.use).mono fun e w2 hp=>HA.out _ _ _ _ _ (by omega) hp;rw[hval]at hc;rw[hval];rw[harr]at r0 r1 r2 r3 r4 r5 r6 hc;have d1:(x.op==1)=false:=by simpa using c1
 have d2:(x.op==2)=false:=by simpa using c2
 have d3:(x.op==3)=false:=by simpa using c3
 have d4:(x.op==4)=false:=by simpa using c4
 have d5:(x.op==5)=false:=by simpa using c5
 have d6:(x.op==6)=false:=by simpa using c6
 have d26:(x.op==26)=false:=by simpa using c26
 clear h ho h1 o1 bx k1 hbx hval harr hok HA HB;generalize D.use t x=Q at*;obtain⟨D2,va,ve⟩:=Q;generalize x.op=op at*;clear c1 c2 c3 c4 c5 c6 c26;go_in;go_wp2_with fail;refine hc.mono ?_;rintro e w2 ⟨rfl,hp2⟩;have HG:=I hp2;clear hp2 hc;go_wp2_with fail;go_ret2;exact⟨rfl,HG.out⟩
end
end
section
theorem Z4{α β:Type}{f:α→β}{l:List α}(hf:∀x∈l,∀y∈l,f x=f y→x=y)(hn:l.Nodup):(l.map f).Nodup:=List.pairwise_map.2 (List.Pairwise.imp_of_mem (fun{a b} ha hb h e=>h (hf a ha b hb e)) hn)
section
variable {v:AV}
theorem AV.wU(hv:v.Ok){x:Int}{i:Nat}:v.place x=i↔(∃g,v.pl[i]? =some (g,true))∧v.hand i=x:=by
 constructor
 ·intro h;unfold AV.place at h;by_cases h1:x<1
  ·rw[if_pos h1]at h;omega
  ·rw[if_neg h1]at h;cases hp:v.pl[Ar.ix x]? with
   |none=>rw[hp]at h;replace h:(-1:Int)=i:=h;omega
   |some p=>
    rw[hp]at h;obtain⟨g,t⟩:=p;by_cases h2:t=true∧v.hand (Ar.ix x)=x
    ·simp only[if_pos h2]at h;have e:Ar.ix x=i:=by omega
     rw[←e];exact⟨⟨g,by rw[hp,h2.1]⟩,h2.2⟩
    ·simp only[if_neg h2]at h;omega
 ·rintro⟨⟨g,hg⟩,rfl⟩;obtain⟨h1,h2,h3⟩:=AV.sQ hv (zk.1 hg).1;unfold AV.place;rw[if_neg (by omega),h1,hg];exact if_pos ⟨rfl,rfl⟩
theorem AV.xv(hv:v.Ok){x:Int}(h:v.place x≠ -1):∃i:Nat,v.place x=i∧i<v.pl.length∧i=(v.place x).toNat:=by have:=AV.wI hv x;exact⟨(v.place x).toNat,by omega,by omega,rfl⟩
theorem AV.wJ{x:Int}(h:v.place x≠ -1):1≤x:=by
 unfold AV.place at h;by_cases h1:x<1
 ·rw[if_pos h1]at h;exact absurd rfl h
 ·omega
theorem AV.pL(hv:v.Ok){x y:Int}(hx:v.place x≠ -1)(h:v.place x=v.place y):x=y:=by obtain⟨i,hi,-,-⟩:=AV.xv hv hx;have e1:=((AV.wU hv).1 hi).2;have e2:=((AV.wU hv).1 (h ▸ hi)).2;rw[←e1,←e2]
theorem AV.rD(hv:v.Ok){x:Int}(h:v.place x≠ -1):x≤4096:=by obtain⟨i,hi,hl,-⟩:=AV.xv hv h;have e1:=((AV.wU hv).1 hi).2;rw[←e1];exact(AV.sQ hv hl).2.2
theorem AV.Uo{v':AV}(hv:v.Ok)(hv':v'.Ok){x:Int}(h:∀i:Nat,v.place x=i↔v'.place x=i):v.place x=v'.place x:=by
 have h1:=AV.wI hv x;have h2:=AV.wI hv' x;by_cases e:v.place x= -1
 ·by_cases e':v'.place x= -1
  ·rw[e,e']
  ·obtain⟨i,hi,-,-⟩:=AV.xv hv' e';rw[hi,(h i).2 hi]
 ·obtain⟨i,hi,-,-⟩:=AV.xv hv e;rw[hi,(h i).1 hi]
theorem AV.take_cons{i:Nat}{r:List Nat}(hf:v.fr=i::r):v.take=⟨v.pl.modify i fun p=>(p.1,true),r⟩:=by unfold AV.take;rw[hf]
theorem AV.qy{i:Nat}{r:List Nat}(hf:v.fr=i::r)(k:Nat):v.take.pl[k]? =if i=k then(v.pl[k]?).map (fun p=>(p.1,true))else v.pl[k]? :=by rw[AV.take_cons hf];show(v.pl.modify i _)[k]? =_;rw[List.getElem?_modify];split<;>simp
theorem AV.jH{i:Nat}{r:List Nat}(hf:v.fr=i::r)(k:Nat):v.take.hand k=v.hand k:=by
 unfold AV.hand;rw[AV.qy hf];by_cases e:i=k
 ·rw[if_pos e];cases v.pl[k]? <;>rfl
 ·rw[if_neg e]
theorem AV.eM(hv:v.Ok){i:Nat}{r:List Nat}(hf:v.fr=i::r):v.take.Ok where
 len:=by rw[AV.take_len];exact hv.len
 gen:=fun k p hp=>by
  rw[AV.qy hf]at hp
  by_cases e:i=k
  ·rw[if_pos e]at hp
   cases hq:v.pl[k]? with
   |none=>rw[hq]at hp;cases hp
   |some q=>rw[hq]at hp;cases hp;exact hv.gen k q hq
  ·rw[if_neg e]at hp
   exact hv.gen k p hp
 fr:=fun k hk=>by
  have hd:=hv.dup
  rw[hf]at hd
  have hk':k∈r:=by rw[AV.take_cons hf]at hk;exact hk
  have hne:i≠k:=fun e=>by subst e;exact(zN.1 hd).1 hk'
  rw[AV.qy hf,if_neg hne]
  exact hv.fr k (by rw[hf];exact yJ _ hk')
 dup:=by
  have hd:=hv.dup
  rw[hf]at hd
  rw[AV.take_cons hf]
  exact(zN.1 hd).2
theorem AV.Yo(hv:v.Ok){i:Nat}{r:List Nat}(hf:v.fr=i::r):v.place (v.hand i)= -1:=by
 obtain⟨g,hg⟩:=hv.fr i (by rw[hf];simp);by_cases e:v.place (v.hand i)= -1
 ·exact e
 ·obtain⟨k,hk,hl,-⟩:=AV.xv hv e;obtain⟨⟨g',hg'⟩,hh⟩:=(AV.wU hv).1 hk;have e1:=(AV.sQ hv hl).1;have e2:=(AV.sQ hv (zk.1 hg).1).1;rw[hh,e2]at e1;subst e1;rw[hg]at hg';cases hg'
theorem AV.WL(hv:v.Ok){i:Nat}{r:List Nat}(hf:v.fr=i::r){x:Int}(hx:x≠v.hand i):v.take.place x=v.place x:=by
 refine(AV.Uo hv (AV.eM hv hf) fun k=>?_).symm;rw[AV.wU hv,AV.wU (AV.eM hv hf),AV.jH hf,AV.qy hf];by_cases e:i=k
 ·subst e;exact⟨fun h=>absurd h.2.symm hx,fun h=>absurd h.2.symm hx⟩
 ·rw[if_neg e]
theorem AV.er(hv:v.Ok){i:Nat}{r:List Nat}(hf:v.fr=i::r){x:Int}(hx:v.place x≠ -1):v.take.place x=v.place x:=AV.WL hv hf fun e=>hx (e ▸ AV.Yo hv hf)
theorem AV.qV(v:AV)(i k:Nat)(h:i≠k):(v.wP i).pl[k]? =v.pl[k]? :=by
 unfold AV.wP;split
 ·split
  ·exact zt h
  ·exact zt h
 ·rfl
theorem AV.jk(v:AV)(i:Nat){g:Nat}{b:Bool}(h:v.pl[i]? =some (g,b)):(v.wP i).pl[i]? =some (if g<255 then g+1 else g,false):=by
 have hl:=(zk.1 h).1;unfold AV.wP;rw[h];show(if g<255 then _ else _:AV).pl[i]? =_;split
 ·exact zp hl
 ·exact zp hl
theorem AV.ap(v:AV)(i k:Nat)(h:i≠k):(v.wP i).hand k=v.hand k:=by unfold AV.hand;rw[AV.qV _ _ _ h]
theorem AV.Xo(v:AV)(i:Nat){g:Nat}{b:Bool}(h:v.pl[i]? =some (g,b)):(v.wP i).fr=if g<255 then i::v.fr else v.fr:=by unfold AV.wP;rw[h];show(if g<255 then _ else _:AV).fr=_;split<;>rfl
theorem AV.bK(hv:v.Ok){i g:Nat}(h:v.pl[i]? =some (g,true)):(v.wP i).Ok where
 len:=by rw[AV.gR];exact hv.len
 gen:=fun k p hp=>by
  by_cases e:i=k
  ·subst e
   rw[AV.jk v i h]at hp
   cases hp
   have:=hv.gen i _ h
   show(if g<255 then g+1 else g)≤255
   split<;>omega
  ·rw[AV.qV _ _ _ e]at hp
   exact hv.gen k p hp
 fr:=fun k hk=>by
  by_cases e:i=k
  ·subst e
   exact⟨_,AV.jk v i h⟩
  ·rw[AV.qV _ _ _ e]
   refine hv.fr k ?_
   rw[AV.Xo v i h]at hk
   split at hk
   ·exact(List.mem_cons.1 hk).resolve_left (Ne.symm e)
   ·exact hk
 dup:=by
  rw[AV.Xo v i h]
  split
  ·refine zN.2 ⟨fun hi=>?_,hv.dup⟩
   obtain⟨g',hg'⟩:=hv.fr i hi
   rw[h]at hg'
   cases hg'
  ·exact hv.dup
theorem AV.qq(hv:v.Ok){x:Int}{i:Nat}(h:v.place x=i):v.free x=v.wP i:=by unfold AV.free;rw[if_neg (by omega),h];rfl
theorem AV.Xn(hv:v.Ok)(x:Int):(v.free x).Ok:=by
 by_cases e:v.place x= -1
 ·rw[show v.free x=v from if_pos e];exact hv
 ·obtain⟨i,hi,-,-⟩:=AV.xv hv e;obtain⟨⟨g,hg⟩,-⟩:=(AV.wU hv).1 hi;rw[AV.qq hv hi];exact AV.bK hv hg
theorem AV.OV(hv:v.Ok){x:Int}:(v.free x).place x= -1:=by
 by_cases e:v.place x= -1
 ·rw[show v.free x=v from if_pos e];exact e
 ·obtain⟨i,hi,-,-⟩:=AV.xv hv e;obtain⟨⟨g,hg⟩,hh⟩:=(AV.wU hv).1 hi;have hok:=AV.Xn hv x;by_cases e':(v.free x).place x= -1
  ·exact e'
  ·obtain⟨k,hk,hl,-⟩:=AV.xv hok e';have h2:=(AV.wU hok).1 hk;have e1:=(AV.sQ hok hl).1;rw[h2.2,←hh,(AV.sQ hv (zk.1 hg).1).1]at e1;subst e1;rw[AV.qq hv hi,AV.jk v i hg]at h2;obtain⟨g',h3⟩:=h2.1;cases h3
theorem AV.cD(hv:v.Ok){x y:Int}(hne:y≠x)(hy:v.place y≠ -1):(v.free x).place y=v.place y:=by
 by_cases e:v.place x= -1
 ·rw[show v.free x=v from if_pos e]
 ·obtain⟨i,hi,-,-⟩:=AV.xv hv e;obtain⟨k,hk,-,-⟩:=AV.xv hv hy;have hik:i≠k:=fun e2=>by subst e2;exact hne ((AV.pL hv hy (by rw[hi,hk])))
  obtain⟨⟨g,hg⟩,-⟩:=(AV.wU hv).1 hi;have h2:=(AV.wU hv).1 hk;rw[AV.qq hv hi,hk];refine(AV.wU (AV.bK hv hg)).2 ?_;rw[AV.qV _ _ _ hik,AV.ap _ _ _ hik];exact h2
theorem AV.many(hv:v.Ok){l:List Int}(hl:∀x∈l,v.place x≠ -1)(hn:l.Nodup):l.length≤v.pl.length:=by have h1:(l.map fun x=>(v.place x).toNat).Nodup:=Z4 (fun x hx y hy e=>AV.pL hv (hl x hx) (by have:=AV.wI hv x;have:=AV.wI hv y;have:=hl x hx;have:=hl y hy;omega)) hn;have:=gY v.pl.length _ h1 (fun i hi=>by obtain⟨x,hx,rfl⟩:=yc.1 hi;have:=AV.wI hv x;have:=hl x hx;omega);rwa[zA]at this
end
end
section
def wz:Option Ob→List Int
 |some (.mu m)=>m.ws
 |some (.rw m)=>m.ws++m.rd
 |some (.sm m)=>m.ws.map Prod.fst
 |some (.cd ws _)=>ws
 |some (.on m)=>m.ws
 |some (.gp m)=>m.ws
 |none=>[]
def uc:Option Ob→Prop
 |some (.mu m)=>m.ws≠[]→m.h≠0
 |some (.rw m)=>m.ws≠[]∨m.rd≠[]→m.w≠0∨m.rs≠[]
 |some (.on m)=>m.ws≠[]→m.d≠0
 |some (.gp m)=>(m.ws≠[]→m.n≠0)∧0≤m.n∧m.n≤1048576
 |_=>True
abbrev Dm.wt(D:Dm)(i:Nat):Wt:=D.waits.getD i Wt.zero
abbrev Dm.obj(D:Dm)(j:Nat):Option Ob:=D.yX.getD j none
structure yS (D:Dm) (F:List Int):Prop where
 vr:D.sv.ar.Ok
 wV:D.av.Ok
 sl:D.sv.ar.pl.length≤8
 al:D.av.pl.length≤8
 ol:D.yX.length=8
 wl:D.waits.length=8
 wD:∀i g,D.sv.ar.pl[i]? =some (g,true)→D.sv.wD.getD i 0=D.sv.ar.hand i
 tI:D.sv.wD.length=D.sv.ar.pl.length
 run:∀i∈D.sv.run,∃g,D.sv.ar.pl[i]? =some (g,true)
 rn:D.sv.run.Nodup
 w1:∀i,(D.wt i).xI≠0→D.sv.ar.place (D.wt i).xI=i∧i∉D.sv.run∧((D.wt i).xI∈F∨(D.av.place (D.wt i).obj≠ -1∧(D.wt i).xI∈wz (D.ob (D.wt i).obj)∧((D.wt i).again=true→∃m,D.ob (D.wt i).obj=some (.mu m))))
 w2:∀j t,t∈wz (D.obj j)→D.sv.ar.place t≠ -1∧(D.wt (D.pl t)).xI=t∧D.av.place (D.wt (D.pl t)).obj=j∧t∉F
 nd:∀j,(wz (D.obj j)).Nodup
 use:∀j,uc (D.obj j)
 cd:∀j ws mh,D.obj j=some (.cd ws mh)→D.av.place mh≠ -1∧∃m,D.ob mh=some (.mu m)∧m.h∉ws
 fr:∀j o,D.obj j=some o→∃g,D.av.pl[j]? =some (g,true)
 fl:∀t∈F,D.sv.ar.place t≠ -1∧(D.wt (D.pl t)).xI=t
 fn:F.Nodup
 bu:∀p∈D.bu.l,D.sv.ar.place p.1≠ -1∧D.pl p.1∉D.sv.run∧(D.wt (D.pl p.1)).xI=0
 bd:(D.bu.l.map Prod.fst).Nodup
 bm:D.bu.xE=D.sv.ar.pl.length
 th:∀j m,D.obj j=some (.rw m)→(m.rs++m.rd).Nodup∧∀x∈m.rs,D.sv.ar.place x≠ -1
theorem kG{α:Type}(l:List α)(i k:Nat)(x d:α):(l.set i x).getD k d=if i=k∧i<l.length then x else l.getD k d:=by
 by_cases e:i=k
 ·subst e;by_cases h:i<l.length
  ·rw[if_pos ⟨rfl,h⟩,wq h]
  ·rw[if_neg (fun c=>h c.2),List.set_eq_of_length_le (by omega)]
 ·rw[if_neg (fun c=>e c.1),ub e]
section
variable {D:Dm} {F:List Int}
theorem yS.jq(h:yS D F){t:Int}(ht:D.sv.ar.place t≠ -1):D.sv.ar.place t=D.pl t∧D.pl t<8:=by have:=AV.wI h.vr t;have:=h.sl;unfold Dm.pl;omega
theorem yS.Zo(h:yS D F){t u:Int}(ht:D.sv.ar.place t≠ -1)(hu:D.sv.ar.place u≠ -1)(hne:t≠u):D.pl t≠D.pl u:=fun e=>hne (AV.pL h.vr ht (by rw[(h.jq ht).1,(h.jq hu).1,e]))
theorem yS.cQ(h:yS D F){i:Nat}(hi:(D.wt i).xI≠0):D.pl (D.wt i).xI=i∧D.sv.ar.place (D.wt i).xI≠ -1:=by have:=(h.w1 i hi).1;unfold Dm.pl;omega
theorem yS.uZ(h:yS D F){t:Int}(ht:D.sv.ar.place t≠ -1)(x:Wt)(k:Nat):(D.waits.set (D.pl t) x).getD k Wt.zero=if D.pl t=k then x else D.wt k:=by
 rw[kG];have:=(h.jq ht).2;by_cases e:D.pl t=k
 ·rw[if_pos e,if_pos ⟨e,by rw[h.wl];exact this⟩]
 ·rw[if_neg e,if_neg (fun c=>e c.1)]
theorem yS.OI(h:yS D F)(w:Wh):yS {D with wh:=w} F:=⟨h.vr,h.wV,h.sl,h.al,h.ol,h.wl,h.wD,h.tI,h.run,h.rn,h.w1,h.w2,h.nd,h.use,h.cd,h.fr,h.fl,h.fn,h.bu,h.bd,h.bm,h.th⟩
theorem yS.Yg(h:yS D F)(c:Int):yS {D with clock:=c} F:=⟨h.vr,h.wV,h.sl,h.al,h.ol,h.wl,h.wD,h.tI,h.run,h.rn,h.w1,h.w2,h.nd,h.use,h.cd,h.fr,h.fl,h.fn,h.bu,h.bd,h.bm,h.th⟩
theorem yS.gu(h:yS D F)(l:List xN):yS {D with seen:=l} F:=⟨h.vr,h.wV,h.sl,h.al,h.ol,h.wl,h.wD,h.tI,h.run,h.rn,h.w1,h.w2,h.nd,h.use,h.cd,h.fr,h.fl,h.fn,h.bu,h.bd,h.bm,h.th⟩
theorem yS.SG(h:yS D F){t:Int}(ht:D.sv.ar.place t≠ -1)(h0:(D.wt (D.pl t)).xI=t)(x:Wt)(hx:x.xI=t)
 (hk:t∈F∨(x.obj=(D.wt (D.pl t)).obj∧(x.again=true→(D.wt (D.pl t)).again=true))):yS {D with waits:=D.waits.set (D.pl t) x} F where
 vr:=h.vr
 wV:=h.wV
 sl:=h.sl
 al:=h.al
 ol:=h.ol
 wl:=by show(D.waits.set _ _).length=8;rw[zq];exact h.wl
 wD:=h.wD
 tI:=h.tI
 run:=h.run
 rn:=h.rn
 w1:=fun i=>by
  have hp:=AV.wJ ht
  show((D.waits.set (D.pl t) x).getD i Wt.zero).xI≠0→_
  intro h1
  show D.sv.ar.place ((D.waits.set (D.pl t) x).getD i Wt.zero).xI=i∧i∉D.sv.run∧(((D.waits.set (D.pl t) x).getD i Wt.zero).xI∈F∨(D.av.place ((D.waits.set (D.pl t) x).getD i Wt.zero).obj≠ -1∧((D.waits.set (D.pl t) x).getD i Wt.zero).xI∈wz (D.ob ((D.waits.set (D.pl t) x).getD i Wt.zero).obj)∧(((D.waits.set (D.pl t) x).getD i Wt.zero).again=true→∃m,D.ob ((D.waits.set (D.pl t) x).getD i Wt.zero).obj=some (.mu m))))
  rw[h.uZ ht]at h1⊢
  by_cases e:D.pl t=i
  ·rw[if_pos e]at h1⊢
   subst e
   obtain⟨q1,q2,q3⟩:=h.w1 (D.pl t) (by omega)
   rw[h0]at q1 q3
   rw[hx]
   refine⟨q1,q2,?_⟩
   rcases hk with hk|⟨hk1,hk2⟩
   ·exact .inl hk
   ·rw[hk1]
    rcases q3 with q3|⟨q3,q4,q5⟩
    ·exact .inl q3
    ·exact .inr ⟨q3,q4,fun ha=>q5 (hk2 ha)⟩
  ·rw[if_neg e]at h1⊢
   exact h.w1 i h1
 w2:=fun j u hu=>by
  obtain⟨q1,q2,q3,q4⟩:=h.w2 j u hu
  show D.sv.ar.place u≠ -1∧((D.waits.set (D.pl t) x).getD (D.pl u) Wt.zero).xI=u∧D.av.place ((D.waits.set (D.pl t) x).getD (D.pl u) Wt.zero).obj=j∧u∉F
  rw[h.uZ ht]
  by_cases e:D.pl t=D.pl u
  ·have:t=u:=zC fun hne=>h.Zo ht q1 hne e
   subst this
   rw[if_pos e]
   rcases hk with hk|⟨hk1,hk2⟩
   ·exact absurd hk q4
   ·rw[hk1]
    exact⟨q1,hx,q3,q4⟩
  ·rw[if_neg e]
   exact⟨q1,q2,q3,q4⟩
 nd:=h.nd
 use:=h.use
 cd:=h.cd
 fr:=h.fr
 fl:=fun u hu=>by
  obtain⟨q1,q2⟩:=h.fl u hu
  show D.sv.ar.place u≠ -1∧((D.waits.set (D.pl t) x).getD (D.pl u) Wt.zero).xI=u
  rw[h.uZ ht]
  by_cases e:D.pl t=D.pl u
  ·have:t=u:=zC fun hne=>h.Zo ht q1 hne e
   subst this
   rw[if_pos e]
   exact⟨q1,hx⟩
  ·rw[if_neg e]
   exact⟨q1,q2⟩
 fn:=h.fn
 bu:=fun p hp=>by
  obtain⟨q1,q2,q3⟩:=h.bu p hp
  refine⟨q1,q2,?_⟩
  show((D.waits.set (D.pl t) x).getD (D.pl p.1) Wt.zero).xI=0
  rw[h.uZ ht]
  by_cases e:D.pl t=D.pl p.1
  ·rw[←e,h0]at q3
   have:=AV.wJ ht
   omega
  ·rw[if_neg e]
   exact q3
 bd:=h.bd
 bm:=h.bm
 th:=h.th
theorem Bu.fW(m:Bu)(x:Int×Int):m.put x=m∨(m.put x={m with l:=m.l++[x]}∧x.1∉m.l.map Prod.fst):=by
 unfold Bu.put;by_cases e:m.no x=true
 ·exact .inl (if_pos e)
 ·refine .inr ⟨if_neg e,fun hm=>e ?_⟩;obtain⟨p,hp,hpe⟩:=yc.1 hm;unfold Bu.no;rw[Bool.or_eq_true];exact .inr (z7.2 ⟨p,hp,by simpa using hpe⟩)
theorem Bu.TM(m:Bu)(x:Int×Int):(m.put x).xE=m.xE:=by rcases Bu.fW m x with e|⟨e,_⟩<;>rw[e]
theorem yS.wN(h:yS D F){t:Int}(hF:t∈F):yS (D.wN t) (F.erase t):=by
 obtain⟨ht,h0⟩:=h.fl t hF;have hp:=AV.wJ ht;have hw:=h.w1 (D.pl t) (by omega);rw[h0]at hw;have hx:∀u,u∈F.erase t→u∈F∧u≠t:=fun u hu=>⟨zK hu,fun e=>by subst e;exact absurd hu (by rw[h.fn.mem_erase_iff];simp)⟩
 exact{
  vr:=h.vr,wV:=h.wV,sl:=h.sl,al:=h.al,ol:=h.ol,wl:=by show(D.waits.set _ _).length=8;rw[zq];exact h.wl,wD:=h.wD,tI:=h.tI,run:=h.run,rn:=h.rn,w1:=fun i=>(by
   show((D.waits.set (D.pl t) Wt.zero).getD i Wt.zero).xI≠0→D.sv.ar.place ((D.waits.set (D.pl t) Wt.zero).getD i Wt.zero).xI=i∧i∉D.sv.run∧(((D.waits.set (D.pl t) Wt.zero).getD i Wt.zero).xI∈F.erase t∨(D.av.place ((D.waits.set (D.pl t) Wt.zero).getD i Wt.zero).obj≠ -1∧((D.waits.set (D.pl t) Wt.zero).getD i Wt.zero).xI∈wz (D.ob ((D.waits.set (D.pl t) Wt.zero).getD i Wt.zero).obj)∧(((D.waits.set (D.pl t) Wt.zero).getD i Wt.zero).again=true→∃m,D.ob ((D.waits.set (D.pl t) Wt.zero).getD i Wt.zero).obj=some (.mu m))));rw[h.uZ ht];by_cases e:D.pl t=i
   ·rw[if_pos e];intro h1;exact absurd rfl h1
   ·rw[if_neg e];intro h1;obtain⟨q1,q2,q3⟩:=h.w1 i h1;refine⟨q1,q2,?_⟩;rcases q3 with q3|q3
    ·exact .inl ((List.mem_erase_of_ne (fun e2=>e (by rw[←e2];exact(h.cQ h1).1))).2 q3)
    ·exact .inr q3),
  w2:=fun j u hu=>by obtain⟨q1,q2,q3,q4⟩:=h.w2 j u hu;have hne:t≠u:=fun e=>q4 (e ▸ hF);show D.sv.ar.place u≠ -1∧((D.waits.set (D.pl t) Wt.zero).getD (D.pl u) Wt.zero).xI=u∧D.av.place ((D.waits.set (D.pl t) Wt.zero).getD (D.pl u) Wt.zero).obj=j∧u∉F.erase t;rw[h.uZ ht,if_neg (h.Zo ht q1 hne)];exact⟨q1,q2,q3,fun hc=>q4 (hx u hc).1⟩,nd:=h.nd,use:=h.use,cd:=h.cd,fr:=h.fr,fl:=fun u hu=>by obtain⟨q1,q2⟩:=h.fl u (hx u hu).1;show D.sv.ar.place u≠ -1∧((D.waits.set (D.pl t) Wt.zero).getD (D.pl u) Wt.zero).xI=u;rw[h.uZ ht,if_neg (h.Zo ht q1 (Ne.symm (hx u hu).2))];exact⟨q1,q2⟩,fn:=h.fn.erase _,bu:=fun p hpm=>(by
   have hold:∀p∈D.bu.l,D.sv.ar.place p.1≠ -1∧D.pl p.1∉D.sv.run∧((D.waits.set (D.pl t) Wt.zero).getD (D.pl p.1) Wt.zero).xI=0:=fun p hpm=>by
    obtain⟨q1,q2,q3⟩:=h.bu p hpm;refine⟨q1,q2,?_⟩;rw[h.uZ ht];split
    ·rfl
    ·exact q3
   show D.sv.ar.place p.1≠ -1∧D.pl p.1∉D.sv.run∧((D.waits.set (D.pl t) Wt.zero).getD (D.pl p.1) Wt.zero).xI=0;replace hpm:p∈(D.bu.put (t,(D.waits.getD (D.pl t) Wt.zero).code)).l:=hpm;rcases Bu.fW D.bu (t,(D.waits.getD (D.pl t) Wt.zero).code)with e|⟨e,-⟩
   ·rw[e]at hpm;exact hold p hpm
   ·rw[e]at hpm;rcases zB.1 hpm with hpm|hpm
    ·exact hold p hpm
    ·rw[yr]at hpm;subst hpm;refine⟨ht,hw.2.1,?_⟩;rw[h.uZ ht,if_pos rfl];rfl),
  bd:=(by
   show((D.bu.put (t,(D.waits.getD (D.pl t) Wt.zero).code)).l.map Prod.fst).Nodup;rcases Bu.fW D.bu (t,(D.waits.getD (D.pl t) Wt.zero).code)with e|⟨e,e2⟩
   ·rw[e];exact h.bd
   ·rw[e];show((D.bu.l++[_]).map Prod.fst).Nodup;rw[yI,yd];exact⟨h.bd,by simp,fun a ha b hb e3=>e2 (by simp at hb;subst hb;subst e3;exact ha)⟩),
  bm:=(Bu.TM _ _).trans h.bm,th:=h.th}
theorem yS.xH:∀(l:List Int) {D:Dm} {F:List Int},yS D F→l.Nodup→(∀t∈l,t∈F)→yS (D.xH l) (l.foldl List.erase F)
 |[],_,_,h,_,_=>h
 |t::l,D,F,h,hn,hs=>by
  show yS ((D.wN t).xH l) (l.foldl List.erase (F.erase t))
  refine yS.xH l (h.wN (hs t (by simp))) (zN.1 hn).2 fun u hu=>?_
  exact(List.mem_erase_of_ne (fun e=>by subst e;exact(zN.1 hn).1 hu)).2 (hs u (by simp[hu]))
end
end
section
section
variable {D:Dm} {F:List Int}
theorem yS.Z5(h:yS D F){j:Nat}{o:Ob}(ho:D.obj j=some o):j<8:=by
 by_cases e:j<8
 ·exact e
 ·have:D.obj j=none:=by show D.yX.getD j none=none;rw[zn,zJ (by rw[h.ol];omega)];rfl
  rw[this]at ho;cases ho
theorem yS.uD(h:yS D F){j:Nat}{o o':Ob}(ho:D.obj j=some o)(k:Nat):(D.yX.set j (some o')).getD k none=if j=k then some o' else D.obj k:=by
 rw[kG];by_cases e:j=k
 ·rw[if_pos e,if_pos ⟨e,by rw[h.ol];exact h.Z5 ho⟩]
 ·rw[if_neg e,if_neg (fun c=>e c.1)]
theorem yS.pA(h:yS D F){j:Nat}{o o':Ob}(ho:D.obj j=some o)(G:List Int)(hp:(wz (some o)).Perm (wz (some o')++G))(hu:uc (some o'))(hm:∀m,o=.mu m→∃m',o'=.mu m'∧∀k ws mh,D.obj k=some (.cd ws mh)→D.av.place mh=j→m'.h∉ws)(hc:∀ws' mh,o'=.cd ws' mh→∃ws,o=.cd ws mh)(hr:∀m',o'=.rw m'→(m'.rs++m'.rd).Nodup∧∀x∈m'.rs,D.sv.ar.place x≠ -1):yS {D with yX:=D.yX.set j (some o')} (F++G):=by
 have hnd:=h.nd j;rw[ho]at hnd;have hnd2:=(hp.nodup_iff).1 hnd;rw[yd]at hnd2;obtain⟨n1,n2,n3⟩:=hnd2;have hG:∀u∈G,u∈wz (D.obj j):=fun u hu=>by rw[ho];exact hp.mem_iff.2 (yi _ hu)
 have hO:∀u∈wz (some o'),u∈wz (D.obj j):=fun u hu=>by rw[ho];exact hp.mem_iff.2 (ym _ hu)
 exact{
  vr:=h.vr,wV:=h.wV,sl:=h.sl,al:=h.al,ol:=by show(D.yX.set _ _).length=8;rw[zq];exact h.ol,wl:=h.wl,wD:=h.wD,tI:=h.tI,run:=h.run,rn:=h.rn,w1:=fun i hi=>(by
   obtain⟨q1,q2,q3⟩:=h.w1 i hi;refine⟨q1,q2,?_⟩;rcases q3 with q3|⟨q3,q4,q5⟩
   ·exact .inl (ym _ q3)
   ·show _∨(_∧(D.wt i).xI∈wz ((D.yX.set j (some o')).getD (D.at_ (D.wt i).obj) none)∧(_→∃m,(D.yX.set j (some o')).getD (D.at_ (D.wt i).obj) none=_));rw[h.uD ho];by_cases e:j=D.at_ (D.wt i).obj
    ·rw[if_pos e];have e2:D.ob (D.wt i).obj=some o:=by rw[←ho,e];rfl
     rw[e2]at q4 q5;rcases zB.1 (hp.mem_iff.1 q4)with q|q
     ·refine .inr ⟨q3,q,fun ha=>?_⟩;obtain⟨m,hme⟩:=q5 ha;obtain⟨m',hm',-⟩:=hm m (by cases hme;rfl);exact⟨m',by rw[hm']⟩
     ·exact .inl (yi _ q)
    ·rw[if_neg e];exact .inr ⟨q3,q4,q5⟩),
  w2:=fun k u hu=>(by
   replace hu:u∈wz ((D.yX.set j (some o')).getD k none):=hu;rw[h.uD ho]at hu;by_cases e:j=k
   ·rw[if_pos e]at hu;subst e;obtain⟨q1,q2,q3,q4⟩:=h.w2 j u (hO u hu);exact⟨q1,q2,q3,fun hc=>(zB.1 hc).elim q4 fun hg=>n3 u hu u hg rfl⟩
   ·rw[if_neg e]at hu;obtain⟨q1,q2,q3,q4⟩:=h.w2 k u hu;refine⟨q1,q2,q3,fun hc=>(zB.1 hc).elim q4 fun hg=>?_⟩;have:=(h.w2 j u (hG u hg)).2.2.1;rw[q3]at this;omega),
  nd:=fun k=>(by
   show(wz ((D.yX.set j (some o')).getD k none)).Nodup;rw[h.uD ho];by_cases e:j=k
   ·rw[if_pos e];exact n1
   ·rw[if_neg e];exact h.nd k),
  use:=fun k=>(by
   show uc ((D.yX.set j (some o')).getD k none);rw[h.uD ho];by_cases e:j=k
   ·rw[if_pos e];exact hu
   ·rw[if_neg e];exact h.use k),
  cd:=fun k ws mh hk=>(by
   replace hk:(D.yX.set j (some o')).getD k none=some (.cd ws mh):=hk;show D.av.place mh≠ -1∧∃m,(D.yX.set j (some o')).getD (D.at_ mh) none=some (.mu m)∧m.h∉ws;rw[h.uD ho]at hk⊢;by_cases e:j=k
   ·rw[if_pos e]at hk;subst e;cases hk;obtain⟨ws0,rfl⟩:=hc ws mh rfl;obtain⟨q1,m,q2,q3⟩:=h.cd j ws0 mh ho;refine⟨q1,m,?_,fun hm'=>q3 (hp.mem_iff.2 (ym _ hm'))⟩;rw[if_neg fun e=>?_]
    ·exact q2
    ·replace q2:D.obj (D.at_ mh)=_:=q2;rw[←e,ho]at q2;cases q2
   ·rw[if_neg e]at hk;obtain⟨q1,m,q2,q3⟩:=h.cd k ws mh hk;refine⟨q1,?_⟩;by_cases e2:j=D.at_ mh
    ·rw[if_pos e2];have e3:o=.mu m:=by replace q2:D.obj (D.at_ mh)=_:=q2;rw[←e2,ho]at q2;cases q2;rfl
     obtain⟨m',hm',hq⟩:=hm m e3;refine⟨m',by rw[hm'],hq k ws mh hk ?_⟩;have:=AV.wI h.wV mh;rw[e2];unfold Dm.at_;omega
    ·rw[if_neg e2];exact⟨m,q2,q3⟩),
  fr:=fun k o2 hk=>(by
   replace hk:(D.yX.set j (some o')).getD k none=some o2:=hk;rw[h.uD ho]at hk;by_cases e:j=k
   ·subst e;exact h.fr j o ho
   ·rw[if_neg e]at hk;exact h.fr k o2 hk),
  fl:=fun u hu=>(by
   rcases zB.1 hu with hu|hu
   ·exact h.fl u hu
   ·obtain⟨q1,q2,-⟩:=h.w2 j u (hG u hu);exact⟨q1,q2⟩),
  fn:=by rw[yd];exact⟨h.fn,n2,fun a ha b hb e=>(h.w2 j b (hG b hb)).2.2.2 (e ▸ ha)⟩,bu:=h.bu,bd:=h.bd,bm:=h.bm,th:=fun k m2 hk=>by
   replace hk:(D.yX.set j (some o')).getD k none=some (.rw m2):=hk;rw[h.uD ho]at hk;by_cases e:j=k
   ·rw[if_pos e]at hk;cases hk;exact hr m2 rfl
   ·rw[if_neg e]at hk;exact h.th k m2 hk}
theorem yS.UA(h:yS D F){t:Int}(hF:t∈F){j:Nat}{o o':Ob}(ho:D.obj j=some o)(hp:(wz (some o')).Perm (t::wz (some o)))(hj:D.av.place (D.wt (D.pl t)).obj=j)(hu:uc (some o'))(hag:(D.wt (D.pl t)).again=true→∃m,o'=.mu m)(hm:∀m,o=.mu m→∃m',o'=.mu m'∧m'.h=m.h)(hc:∀ws' mh,o'=.cd ws' mh→∃ws,o=.cd ws mh∧∀m,D.ob mh=some (.mu m)→m.h≠t)(hr:∀m',o'=.rw m'→(m'.rs++m'.rd).Nodup∧∀x∈m'.rs,D.sv.ar.place x≠ -1):yS {D with yX:=D.yX.set j (some o')} (F.erase t):=by
 have hx:∀u,u∈F.erase t→u∈F∧u≠t:=fun u hu=>⟨zK hu,fun e=>by subst e;exact absurd hu (by rw[h.fn.mem_erase_iff];simp)⟩;have ht:t∉wz (some o):=fun hc=>by rw[←ho]at hc;exact(h.w2 j t hc).2.2.2 hF
 have hin:t∈wz (some o'):=hp.mem_iff.2 (by simp);obtain⟨f1,f2⟩:=h.fl t hF;have hmm:∀m,o=.mu m→∃m',o'=.mu m':=fun m e=>(hm m e).imp fun _ h=>h.1
 exact{
  vr:=h.vr,wV:=h.wV,sl:=h.sl,al:=h.al,ol:=by show(D.yX.set _ _).length=8;rw[zq];exact h.ol,wl:=h.wl,wD:=h.wD,tI:=h.tI,run:=h.run,rn:=h.rn,w1:=fun i hi=>(by
   obtain⟨q1,q2,q3⟩:=h.w1 i hi;refine⟨q1,q2,?_⟩;have hpl:=(h.cQ hi).1;show _∨(_∧(D.wt i).xI∈wz ((D.yX.set j (some o')).getD (D.at_ (D.wt i).obj) none)∧(_→∃m,(D.yX.set j (some o')).getD (D.at_ (D.wt i).obj) none=_));rw[h.uD ho];by_cases et:(D.wt i).xI=t
   ·rw[et]at hpl⊢;rw[hpl]at hj hag;have e:j=D.at_ (D.wt i).obj:=by unfold Dm.at_;omega
    rw[if_pos e];exact .inr ⟨show D.av.place (D.wt i).obj≠ -1 by rw[hj];omega,hin,fun ha=>(hag ha).imp fun m hm=>by rw[hm]⟩
   ·rcases q3 with q3|⟨q3,q4,q5⟩
    ·exact .inl ((List.mem_erase_of_ne et).2 q3)
    ·by_cases e:j=D.at_ (D.wt i).obj
     ·rw[if_pos e];have e2:D.ob (D.wt i).obj=some o:=by rw[←ho,e];rfl
      rw[e2]at q4 q5;refine .inr ⟨q3,hp.mem_iff.2 (yJ _ q4),fun ha=>?_⟩;obtain⟨m,hme⟩:=q5 ha;obtain⟨m',hm'⟩:=hmm m (by cases hme;rfl);exact⟨m',by rw[hm']⟩
     ·rw[if_neg e];exact .inr ⟨q3,q4,q5⟩),
  w2:=fun k u hu=>(by
   replace hu:u∈wz ((D.yX.set j (some o')).getD k none):=hu;rw[h.uD ho]at hu;by_cases e:j=k
   ·rw[if_pos e]at hu;subst e;rcases List.mem_cons.1 (hp.mem_iff.1 hu)with rfl|hu
    ·exact⟨f1,f2,hj,fun hc=>(hx _ hc).2 rfl⟩
    ·rw[←ho]at hu;obtain⟨q1,q2,q3,q4⟩:=h.w2 j u hu;exact⟨q1,q2,q3,fun hc=>q4 (hx _ hc).1⟩
   ·rw[if_neg e]at hu;obtain⟨q1,q2,q3,q4⟩:=h.w2 k u hu;exact⟨q1,q2,q3,fun hc=>q4 (hx _ hc).1⟩),
  nd:=fun k=>(by
   show(wz ((D.yX.set j (some o')).getD k none)).Nodup;rw[h.uD ho];by_cases e:j=k
   ·rw[if_pos e,hp.nodup_iff];have:=h.nd j;rw[ho]at this;exact zN.2 ⟨ht,this⟩
   ·rw[if_neg e];exact h.nd k),
  use:=fun k=>(by
   show uc ((D.yX.set j (some o')).getD k none);rw[h.uD ho];by_cases e:j=k
   ·rw[if_pos e];exact hu
   ·rw[if_neg e];exact h.use k),
  cd:=fun k ws mh hk=>(by
   replace hk:(D.yX.set j (some o')).getD k none=some (.cd ws mh):=hk;show D.av.place mh≠ -1∧∃m,(D.yX.set j (some o')).getD (D.at_ mh) none=some (.mu m)∧m.h∉ws;rw[h.uD ho]at hk⊢;by_cases e:j=k
   ·rw[if_pos e]at hk;subst e;cases hk;obtain⟨ws0,rfl,hne⟩:=hc ws mh rfl;obtain⟨q1,m,q2,q3⟩:=h.cd j ws0 mh ho;refine⟨q1,m,?_,fun hm'=>(List.mem_cons.1 (hp.mem_iff.1 hm')).elim (hne m q2) q3⟩;rw[if_neg fun e=>?_]
    ·exact q2
    ·replace q2:D.obj (D.at_ mh)=_:=q2;rw[←e,ho]at q2;cases q2
   ·rw[if_neg e]at hk;obtain⟨q1,m,q2,q3⟩:=h.cd k ws mh hk;refine⟨q1,?_⟩;by_cases e2:j=D.at_ mh
    ·rw[if_pos e2];have e3:o=.mu m:=by replace q2:D.obj (D.at_ mh)=_:=q2;rw[←e2,ho]at q2;cases q2;rfl
     obtain⟨m',hm',hq⟩:=hm m e3;exact⟨m',by rw[hm'],by rw[hq];exact q3⟩
    ·rw[if_neg e2];exact⟨m,q2,q3⟩),
  fr:=fun k o2 hk=>(by
   replace hk:(D.yX.set j (some o')).getD k none=some o2:=hk;rw[h.uD ho]at hk;by_cases e:j=k
   ·subst e;exact h.fr j o ho
   ·rw[if_neg e]at hk;exact h.fr k o2 hk),
  fl:=fun u hu=>h.fl u (hx u hu).1,fn:=h.fn.erase _,bu:=h.bu,bd:=h.bd,bm:=h.bm,th:=fun k m2 hk=>by
   replace hk:(D.yX.set j (some o')).getD k none=some (.rw m2):=hk;rw[h.uD ho]at hk;by_cases e:j=k
   ·rw[if_pos e]at hk;cases hk;exact hr m2 rfl
   ·rw[if_neg e]at hk;exact h.th k m2 hk}
theorem yS.idle(h:yS D F){t:Int}(hr:D.pl t∈D.sv.run):(D.wt (D.pl t)).xI=0:=by
 by_cases e:(D.wt (D.pl t)).xI=0
 ·exact e
 ·exact absurd hr (h.w1 _ e).2.1
theorem SV.dF{s:SV}{t:Int}(h:s.ar.place t≠ -1):s.block t={s with run:=s.run.erase (s.ar.place t).toNat}:=if_neg h
theorem yS.block(h:yS D F){t:Int}(ht:D.sv.ar.place t≠ -1)(hr:D.pl t∈D.sv.run)(x xM:Int):yS (D.block t x xM) (t::F):=by
 have hp:=AV.wJ ht;have h0:=h.idle hr;have hne:∀u,D.sv.ar.place u≠ -1→(D.wt (D.pl u)).xI=u→D.pl t≠D.pl u:=fun u hu h1 e=>by rw[←e,h0]at h1;have:=AV.wJ hu;omega
 have e:D.block t x xM={D with sv:={D.sv with run:=D.sv.run.erase (D.pl t)},waits:=D.waits.set (D.pl t) ⟨t,x,0,false⟩,wh:=if 0≤xM then D.wh.set (D.pl t) xM else D.wh}:=by unfold Dm.block;rw[SV.dF ht];rfl
 rw[e]
 exact{
  vr:=h.vr,wV:=h.wV,sl:=h.sl,al:=h.al,ol:=h.ol,wl:=by show(D.waits.set _ _).length=8;rw[zq];exact h.wl,wD:=h.wD,tI:=h.tI,run:=fun i hi=>h.run i (zK hi),rn:=h.rn.erase _,w1:=fun i=>(by
   show((D.waits.set (D.pl t) ⟨t,x,0,false⟩).getD i Wt.zero).xI≠0→D.sv.ar.place ((D.waits.set (D.pl t) ⟨t,x,0,false⟩).getD i Wt.zero).xI=i∧i∉D.sv.run.erase (D.pl t)∧(((D.waits.set (D.pl t) ⟨t,x,0,false⟩).getD i Wt.zero).xI∈t::F∨(D.av.place ((D.waits.set (D.pl t) ⟨t,x,0,false⟩).getD i Wt.zero).obj≠ -1∧((D.waits.set (D.pl t) ⟨t,x,0,false⟩).getD i Wt.zero).xI∈wz (D.ob ((D.waits.set (D.pl t) ⟨t,x,0,false⟩).getD i Wt.zero).obj)∧(((D.waits.set (D.pl t) ⟨t,x,0,false⟩).getD i Wt.zero).again=true→∃m,D.ob ((D.waits.set (D.pl t) ⟨t,x,0,false⟩).getD i Wt.zero).obj=some (.mu m))));rw[h.uZ ht];by_cases e:D.pl t=i
   ·rw[if_pos e];intro _;refine⟨by rw[←e];exact(h.jq ht).1,?_,.inl (by simp)⟩;rw[←e,h.rn.mem_erase_iff];simp
   ·rw[if_neg e];intro h1;obtain⟨q1,q2,q3⟩:=h.w1 i h1;exact⟨q1,fun hc=>q2 (zK hc),q3.imp (fun q=>yJ _ q) id⟩),
  w2:=fun j u hu=>by obtain⟨q1,q2,q3,q4⟩:=h.w2 j u hu;show D.sv.ar.place u≠ -1∧((D.waits.set (D.pl t) ⟨t,x,0,false⟩).getD (D.pl u) Wt.zero).xI=u∧D.av.place ((D.waits.set (D.pl t) ⟨t,x,0,false⟩).getD (D.pl u) Wt.zero).obj=j∧u∉t::F;rw[h.uZ ht,if_neg (hne u q1 q2)];exact⟨q1,q2,q3,fun hc=>(List.mem_cons.1 hc).elim (fun e=>hne u q1 q2 (by rw[e])) q4⟩,nd:=h.nd,use:=h.use,cd:=h.cd,fr:=h.fr,fl:=fun u hu=>(by
   show D.sv.ar.place u≠ -1∧((D.waits.set (D.pl t) ⟨t,x,0,false⟩).getD (D.pl u) Wt.zero).xI=u;rw[h.uZ ht];rcases List.mem_cons.1 hu with rfl|hu
   ·rw[if_pos rfl];exact⟨ht,rfl⟩
   ·obtain⟨q1,q2⟩:=h.fl u hu;rw[if_neg (hne u q1 q2)];exact⟨q1,q2⟩),
  fn:=zN.2 ⟨fun hc=>by obtain⟨q1,q2⟩:=h.fl t hc;exact hne t q1 q2 rfl,h.fn⟩,bu:=fun p hpm=>by obtain⟨q1,q2,q3⟩:=h.bu p hpm;show D.sv.ar.place p.1≠ -1∧D.pl p.1∉D.sv.run.erase (D.pl t)∧((D.waits.set (D.pl t) ⟨t,x,0,false⟩).getD (D.pl p.1) Wt.zero).xI=0;rw[h.uZ ht,if_neg (fun e=>q2 (by rw[←e];exact hr))];exact⟨q1,fun hc=>q2 (zK hc),q3⟩,bd:=h.bd,bm:=h.bm,th:=h.th}
end
end
end Go.Proofs.YtkmamlifgbocgaaGreat
