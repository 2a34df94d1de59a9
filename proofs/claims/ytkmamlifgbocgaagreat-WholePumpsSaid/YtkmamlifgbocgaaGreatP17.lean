/- What the program's code does, as contracts, and what follows of it, part 17: for the law's proof. -/
import Derived.Test.YtkmamlifgbocgaaGreatP00
import Derived.Test.YtkmamlifgbocgaaGreatP16
set_option linter.unusedVariables false
set_option linter.unusedSimpArgs false
set_option maxRecDepth 100000
set_option maxHeartbeats 16000000
namespace Go.Proofs.YtkmamlifgbocgaaGreat
section
open Go.RowKit Go.WideShapes
section
variable {w0 w:World} {γ γ':U} {B g:Nat} {p:vG} {D:Dm}
theorem wC(n:Nat)(h:yT γ B g p D){w':World}(ho:Own w0 w' γ)(r:Value):xj n w0 γ B g p D r (.returned r) w':=⟨rfl,γ,ho,h,fun _ _=>rfl⟩
theorem Vu(h:yT γ B g p D)(ho:Own w0 w γ){t:Int}(x:En)(hxa:x.a≤9223372036854775807)(hp:D.av.place x.a= -1):Calls Tryz.prog 174 #[.p g,.i t,x.val] w (xj 15 w0 γ B g p D (.i 7)):=by
 have hb2:Below w.heap.size w ((w.alloc (.cells #[.i t] 3)).alloc (.cells x.xq 38)):=((Below.refl _ w).alloc (zm _) _).alloc (by simp) _;have hbx:=vD (w:=w.alloc (.cells #[.i t] 3)) x;have hsz:(w.alloc (.cells #[.i t] 3)).heap.size=w.heap.size+1:=by simp
 rw[hsz]at hbx;have r4:=hbx 4 (.i x.a) rfl;have hf0:=cm h (ho.xh hb2) x.a hxa hp;have HF:Hid (∀W,Below w.heap.size w W→xj 15 w0 γ B g p D (.i 7) (.returned (.i 7)) W):=I fun W hW=>wC 15 h (ho.xh hW) _;have hval:x.val=.agg #[.i x.kind,.i x.xr,.i x.pick,.i x.op,.i x.a,.i x.b,.i x.c]:=rfl;have harr:x.xq=#[.i x.kind,.i x.xr,.i x.pick,.i x.op,.i x.a,.i x.b,.i x.c]:=rfl;rw[hval];rw[harr]at r4 hb2 hf0;have HB:=I hb2;clear h ho hb2 hbx hval harr hsz hp hxa;go_in;go_wp2_with fail;refine hf0.mono ?_;rintro e w' ⟨rfl,rfl⟩;go_wp2_with fail;go_ret;exact HF.out _ HB.out
theorem rq(h:yT γ B g p D)(ho:Own w0 w γ){t:Int}(x:En)(hxa:x.a≤9223372036854775807)(hp:D.av.place x.a≠ -1)(h1:∀m,D.ob x.a≠some (.mu m))(h2:∀m,D.ob x.a≠some (.rw m)):Calls Tryz.prog 174 #[.p g,.i t,x.val] w (xj 15 w0 γ B g p D (.i 8)):=by
 have hb2:Below w.heap.size w ((w.alloc (.cells #[.i t] 3)).alloc (.cells x.xq 38)):=((Below.refl _ w).alloc (zm _) _).alloc (by simp) _;have hbx:=vD (w:=w.alloc (.cells #[.i t] 3)) x;have hsz:(w.alloc (.cells #[.i t] 3)).heap.size=w.heap.size+1:=by simp
 rw[hsz]at hbx;have r4:=hbx 4 (.i x.a) rfl;have hf0:=rW h (ho.xh hb2) x.a hxa hp false rfl (bQ (xX h hp) h1) (by simp);have hf1:=pr h (ho.xh hb2) x.a hxa hp false rfl (Xs (xX h hp) h2) (by simp);have HF:Hid (∀W,Below w.heap.size w W→xj 15 w0 γ B g p D (.i 8) (.returned (.i 8)) W):=I fun W hW=>wC 15 h (ho.xh hW) _;have hval:x.val=.agg #[.i x.kind,.i x.xr,.i x.pick,.i x.op,.i x.a,.i x.b,.i x.c]:=rfl;have harr:x.xq=#[.i x.kind,.i x.xr,.i x.pick,.i x.op,.i x.a,.i x.b,.i x.c]:=rfl;rw[hval];rw[harr]at r4 hb2 hf0 hf1;have HB:=I hb2;have HB3:=I (hb2.alloc hb2.size (.cells #[.pointer none] 218));clear h ho hb2 hbx hval harr hsz hp hxa;go_in;go_wp2_with fail;refine hf0.mono ?_;rintro e w' ⟨rfl,rfl⟩;go_wp2_with fail;refine hf1.mono ?_;rintro e w' ⟨rfl,rfl⟩;go_wp2_with fail;go_ret;exact HF.out _ HB3.out
theorem Vz(h:yT γ B g p D)(ho:Own w0 w γ){t:Int}(x:En)(hxa:x.a≤9223372036854775807)(hp:D.av.place x.a= -1):Calls Tryz.prog 175 #[.p g,.i t,x.val] w (xj 15 w0 γ B g p D (.i 7)):=by
 have hb2:Below w.heap.size w ((w.alloc (.cells #[.i t] 3)).alloc (.cells x.xq 38)):=((Below.refl _ w).alloc (zm _) _).alloc (by simp) _;have hbx:=vD (w:=w.alloc (.cells #[.i t] 3)) x;have hsz:(w.alloc (.cells #[.i t] 3)).heap.size=w.heap.size+1:=by simp
 rw[hsz]at hbx;have r4:=hbx 4 (.i x.a) rfl;have hf0:=Wc h (ho.xh hb2) x.a hxa hp;have HF:Hid (∀W,Below w.heap.size w W→xj 15 w0 γ B g p D (.i 7) (.returned (.i 7)) W):=I fun W hW=>wC 15 h (ho.xh hW) _;have hval:x.val=.agg #[.i x.kind,.i x.xr,.i x.pick,.i x.op,.i x.a,.i x.b,.i x.c]:=rfl;have harr:x.xq=#[.i x.kind,.i x.xr,.i x.pick,.i x.op,.i x.a,.i x.b,.i x.c]:=rfl;rw[hval];rw[harr]at r4 hb2 hf0;have HB:=I hb2;have HB3:=I (hb2.alloc hb2.size (.cells #[.pointer none] 218));clear h ho hb2 hbx hval harr hsz hp hxa;go_in;go_wp2_with fail;refine hf0.mono ?_;rintro e w' ⟨rfl,rfl⟩;go_wp2_with fail;go_ret;exact HF.out _ HB3.out
theorem tX(h:yT γ B g p D)(ho:Own w0 w γ){t:Int}(x:En)(hxa:x.a≤9223372036854775807)(hp:D.av.place x.a≠ -1)(h2:∀m,D.ob x.a≠some (.rw m)):Calls Tryz.prog 175 #[.p g,.i t,x.val] w (xj 15 w0 γ B g p D (.i 8)):=by
 have hb2:Below w.heap.size w ((w.alloc (.cells #[.i t] 3)).alloc (.cells x.xq 38)):=((Below.refl _ w).alloc (zm _) _).alloc (by simp) _;have hbx:=vD (w:=w.alloc (.cells #[.i t] 3)) x;have hsz:(w.alloc (.cells #[.i t] 3)).heap.size=w.heap.size+1:=by simp
 rw[hsz]at hbx;have r4:=hbx 4 (.i x.a) rfl;have hf0:=pr h (ho.xh hb2) x.a hxa hp false rfl (Xs (xX h hp) h2) (by simp);have HF:Hid (∀W,Below w.heap.size w W→xj 15 w0 γ B g p D (.i 8) (.returned (.i 8)) W):=I fun W hW=>wC 15 h (ho.xh hW) _;have hval:x.val=.agg #[.i x.kind,.i x.xr,.i x.pick,.i x.op,.i x.a,.i x.b,.i x.c]:=rfl;have harr:x.xq=#[.i x.kind,.i x.xr,.i x.pick,.i x.op,.i x.a,.i x.b,.i x.c]:=rfl;rw[hval];rw[harr]at r4 hb2 hf0;have HB:=I hb2;have HB3:=I (hb2.alloc hb2.size (.cells #[.pointer none] 218));clear h ho hb2 hbx hval harr hsz hp hxa;go_in;go_wp2_with fail;refine hf0.mono ?_;rintro e w' ⟨rfl,rfl⟩;go_wp2_with fail;go_ret;exact HF.out _ HB3.out
theorem X0(h:yT γ B g p D)(ho:Own w0 w γ){t:Int}(x:En)(hxa:x.a≤9223372036854775807)(hp:D.av.place x.a= -1):Calls Tryz.prog 176 #[.p g,.i t,x.val] w (xj 15 w0 γ B g p D (.i 7)):=by
 have hb2:Below w.heap.size w ((w.alloc (.cells #[.i t] 3)).alloc (.cells x.xq 38)):=((Below.refl _ w).alloc (zm _) _).alloc (by simp) _;have hbx:=vD (w:=w.alloc (.cells #[.i t] 3)) x;have hsz:(w.alloc (.cells #[.i t] 3)).heap.size=w.heap.size+1:=by simp
 rw[hsz]at hbx;have r4:=hbx 4 (.i x.a) rfl;have hf0:=Wd h (ho.xh hb2) x.a hxa hp;have HF:Hid (∀W,Below w.heap.size w W→xj 15 w0 γ B g p D (.i 7) (.returned (.i 7)) W):=I fun W hW=>wC 15 h (ho.xh hW) _;have hval:x.val=.agg #[.i x.kind,.i x.xr,.i x.pick,.i x.op,.i x.a,.i x.b,.i x.c]:=rfl;have harr:x.xq=#[.i x.kind,.i x.xr,.i x.pick,.i x.op,.i x.a,.i x.b,.i x.c]:=rfl;rw[hval];rw[harr]at r4 hb2 hf0;have HB:=I hb2;have HB3:=I (hb2.alloc hb2.size (.cells #[.pointer none] 221));clear h ho hb2 hbx hval harr hsz hp hxa;go_in;go_wp2_with fail;refine hf0.mono ?_;rintro e w' ⟨rfl,rfl⟩;go_wp2_with fail;go_ret;exact HF.out _ HB3.out
theorem tz(h:yT γ B g p D)(ho:Own w0 w γ){t:Int}(x:En)(hxa:x.a≤9223372036854775807)(hp:D.av.place x.a≠ -1)(h2:∀m,D.ob x.a≠some (.sm m)):Calls Tryz.prog 176 #[.p g,.i t,x.val] w (xj 15 w0 γ B g p D (.i 8)):=by
 have hb2:Below w.heap.size w ((w.alloc (.cells #[.i t] 3)).alloc (.cells x.xq 38)):=((Below.refl _ w).alloc (zm _) _).alloc (by simp) _;have hbx:=vD (w:=w.alloc (.cells #[.i t] 3)) x;have hsz:(w.alloc (.cells #[.i t] 3)).heap.size=w.heap.size+1:=by simp
 rw[hsz]at hbx;have r4:=hbx 4 (.i x.a) rfl;have hf0:=eU h (ho.xh hb2) x.a hxa hp false rfl (RR (xX h hp) h2) (by simp);have HF:Hid (∀W,Below w.heap.size w W→xj 15 w0 γ B g p D (.i 8) (.returned (.i 8)) W):=I fun W hW=>wC 15 h (ho.xh hW) _;have hval:x.val=.agg #[.i x.kind,.i x.xr,.i x.pick,.i x.op,.i x.a,.i x.b,.i x.c]:=rfl;have harr:x.xq=#[.i x.kind,.i x.xr,.i x.pick,.i x.op,.i x.a,.i x.b,.i x.c]:=rfl;rw[hval];rw[harr]at r4 hb2 hf0;have HB:=I hb2;have HB3:=I (hb2.alloc hb2.size (.cells #[.pointer none] 221));clear h ho hb2 hbx hval harr hsz hp hxa;go_in;go_wp2_with fail;refine hf0.mono ?_;rintro e w' ⟨rfl,rfl⟩;go_wp2_with fail;go_ret;exact HF.out _ HB3.out
theorem Vt(h:yT γ B g p D)(ho:Own w0 w γ){t:Int}(x:En)(ht:D.Live t)(hc:0≤D.clock∧D.clock≤4611686018427387904)(hx:D.Has x.a){m:Mu}(hob:D.ob x.a=some (.mu m))(hlt:m.ws.length<100)(hl:m.wF t≠0→D.Live (m.wF t)):Calls Tryz.prog 174 #[.p g,.i t,x.val] w (xj 15 w0 γ B g p (D.alone t x x.a m).1 (.i (D.alone t x x.a m).2)):=by
 have hat0:=xX h hx.2;rw[hob]at hat0;obtain⟨gm,hos,-⟩:=id hat0;obtain⟨γ1,o1,b1,b2,k1⟩:=vv ho (B+68) (B+69) (by omega) #[.i t] x.xq 3 38;have h1:yT γ1 B g p D:=h.wK fun k hk=>k1 k (by unfold xi at hk;omega) (by unfold xi at hk;omega);have kk:∀k,yU 15 B k→γ1 k=γ k:=fun k hk=>k1 k (by unfold yU at hk;omega) (by unfold yU at hk;omega);have hf0:=rW (x:=x.a) h1 o1 hx.1 hx.2 true (v:=.iface 217 (.p gm)) hos (fun W=>qx _ W) (by simp);have hal:=S9 h1 o1 x ht hc hx hob hos hlt hl;have q0:=o1.cell b1 (i:=0) (v:=.i t) rfl;have r0:=o1.cell b2 (i:=0) (v:=.i x.kind) rfl;have r1:=o1.cell b2 (i:=1) (v:=.i x.xr) rfl;have r2:=o1.cell b2 (i:=2) (v:=.i x.pick) rfl;have r3:=o1.cell b2 (i:=3) (v:=.i x.op) rfl;have r4:=o1.cell b2 (i:=4) (v:=.i x.a) rfl;have r5:=o1.cell b2 (i:=5) (v:=.i x.b) rfl;have r6:=o1.cell b2 (i:=6) (v:=.i x.c) rfl;have hval:x.val=.agg #[.i x.kind,.i x.xr,.i x.pick,.i x.op,.i x.a,.i x.b,.i x.c]:=rfl;have harr:x.xq=#[.i x.kind,.i x.xr,.i x.pick,.i x.op,.i x.a,.i x.b,.i x.c]:=rfl;have KK:=I kk;generalize hres:D.alone t x x.a m=res at*;rw[hval]at hal⊢;rw[harr]at q0 r0 r1 r2 r3 r4 r5 r6 hal hf0;clear h ho o1 b1 b2 k1 h1 kk hat0 hos hob hx hlt hval harr hl hres;go_in;go_wp2_with fail;refine hf0.mono ?_;rintro e w' ⟨rfl,rfl⟩;go_wp2_with fail;refine hal.mono ?_;rintro e w2 hp2;have HF:=I ((hp2.up (m:=15) (by omega)).of KK.out);obtain⟨rfl,-⟩:=hp2;clear hal hf0;go_wp2_with fail;go_ret;exact HF.out
def Dm.lock(D:Dm)(t:Int)(x:En):Dm×Int:=
 if D.av.place x.a= -1 then(D,7)else match D.ob x.a with
 |some (.mu m)=>D.alone t x x.a m
 |some (.rw m)=>D.pD t x m
 |_=>(D,8)
def Dm.read(D:Dm)(t:Int)(x:En):Dm×Int:=
 if D.av.place x.a= -1 then(D,7)else match D.ob x.a with
 |some (.rw m)=>D.rZ t x m
 |_=>(D,8)
def Dm.pC(D:Dm)(t:Int)(x:En):Dm×Int:=
 if D.av.place x.a= -1 then(D,7)else match D.ob x.a with
 |some (.sm m)=>D.sV t x m
 |_=>(D,8)
structure Dm.UseOk (D:Dm) (t:Int) (x:En):Prop where
 live:D.Live t
 clock:0≤D.clock∧D.clock≤4611686018427387904
 xa:x.a≤9223372036854775807
 mu:∀m,D.ob x.a=some (.mu m)→m.ws.length<100∧(m.wF t≠0→D.Live (m.wF t))
 rw:∀m,D.ob x.a=some (.rw m)→m.rs.length+m.ws.length+m.rd.length<100∧((m.unlock t).2.length≤100∧∀y∈(m.unlock t).2,D.Live y)∧((m.vI t).2.length≤100∧∀y∈(m.vI t).2,D.Live y)
 sm:∀m,D.ob x.a=some (.sm m)→m.ws.length<100∧((m.rel x.b).2.length≤100∧∀y∈(m.rel x.b).2,D.Live y)
theorem Q7(h:yT γ B g p D)(ho:Own w0 w γ){t:Int}(x:En)(hu:D.UseOk t x):Calls Tryz.prog 174 #[.p g,.i t,x.val] w (xj 15 w0 γ B g p (D.lock t x).1 (.i (D.lock t x).2)):=by
 unfold Dm.lock;by_cases hp:D.av.place x.a= -1
 ·rw[if_pos hp];exact Vu h ho x hu.xa hp
 ·rw[if_neg hp];cases hk:D.ob x.a with
  |none=>exact rq h ho x hu.xa hp (by simp[hk]) (by simp[hk])
  |some o=>
   cases o with
   |mu m=>exact Vt h ho x hu.live hu.clock ⟨hu.xa,hp⟩ hk (hu.mu m hk).1 (hu.mu m hk).2
   |rw m=>exact Vv h ho x hu.live hu.clock ⟨hu.xa,hp⟩ hk (hu.rw m hk).1 (hu.rw m hk).2.1
   |sm m=>exact rq h ho x hu.xa hp (by simp[hk]) (by simp[hk])
   |cd ws mh=>exact rq h ho x hu.xa hp (by simp[hk]) (by simp[hk])
   |on m=>exact rq h ho x hu.xa hp (by simp[hk]) (by simp[hk])
   |gp m=>exact rq h ho x hu.xa hp (by simp[hk]) (by simp[hk])
theorem Pb(h:yT γ B g p D)(ho:Own w0 w γ){t:Int}(x:En)(hu:D.UseOk t x):Calls Tryz.prog 175 #[.p g,.i t,x.val] w (xj 15 w0 γ B g p (D.read t x).1 (.i (D.read t x).2)):=by
 unfold Dm.read;by_cases hp:D.av.place x.a= -1
 ·rw[if_pos hp];exact Vz h ho x hu.xa hp
 ·rw[if_neg hp];cases hk:D.ob x.a with
  |none=>exact tX h ho x hu.xa hp (by simp[hk])
  |some o=>
   cases o with
   |rw m=>exact VA h ho x hu.live hu.clock ⟨hu.xa,hp⟩ hk (hu.rw m hk).1 (hu.rw m hk).2.2
   |mu m=>exact tX h ho x hu.xa hp (by simp[hk])
   |sm m=>exact tX h ho x hu.xa hp (by simp[hk])
   |cd ws mh=>exact tX h ho x hu.xa hp (by simp[hk])
   |on m=>exact tX h ho x hu.xa hp (by simp[hk])
   |gp m=>exact tX h ho x hu.xa hp (by simp[hk])
theorem Rf(h:yT γ B g p D)(ho:Own w0 w γ){t:Int}(x:En)(hu:D.UseOk t x):Calls Tryz.prog 176 #[.p g,.i t,x.val] w (xj 15 w0 γ B g p (D.pC t x).1 (.i (D.pC t x).2)):=by
 unfold Dm.pC;by_cases hp:D.av.place x.a= -1
 ·rw[if_pos hp];exact X0 h ho x hu.xa hp
 ·rw[if_neg hp];cases hk:D.ob x.a with
  |none=>exact tz h ho x hu.xa hp (by simp[hk])
  |some o=>
   cases o with
   |sm m=>exact X1 h ho x hu.live hu.clock ⟨hu.xa,hp⟩ hk (hu.sm m hk).1 (hu.sm m hk).2
   |mu m=>exact tz h ho x hu.xa hp (by simp[hk])
   |rw m=>exact tz h ho x hu.xa hp (by simp[hk])
   |cd ws mh=>exact tz h ho x hu.xa hp (by simp[hk])
   |on m=>exact tz h ho x hu.xa hp (by simp[hk])
   |gp m=>exact tz h ho x hu.xa hp (by simp[hk])
end
end
section
open Go.RowKit Go.WideShapes
def Dm.Zy(D:Dm)(x:En)(m:Gp):Dm×Int:=((D.xg x.a (.gp (m.add x.b))).xH (m.tv x.b),m.pW x.b)
def Dm.add(D:Dm)(x:En):Dm×Int:=
 if D.av.place x.a= -1 then(D,7)else match D.ob x.a with
 |some (.gp m)=>D.Zy x m
 |_=>(D,8)
def Dm.wG(D:Dm)(l:List Int)(mh:Int):Dm:=l.foldl (fun D t=>D.again t mh) D
theorem Dm.qA{D:Dm}{t mh:Int}{m:Mu}(hob:D.ob mh=some (.mu m))(h8:D.at_ mh<D.yX.length):(D.again t mh).sv=D.sv∧(D.again t mh).av=D.av∧(D.again t mh).ob mh=some (.mu (m.lock t))∧(D.again t mh).yX.length=D.yX.length:=by
 have hob':({D with wh:=D.wh.stop (D.pl t)}:Dm).ob mh=some (.mu m):=hob;unfold Dm.again;rw[hob'];have hput:(({D with wh:=D.wh.stop (D.pl t)}:Dm).xg mh (.mu (m.lock t))).ob mh=some (.mu (m.lock t)):=by unfold Dm.ob Dm.xg;exact wq h8
 dsimp only;split
 ·exact⟨rfl,rfl,hput,by show(D.yX.set _ _).length=_;rw[zq]⟩
 ·exact⟨rfl,rfl,hput,by show(D.yX.set _ _).length=_;rw[zq]⟩
theorem Mu.Ty(m:Mu)(t:Int):(m.lock t).ws.length≤m.ws.length+1:=by
 unfold Mu.lock Mu.wi;split
 ·simp
 ·split<;>simp
theorem Dm.aX(D:Dm)(l:List Int)(t mh:Int):D.wG (l++[t]) mh=(D.wG l mh).again t mh:=by unfold Dm.wG;rw[yq];rfl
theorem Dm.aV{D:Dm}{mh:Int}:∀(l:List Int) {m:Mu},D.ob mh=some (.mu m)→D.at_ mh<D.yX.length→(D.wG l mh).sv=D.sv∧(D.wG l mh).av=D.av∧(D.wG l mh).yX.length=D.yX.length∧∃m',(D.wG l mh).ob mh=some (.mu m')∧m'.ws.length≤m.ws.length+l.length:=by
 intro l;induction l generalizing D with
 |nil=>intro m h1 h2;exact⟨rfl,rfl,rfl,m,h1,by simp⟩
 |cons t l ih=>
  intro m h1 h2;obtain⟨a1,a2,a3,a4⟩:=Dm.qA (t:=t) h1 h2;have hat:(D.again t mh).at_ mh=D.at_ mh:=by unfold Dm.at_;rw[a2]
  obtain⟨b1,b2,b3,m',b4,b5⟩:=ih (D:=D.again t mh) a3 (by rw[hat,a4];exact h2);exact⟨b1.trans a1,b2.trans a2,b3.trans a4,m',b4,by have:=m.Ty t;simp;omega⟩
section
variable {w0 w:World} {γ γ':U} {B g:Nat} {p:vG} {D:Dm}
theorem jJ(ho:Own w0 w γ)(h:yT γ B g p D){T:Nat}(hT:B+60≤T∧T<B+100)(x:En):∃γ',Own w0 (w.alloc (.cells x.xq 38)) γ'∧γ' T=some (w.heap.size,.cells x.xq 38 (0,0))∧yT γ' B g p D∧∀k,k≠T→γ' k=γ k:=⟨_,ho.new T _,yQ _ _ _ _,h.on (by unfold xi;omega),fun k hk=>yO _ _ _ hk⟩
theorem Oc(h:yT γ B g p D)(ho:Own w0 w γ)(x:En)(hxa:x.a≤9223372036854775807)(hg:∀m,D.ob x.a=some (.gp m)→0≤m.n∧m.n≤1048576∧(m.tv x.b).length≤100∧∀y∈m.tv x.b,D.Live y):Calls Tryz.prog 180 #[.p g,x.val] w (xj 15 w0 γ B g p (D.add x).1 (.i (D.add x).2)):=by
 obtain⟨γ1,o1,b1,h1,k1⟩:=jJ ho h (T:=B+69) (by omega) x;have kk:∀k,yU 15 B k→γ1 k=γ k:=fun k hk=>k1 k (by unfold yU at hk;omega);have r4:=o1.cell b1 (i:=4) (v:=.i x.a) rfl;have r5:=o1.cell b1 (i:=5) (v:=.i x.b) rfl;have hval:x.val=.agg #[.i x.kind,.i x.xr,.i x.pick,.i x.op,.i x.a,.i x.b,.i x.c]:=rfl;have harr:x.xq=#[.i x.kind,.i x.xr,.i x.pick,.i x.op,.i x.a,.i x.b,.i x.c]:=rfl;have HSAME:Hid (∃γ',Own w0 (w.alloc (.cells #[.i x.kind,.i x.xr,.i x.pick,.i x.op,.i x.a,.i x.b,.i x.c] 38)) γ'∧yT γ' B g p D∧∀k,yU 15 B k→γ' k=γ k):=I ⟨γ1,by rw[←harr];exact o1,h1,kk⟩;unfold Dm.add;rw[hval];by_cases hp:D.av.place x.a= -1
 ·rw[if_pos hp];have hf:=cr h1 o1 x.a hxa hp;rw[harr]at r4 r5 hf;clear h ho o1 b1 h1 k1 kk hg hval harr hp;go_in;go_wp2_with fail;refine hf.mono ?_;rintro e w' ⟨rfl,rfl⟩;clear hf;go_wp2_with fail;go_ret;exact⟨rfl,HSAME.out⟩
 ·rw[if_neg hp];by_cases hk:∃m,D.ob x.a=some (.gp m)
  ·obtain⟨m,hk⟩:=hk;rw[hk];obtain⟨n0,n1,gl,gv⟩:=hg m hk;have hx:D.Has x.a:=⟨hxa,hp⟩;have hat:=xX h1 hx.2;rw[hk]at hat;obtain⟨gm,hos,hat⟩:=hat;have hf:=rX (x:=x.a) h1 o1 hxa hp true (v:=.iface 223 (.p gm)) hos (fun W=>jG _ W) (by simp);have had:=Oj hat o1 x.b ⟨n0,n1⟩ (B+60) (by omega);have HT:Hid (∀w2 γ2,Own w0 w2 γ2→tK γ2 (B+100+8*D.at_ x.a) gm (m.add x.b)→(∀k,(k<B+100+8*D.at_ x.a∨B+100+8*D.at_ x.a+7≤k)→k≠B+60→γ2 k=γ1 k)→yT γ2 B g p (D.xg x.a (.gp (m.add x.b)))∧∀k,yU 15 B k→γ2 k=γ k):=I fun w2 γ2 o2 a2 k2=>⟨h1.uX hx ⟨gm,hos,a2⟩ (fun k q q2=>k2 k (by omega) q2),fun k q=>(k2 k (by unfold yU at q;have:=(xv h x.a hx.2).2;omega) (by unfold yU at q;omega)).trans (kk k q)⟩;have HG:=I (And.intro gl gv);show Calls _ _ _ _ (xj 15 w0 γ B g p ((D.xg x.a (.gp (m.add x.b))).xH (m.tv x.b)) (.i (m.pW x.b)));rw[harr]at r4 r5 hf had;clear h ho o1 b1 h1 k1 kk hg hval harr hp hk hat hos hx n0 n1 gl gv;go_in;go_wp2_with fail;refine hf.mono ?_;rintro e w' ⟨rfl,rfl⟩;clear hf;go_wp2_with fail;refine had.mono ?_;rintro e w2 ⟨vg,γ2,rfl,o2,a2,hpt,k2⟩;obtain⟨h2,hk2⟩:=HT.out w2 _ o2 a2 k2;obtain⟨AG,cG,rfl⟩:=hpt.form;have hwa:=uy h2 o2 (q:=B+60) (by omega) hpt HG.out.1 (fun y hy=>HG.out.2 y hy);have HK2:=I hk2;clear o2 a2 k2 had h2 hk2 hpt;go_wp2_with fail;refine hwa.mono ?_;rintro e w3 ⟨⟨r,rfl,-⟩,γ3,o3,h3,k3⟩;have HF:Hid (∃γ',Own w0 w3 γ'∧yT γ' B g p ((D.xg x.a (.gp (m.add x.b))).xH (m.tv x.b))∧∀k,yU 15 B k→γ' k=γ k):=I ⟨γ3,o3,h3,fun k hk=>(k3 k hk.out).trans (HK2.out k hk)⟩;clear o3 h3 k3 hwa;go_wp2_with fail;go_ret;exact⟨rfl,HF.out⟩
  ·have hf:=rX (x:=x.a) h1 o1 hxa hp false rfl (bS (xX h1 hp) (fun m e=>hk ⟨m,e⟩)) (by simp);rw[show(match D.ob x.a with|some (.gp m)=>D.Zy x m|_=>(D,8))=(D,8)by
    split
    ·rename_i m e;exact absurd ⟨m,e⟩ hk
    ·rfl];rw[harr]at r4 r5 hf;clear h ho o1 b1 h1 k1 kk hg hval harr hp hk;go_in;go_wp2_with fail;refine hf.mono ?_;rintro e w' ⟨rfl,rfl⟩;clear hf;go_wp2_with fail;go_ret;exact⟨rfl,HSAME.out⟩
end
end
section
open Go.RowKit Go.WideShapes
def Dm.sf(D:Dm)(x:En)(ws:List Int)(mh:Int):Dm×Int:=
 if x.op=21 then(if ws=[]then(D.xg x.a (.cd [] mh),0)else((D.xg x.a (.cd ws.tail mh)).again (ws.headD 0) mh,1))else((D.xg x.a (.cd [] mh)).wG ws mh,ws.length)
def Dm.qM(D:Dm)(x:En):Dm×Int×Int:=
 if D.av.place x.a= -1 then(D,0,7)else match D.ob x.a with
 |some (.cd ws mh)=>((D.sf x ws mh).1,(D.sf x ws mh).2,0)
 |_=>(D,0,8)
theorem fX{D:Dm}{x y:Int}{o:Ob}(h:D.at_ y≠D.at_ x):(D.xg x o).ob y=D.ob y:=by unfold Dm.ob Dm.xg;exact ub (Ne.symm h)
theorem XO{D:Dm}{t mh:Int}{m:Mu}(hob:D.ob mh=some (.mu m)){i:Nat}(hi:i≠D.at_ mh):(D.again t mh).yX.getD i none=D.yX.getD i none:=by
 have hob':({D with wh:=D.wh.stop (D.pl t)}:Dm).ob mh=some (.mu m):=hob;unfold Dm.again;rw[hob'];dsimp only;split
 ·exact ub (Ne.symm hi)
 ·exact ub (Ne.symm hi)
theorem aW{D:Dm}{mh:Int}{i:Nat}:∀(l:List Int) {m:Mu},D.ob mh=some (.mu m)→D.at_ mh<D.yX.length→i≠D.at_ mh→(D.wG l mh).yX.getD i none=D.yX.getD i none:=by
 intro l;induction l generalizing D with
 |nil=>intro m _ _ _;rfl
 |cons t l ih=>
  intro m h1 h2 h3;obtain⟨a1,a2,a3,a4⟩:=Dm.qA (t:=t) h1 h2;have hat:(D.again t mh).at_ mh=D.at_ mh:=by unfold Dm.at_;rw[a2]
  exact(ih (D:=D.again t mh) a3 (by rw[hat,a4];exact h2) (by rw[hat];exact h3)).trans (XO h1 h3)
section
variable {w0 w:World} {γ γ':U} {B g:Nat} {p:vG} {D:Dm}
theorem YM(h:yT γ B g p D)(ho:Own w0 w γ)(x:En)(hx:D.Has x.a){ws:List Int}{mh:Int}(hk:D.ob x.a=some (.cd ws mh))(hmh:D.Has mh)(hne:D.at_ mh≠D.at_ x.a){m:Mu}(hob:D.ob mh=some (.mu m))(hml:m.ws.length+ws.length<100)(hlive:∀y∈ws,D.Live y):Calls Tryz.prog 178 #[.p g,x.val] w (xj 15 w0 γ B g p (D.sf x ws mh).1 (.tuple #[.i (D.sf x ws mh).2,.i 0])):=by
 obtain⟨γ1,o1,b1,h1,k1⟩:=jJ ho h (T:=B+69) (by omega) x;have kk:∀k,yU 15 B k→γ1 k=γ k:=fun k hk=>k1 k (by unfold yU at hk;omega);have r3:=o1.cell b1 (i:=3) (v:=.i x.op) rfl;have r4:=o1.cell b1 (i:=4) (v:=.i x.a) rfl;have hval:x.val=.agg #[.i x.kind,.i x.xr,.i x.pick,.i x.op,.i x.a,.i x.b,.i x.c]:=rfl;have harr:x.xq=#[.i x.kind,.i x.xr,.i x.pick,.i x.op,.i x.a,.i x.b,.i x.c]:=rfl;have h8:=(xv h x.a hx.2).2;have hat:=xX h1 hx.2;rw[hk]at hat;obtain⟨gw,gc,hos,hgw,hat⟩:=hat;have hf:=sP (x:=x.a) h1 o1 hx.1 hx.2 true (v:=.iface 224 (.p gw)) hos (fun W=>pR _ W) (by simp);have w0c:=o1.cell hgw (i:=0) (v:=.p gc) rfl;have hsi:=U7 hat o1;have hbr:=Yz hat o1 (B+61) (by omega);have hwl:ws.length≤100:=hat.choose_spec.2.2;have HT:Hid (∀w2 γ2 (ws2:List Int),Own w0 w2 γ2→vQ γ2 (B+100+8*D.at_ x.a) gc ws2→(∀k,(k<B+100+8*D.at_ x.a∨B+100+8*D.at_ x.a+7≤k)→k≠B+61→γ2 k=γ1 k)→yT γ2 B g p (D.xg x.a (.cd ws2 mh))∧γ2 (B+100+8*D.at_ x.a+7)=some (gw,.cells #[.p gc,.i mh] 227 (0,0))∧∀k,yU 15 B k→γ2 k=γ k):=I fun w2 γ2 ws2 o2 a2 k2=>by have hgw2:=(k2 (B+100+8*D.at_ x.a+7) (by omega) (by omega)).trans hgw;refine⟨h1.setObj h8 (o:=some (.cd ws2 mh)) ⟨gw,gc,hos,hgw2,a2⟩ (fun k q1 q2=>k2 k (by omega) (by unfold xi at q2;omega)),hgw2,fun k q=>(k2 k (by unfold yU at q;omega) (by unfold yU at q;omega)).trans (kk k q)⟩
 have HM:Hid (∀ws2,(D.xg x.a (.cd ws2 mh)).ob mh=some (.mu m)):=I fun ws2=>(fX hne).trans hob;have H8:=I h8;have HOS:=I hos;have HMH:=I hmh;have HN:=I hne;have HL:=I hlive;have HLEN:Hid (D.yX.length=8):=I h.ol;have H8m:Hid (D.at_ mh<8):=I (xv h mh hmh.2).2;have hsc:D.sf x ws mh=if x.op=21 then(if ws=[]then(D.xg x.a (.cd [] mh),0)else((D.xg x.a (.cd ws.tail mh)).again (ws.headD 0) mh,1))else((D.xg x.a (.cd [] mh)).wG ws mh,(ws.length:Int)):=rfl;rw[hsc,hval];rw[harr]at r3 r4 hf w0c hsi hbr;clear hsc h ho o1 b1 h1 k1 kk hval harr hk hat hos hgw hx h8 hne hob hlive hmh;by_cases h21:x.op=21
 ·rw[if_pos h21];have d21:(x.op==21)=true:=by simpa using h21
  generalize x.op=op at*;clear h21 hbr;cases ws with
  |nil=> rw[if_pos rfl]at hsi⊢;go_in;go_wp2_with fail;refine hf.mono ?_;rintro e w' ⟨rfl,rfl⟩;clear hf;go_wp2_with fail;refine hsi.mono ?_;rintro e w2 ⟨rfl,γ2,o2,a2,k2⟩;obtain⟨h2,-,hk2⟩:=HT.out w2 _ _ o2 a2 (fun k q _=>k2 k (by omega));have HF:Hid (∃γ',Own w0 w2 γ'∧yT γ' B g p (D.xg x.a (.cd [] mh))∧∀k,yU 15 B k→γ' k=γ k):=I ⟨γ2,o2,h2,hk2⟩;clear o2 a2 k2 hsi h2 hk2;go_wp2_with fail;go_ret2;exact⟨rfl,HF.out⟩
  |cons y r=> rw[if_neg (by simp)]at hsi⊢;have hly:=HL.out y List.mem_cons_self;show Calls _ _ _ _ (xj 15 w0 γ B g p ((D.xg x.a (.cd r mh)).again y mh) (.tuple #[.i 1,.i 0]));replace hsi:Calls Tryz.prog 248 #[.p gc] _ (wg (fun γ'=>vQ γ' (B+100+8*D.at_ x.a) gc r) w0 γ1 (B+100+8*D.at_ x.a) (.tuple #[.i y,.bool true])):=hsi;go_in;go_wp2_with fail;refine hf.mono ?_;rintro e w' ⟨rfl,rfl⟩;clear hf;go_wp2_with fail;refine hsi.mono ?_;rintro e w2 ⟨rfl,γ2,o2,a2,k2⟩;obtain⟨h2,hgw2,hk2⟩:=HT.out w2 _ _ o2 a2 (fun k q _=>k2 k (by omega));have hag:=bF h2 o2 y hly.1 hly.2 H8.out hgw2 HMH.out.1 HMH.out.2 (HM.out r) (by omega) HN.out;have HK2:=I hk2;clear o2 a2 k2 hsi h2 hk2 hgw2;go_wp2_with fail;refine hag.mono ?_;rintro e w3 ⟨⟨rr,rfl,-⟩,γ3,o3,h3,k3⟩;have HF:Hid (∃γ',Own w0 w3 γ'∧yT γ' B g p ((D.xg x.a (.cd r mh)).again y mh)∧∀k,yU 15 B k→γ' k=γ k):=I ⟨γ3,o3,h3,fun k hk=>(k3 k hk.out).trans (HK2.out k hk)⟩;clear o3 h3 k3 hag;go_wp2_with fail;go_ret2;exact⟨rfl,HF.out⟩
 ·rw[if_neg h21];have d21:(x.op==21)=false:=by simpa using h21
  generalize x.op=op at*;clear h21 hsi;generalize hn:ws.length=n at*;have HNN:=I hn;clear hn;go_in;go_wp2_with fail;refine hf.mono ?_;rintro e w' ⟨rfl,rfl⟩;clear hf;go_wp2_with fail;refine hbr.mono ?_;rintro e w2 ⟨vg,γ2,rfl,o2,a2,hpt,k2⟩;obtain⟨h2,hgw2,hk2⟩:=HT.out w2 _ _ o2 a2 k2;rw[HNN.out]at hpt;have HPT:=I hpt;obtain⟨AG,cG,hvg⟩:=hpt.form;have hvg':vg=.slice AG n cG:=hvg;subst hvg';have HS:Hid (∃γ',Own w0 w2 γ'∧yT γ' B g p ((D.xg x.a (.cd [] mh)).wG (ws.take 0) mh)∧xK γ' (B+61) 3 1 (.slice AG n cG) n (ints ws)∧∀k,yU 15 B k→γ' k=γ k):=I ⟨γ2,o2,h2,HPT.out,hk2⟩;clear o2 a2 k2 hbr h2 hgw2 hk2 hpt hvg HPT;go_wp2_with fail;go_loopw [47] (fun i wr=>∃(j:Nat) (γ':U),i=.i j∧j≤n∧Own w0 wr γ'∧yT γ' B g p ((D.xg x.a (.cd [] mh)).wG (ws.take j) mh)∧xK γ' (B+61) 3 1 (.slice AG n cG) n (ints ws)∧∀k,yU 15 B k→γ' k=γ k) (fun i _=>n-(intOf i).toNat);case atStart=> obtain⟨γ',a1,a2,a3,a4⟩:=HS.out;exact⟨0,γ',rfl,by omega,a1,a2,a3,a4⟩
  case round=>
   clear HS;obtain⟨j,γ',rfl,hj,ho,h,hpa,hkk⟩:=hrel;by_cases hlt:j<n
   ·have dl:decide ((j:Int)<n)=true:=by simpa using hlt
    have hjl:j<ws.length:=by rw[HNN.out];exact hlt
    obtain⟨y,hy⟩:∃y,ws[j]? =some y:=⟨_,zl hjl⟩;obtain⟨g',c',hv,-,hrow⟩:=hpa.row ho (by omega);cases hv;have cj:=hrow j (.i y) (by unfold ints;rw[zx,hy];rfl);have hly:=HL.out y (zo hy);obtain⟨e1,e2,e3,m',e4,e5⟩:=Dm.aV (D:=D.xg x.a (.cd [] mh)) (mh:=mh) (ws.take j) (HM.out []) (by show D.at_ mh<(D.yX.set _ _).length;rw[zq,HLEN.out];exact H8m.out);have hlt8:(D.xg x.a (.cd [] mh)).at_ mh<(D.xg x.a (.cd [] mh)).yX.length:=by show D.at_ mh<(D.yX.set _ _).length;rw[zq,HLEN.out];exact H8m.out
    have heach:=h.each _ H8.out;rw[aW (ws.take j) (HM.out []) hlt8 (show D.at_ x.a≠D.at_ mh from Ne.symm HN.out)]at heach;rw[show(D.xg x.a (.cd [] mh)).yX.getD (D.at_ x.a) none=some (.cd [] mh)from wq (by rw[HLEN.out];exact H8.out)]at heach;obtain⟨gw',gc',ho1,hgw,-⟩:=heach;have ho2:=HOS.out.symm.trans ho1;cases ho2;have hata:((D.xg x.a (.cd [] mh)).wG (ws.take j) mh).at_ mh=D.at_ mh:=by unfold Dm.at_;rw[e2];rfl
    have hag:=bF h ho y hly.1 (by rw[e1];exact hly.2) H8.out hgw HMH.out.1 (by rw[e2];exact HMH.out.2) e4 (by rw[zE]at e5;omega) (by rw[hata];exact HN.out);have hsn:Hid ((D.xg x.a (.cd [] mh)).wG (ws.take (j+1)) mh=((D.xg x.a (.cd [] mh)).wG (ws.take j) mh).again y mh):=I (by rw[yk,hy];exact Dm.aX _ _ _ _);have HK:=I hkk;have HPA:=I hpa;clear h ho hkk hrow hy hpa e1 e2 e3 e4 e5 hata hlt8 ho1 hgw;go_wp2_with fail;refine hag.mono ?_;rintro e w3 ⟨⟨rr,rfl,-⟩,γ3,o3,h3,k3⟩;have HF:Hid (Own w0 w3 γ3∧yT γ3 B g p ((D.xg x.a (.cd [] mh)).wG (ws.take (j+1)) mh)∧xK γ3 (B+61) 3 1 (.slice (zb g') n cG) n (ints ws)∧∀k,yU 15 B k→γ3 k=γ k):=I ⟨o3,by rw[hsn.out];exact h3,HPA.out.keep (k3 _ (by unfold Out;omega)),fun k hk=>(k3 k hk.out).trans (HK.out k hk)⟩;clear o3 h3 k3 hag;go_wp2_with fail;go_roundw;case rel=>exact⟨j+1,γ3,by simp,by omega,HF.out.1,HF.out.2.1,HF.out.2.2.1,HF.out.2.2.2⟩
    case measure=>simp[intOf];omega
   ·obtain rfl:j=n:=by omega
    have dl:decide ((j:Int)<j)=false:=by simp
    have HF:Hid (∃γ',Own w0 wr γ'∧yT γ' B g p ((D.xg x.a (.cd [] mh)).wG ws mh)∧∀k,yU 15 B k→γ' k=γ k):=I ⟨γ',ho,by rw[←HNN.out,yA]at h;exact h,hkk⟩;clear h ho hkk hpa;go_wp2_with fail;go_ret2;exact⟨rfl,HF.out⟩
end
end
section
open Go.RowKit Go.WideShapes
section
variable {w0 w:World} {γ γ':U} {B g:Nat} {p:vG} {D:Dm}
theorem YN(h:yT γ B g p D)(ho:Own w0 w γ)(x:En)(hxa:x.a≤9223372036854775807)(hp:D.av.place x.a= -1):Calls Tryz.prog 178 #[.p g,x.val] w (xj 15 w0 γ B g p D (.tuple #[.i 0,.i 7])):=by
 have hb2:Below w.heap.size w (w.alloc (.cells x.xq 38)):=(Below.refl _ w).alloc (zm _) _;have hbx:=vD (w:=w) x;have hsz:(w).heap.size=w.heap.size:=by rfl
 rw[hsz]at hbx;have r4:=hbx 4 (.i x.a) rfl;have hval:x.val=.agg #[.i x.kind,.i x.xr,.i x.pick,.i x.op,.i x.a,.i x.b,.i x.c]:=rfl;have harr:x.xq=#[.i x.kind,.i x.xr,.i x.pick,.i x.op,.i x.a,.i x.b,.i x.c]:=rfl;rw[hval];rw[harr]at r4 hb2;have HB:=I hb2;have hf0:=cB h (ho.xh hb2) x.a hxa hp;have HF:Hid (∀W,Below w.heap.size w W→xj 15 w0 γ B g p D (.tuple #[.i 0,.i 7]) (.returned (.tuple #[.i 0,.i 7])) W):=I fun W hW=>wC 15 h (ho.xh hW) _;clear h ho hbx hval harr hsz hp hxa hb2;go_in;go_wp2_with fail;refine hf0.mono ?_;rintro e w' ⟨rfl,rfl⟩;clear hf0;go_wp2_with fail;go_ret2;exact HF.out _ HB.out
theorem uN(h:yT γ B g p D)(ho:Own w0 w γ)(x:En)(hxa:x.a≤9223372036854775807)(hp:D.av.place x.a≠ -1)(h0:∀ws mh,D.ob x.a≠some (.cd ws mh)):Calls Tryz.prog 178 #[.p g,x.val] w (xj 15 w0 γ B g p D (.tuple #[.i 0,.i 8])):=by
 have hb2:Below w.heap.size w (w.alloc (.cells x.xq 38)):=(Below.refl _ w).alloc (zm _) _;have hbx:=vD (w:=w) x;have hsz:(w).heap.size=w.heap.size:=by rfl
 rw[hsz]at hbx;have r4:=hbx 4 (.i x.a) rfl;have hval:x.val=.agg #[.i x.kind,.i x.xr,.i x.pick,.i x.op,.i x.a,.i x.b,.i x.c]:=rfl;have harr:x.xq=#[.i x.kind,.i x.xr,.i x.pick,.i x.op,.i x.a,.i x.b,.i x.c]:=rfl;rw[hval];rw[harr]at r4 hb2;have HB:=I hb2;have hf0:=sP h (ho.xh hb2) x.a hxa hp false rfl (bT (xX h hp) h0) (by simp);have HF:Hid (∀W,Below w.heap.size w W→xj 15 w0 γ B g p D (.tuple #[.i 0,.i 8]) (.returned (.tuple #[.i 0,.i 8])) W):=I fun W hW=>wC 15 h (ho.xh hW) _;clear h ho hbx hval harr hsz hp hxa hb2;go_in;go_wp2_with fail;refine hf0.mono ?_;rintro e w' ⟨rfl,rfl⟩;clear hf0;go_wp2_with fail;go_ret2;exact HF.out _ HB.out
theorem Vw(h:yT γ B g p D)(ho:Own w0 w γ){t:Int}(x:En)(hxa:x.a≤9223372036854775807)(hp:D.av.place x.a= -1):Calls Tryz.prog 179 #[.p g,.i t,x.val] w (xj 15 w0 γ B g p D (.tuple #[.i 0,.i 7])):=by
 have hb2:Below w.heap.size w ((w.alloc (.cells #[.i t] 3)).alloc (.cells x.xq 38)):=((Below.refl _ w).alloc (zm _) _).alloc (by simp<;>omega) _;have hbx:=vD (w:=(w.alloc (.cells #[.i t] 3))) x;have hsz:((w.alloc (.cells #[.i t] 3))).heap.size=w.heap.size+1:=by simp
 rw[hsz]at hbx;have r4:=hbx 4 (.i x.a) rfl;have hval:x.val=.agg #[.i x.kind,.i x.xr,.i x.pick,.i x.op,.i x.a,.i x.b,.i x.c]:=rfl;have harr:x.xq=#[.i x.kind,.i x.xr,.i x.pick,.i x.op,.i x.a,.i x.b,.i x.c]:=rfl;rw[hval];rw[harr]at r4 hb2;have HB:=I hb2;have hf0:=We h (ho.xh hb2) x.a hxa hp;have hb3:=hb2.alloc hb2.size (.cells #[.pointer none] 222);have HB3:=I hb3;have HF:Hid (∀W,Below w.heap.size w W→xj 15 w0 γ B g p D (.tuple #[.i 0,.i 7]) (.returned (.tuple #[.i 0,.i 7])) W):=I fun W hW=>wC 15 h (ho.xh hW) _;clear h ho hbx hval harr hsz hp hxa hb2 hb3;go_in;go_wp2_with fail;refine hf0.mono ?_;rintro e w' ⟨rfl,rfl⟩;clear hf0;go_wp2_with fail;go_ret2;exact HF.out _ HB3.out
theorem tW(h:yT γ B g p D)(ho:Own w0 w γ){t:Int}(x:En)(hxa:x.a≤9223372036854775807)(hp:D.av.place x.a≠ -1)(h0:∀m,D.ob x.a≠some (.on m)):Calls Tryz.prog 179 #[.p g,.i t,x.val] w (xj 15 w0 γ B g p D (.tuple #[.i 0,.i 8])):=by
 have hb2:Below w.heap.size w ((w.alloc (.cells #[.i t] 3)).alloc (.cells x.xq 38)):=((Below.refl _ w).alloc (zm _) _).alloc (by simp<;>omega) _;have hbx:=vD (w:=(w.alloc (.cells #[.i t] 3))) x;have hsz:((w.alloc (.cells #[.i t] 3))).heap.size=w.heap.size+1:=by simp
 rw[hsz]at hbx;have r4:=hbx 4 (.i x.a) rfl;have hval:x.val=.agg #[.i x.kind,.i x.xr,.i x.pick,.i x.op,.i x.a,.i x.b,.i x.c]:=rfl;have harr:x.xq=#[.i x.kind,.i x.xr,.i x.pick,.i x.op,.i x.a,.i x.b,.i x.c]:=rfl;rw[hval];rw[harr]at r4 hb2;have HB:=I hb2;have hf0:=eV h (ho.xh hb2) x.a hxa hp false rfl (RS (xX h hp) h0) (by simp);have hb3:=hb2.alloc hb2.size (.cells #[.pointer none] 222);have HB3:=I hb3;have HF:Hid (∀W,Below w.heap.size w W→xj 15 w0 γ B g p D (.tuple #[.i 0,.i 8]) (.returned (.tuple #[.i 0,.i 8])) W):=I fun W hW=>wC 15 h (ho.xh hW) _;clear h ho hbx hval harr hsz hp hxa hb2 hb3;go_in;go_wp2_with fail;refine hf0.mono ?_;rintro e w' ⟨rfl,rfl⟩;clear hf0;go_wp2_with fail;go_ret2;exact HF.out _ HB3.out
theorem VF(h:yT γ B g p D)(ho:Own w0 w γ){t:Int}(x:En)(hxa:x.a≤9223372036854775807)(hp:D.av.place x.a= -1):Calls Tryz.prog 177 #[.p g,.i t,x.val] w (xj 15 w0 γ B g p D (.i 7)):=by
 have hb2:Below w.heap.size w (((w.alloc (.cells #[.p g] 97)).alloc (.cells #[.i t] 3)).alloc (.cells x.xq 38)):=(((Below.refl _ w).alloc (zm _) _).alloc (by simp<;>omega) _).alloc (by simp<;>omega) _;have hbx:=vD (w:=((w.alloc (.cells #[.p g] 97)).alloc (.cells #[.i t] 3))) x;have hsz:(((w.alloc (.cells #[.p g] 97)).alloc (.cells #[.i t] 3))).heap.size=w.heap.size+1+1:=by simp
 rw[hsz]at hbx;have r4:=hbx 4 (.i x.a) rfl;have hval:x.val=.agg #[.i x.kind,.i x.xr,.i x.pick,.i x.op,.i x.a,.i x.b,.i x.c]:=rfl;have harr:x.xq=#[.i x.kind,.i x.xr,.i x.pick,.i x.op,.i x.a,.i x.b,.i x.c]:=rfl;rw[hval];rw[harr]at r4 hb2;have HB:=I hb2;have d0:(((w.alloc (.cells #[.p g] 97)).alloc (.cells #[.i t] 3)).alloc (.cells #[.i x.kind,.i x.xr,.i x.pick,.i x.op,.i x.a,.i x.b,.i x.c] 38)).cell? (zc w.heap.size 0)=some (.p g):=by rw[World.cell?_alloc_past _ _ _ (by simp;omega),World.cell?_alloc_past _ _ _ (by simp),World.cell?_alloc_at _ _ _ _ rfl];rfl
 have hf0:=cr h (ho.xh hb2) x.a hxa hp;have hb3:=hb2.alloc hb2.size (.cells #[.pointer none] 223);have HB3:=I hb3;have HF:Hid (∀W,Below w.heap.size w W→xj 15 w0 γ B g p D (.i 7) (.returned (.i 7)) W):=I fun W hW=>wC 15 h (ho.xh hW) _;clear h ho hbx hval harr hsz hp hxa hb2 hb3;go_in;go_wp2_with fail;refine hf0.mono ?_;rintro e w' ⟨rfl,rfl⟩;clear hf0;go_wp2_with fail;go_ret;exact HF.out _ HB3.out
theorem rv(h:yT γ B g p D)(ho:Own w0 w γ){t:Int}(x:En)(hxa:x.a≤9223372036854775807)(hp:D.av.place x.a≠ -1)(h0:∀m,D.ob x.a≠some (.gp m))(h1:∀ws mh,D.ob x.a≠some (.cd ws mh)):Calls Tryz.prog 177 #[.p g,.i t,x.val] w (xj 15 w0 γ B g p D (.i 8)):=by
 have hb2:Below w.heap.size w (((w.alloc (.cells #[.p g] 97)).alloc (.cells #[.i t] 3)).alloc (.cells x.xq 38)):=(((Below.refl _ w).alloc (zm _) _).alloc (by simp<;>omega) _).alloc (by simp<;>omega) _;have hbx:=vD (w:=((w.alloc (.cells #[.p g] 97)).alloc (.cells #[.i t] 3))) x;have hsz:(((w.alloc (.cells #[.p g] 97)).alloc (.cells #[.i t] 3))).heap.size=w.heap.size+1+1:=by simp
 rw[hsz]at hbx;have r4:=hbx 4 (.i x.a) rfl;have hval:x.val=.agg #[.i x.kind,.i x.xr,.i x.pick,.i x.op,.i x.a,.i x.b,.i x.c]:=rfl;have harr:x.xq=#[.i x.kind,.i x.xr,.i x.pick,.i x.op,.i x.a,.i x.b,.i x.c]:=rfl;rw[hval];rw[harr]at r4 hb2;have HB:=I hb2;have d0:(((w.alloc (.cells #[.p g] 97)).alloc (.cells #[.i t] 3)).alloc (.cells #[.i x.kind,.i x.xr,.i x.pick,.i x.op,.i x.a,.i x.b,.i x.c] 38)).cell? (zc w.heap.size 0)=some (.p g):=by rw[World.cell?_alloc_past _ _ _ (by simp;omega),World.cell?_alloc_past _ _ _ (by simp),World.cell?_alloc_at _ _ _ _ rfl];rfl
 have hf0:=rX h (ho.xh hb2) x.a hxa hp false rfl (bS (xX h hp) h0) (by simp);have hb3:=hb2.alloc hb2.size (.cells #[.pointer none] 223);have HB3:=I hb3;have r4':=xU r4 (.cells #[.pointer none] 223);have d0':=xU d0 (.cells #[.pointer none] 223);have hf1:=sP h (ho.xh hb3) x.a hxa hp false rfl (bT (xX h hp) h1) (by simp);have hb4:=hb3.alloc hb3.size (.cells #[.pointer none] 224);have HB4:=I hb4;have HF:Hid (∀W,Below w.heap.size w W→xj 15 w0 γ B g p D (.i 8) (.returned (.i 8)) W):=I fun W hW=>wC 15 h (ho.xh hW) _;clear h ho hbx hval harr hsz hp hxa hb2 hb3 hb4;go_in;go_wp2_with fail;refine hf0.mono ?_;rintro e w' ⟨rfl,rfl⟩;clear hf0;go_wp2_with fail;refine hf1.mono ?_;rintro e w' ⟨rfl,rfl⟩;clear hf1;go_wp2_with fail;go_ret;exact HF.out _ HB4.out
end
end
section
open Go.RowKit Go.WideShapes
def Xj(n T:Nat)(oT:Option (Nat×Obj))(w0:World)(γ:U)(B g:Nat)(p:vG)(D:Dm)(r:Value)(e:Ending)(w':World):Prop:=
 e=.returned r∧∃γ',Own w0 w' γ'∧yT γ' B g p D∧γ' T=oT∧∀k,yU n B k→k≠T→γ' k=γ k
def Xb(w0:World)(γ:U)(B g:Nat)(p:vG)(D:Dm)(gf:Nat)(lb:Array Value)(E:Int)(D1:Dm)(T:Nat)(oT:Option (Nat×Obj)):Prop:=
 ∀W γ',Own w0 W γ'→yT γ' B g p D→(∀k,yU 5 B k→γ' k=γ k)→Calls Tryz.prog gf lb W (Xj 1 T oT w0 γ' B g p D1 (.i E))
section
variable {w0 w:World} {γ:U} {B g:Nat} {p:vG} {D:Dm}
theorem Tf(h:yT γ B g p D)(ho:Own w0 w γ)(t:Int)(x:En)(hx:t≤9223372036854775807)(hc:0≤D.clock∧D.clock≤4611686018427387904)(gf:Nat)(lb:Array Value)(eg:∀args w,(callFunc gf args).run Tryz.prog w=.ok (.enter gf args) w)(E:Int)(D1:Dm)(hp:E=14→D1.sv.ar.place t≠ -1){T:Nat}(hT:yU 5 B T){oT:Option (Nat×Obj)}(want:Xb w0 γ B g p D gf lb E D1 T oT):Calls Tryz.prog 229 #[.p g,.i t,x.val,.func (.func gf) #[] lb] w (Xj 5 T (if(x.xM D.clock).2=0 then oT else γ T) w0 γ B g p (D.xO t x E D1) (.i (x.vL D.clock E))):=by
 have o0:=ho.new (B+62) (.cells x.xq 38);have h0:yT (put γ (B+62) w.heap.size (.cells x.xq 38)) B g p D:=h.on (by unfold xi;omega);have g0:=yQ γ (B+62) w.heap.size (.cells x.xq 38);have k0:∀k,k≠B+62→put γ (B+62) w.heap.size (.cells x.xq 38) k=γ k:=fun k hk=>yO _ _ _ hk;generalize put γ (B+62) w.heap.size (.cells x.xq 38)=γ0 at*;have hti:=VB h0 o0 x hc;have q0:=o0.cell g0 (i:=0) (v:=.i x.kind) rfl;have q1:=o0.cell g0 (i:=1) (v:=.i x.xr) rfl;have q2:=o0.cell g0 (i:=2) (v:=.i x.pick) rfl;have q3:=o0.cell g0 (i:=3) (v:=.i x.op) rfl;have q4:=o0.cell g0 (i:=4) (v:=.i x.a) rfl;have q5:=o0.cell g0 (i:=5) (v:=.i x.b) rfl;have q6:=o0.cell g0 (i:=6) (v:=.i x.c) rfl;have hle:=x.XG D.clock;have hte:=x.UX D.clock;have hW:=want;have hent:∀r,D.xO t x E D1=r↔(if(x.xM D.clock).2=0 then(if E=14 then D1.block t x.a (x.xM D.clock).1 else D1)else D)=r:=fun r=>Iff.rfl;have heE:x.vL D.clock E=if(x.xM D.clock).2=0 then E else(x.xM D.clock).2:=rfl;have hen:D.xO t x E D1=if(x.xM D.clock).2=0 then(if E=14 then D1.block t x.a (x.xM D.clock).1 else D1)else D:=rfl;rw[heE,hen];have HTT:=I hT;have hT1:γ0 T=γ T:=k0 T (by unfold yU at hT;omega);have HT1:=I hT1;generalize(x.xM D.clock).2=te at*;generalize(x.xM D.clock).1=tl at*;have hval:x.val=.agg x.xq:=rfl;have harr:x.xq=#[.i x.kind,.i x.xr,.i x.pick,.i x.op,.i x.a,.i x.b,.i x.c]:=rfl;rw[hval]at hti⊢;rw[harr]at hti o0 q0 q1 q2 q3 q4 q5 q6 g0⊢;have HO:=I o0;have H0:=I h0;have G0:=I g0;have K0:=I k0;have HWant:=I want;have HP:=I hp;clear h ho o0 h0 g0 k0 hW want hent heE hen hval harr hp hT hT1;by_cases hz:te=0
 ·subst hz;rw[if_pos rfl,if_pos rfl,if_pos rfl];have htl:=hle rfl;by_cases h14:E=14
  ·subst h14;rw[if_pos rfl];go_in;go_wp2_with fail;refine hti.mono ?_;rintro e w1 ⟨rfl,hb⟩;have o1:=HO.out.xh hb;have hwa:=HWant.out w1 _ o1 H0.out (fun k hk=>K0.out k (by unfold yU at hk;omega));clear hti hb q0 q1 q2 q3 q4 q5 q6;go_wp2_with fail;refine hwa.mono ?_;rintro e w2 ⟨rfl,γ2,o2,h2,t2,k2⟩;have ga:=o2.cell ((k2 (B+62) (by unfold yU;omega) (by have h:=HTT.out;unfold yU at h;omega)).trans G0.out) (i:=4) (v:=.i x.a) rfl;have hbl:=Xi h2 o2 t hx (HP.out (by trivial)) x.a tl htl;have HK2:Hid (∀k,yU 5 B k→k≠T→γ2 k=γ k):=I fun k hk hq=>(k2 k (by unfold yU at hk⊢;omega) hq).trans (K0.out k (by unfold yU at hk;omega));have T2:=I t2;clear hwa o1 o2 h2 k2 t2;go_wp2_with fail;refine hbl.mono ?_;rintro e w3 ⟨⟨r,rfl,-⟩,γ3,o3,h3,k3⟩;have HF:Hid (∃γ',Own w0 w3 γ'∧yT γ' B g p (D1.block t x.a tl)∧γ' T=oT∧∀k,yU 5 B k→k≠T→γ' k=γ k):=I ⟨γ3,o3,h3,(k3 T HTT.out.out).trans T2.out,fun k hk hq=>(k3 k hk.out).trans (HK2.out k hk hq)⟩;clear o3 h3 k3 hbl;go_wp2_with fail;go_ret;exact⟨rfl,HF.out⟩
  ·rw[if_neg h14];have d14:(E==14)=false:=by simpa using h14
   go_in;go_wp2_with fail;refine hti.mono ?_;rintro e w1 ⟨rfl,hb⟩;have o1:=HO.out.xh hb;have hwa:=HWant.out w1 _ o1 H0.out (fun k hk=>K0.out k (by unfold yU at hk;omega));clear hti hb q0 q1 q2 q3 q4 q5 q6;go_wp2_with fail;refine hwa.mono ?_;rintro e w2 ⟨rfl,γ2,o2,h2,t2,k2⟩;have HF:Hid (∃γ',Own w0 w2 γ'∧yT γ' B g p D1∧γ' T=oT∧∀k,yU 5 B k→k≠T→γ' k=γ k):=I ⟨γ2,o2,h2,t2,fun k hk hq=>(k2 k (by unfold yU at hk⊢;omega) hq).trans (K0.out k (by unfold yU at hk;omega))⟩;clear hwa o1 o2 h2 k2 t2;go_wp2_with fail;go_ret;exact⟨rfl,HF.out⟩
 ·rw[if_neg hz,if_neg hz,if_neg hz];have hz0:(te==0)=false:=by simpa using hz
  have hz14:(te==14)=false:=by rcases hte with rfl|rfl|rfl<;>simp_all
  go_in;go_wp2_with fail;refine hti.mono ?_;rintro e w1 ⟨rfl,hb⟩;have HZ:Hid (∃γ',Own w0 w1 γ'∧yT γ' B g p D∧γ' T=γ T∧∀k,yU 5 B k→k≠T→γ' k=γ k):=I ⟨γ0,HO.out.xh hb,H0.out,HT1.out,fun k hk _=>K0.out k (by unfold yU at hk;omega)⟩;clear hti hb q0 q1 q2 q3 q4 q5 q6 hle hte;go_wp2_with fail;go_ret;exact⟨rfl,HZ.out⟩
theorem QE{x:Int}(hx:D.Has x){m:On}(hob:D.ob x=some (.on m))(hlt:m.ws.length<100){gm b1 b2 b3 T1 T2 T3:Nat}{t:Int}{f0:Bool}(hos:p.os.getD (D.at_ x) undef=.iface 222 (.p gm))(h1:γ T1=some (b1,.cells #[.p gm] 222 (0,0)))(h2:γ T2=some (b2,.cells #[.i t] 3 (0,0)))(h3:γ T3=some (b3,.cells #[.bool f0] 4 (0,0)))(e1:yU 5 B T1)(e2:yU 5 B T2)(e3:yU 5 B T3)(e4:B+65≤T3∧T3<B+100):Xb w0 γ B g p D 252 #[.p b1,.p b2,.p b3] (m.xZ t) (D.xg x (.on (m.vh t))) T3 (some (b3,.cells #[.bool (m.first t)] 4 (0,0))):=by
 intro W γ' hW hD hk;have c1:=hW.cell ((hk T1 e1).trans h1) (i:=0) (v:=.p gm) rfl;have c2:=hW.cell ((hk T2 e2).trans h2) (i:=0) (v:=.i t) rfl;have hat:=xX hD hx.2;rw[hob]at hat;obtain⟨gm',e,hat⟩:=hat;have e':=hos.symm.trans e;cases e';have hc:=RY hat hW t hlt;have HD:=I hD;have HOS:=I hos;have HT3:=I ((hk T3 e3).trans h3);clear hat hW hk hD h1 h2 e hos h3;go_in;go_wp2_with fail;refine hc.mono ?_;rintro e w' ⟨rfl,γ2,o2,a2,k2⟩;have hp8:=(xv HD.out x hx.2).2;have ht2:γ2 T3=some (b3,.cells #[.bool f0] 4 (0,0)):=(k2 T3 (by omega)).trans HT3.out;have c3:=o2.cell ht2 (i:=0) (v:=.bool f0) rfl;have f3:=o2.free ht2 0;have HF:Hid (∃γ2,Own w0 (w'.setCell (zc b3 0) (.bool (m.first t))) γ2∧yT γ2 B g p (D.xg x (.on (m.vh t)))∧γ2 T3=some (b3,.cells #[.bool (m.first t)] 4 (0,0))∧∀k,yU 1 B k→k≠T3→γ2 k=γ' k):=by have hd2:=HD.out.uX hx (o:=.on (m.vh t)) ⟨gm,HOS.out,a2⟩ (fun k q _=>k2 k (by omega));exact I ⟨_,o2.set ht2 0 (.bool (m.first t)),hd2.wK fun k hk=>yO _ _ _ (by unfold xi at hk;omega),yQ _ _ _ _,fun k q q2=>(yO _ _ _ q2).trans (k2 k (by unfold yU at q;omega))⟩
 clear o2 a2 k2 hc ht2;go_wp2_with fail;go_ret;exact⟨rfl,HF.out⟩
def Dm.pw(D:Dm)(t:Int)(x:En)(m:On):Dm×Int×Int:=
 if x.op=24 then((D.xg x.a (.on (m.done t))).xH (m.su t),0,m.qF t)
 else(D.xO t x (m.xZ t) (D.xg x.a (.on (m.vh t))),if((x.xM D.clock).2==0&&m.first t)=true then 1 else 0,x.vL D.clock (m.xZ t))
theorem Vx(h:yT γ B g p D)(ho:Own w0 w γ){t:Int}(x:En)(ht:D.Live t)(hc:0≤D.clock∧D.clock≤4611686018427387904)(hx:D.Has x.a){m:On}(hob:D.ob x.a=some (.on m))(hlt:m.ws.length<100)(hgot:(m.su t).length≤100∧∀y∈m.su t,D.Live y):Calls Tryz.prog 179 #[.p g,.i t,x.val] w (xj 15 w0 γ B g p (D.pw t x m).1 (.tuple #[.i (D.pw t x m).2.1,.i (D.pw t x m).2.2])):=by
 have hmf:∀(fn:Fn) (first cap:Array Value) (w:World),(Instr.makeFunc fn first cap).run Tryz.prog w=.ok (.func fn first cap) w:=fun _ _ _ _=>rfl;have hat0:=xX h hx.2;rw[hob]at hat0;obtain⟨gm,hos,-⟩:=id hat0;obtain⟨γ1,o1,b1,b2,b3,k1⟩:=rp ho (B+68) (B+69) (B+70) (by omega) (by omega) (by omega) #[.i t] x.xq #[.p gm] 3 38 222;have h1:yT γ1 B g p D:=h.wK fun k hk=>k1 k (by unfold xi at hk;omega) (by unfold xi at hk;omega) (by unfold xi at hk;omega);have kk:∀k,yU 15 B k→γ1 k=γ k:=fun k hk=>k1 k (by unfold yU at hk;omega) (by unfold yU at hk;omega) (by unfold yU at hk;omega);have hb2:Below w.heap.size w ((w.alloc (.cells #[.i t] 3)).alloc (.cells x.xq 38)):=((Below.refl _ w).alloc (zm _) _).alloc (by simp) _;have hf:=eV (x:=x.a) h (ho.xh hb2) hx.1 hx.2 true (v:=.iface 222 (.p gm)) hos (fun W=>jE _ W) (by simp);have q0:=o1.cell b1 (i:=0) (v:=.i t) rfl;have r0:=o1.cell b2 (i:=0) (v:=.i x.kind) rfl;have r1:=o1.cell b2 (i:=1) (v:=.i x.xr) rfl;have r2:=o1.cell b2 (i:=2) (v:=.i x.pick) rfl;have r3:=o1.cell b2 (i:=3) (v:=.i x.op) rfl;have r4:=o1.cell b2 (i:=4) (v:=.i x.a) rfl;have r5:=o1.cell b2 (i:=5) (v:=.i x.b) rfl;have r6:=o1.cell b2 (i:=6) (v:=.i x.c) rfl;have s0:=o1.cell b3 (i:=0) (v:=.p gm) rfl;have hat:=xX h1 hx.2;rw[hob]at hat;obtain⟨gm',e,hat⟩:=hat;have e':=hos.symm.trans e;cases e';have hun:=PG hat o1 t (B+60) (by omega);have o4:=o1.new (B+71) (.cells #[.bool false] 4);have hsz3:(((w.alloc (.cells #[.i t] 3)).alloc (.cells x.xq 38)).alloc (.cells #[.p gm] 222)).heap.size=w.heap.size+1+1+1:=by simp
 rw[hsz3]at o4;have kp:∀k,k≠B+71→put γ1 (B+71) (w.heap.size+1+1+1) (.cells #[.bool false] 4) k=γ1 k:=fun k hk=>yO _ _ _ hk;have g4:=yQ γ1 (B+71) (w.heap.size+1+1+1) (.cells #[.bool false] 4);have h4:yT (put γ1 (B+71) (w.heap.size+1+1+1) (.cells #[.bool false] 4)) B g p D:=h1.on (by unfold xi;omega);generalize put γ1 (B+71) (w.heap.size+1+1+1) (.cells #[.bool false] 4)=γ4 at*;have q0':=o4.cell ((kp _ (by omega)).trans b1) (i:=0) (v:=.i t) rfl;have r0':=o4.cell ((kp _ (by omega)).trans b2) (i:=0) (v:=.i x.kind) rfl;have r1':=o4.cell ((kp _ (by omega)).trans b2) (i:=1) (v:=.i x.xr) rfl;have r2':=o4.cell ((kp _ (by omega)).trans b2) (i:=2) (v:=.i x.pick) rfl;have r3':=o4.cell ((kp _ (by omega)).trans b2) (i:=3) (v:=.i x.op) rfl;have r4':=o4.cell ((kp _ (by omega)).trans b2) (i:=4) (v:=.i x.a) rfl;have r5':=o4.cell ((kp _ (by omega)).trans b2) (i:=5) (v:=.i x.b) rfl;have r6':=o4.cell ((kp _ (by omega)).trans b2) (i:=6) (v:=.i x.c) rfl;have hen:=Tf h4 o4 t x ht.1 hc 252 #[.p (w.heap.size+1+1),.p w.heap.size,.p (w.heap.size+1+1+1)] (enters_of Tryz.func252 (by kernel_rfl) rfl) (m.xZ t) (D.xg x.a (.on (m.vh t))) (fun _=>ht.2) (T:=B+71) (by unfold yU;omega) (QE hx hob hlt hos ((kp _ (by omega)).trans b3) ((kp _ (by omega)).trans b1) g4 (by unfold yU;omega) (by unfold yU;omega) (by unfold yU;omega) (by omega));rw[g4]at hen;have HT:Hid (∀w2 γ2,Own w0 w2 γ2→tR γ2 (B+100+8*D.at_ x.a) gm (m.done t)→(∀k,(k<B+100+8*D.at_ x.a∨B+100+8*D.at_ x.a+7≤k)→k≠B+60→γ2 k=γ1 k)→yT γ2 B g p (D.xg x.a (.on (m.done t)))∧∀k,yU 15 B k→γ2 k=γ k):=I fun w2 γ2 o2 a2 k2=>⟨h1.uX hx (o:=.on (m.done t)) ⟨gm,hos,a2⟩ (fun k q q2=>k2 k (by omega) q2),fun k q=>(k2 k (by unfold yU at q;have:=(xv h x.a hx.2).2;omega) (by unfold yU at q;omega)).trans (kk k q)⟩;have KK:=I kk;have KP:=I kp;have HG:=I hgot;have hval:x.val=.agg #[.i x.kind,.i x.xr,.i x.pick,.i x.op,.i x.a,.i x.b,.i x.c]:=rfl;have harr:x.xq=#[.i x.kind,.i x.xr,.i x.pick,.i x.op,.i x.a,.i x.b,.i x.c]:=rfl;have hal:D.pw t x m=if x.op=24 then((D.xg x.a (.on (m.done t))).xH (m.su t),0,m.qF t)else(D.xO t x (m.xZ t) (D.xg x.a (.on (m.vh t))),if((x.xM D.clock).2==0&&m.first t)=true then 1 else 0,x.vL D.clock (m.xZ t)):=rfl;rw[hal];rw[hval]at hen⊢;rw[harr]at q0 r0 r1 r2 r3 r4 r5 r6 s0 hen hun hf q0' r0' r1' r2' r3' r4' r5' r6';clear hal h ho o1 b1 b2 b3 k1 h1 kk hat hat0 e hos hob hx hlt hval harr hgot hb2 o4 kp g4 h4 hsz3;by_cases h9:x.op=24
 ·rw[if_pos h9];have d9:(x.op==24)=true:=by simpa using h9
  clear hen q0' r0' r1' r2' r3' r4' r5' r6';generalize x.op=op at*;clear h9;go_in;go_wp2_with fail;refine hf.mono ?_;rintro e w' ⟨rfl,rfl⟩;go_wp2_with fail;refine hun.mono ?_;rintro e w2 ⟨vg,γ2,rfl,o2,a2,hpt,k2⟩;obtain⟨h2,hk2⟩:=HT.out w2 _ o2 a2 k2;obtain⟨AG,cG,rfl⟩:=hpt.form;have hwa:=uy h2 o2 (q:=B+60) (by omega) hpt HG.out.1 (fun y hy=>HG.out.2 y hy);have HK2:=I hk2;clear o2 a2 k2 hun h2 hk2 hpt;go_wp2_with fail;refine hwa.mono ?_;rintro e w3 ⟨⟨r,rfl,-⟩,γ3,o3,h3,k3⟩;have HF:Hid (∃γ',Own w0 w3 γ'∧yT γ' B g p ((D.xg x.a (.on (m.done t))).xH (m.su t))∧∀k,yU 15 B k→γ' k=γ k):=I ⟨γ3,o3,h3,fun k hk=>(k3 k hk.out).trans (HK2.out k hk)⟩;clear o3 h3 k3 hwa;go_wp2_with fail;go_ret2;exact⟨rfl,HF.out⟩
 ·rw[if_neg h9];have d9:(x.op==24)=false:=by simpa using h9
  clear hun;have hb:∀c:Int,(if c=0 then some (w.heap.size+1+1+1,Obj.cells #[.bool (m.first t)] 4 (0,0))else some (w.heap.size+1+1+1,Obj.cells #[.bool false] 4 (0,0)))=some (w.heap.size+1+1+1,Obj.cells #[.bool (c==0&&m.first t)] 4 (0,0)):=fun c=>by
   by_cases e:c=0
   ·simp[e]
   ·simp[e]
  rw[hb]at hen;clear hb;generalize((x.xM D.clock).2==0&&m.first t)=bb at*;generalize x.vL D.clock (m.xZ t)=ee at*;generalize D.xO t x (m.xZ t) (D.xg x.a (.on (m.vh t)))=DD at*;generalize x.op=op at*;cases bb;all_goals go_in;go_wp2_with fail;refine hf.mono ?_;rintro e w' ⟨rfl,rfl⟩;go_wp2_with fail;refine hen.mono ?_;rintro e w2 ⟨rfl,γ2,o2,h2,t2,k2⟩;have hcc:=o2.cell t2 (i:=0) (v:=.bool _) rfl;have HF:Hid (∃γ',Own w0 w2 γ'∧yT γ' B g p DD∧∀k,yU 15 B k→γ' k=γ k):=I ⟨γ2,o2,h2,fun k hk=>(k2 k (by unfold yU at hk⊢;omega) (by unfold yU at hk;omega)).trans ((KP.out k (by unfold yU at hk;omega)).trans (KK.out k hk))⟩;clear o2 h2 t2 k2 hen hf;go_wp2_with fail;go_ret2;exact⟨rfl,HF.out⟩
end
end
end Go.Proofs.YtkmamlifgbocgaaGreat
