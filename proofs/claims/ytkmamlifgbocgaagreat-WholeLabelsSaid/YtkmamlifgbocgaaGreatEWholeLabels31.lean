/- What the program's code does, as contracts, and what follows of it, part 31: for the law's proof. -/
import Derived.Test.YtkmamlifgbocgaaGreatP00
import Derived.Test.YtkmamlifgbocgaaGreatP30
import Derived.Laws.BitsAllLaws
import Derived.Laws.Bits64
import Derived.OpenShut
set_option linter.unusedVariables false
set_option linter.unusedSimpArgs false
set_option maxRecDepth 100000
set_option maxHeartbeats 16000000
namespace Go.Proofs.YtkmamlifgbocgaaGreat
section
open Go.RowKit Go.WideShapes Go.ChangeMaps
section
variable {w:World} {DA SA PA:Option Addr} {nd dc ns sc pn pc:Nat} {D:List Dv} {S:List (Int×Int)} {L:List Lk}
theorem ys{start:Int}(hE:uI D S L start=0):ux D S L=0∧0≤start∧start≤4611686018427387904:=by
 unfold uI at hE;split at hE
 ·rename_i q;exact absurd hE q
 ·rename_i q;split at hE
  ·cases hE
  ·exact⟨by simpa using q,by omega,by omega⟩
theorem xn(h:tE w DA SA PA nd dc ns sc pn pc D S L)(start:Int)(hE:uI D S L start≠0)(vl:Value):Calls Tryz.prog 24 #[.agg #[.slice DA nd dc,.slice SA ns sc,.slice PA pn pc],.i start,vl] w fun e w'=>e=.returned (.pointer none)∧Below w.heap.size w w':=by
 have hb1:Below w.heap.size w (w.alloc (.cells #[.slice DA nd dc,.slice SA ns sc,.slice PA pn pc] 26)):=(Below.refl _ _).alloc (zm _) _;have HC:=I (TD (h.below hb1) start hE);have HB:=I hb1;generalize uI D S L start=E at*;have hd:(E != 0)=true:=by simpa using hE
 clear hb1 h hE;go_in;go_wp2_with fail;refine HC.out.mono ?_;rintro e w2 ⟨rfl,hb⟩;have HF:Hid (Below w.heap.size w w2):=I (HB.out.trans (hb.mono HB.out.size));clear hb HC HB;go_wp2_with fail;go_ret;exact⟨rfl,HF.out⟩
theorem yy(h:tE w DA SA PA nd dc ns sc pn pc D S L)(start:Int)(hE:uI D S L start=0){l:List En}(hk:XL l){vl:Value}(hl:je En.yV 7 w vl l)(b:Nat):Calls Tryz.prog 24 #[.agg #[.slice DA nd dc,.slice SA ns sc,.slice PA pn pc],.i start,vl] w fun e w'=>∃g γ,e=.returned (.p g)∧Own w w' γ∧wW γ b g ((tZ D S L start).run l)∧∀k,(k<b∨b+2000≤k)→γ k=none:=by
 obtain⟨hck,hs0,hs1⟩:=ys hE;have hP:=po.of hck;have hok0:wj (tZ D S L start) 0 8:=(wj.start hP hs0 hs1).rQ;have hb1:Below w.heap.size w (w.alloc (.cells #[.slice DA nd dc,.slice SA ns sc,.slice PA pn pc] 26)):=(Below.refl _ _).alloc (zm _) _;have hnew:=TE (h.below hb1) hck b start hs0 hs1;generalize tZ D S L start=M0 at*;have HNEW:=I hnew;have HB1:=I hb1;have hdos:=hk.dos;have hlen:=hk.len;have HDO:Hid (∀j x,l[j]? =some x→∀W γ g,Own w W γ→wW γ b g (M0.run (l.take j))→Calls Tryz.prog 29 #[.p g,x.val] W fun e w'=>(∃v,e=.returned v)∧∃γ',Own w w' γ'∧wW γ' b g (M0.run (l.take (j+1)))∧∀k,(k<b∨b+2000≤k)→γ' k=γ k):=I fun j x hx W γ g o m=>by
  have hj:=(zk.1 hx).1;have e1:ke (l.take j)≤ke l:=by have:=cf (l.take j) (l.drop j);rw[List.take_append_drop]at this;omega
  have e2:(l.take j).length=j:=by rw[zE];omega
  have hokj:=(hok0.run (a:=0) (s:=0) (l.take j)).more (a':=120) (s':=20000) (by omega) (by omega);obtain⟨q1,q2⟩:=hk.fit x (zo hx);obtain⟨p,m⟩:=m;refine(Nr m o hokj (by omega) (by omega) x q1 q2).mono ?_;rintro e w' ⟨he,γ',o',m',k'⟩;rw[jI hx,Mc.TZ];exact⟨⟨_,he⟩,γ',o',m',k'⟩
 obtain⟨AL,cl,rfl,hcl,hrow⟩:=hl;have HROW:Hid (∀j x,l[j]? =some x→∃g,AL=zb g∧∀W,Below w.heap.size w W→W.cell? (zc g (j*7))=some (.i x.kind)∧W.cell? (zc g (j*7+1))=some (.i x.xr)∧W.cell? (zc g (j*7+2))=some (.i x.pick)∧W.cell? (zc g (j*7+3))=some (.i x.op)∧W.cell? (zc g (j*7+4))=some (.i x.a)∧W.cell? (zc g (j*7+5))=some (.i x.b)∧W.cell? (zc g (j*7+6))=some (.i x.c)):=I fun j x hx=>by obtain⟨g,e,q⟩:=hrow j x hx;exact⟨g,e,fun W hW=>⟨Below.xT hW (q 0 _ rfl),Below.xT hW (q 1 _ rfl),Below.xT hW (q 2 _ rfl),Below.xT hW (q 3 _ rfl),Below.xT hW (q 4 _ rfl),Below.xT hW (q 5 _ rfl),Below.xT hW (q 6 _ rfl)⟩⟩
 clear hnew hb1 hok0 h hP hE hck hrow hk hdos;obtain⟨N,hN⟩:∃N,l.length=N:=⟨_,rfl⟩;have HN:=I hN;rw[hN]at hlen hcl⊢;clear hN;go_in;go_wp2_with fail;refine HNEW.out.mono ?_;rintro e w2 ⟨gm,γ2,rfl,o2,m2,k2⟩;have o2':=(((Own.start w).xh HB1.out).join o2);rw[Va]at o2';have HI:Hid (∃γ,Own w w2 γ∧wW γ b gm (M0.run (l.take 0))∧∀k,(k<b∨b+2000≤k)→γ k=none):=I ⟨γ2,o2',m2,k2⟩;clear o2 o2' m2 k2 HNEW HB1;go_wp2_with fail;go_loopw [9] (fun i wr=>∃j:Nat,i=.i j∧j≤N∧∃γ,Own w wr γ∧wW γ b gm (M0.run (l.take j))∧∀k,(k<b∨b+2000≤k)→γ k=none) (fun i _=>3000-(intOf i).toNat);case atStart=>exact⟨0,rfl,by omega,HI.out⟩
 case round=>
  clear HI;obtain⟨j,rfl,hj,γ,o,m,kf⟩:=hrel;by_cases hlt:j<N
  ·have hlt':(j:Int)<N:=by omega
   obtain⟨x,hx⟩:∃x,l[j]? =some x:=⟨l[j]'(by rw[HN.out];exact hlt),zl (by rw[HN.out];exact hlt)⟩;obtain⟨gl,rfl,hcells⟩:=HROW.out j x hx;obtain⟨q0,q1,q2,q3,q4,q5,q6⟩:=hcells wr o.below;have HC:=I (HDO.out j x hx wr γ gm o m);have KF:=I kf;obtain⟨xk,xd,xp,xo,xa,xb,xc⟩:=x;unfold En.val En.xq at HC;simp only at HC q0 q1 q2 q3 q4 q5 q6;clear hcells hx o m kf;go_wp2_with fail;refine HC.out.mono ?_;rintro e w4 ⟨⟨v,rfl⟩,γ4,o4,m4,k4⟩;have HF:Hid (∃γ,Own w w4 γ∧wW γ b gm (M0.run (l.take (j+1)))∧∀k,(k<b∨b+2000≤k)→γ k=none):=I ⟨γ4,o4,m4,fun k hk=>(k4 k hk).trans (KF.out k hk)⟩;clear o4 m4 k4 KF HC q0 q1 q2 q3 q4 q5 q6;go_wp2_with fail;go_roundw;case rel=>exact⟨j+1,by simp,by omega,HF.out⟩
   case measure=>simp[intOf];omega
  ·obtain rfl:j=N:=by omega
   have dl:decide ((j:Int)<j)=false:=by simp
   have htk:l.take j=l:=by rw[←HN.out,yA]
   rw[htk]at m;have HF:Hid (Own w wr γ∧wW γ b gm (M0.run l)∧∀k,(k<b∨b+2000≤k)→γ k=none):=I ⟨o,m,kf⟩;clear o m kf;go_wp2_with fail;go_ret;exact⟨gm,γ,rfl,HF.out⟩
end
theorem xK.rdL{α:Type}{f:α→List Value}{m:Nat}{w0 W:World}{γ:U}{t e:Nat}{v:Value}{l:List α}(hf:∀x,(f x).length=m)(h:xK γ t e m v l.length (yW f l))(ho:Own w0 W γ):je f m W v l:=by
 rcases h.2 with⟨c,rfl,h0⟩|⟨g,cap,cur,rfl,-,hc,-⟩
 ·refine⟨none,c,by rw[h0],by omega,fun i x hx=>?_⟩;have:=(zk.1 hx).1;omega
 ·refine⟨_,cap,rfl,hc,fun i x hx=>⟨g,rfl,fun j u hj=>?_⟩⟩;have hi:=(zk.1 hx).1;obtain⟨g',c',e1,-,hr⟩:=h.row ho (by omega);cases e1;have hjm:j<m:=by rw[←hf x];exact(zk.1 hj).1
  exact hr _ _ (by rw[vf hf hx j hjm];exact hj)
theorem xN.row{W:World}{g k:Nat}{v:xN}(h:∀(j:Nat) u,v.yV[j]? =some u→W.cell? (zc g (k+j))=some u):W.cell? (zc g k)=some (.i v.xI)∧W.cell? (zc g (k+1))=some (.i v.clock)∧W.cell? (zc g (k+2))=some (.i v.op)∧W.cell? (zc g (k+3))=some (.i v.e)∧W.cell? (zc g (k+4))=some (.i v.n)∧W.cell? (zc g (k+5))=some (.i v.m):=⟨h 0 _ rfl,h 1 _ rfl,h 2 _ rfl,h 3 _ rfl,h 4 _ rfl,h 5 _ rfl⟩
theorem xl{w:World}{va vb:Value}{l:List xN}(ha:je xN.yV 6 w va l)(hb:je xN.yV 6 w vb l)(hl:l.length≤1000000):Calls Tryz.prog 26 #[va,vb] w fun e w'=>e=.returned (.bool true)∧Below w.heap.size w w':=by
 obtain⟨AA,ca,rfl,-,h1⟩:=ha;obtain⟨AB,cb,rfl,-,h2⟩:=hb;have H1:=I h1;have H2:=I h2;clear h1 h2;obtain⟨n,hn⟩:∃n,l.length=n:=⟨_,rfl⟩;have HN:=I hn;rw[hn]at hl⊢;clear hn;go_in;go_wp2_with fail;go_loopw [5] (fun i wr=>∃j:Nat,i=.i j∧j≤n∧Below w.heap.size w wr) (fun i _=>n-(intOf i).toNat);case atStart=>exact⟨0,rfl,by omega,Below.refl _ _⟩
 case round=>
  obtain⟨j,rfl,hj,hb⟩:=hrel;by_cases hlt:j<n
  ·have hlt':(j:Int)<n:=by omega
   obtain⟨x,hx⟩:∃x,l[j]? =some x:=⟨l[j]'(by rw[HN.out];exact hlt),zl (by rw[HN.out];exact hlt)⟩;obtain⟨g1,rfl,r1⟩:=H1.out j x hx;obtain⟨g2,rfl,r2⟩:=H2.out j x hx;obtain⟨p0,p1,p2,p3,p4,p5⟩:=xN.row fun i u hi=>Below.xT hb (r1 i u hi);obtain⟨q0,q1,q2,q3,q4,q5⟩:=xN.row fun i u hi=>Below.xT hb (r2 i u hi);have HB:=I hb;clear r1 r2 hx hb;go_wp2_with fail;go_quiet (fail);go_wp2_with fail;go_roundw;case rel=>exact⟨j+1,by simp,by omega,HB.out.trans ⟨rfl,rfl,rfl,zm _,fun _ _=>rfl⟩⟩
   case measure=>simp[intOf];omega
  ·obtain rfl:j=n:=by omega
   have dl:decide ((j:Int)<j)=false:=by simp
   have HB:=I hb;clear hb;go_wp2_with fail;go_ret;exact⟨rfl,HB.out⟩
end
section
open Go.RowKit
def z8(x:Int):Nat:=(BitVec.ofInt 64 x).toNat
def y6(x:Int):Prop:= -9223372036854775808≤x∧x<9223372036854775808
theorem xe{x:Int}(h:(Lit.int .i64 x).wf=true):y6 x:=by have:=bounds_i64 h;exact⟨by omega,by omega⟩
theorem x3(x:Int):(z8 x:Int)=x%18446744073709551616:=by unfold z8;rw[BitVec.toNat_ofInt];have h:0≤x%((2^64:Nat):Int):=Int.emod_nonneg _ (by decide);rw[Int.toNat_of_nonneg h];rfl
theorem y9(x:Int):z8 x<18446744073709551616:=(BitVec.ofInt 64 x).isLt
theorem x1(l c:Int):kh l c l c=true:=by
 unfold kh;have e:bits .andNot .i64 c c=IntKind.i64.wrap ((BitVec.ofInt 64 c&&& ~~~ BitVec.ofInt 64 c).toNat:Int):=rfl;have h0:BitVec.ofInt 64 c&&& ~~~ BitVec.ofInt 64 c=0#64:=by apply BitVec.eq_of_getLsbD_eq;intro i hi;rw[BitVec.getLsbD_and,BitVec.getLsbD_not];cases(BitVec.ofInt 64 c).getLsbD i<;>simp
 rw[e,h0];simp;decide
def x9(x n:Int):Bool:=bits .and .u64 (IntKind.u64.wrap x/2^n.toNat) 1==1
theorem wk(x n:Int):x9 x n=(z8 x).testBit n.toNat:=by
 unfold x9;have wu:IntKind.u64.wrap x=(z8 x:Int):=by rw[x3,IntKind.wrap_u64]
 rw[wu];have e:((z8 x:Int)/2^n.toNat)=((z8 x/2^n.toNat:Nat):Int):=by rw[Int.natCast_ediv,Int.natCast_pow];rfl
 have hlt:z8 x/2^n.toNat<18446744073709551616:=Nat.lt_of_le_of_lt (Nat.div_le_self _ _) (y9 x);rw[e,u64_and _ _ (Int.natCast_nonneg _) (by omega) (by decide) (by decide),zu];rw[Nat.testBit_eq_decide_div_mod_eq];show((((z8 x/2^n.toNat)&&& 1:Nat):Int)==1)=_;rw[Nat.and_one_is_mod];rw[Bool.eq_iff_iff,beq_iff_eq,decide_eq_true_eq];omega
theorem y5{c:Int}(h:y6 c):z8 c<65536↔0≤c∧c<65536:=by
 have:=x3 c;have:=y9 c;unfold y6 at h;constructor
 ·intro hu;omega
 ·intro hc;omega
def xz(c:Int)(m k:Nat):Prop:=∀i,m≤i→i<k→(z8 c).testBit i=false
theorem vc(x n:Int)(h0:0≤n)(h:n<64)(w:World):Calls Tryz.prog 38 #[.i x,.i n] w fun e w'=>e=.returned (.bool (x9 x n))∧w=w':=by go_in;go_wp2;go_ret;exact⟨rfl,rfl⟩
theorem y3{a b:Bool}(h:a=b):Ending.returned (.bool a)=.returned (.bool b):=by rw[h]
theorem x2{l c:Int}(h:xz c 16 64)(wc:y6 c):pG l c=(decide (0≤l)&&decide (l<8)):=by
 have hs:z8 c<65536:=by
  refine Nat.lt_pow_two_of_testBit (n:=16) _ fun i hi=>?_;by_cases h64:i<64
  ·exact h i hi h64
  ·exact Nat.testBit_lt_two_pow (Nat.lt_of_lt_of_le (y9 c) (show 2^64≤2^i from Nat.pow_le_pow_right (by decide) (by omega)))
 have:=(y5 wc).1 hs;unfold pG;have e1:decide (0≤c)=true:=decide_eq_true this.1;have e2:decide (c<65536)=true:=decide_eq_true this.2;have e3:decide (l≤7)=decide (l<8):=by rw[Bool.eq_iff_iff,decide_eq_true_eq,decide_eq_true_eq];omega
 rw[e1,e2,e3,Bool.and_true,Bool.and_true]
theorem wx{l c:Int}{i:Nat}(h:(z8 c).testBit i=true)(hi:16≤i)(wc:y6 c):pG l c=false:=by
 by_cases hs:z8 c<65536
 ·have:(z8 c).testBit i=false:=Nat.testBit_lt_two_pow (Nat.lt_of_lt_of_le hs (show 2^16≤2^i from Nat.pow_le_pow_right (by decide) hi));rw[this]at h;cases h
 ·have:=mt (y5 wc).2 hs;unfold pG;by_cases h0:0≤c
  ·have e2:decide (c<65536)=false:=decide_eq_false fun q=>this ⟨h0,q⟩;rw[e2,Bool.and_false]
  ·have e2:decide (0≤c)=false:=decide_eq_false h0;rw[e2,Bool.and_false,Bool.false_and]
theorem y2(l c:Int)(wc:y6 c)(w:World):Calls Tryz.prog 25 #[Wm l c] w fun e w'=>e=.returned (.bool (pG l c))∧Below w.heap.size w w':=by
 go_in;go_wp2;go_loop [3] (fun n=>∃k:Nat,16≤k∧k≤64∧n=.i k∧xz c 16 k) (fun n=>64-(intOf n).toNat);case atStart=>exact⟨16,by omega,by omega,rfl,fun i _ _=>by omega⟩
 case round=>
  obtain⟨k,hk1,hk2,rfl,hno⟩:=hrel;by_cases hlt:k<64
  ·go_wp2_with fail;refine(vc c k (by omega) (by omega) _).mono ?_;rintro e w' ⟨rfl,rfl⟩;rw[wk,zu];cases hb:(z8 c).testBit k with
   |true=> have e1:Hid (pG l c=false):=wx (l:=l) hb hk1 wc;clear hno;go_wp2;go_ret;exact⟨y3 e1.out.symm,(Below.refl _ _).alloc (zm _) _⟩
   |false=>
    have hno':xz c 16 (k+1):=fun i h1 h2=>by
     by_cases e:i=k
     ·rw[e];exact hb
     ·exact hno i h1 (by omega)
    clear hb hno;go_wp2;go_round;case rel=>exact⟨k+1,by omega,by omega,by go_num,hno'⟩
    case measure=>simp[intOf];omega
  ·obtain rfl:k=64:=by omega
   have e1:Hid (pG l c=(decide (0≤l)&&decide (l<8))):=x2 hno wc;clear hno;by_cases h0:0≤l
   ·have hd:decide (0≤l)=true:=by simpa using h0
    go_wp2;go_ret;exact⟨y3 (by rw[e1.out,hd,Bool.true_and]),(Below.refl _ _).alloc (zm _) _⟩
   ·have hd:decide (0≤l)=false:=by simpa using h0
    go_wp2;go_ret;exact⟨y3 (by rw[e1.out,hd,Bool.false_and]),(Below.refl _ _).alloc (zm _) _⟩
end
section
open Go.RowKit Go.WideShapes Go.ChangeMaps
theorem Tryz.wE:(Tryz.prog.info? 80).map (fun i=>(i.zero,i.size,i.bytes))=some (some (.agg #[.string ⟨#[]⟩,.i 0,.i 0,.i 0,.i 0,.i 0]),6,56):=by kernel_rfl
def Dv.yV(d:Dv):List Value:=[.string d.nm,.i d.lv,.i d.ct,.i d.kt,.i d.ko,.i d.rg]
theorem Dv.len(d:Dv):d.yV.length=6:=rfl
theorem Dv.one(d:Dv):∀u∈d.yV,u.oneCell'=true:=by intro u hu;simp[Dv.yV]at hu;rcases hu with rfl|rfl|rfl|rfl|rfl|rfl<;>rfl
def Dv.z6(d:Dv)(l c:Int):Dv:={d with lv:=l,ct:=c}
def J(D:List Dv)(l c:Int)(k:Nat):List Dv:=D.mapIdx fun i d=>if i<k then d.z6 l c else d
section
variable {D:List Dv} {S:List (Int×Int)} {L:List Lk} {l c:Int}
theorem R(k i:Nat):(J D l c k)[i]? =(D[i]?).map fun d=>if i<k then d.z6 l c else d:=by unfold J;rw[List.getElem?_mapIdx]
theorem y7(k:Nat):(J D l c k).length=D.length:=by simp[J]
theorem x0:J D l c 0=D:=by apply yb;intro i;rw[R];cases D[i]? <;>simp
theorem x4:J D l c D.length=D.map fun d=>d.z6 l c:=by
 apply yb;intro i;rw[R,zx];by_cases h:i<D.length
 ·simp[h]
 ·rw[zJ (by omega)];rfl
theorem x5{k:Nat}{d:Dv}(h:D[k]? =some d):(J D l c k).set k (d.z6 l c)=J D l c (k+1):=by
 apply yb;intro i;have hk:=(zk.1 h).1;by_cases e:i=k
 ·subst e;rw[zp (by rw[y7];exact hk),R,h];simp
 ·rw[zt (Ne.symm e),R,R];have:(i<k)=(i<k+1):=propext ⟨fun h=>by omega,fun h=>by omega⟩;simp only[this]
theorem we{α β:Type}(f:α→β)(p:β→Bool)(l:List α):vj (l.map f) p=vj l (fun x=>p (f x)):=by unfold vj;rw[List.any_map,List.findIdx_map];rfl
theorem x7(h:ux D S L=0)(hg:pG l c=true):ux (D.map fun d=>d.z6 l c) S L=0:=by
 have hP:=po.of h;have hlen:(D.map fun d=>d.z6 l c).length=D.length:=zA _;have hd:uO (D.map fun d=>d.z6 l c)=0:=by
  unfold uO;refine ck fun j hj=>?_;rw[hlen]at hj;have h0:=hP.xr j hj;unfold rU at h0⊢;rw[zx];rw[zl hj]at h0⊢;simp only[yo]at h0⊢;have e1:((D.map fun d=>d.z6 l c).take j)=(D.take j).map fun d=>d.z6 l c:=by rw[List.map_take]
  rw[e1,we];show(if !pJ D[j].nm||decide (0≤vj (D.take j) fun x=>x.nm.toList==D[j].nm.toList)then 4 else if !pG l c then 3 else if !vU D[j].kt 1 8|| !vU D[j].ko 0 8|| !vU D[j].rg 1 16 then 1 else 0)=(0:Int);split at h0
  ·cases h0
  rename_i q1;rw[if_neg q1,hg];split at h0
  ·cases h0
  exact h0
 have hl:rY (D.map fun d=>d.z6 l c) L=0:=by
  unfold rY;refine ck fun j hj=>?_;rw[zl hj];have h0:=hP.lk j _ (zl hj);show qd (D.map fun d=>d.z6 l c) L[j]=0;unfold qd at h0⊢;rw[hlen];split at h0
  ·cases h0
  rename_i q;rw[if_neg q,zx,zx];cases D[L[j].from_.toNat]? with
  |none=>rfl
  |some a=>
   cases D[L[j].aQ.toNat]? with
   |none=>rfl
   |some b=> show(if kh l c l c then 0 else 10)=(0:Int);rw[x1];rfl
 unfold ux at h⊢;rw[hlen,hd,hP.has,hl];split at h
 ·cases h
 ·rename_i q;rw[if_neg q];rfl
theorem x8(start:Int):tZ (D.map fun d=>d.z6 l c) S L start=tZ D S L start:=by unfold tZ uC;rw[List.map_map];rfl
theorem wA(start:Int)(h:uI D S L start=0)(hg:pG l c=true):uI (D.map fun d=>d.z6 l c) S L start=0:=by obtain⟨h1,h2,h3⟩:=ys h;unfold uI;rw[if_neg (by rw[x7 h1 hg];decide),if_neg (by omega)]
end
theorem yR.vd{w0 W:World}{γ:U}{t e n:Nat}{v:Value}{D:List Dv}(h:yR γ t e 6 v n (yW Dv.yV D))(ho:Own w0 W γ){A:Option Addr}{c:Nat}(hv:v=.slice A n c):rI W A D:=
 fun j x hx=>by
  subst hv;have hl:=h.1;rw[ua Dv.len]at hl;have hj:=(zk.1 hx).1;obtain⟨g,c',e1,-,hr⟩:=h.row ho (by omega);cases e1;refine⟨g,0,rfl,?_⟩;have q:∀i u,x.yV[i]? =some u→i<6→W.cell? (zc g (0+j*6+i))=some u:=fun i u hu hi=>by rw[zy];exact hr _ _ (by rw[vf Dv.len hx i hi];exact hu)
  exact⟨q 0 _ rfl (by omega),q 1 _ rfl (by omega),q 2 _ rfl (by omega),q 3 _ rfl (by omega),q 4 _ rfl (by omega),q 5 _ rfl (by omega)⟩
theorem tE.wS{w:World}{DA SA PA:Option Addr}{nd dc ns sc pn pc:Nat}{D:List Dv}{S:List (Int×Int)}{L:List Lk}(h:tE w DA SA PA nd dc ns sc pn pc D S L)(h1:1≤nd):Reads w 6 (.slice DA nd dc) nd (yW Dv.yV D):=by
 have hlen:=h.dl;obtain⟨g,off,e,-⟩:=h.dr 0 D[0] (zl (by omega));refine .inr ⟨(zc g off),dc,by rw[e],by rw[ua Dv.len,hlen],fun j u hj=>?_,si Dv.one D⟩;have hjl:=(zk.1 hj).1;rw[ua Dv.len]at hjl;have hx:D[j/6]? =some D[j/6]:=zl (by omega);have hg:=vf Dv.len hx (j%6) (by omega);rw[show j/6*6+j%6=j by omega,hj]at hg;obtain⟨g',off',e',c0,c1,c2,c3,c4,c5⟩:=h.dr _ _ hx;rw[e]at e';cases e';rw[Go.WideShapes.add_plain];have hm:j%6=0∨j%6=1∨j%6=2∨j%6=3∨j%6=4∨j%6=5:=by omega
 rcases hm with q|q|q|q|q|q;all_goals rw[q]at hg;simp[Dv.yV]at hg;subst hg
 ·rw[show off+j=off+j/6*6 by omega];exact c0
 ·rw[show off+j=off+j/6*6+1 by omega];exact c1
 ·rw[show off+j=off+j/6*6+2 by omega];exact c2
 ·rw[show off+j=off+j/6*6+3 by omega];exact c3
 ·rw[show off+j=off+j/6*6+4 by omega];exact c4
 ·rw[show off+j=off+j/6*6+5 by omega];exact c5
theorem xf(w:World)(a b c d e:Value):∀W,Below ((w.alloc (.cells #[a,b,c] 26)).alloc (.cells #[d,e] 75)).heap.size ((w.alloc (.cells #[a,b,c] 26)).alloc (.cells #[d,e] 75)) W→Below w.heap.size w W∧W.cell? (zc w.heap.size 0)=some a∧W.cell? (zc w.heap.size 1)=some b∧W.cell? (zc w.heap.size 2)=some c∧W.cell? (zc (w.heap.size+1) 0)=some d∧W.cell? (zc (w.heap.size+1) 1)=some e:=fun W hW=>by obtain⟨γ,o,q1,q2,-⟩:=vv (Own.start w) 0 1 (by omega) #[a,b,c] #[d,e] 26 75;have o2:=o.xh hW;exact⟨o2.below,o2.cell q1 rfl,o2.cell q1 rfl,o2.cell q1 rfl,o2.cell q2 rfl,o2.cell q2 rfl⟩
theorem y4{w:World}{DA SA PA:Option Addr}{nd dc ns sc pn pc:Nat}{D:List Dv}{S:List (Int×Int)}{L:List Lk}(h:tE w DA SA PA nd dc ns sc pn pc D S L)(start:Int){A:Option Addr}{len cap:Nat}{f:Nat→En}(hs:jc w A len cap f)(l c:Int)(wc:y6 c)(hx:uI D S L start≠0∨pG l c=false):Calls Tryz.prog 9 #[.agg #[.slice DA nd dc,.slice SA ns sc,.slice PA pn pc],.i start,.slice A len cap,.agg #[.i l,.i c]] w fun e w'=>e=.returned (.bool true)∧Below w.heap.size w w':=by
 have HB1:=I (xf w (.slice DA nd dc) (.slice SA ns sc) (.slice PA pn pc) (.i l) (.i c));have hb1:=(HB1.out _ (Below.refl _ _)).1;have hsp:=OX (hs.below hb1) 80 (by omega);have HP:Hid (∀W,Below w.heap.size w W→tE W DA SA PA nd dc ns sc pn pc D S L):=I fun W hW=>h.below hW;have HOK:=I (hs.Uz (xE:=80) (by omega));have HSP:=I hsp;generalize Uz f len 80=l2 at*;clear h hs hsp hb1;generalize hw1:(w.alloc (.cells #[.slice DA nd dc,.slice SA ns sc,.slice PA pn pc] 26)).alloc (.cells #[.i l,.i c] 75)=w1 at*;have HW1:=I hw1;clear hw1;by_cases hE:uI D S L start=0
 ·have hg:pG l c=false:=by
   rcases hx with q|q
   ·exact absurd hE q
   ·exact q
  clear hx;go_in;go_wp2_with fail;rw[HW1.out];refine HSP.out.mono ?_;rintro e w2 ⟨vl,rfl,hb2,hrd2⟩;obtain⟨hbw2,c0,c1,c2,-,-⟩:=HB1.out w2 hb2;have HEV:=I (yy (HP.out w2 hbw2) start hE HOK.out hrd2 0);have HB2:=I hb2;obtain⟨AL,cl,rfl,-,-⟩:=hrd2;clear hb2 hbw2 HSP hE;go_wp2_with fail;refine HEV.out.mono ?_;rintro e w3 ⟨ga,γ3,rfl,o3,-,-⟩;have HB3:Hid (Below w1.heap.size w1 w3):=I (HB2.out.trans (o3.below.mono HB2.out.size));obtain⟨-,-,-,-,d0,d1⟩:=HB1.out w3 HB3.out;have hgd:=y2 l c wc w3;rw[hg]at hgd;have HGD:=I hgd;clear o3 hgd hg HEV HB2 c0 c1 c2 wc;go_wp2_with fail;refine HGD.out.mono ?_;rintro e w4 ⟨rfl,hb4⟩;have HB4:Hid (Below w1.heap.size w1 w4):=I (HB3.out.trans (hb4.mono HB3.out.size));clear hb4 d0 d1 HGD HB3;go_wp2_with fail;refine(NA _).mono ?_;rintro e w5 ⟨rfl,hb5⟩;have HF:Hid (Below w.heap.size w w5):=I ((HB1.out w4 HB4.out).1.trans (hb5.mono (HB1.out w4 HB4.out).1.size));clear hb5;go_wp2_with fail;go_ret;exact⟨rfl,HF.out⟩
 ·clear hx;go_in;go_wp2_with fail;rw[HW1.out];refine HSP.out.mono ?_;rintro e w2 ⟨vl,rfl,hb2,hrd2⟩;obtain⟨hbw2,c0,c1,c2,-,-⟩:=HB1.out w2 hb2;obtain⟨AL,cl,rfl,-,-⟩:=hrd2;have HEV:=I (xn (HP.out w2 hbw2) start hE (.slice AL l2.length cl));have HB2:=I hb2;clear hb2 hbw2 HSP hE;go_wp2_with fail;refine HEV.out.mono ?_;rintro e w3 ⟨rfl,hb3⟩;have HB3:Hid (Below w1.heap.size w1 w3):=I (HB2.out.trans (hb3.mono HB2.out.size));clear hb3 HEV HB2 c0 c1 c2;go_wp2_with fail;refine(NA _).mono ?_;rintro e w5 ⟨rfl,hb5⟩;have HF:Hid (Below w.heap.size w w5):=I ((HB1.out w3 HB3.out).1.trans (hb5.mono (HB1.out w3 HB3.out).1.size));clear hb5;go_wp2_with fail;go_ret;exact⟨rfl,HF.out⟩
def y0(w2:World)(ga:Nat)(M:Mc)(go:Nat)(vo vS vP:Value)(D:List Dv)(l c:Int)(k:Nat)(W:World):Prop:=
 ∃γ,Own w2 W γ∧γ 3000=some (go,.cells #[vo,vS,vP] 26 (0,0))∧yR γ 3001 80 6 vo D.length (yW Dv.yV (J D l c k))∧wW γ 0 ga M
theorem y0.step{w2:World}{ga:Nat}{M:Mc}{go:Nat}{vo vS vP:Value}{D:List Dv}{l c:Int}{k:Nat}{W:World}(h:y0 w2 ga M go vo vS vP D l c k W)(hk:k<D.length):∃g cap,vo=.slice (zb g) D.length cap∧W.cell? (zc go 0)=some vo∧(∃u1 u2,W.cell? (zc g (k*6+1))=some (.i u1)∧W.cell? (zc g (k*6+1+1))=some (.i u2))∧W.frozen? (zc g (k*6+1))=false∧W.frozen? (zc g (k*6+1+1))=false∧y0 w2 ga M go vo vS vP D l c (k+1) ((W.setCell (zc g (k*6+1)) (.i l)).setCell (zc g (k*6+1+1)) (.i c)):=by
 obtain⟨γ,o,q,s,m⟩:=h;have hx:D[k]? =some D[k]:=zl hk;have hd:(J D l c k)[k]? =some D[k]:=by rw[R,hx];simp
 obtain⟨g,cap,hv,-,hc,hset⟩:=yR.elem Dv.len s o hd hk;have q1:=hc 1 _ rfl;have q2:=hc 2 _ rfl;obtain⟨γ1,o1,s1,k1⟩:=hset 1 (.i l) {D[k]with lv:=l} (by omega) rfl;have hd2:((J D l c k).set k {D[k]with lv:=l})[k]? =some {D[k]with lv:=l}:=zp (by rw[y7];exact hk);obtain⟨g',cap',hv',-,-,hset2⟩:=yR.elem Dv.len s1 o1 hd2 hk;rw[hv]at hv';cases hv';obtain⟨γ2,o2,s2,k2⟩:=hset2 2 (.i c) (D[k].z6 l c) (by omega) rfl;rw[ye,x5 hx]at s2;refine⟨g,cap,hv,o.cell q rfl,⟨_,_,q1.1,q2.1⟩,q1.2,q2.2,γ2,o2,by rw[k2 _ (by omega),k1 _ (by omega)];exact q,s2,?_⟩;exact(m.keep fun k hu=>k1 k (by unfold xB at hu;omega)).keep fun k hu=>k2 k (by unfold xB at hu;omega)
theorem Tryz.y8:Tryz.prog.underlying 22=some (.slice 80):=by kernel_rfl
def zs(w2:World)(ga gb:Nat)(M:Mc)(W:World):Prop:=∃γ,Own w2 W γ∧wW γ 0 ga M∧wW γ 5000 gb M
def y1(w2:World)(ga gb:Nat)(M:Mc)(l:List xN)(v:Value)(W:World):Prop:=∃γ,Own w2 W γ∧wW γ 0 ga M∧wW γ 5000 gb M∧xK γ 9000 41 6 v l.length (yW xN.yV l)
theorem zs.seen{w2:World}{ga gb:Nat}{M:Mc}{W:World}(h:zs w2 ga gb M W){i:Nat}{E:Dm}(hi:M.ds[i]? =some E)(hn:E.seen.length≤1000000):Calls Tryz.prog 27 #[.p ga,.i i] W fun e w'=>∃v,e=.returned v∧y1 w2 ga gb M E.seen v w':=by obtain⟨γ,o,⟨p,m⟩,m2⟩:=h;refine(PD m o hi hn 9000 (by omega)).mono ?_;rintro e w' ⟨v,γ',he,o',m',s',k'⟩;exact⟨v,he,γ',o',⟨p,m'⟩,m2.keep fun k hu=>k' k (by unfold xB at hu;omega),s'⟩
theorem y1.seen{w2:World}{ga gb:Nat}{M:Mc}{W:World}{i:Nat}{E:Dm}{u:Value}(h:y1 w2 ga gb M E.seen u W)(hi:M.ds[i]? =some E)(hn:E.seen.length≤1000000):Calls Tryz.prog 27 #[.p gb,.i i] W fun e w'=>∃v,e=.returned v∧zs w2 ga gb M w'∧je xN.yV 6 w' u E.seen∧je xN.yV 6 w' v E.seen:=by obtain⟨γ,o,m2,⟨p,m⟩,s⟩:=h;refine(PD m o hi hn 9001 (by omega)).mono ?_;rintro e w' ⟨v,γ',he,o',m',s',k'⟩;have s2:xK γ' 9000 41 6 u E.seen.length (yW xN.yV E.seen):=s.keep (k' 9000 (by omega));exact⟨v,he,⟨γ',o',m2.keep fun k hu=>k' k (by unfold xB at hu;omega),⟨p,m'⟩⟩,s2.rdL (fun _=>rfl) o',s'.rdL (fun _=>rfl) o'⟩
theorem zs.below{w2:World}{ga gb:Nat}{M:Mc}{W W':World}(h:zs w2 ga gb M W)(hb:Below W.heap.size W W'):zs w2 ga gb M W':=by obtain⟨γ,o,m,m2⟩:=h;exact⟨γ,o.xh hb,m,m2⟩
theorem zs.base{w2:World}{ga gb:Nat}{M:Mc}{W:World}(h:zs w2 ga gb M W):Below w2.heap.size w2 W:=by obtain⟨γ,o,-⟩:=h;exact o.below
theorem x6{w:World}{DA SA PA:Option Addr}{nd dc ns sc pn pc:Nat}{D:List Dv}{S:List (Int×Int)}{L:List Lk}(h:tE w DA SA PA nd dc ns sc pn pc D S L)(start:Int){A:Option Addr}{len cap:Nat}{f:Nat→En}(hs:jc w A len cap f)(l c:Int)(wc:y6 c)(hE:uI D S L start=0)(hg:pG l c=true):Calls Tryz.prog 9 #[.agg #[.slice DA nd dc,.slice SA ns sc,.slice PA pn pc],.i start,.slice A len cap,.agg #[.i l,.i c]] w fun e w'=>e=.returned (.bool true)∧Below w.heap.size w w':=by
 have HB1:=I (xf w (.slice DA nd dc) (.slice SA ns sc) (.slice PA pn pc) (.i l) (.i c));have hb1:=(HB1.out _ (Below.refl _ _)).1;have hsp:=OX (hs.below hb1) 80 (by omega);have HP:Hid (∀W,Below w.heap.size w W→tE W DA SA PA nd dc ns sc pn pc D S L):=I fun W hW=>h.below hW;have hok:=hs.Uz (xE:=80) (by omega);have HSP:=I hsp;generalize Uz f len 80=l2 at*;obtain⟨hck,hs0,hs1⟩:=ys hE;have hP:=po.of hck;have hdl:=h.dl;have hn1:1≤nd:=by rw[←hdl];exact hP.d1
 have hn8:nd≤8:=by rw[←hdl];exact hP.d8
 have hM0:wj (tZ D S L start) 0 8:=(wj.start hP hs0 hs1).rQ;have hlen:=hok.len;have HM:Hid (((tZ D S L start).run l2).ds.length=nd∧∀(i:Nat) E,((tZ D S L start).run l2).ds[i]? =some E→E.seen.length≤1000000):=I (by
  constructor
  ·rw[Mc.Xy];unfold tZ;rw[(Mc.ZB _).2.2.2];show(D.map Dv.new).length=nd;rw[zA,hdl]
  ·intro i E hi;have:=((hM0.run (a:=0) (s:=0) l2).kg E (zo hi)).2.2.2;omega);have HPL:Hid (∀W vl,Below w.heap.size w W→je En.yV 7 W vl l2→Calls Tryz.prog 24 #[.agg #[.slice DA nd dc,.slice SA ns sc,.slice PA pn pc],.i start,vl] W fun e w'=>∃g γ,e=.returned (.p g)∧Own W w' γ∧wW γ 0 g ((tZ D S L start).run l2)∧∀k,(k<0∨0+2000≤k)→γ k=none):=I fun W vl hW hr=>yy (HP.out W hW) start hE hok hr 0;have HPL2:Hid (∀W vl DA' dc',Below w.heap.size w W→nd≤dc'→rI W DA' (D.map fun d=>d.z6 l c)→je En.yV 7 W vl l2→Calls Tryz.prog 24 #[.agg #[.slice DA' nd dc',.slice SA ns sc,.slice PA pn pc],.i start,vl] W fun e w'=>∃g γ,e=.returned (.p g)∧Own W w' γ∧wW γ 5000 g ((tZ D S L start).run l2)∧∀k,(k<5000∨5000+2000≤k)→γ k=none):=I fun W vl DA' dc' hW hdc hdr hr=>by have hp:=HP.out W hW;have:=yy (D:=D.map fun d=>d.z6 l c) ⟨by rw[zA];exact hp.dl,hdc,hdr,hp.sl,hp.sc,hp.sr,hp.ll,hp.lc,hp.lr,hp.ln⟩ start (wA start hE hg) hok hr 5000;rwa[x8]at this
 have HRD:Hid (∀W,Below w.heap.size w W→Reads W 6 (.slice DA nd dc) nd (yW Dv.yV D)):=I fun W hW=>(HP.out W hW).wS hn1;have HDL:=I hdl;have hgd:=fun W=>y2 l c wc W;rw[hg]at hgd;have HGD:=I hgd;clear h hs hsp hb1 hck hs0 hs1 hP hdl hM0 hlen hok hE hg hgd wc HP;generalize(tZ D S L start).run l2=M at*;generalize hw1:(w.alloc (.cells #[.slice DA nd dc,.slice SA ns sc,.slice PA pn pc] 26)).alloc (.cells #[.i l,.i c] 75)=w1 at*;have HW1:=I hw1;clear hw1;go_in;go_wp2_with fail;rw[HW1.out];refine HSP.out.mono ?_;rintro e w2 ⟨vl,rfl,hb2,hrd2⟩;obtain⟨hbw2,c0,c1,c2,-,-⟩:=HB1.out w2 hb2;have HEV:=I (HPL.out w2 vl hbw2 hrd2);have HB2:=I hb2;have HVL:=I hrd2;obtain⟨AL,cl,rfl,-,-⟩:=hrd2;clear hb2 hbw2 HSP HPL;go_wp2_with fail;refine HEV.out.mono ?_;rintro e w3 ⟨ga,γ3,rfl,o3,m3,k3⟩;have HB3:Hid (Below w1.heap.size w1 w3):=I (HB2.out.trans (o3.below.mono HB2.out.size));obtain⟨-,-,-,-,d0,d1⟩:=HB1.out w3 HB3.out;have HO3:=I o3;have HM3:=I m3;have HK3:=I k3;clear o3 m3 k3 HEV c0 c1 c2;go_wp2_with fail;refine(HGD.out w3).mono ?_;rintro e w4 ⟨rfl,hb4⟩;have HB4:Hid (Below w1.heap.size w1 w4):=I (HB3.out.trans (hb4.mono HB3.out.size));have HO4:=I (HO3.out.xh hb4);obtain⟨hbw4,c0,c1,c2,-,-⟩:=HB1.out w4 HB4.out;have hlt0:w.heap.size<w4.heap.size:=World.block_lt_of_cell? _ _ c0;have hne0:w.heap.size≠w4.heap.size:=by omega
 have hne1:w.heap.size≠w4.heap.size+1:=by omega
 obtain⟨γ5,o5,q5,q6,k5⟩:=vv HO4.out 3000 3001 (by omega) #[.slice DA nd dc,.slice SA ns sc,.slice PA pn pc] #[] 26 80;have hbW:Below w4.heap.size w4 ((w4.alloc (.cells #[.slice DA nd dc,.slice SA ns sc,.slice PA pn pc] 26)).alloc (.cells #[] 80)):=((Below.refl _ _).alloc (zm _) _).alloc (by simp) _;have HR:=I (HRD.out _ (hbw4.trans (hbW.mono hbw4.size)));have HS5:Hid (yR γ5 3001 80 6 (.slice (zb (w4.heap.size+1)) 0 0) 0 []):=I ⟨rfl,.inr ⟨w4.heap.size+1,0,_,rfl,q6,zm _,by unfold maxLen;omega,rfl,rfl⟩⟩;have HM5:Hid (wW γ5 0 ga M):=I (HM3.out.keep fun k hu=>k5 k (by unfold xB at hu;omega) (by unfold xB at hu;omega));have HQ5:=I q5;have HO5:=I o5;clear hb4 d0 d1 HGD HB3 hbw4 o5 q5 q6 k5 hbW HO3 HM3 HK3 HO4;go_wp2_with (at_builtin;refine xG rfl (.tmp 30) (.tmp 32) 22 rfl 80 _ 6 56 Tryz.y8 Tryz.wE rfl (by decide) HO5.out HS5.out rfl HR.out rfl ?_ ?_ ?_)
 ·unfold maxLen;omega
 ·omega
 intro A6 c6 w6 γ6 hA6 o6 s6 k6;have q6:γ6 3000=some (w4.heap.size,.cells #[.slice DA nd dc,.slice SA ns sc,.slice PA pn pc] 26 (0,0)):=(k6 3000 (by omega)).trans HQ5.out;have HB6:Hid (Below w1.heap.size w1 w6):=I (HB2.out.trans (o6.below.mono HB2.out.size));have m6:wW γ6 0 ga M:=HM5.out.keep fun k hu=>k6 k (by unfold xB at hu;omega);try rw[zD]at s6
 have z0:=o6.cell q6 (i:=0) rfl;have zf:=o6.free q6 0;have o7:=o6.set q6 0 (.slice A6 nd c6);have HI:Hid (y0 w2 ga M w4.heap.size (.slice A6 nd c6) (.slice SA ns sc) (.slice PA pn pc) D l c 0 (w6.setCell (zc w4.heap.size 0) (.slice A6 nd c6))):=I ⟨_,o7,yQ _ _ _ _,by rw[HDL.out,x0];exact s6.keep (yO _ _ _ (by omega)),m6.keep fun k hu=>yO _ _ _ (by unfold xB at hu;omega)⟩;obtain⟨-,c0',c1',c2',-,-⟩:=HB1.out w6 HB6.out;clear HS5 HM5 HQ5 HO5 HR q6 m6 o6 s6 k6 o7 c0 c1 c2 hA6 hne1;go_wp2_with fail;generalize w6.setCell (zc w4.heap.size 0) (.slice A6 nd c6)=w7 at*;clear z0 zf c0' c1' c2';go_loopw [12] (fun i wr=>∃k:Nat,i=.i k∧k≤nd∧y0 w2 ga M w4.heap.size (.slice A6 nd c6) (.slice SA ns sc) (.slice PA pn pc) D l c k wr) (fun i _=>nd-(intOf i).toNat);case atStart=>exact⟨0,rfl,by omega,HI.out⟩
 case round=>
  clear HI;obtain⟨k,rfl,hk,hr⟩:=hrel;by_cases hlt:k<nd
  ·have hlt':(k:Int)<nd:=by omega
   obtain⟨g,cap',hv,z0,⟨u1,u2,e1,e2⟩,f1,f2,hn⟩:=hr.step (by rw[HDL.out];exact hlt);cases hv;have hbr:Below w1.heap.size w1 wr:=by obtain⟨γ,o,-⟩:=hr;exact HB2.out.trans (o.below.mono HB2.out.size)
   obtain⟨-,-,-,-,d0,d1⟩:=HB1.out wr hbr;have HF:=I hn;clear hr hn hbr;go_wp2_with fail;go_roundw;case rel=>exact⟨k+1,by simp,by omega,HF.out⟩
   case measure=>simp[intOf];omega
  ·obtain rfl:k=nd:=by omega
   have dl:decide ((k:Int)<k)=false:=by simp
   obtain⟨γ,o,q,s,m⟩:=hr;have e:J D l c k=D.map fun d=>d.z6 l c:=by rw[←HDL.out];exact x4
   rw[HDL.out,e]at s;obtain⟨A7,c7,hv7,hle⟩:=s.form;cases hv7;have z0:=o.cell q (i:=0) (v:=.slice A6 k c6) rfl;have z1:=o.cell q (i:=1) (v:=.slice SA ns sc) rfl;have z2:=o.cell q (i:=2) (v:=.slice PA pn pc) rfl;have HBr:Hid (Below w1.heap.size w1 wr):=I (HB2.out.trans (o.below.mono HB2.out.size));obtain⟨hbw,-⟩:=HB1.out wr HBr.out;have HC:=I (HPL2.out wr (.slice AL l2.length cl) A6 c6 hbw hle (s.vd o rfl) (HVL.out.below o.below));have HO:=I o;have HMA:=I m;clear hbw s q o m HPL2 HVL HRD;go_wp2_with fail;refine HC.out.mono ?_;rintro e w8 ⟨gb,γ8,rfl,o8,m8,k8⟩;have HT:Hid (zs w2 ga gb M w8∧Below w1.heap.size w1 w8):=by
    have o9:=(HO.out.less (γ':=fun k=>if k<2000 then γ k else none) (fun t x hx=>by
     replace hx:(if t<2000 then γ t else none)=some x:=hx;split at hx
     ·exact hx
     ·cases hx)).join o8;refine I ⟨⟨_,o9,HMA.out.keep fun k hu=>?_,m8.keep fun k hu=>?_⟩,HBr.out.trans (o8.below.mono HBr.out.size)⟩
    ·have h8:=k8 k (by unfold xB at hu;omega);unfold both;rw[h8];exact if_pos (by unfold xB at hu;omega)
    ·unfold both;cases h8:γ8 k with
     |some x=>rfl
     |none=>exact if_neg (by unfold xB at hu;omega)
   obtain⟨-,c0,c1,c2,-,-⟩:=HB1.out w8 HT.out.2;clear o8 m8 k8 HC HO HMA HBr z0 z1 z2;go_wp2_with fail;clear c0 c1 c2;go_loopw [14] (fun i wr=>∃j:Nat,i=.i j∧j≤k∧zs w2 ga gb M wr) (fun i _=>k-(intOf i).toNat);case atStart=>exact⟨0,rfl,by omega,HT.out.1⟩
   case round=>
    clear HT;obtain⟨j,rfl,hj,ht⟩:=hrel;have HB:Hid (Below w1.heap.size w1 wr):=I (HB2.out.trans (ht.base.mono HB2.out.size));obtain⟨-,c0,c1,c2,-,-⟩:=HB1.out wr HB.out;by_cases hjl:j<k
    ·have hjl':(j:Int)<k:=by omega
     have dj:decide ((j:Int)<k)=true:=decide_eq_true hjl';obtain⟨hml,hms⟩:=HM.out;obtain⟨E,hE⟩:∃E,M.ds[j]? =some E:=⟨M.ds[j]'(by omega),zl (by omega)⟩;have hen:=hms j E hE;have HC1:=I (ht.seen hE hen);have HC2:Hid (∀u W,y1 w2 ga gb M E.seen u W→Calls Tryz.prog 27 #[.p gb,.i j] W fun e w'=>∃v,e=.returned v∧zs w2 ga gb M w'∧je xN.yV 6 w' u E.seen∧je xN.yV 6 w' v E.seen):=I fun u W hs=>hs.seen hE hen;clear ht hms hE hml;generalize E.seen=ls at*;go_wp2_with fail;refine HC1.out.mono ?_;rintro e wa ⟨va,rfl,ha⟩;have HC3:=I (HC2.out va wa ha);clear ha HC1 HC2 c0 c1 c2;go_wp2_with fail;refine HC3.out.mono ?_;rintro e wb ⟨vb,rfl,htb,r1,r2⟩;have HC4:=I (xl r1 r2 hen);have HTB:=I htb;clear r1 r2 htb HC3;go_wp2_with fail;refine HC4.out.mono ?_;rintro e wc' ⟨rfl,hbc⟩;have HF:=I (HTB.out.below hbc);clear hbc HC4 HTB;go_wp2_with fail;go_roundw;case rel=>exact⟨j+1,by simp,by omega,HF.out⟩
     case measure=>simp[intOf];omega
    ·obtain rfl:j=k:=by omega
     have dj:decide ((j:Int)<j)=false:=by simp
     clear ht;go_wp2_with fail;refine(NA _).mono ?_;rintro e w9 ⟨rfl,hb9⟩;have HF:Hid (Below w.heap.size w w9):=I ((HB1.out _ HB.out).1.trans (hb9.mono (HB1.out _ HB.out).1.size));clear hb9 c0 c1 c2;go_wp2_with fail;go_ret;exact⟨rfl,HF.out⟩
theorem wh(a:Int)(A:Option Addr)(len cap:Nat)(l c:Int)(w:World){DA SA PA:Option Addr}{nd dc ns sc pn pc:Nat}{D:List Dv}{S:List (Int×Int)}{L:List Lk}(h:tE w DA SA PA nd dc ns sc pn pc D S L)(_:(Lit.int .i64 a).wf=true)(hr:RowsIn w A len cap Pt)(_:(Lit.int .i64 l).wf=true)(wc:(Lit.int .i64 c).wf=true):Calls Tryz.prog 9 #[.agg #[.slice DA nd dc,.slice SA ns sc,.slice PA pn pc],.i a,.slice A len cap,.agg #[.i l,.i c]] w fun e w'=>e=.returned (.bool true)∧Below w.heap.size w w':=by
 obtain⟨f,hs⟩:=Nw hr;by_cases hE:uI D S L a=0
 ·cases hg:pG l c with
  |true=>exact x6 h a hs l c (xe wc) hE hg
  |false=>exact y4 h a hs l c (xe wc) (.inr hg)
 ·exact y4 h a hs l c (xe wc) (.inl hE)
end
end Go.Proofs.YtkmamlifgbocgaaGreat
