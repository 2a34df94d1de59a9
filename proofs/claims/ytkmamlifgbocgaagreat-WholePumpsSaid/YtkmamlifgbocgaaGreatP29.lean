/- What the program's code does, as contracts, and what follows of it, part 29: for the law's proof. -/
import Derived.Test.YtkmamlifgbocgaaGreatP00
import Derived.Test.YtkmamlifgbocgaaGreatP28
set_option linter.unusedVariables false
set_option linter.unusedSimpArgs false
set_option maxRecDepth 100000
set_option maxHeartbeats 16000000
namespace Go.Proofs.YtkmamlifgbocgaaGreat
section
open Go.RowKit Go.WideShapes Go.ChangeMaps
theorem Tryz.Pr:(Tryz.prog.info? 70).map (fun i=>(i.zero,i.size,i.bytes))=some (some (.agg #[.i 0,.i 0]),2,16):=by kernel_rfl
theorem Tryz.Ps:(Tryz.prog.info? 97).map (fun i=>(i.zero,i.size,i.bytes))=some (some (.pointer none),1,8):=by kernel_rfl
def uI(D:List Dv)(S:List (Int×Int))(L:List Lk)(start:Int):Int:=
 if ux D S L≠0 then ux D S L else if start<0∨4611686018427387904<start then 1 else 0
structure tE (w:World) (DA SA A:Option Addr) (nd dc ns sc n cap:Nat) (D:List Dv) (S:List (Int×Int)) (L:List Lk):Prop where
 dl:D.length=nd
 dc:nd≤dc
 dr:rI w DA D
 sl:S.length=ns
 sc:ns≤sc
 sr:dU w SA S
 ll:L.length=n
 lc:n≤cap
 lr:Zh w A L
 ln:A=none→cap=0
theorem tE.below{w W:World}{DA SA A:Option Addr}{nd dc ns sc n cap:Nat}{D:List Dv}{S:List (Int×Int)}{L:List Lk}(h:tE w DA SA A nd dc ns sc n cap D S L)(hb:Below w.heap.size w W):tE W DA SA A nd dc ns sc n cap D S L where
 dl:=h.dl
 dc:=h.dc
 dr:=h.dr.below hb
 sl:=h.sl
 sc:=h.sc
 sr:=fun j x hx=>by
  obtain⟨g,off,e,c0,c1⟩:=h.sr j x hx
  exact⟨g,off,e,Below.xT hb c0,Below.xT hb c1⟩
 ll:=h.ll
 lc:=h.lc
 lr:=fun j x hx=>by
  obtain⟨g,off,e,c0,c1,c2,c3⟩:=h.lr j x hx
  exact⟨g,off,e,Below.xT hb c0,Below.xT hb c1,Below.xT hb c2,Below.xT hb c3⟩
 ln:=h.ln
def polA(DA SA A:Option Addr)(nd dc ns sc n cap:Nat):Array Value:=#[.slice DA nd dc,.slice SA ns sc,.slice A n cap]
section
variable {w:World} {DA SA A:Option Addr} {nd dc ns sc n cap:Nat} {D:List Dv} {S:List (Int×Int)} {L:List Lk}
theorem tE.reads(h:tE w DA SA A nd dc ns sc n cap D S L)(h1:1≤ns):Reads w 2 (.slice SA ns sc) ns (yW xF S):=by
 have hlen:=h.sl;obtain⟨g,off,e,-,-⟩:=h.sr 0 S[0] (zl (by omega));refine .inr ⟨(zc g off),sc,by rw[e],by rw[ua (m:=2) (fun _=>rfl),hlen],fun j u hj=>?_,fun u hu=>?_⟩
 ·have hjl:=(zk.1 hj).1;rw[ua (m:=2) (fun _=>rfl)]at hjl;have hx:S[j/2]? =some S[j/2]:=zl (by omega);have hg:=vf (f:=xF) (m:=2) (fun _=>rfl) hx (j%2) (by omega);rw[show j/2*2+j%2=j by omega,hj]at hg;obtain⟨g',off',e',c0,c1⟩:=h.sr _ _ hx;rw[e]at e';cases e';rw[Go.WideShapes.add_plain];have hm:j%2=0∨j%2=1:=by omega
  rcases hm with q|q
  ·rw[q]at hg;simp[xF]at hg;subst hg;rw[show off+j=off+j/2*2 by omega];exact c0
  ·rw[q]at hg;simp[xF]at hg;subst hg;rw[show off+j=off+j/2*2+1 by omega];exact c1
 ·refine si (fun x u hu=>?_) S u hu;simp[xF]at hu;rcases hu with rfl|rfl<;>rfl
theorem tE.sC(h:tE w DA SA A nd dc ns sc n cap D S L)(h8:n≤8):jS w A cap (L.map Lk.eu):=by
 have hlen:=h.ll;refine⟨by rw[zA];omega,?_⟩;by_cases h0:n=0
 ·left;have:L=[]:=yL.1 (by omega);subst this;exact⟨rfl,h.ln⟩
 ·right;obtain⟨g,off,e,-⟩:=h.lr 0 L[0] (zl (by omega));refine⟨g,off,e,by rw[zA,hlen];exact h.lc,fun j u hj=>?_⟩;have hjl:=(zk.1 hj).1;rw[qI,zA]at hjl;have hx:L[j/4]? =some L[j/4]:=zl (by omega);have hx':(L.map Lk.eu)[j/4]? =some L[j/4].eu:=by rw[zx,hx];rfl
  have hg:=tY hx' (j%4) (by omega);rw[show j/4*4+j%4=j by omega,hj]at hg;obtain⟨g',off',e',c0,c1,c2,c3⟩:=h.lr _ _ hx;rw[e]at e';cases e';rw[Go.WideShapes.add_plain];have hm:j%4=0∨j%4=1∨j%4=2∨j%4=3:=by omega
  rcases hm with q|q|q|q;all_goals rw[q]at hg;simp[wy.yV,Lk.eu]at hg;subst hg
  ·rw[show off+j=off+j/4*4 by omega];exact c0
  ·rw[show off+j=off+j/4*4+1 by omega];exact c1
  ·rw[show off+j=off+j/4*4+2 by omega];exact c2
  ·rw[show off+j=off+j/4*4+3 by omega];exact c3
theorem fS(h:tE w DA SA A nd dc ns sc n cap D S L):Calls Tryz.prog 41 #[.agg #[.slice DA nd dc,.slice SA ns sc,.slice A n cap]] w fun e w'=>e=.returned (.i (ux D S L))∧Below w.heap.size w w':=TJ h.dl h.dc h.dr h.sl h.sc h.sr h.ll h.lc h.lr
theorem Uf(h:tE w DA SA A nd dc ns sc n cap D S L)(hE:ux D S L≠0)(start:Int):Calls Tryz.prog 28 #[.agg #[.slice DA nd dc,.slice SA ns sc,.slice A n cap],.i start] w fun e w'=>e=.returned (.tuple #[.pointer none,.i (ux D S L)])∧Below w.heap.size w w':=by
 have hb1:Below w.heap.size w (w.alloc (.cells #[.slice DA nd dc,.slice SA ns sc,.slice A n cap] 26)):=(Below.refl _ _).alloc (zm _) _;have HC:=I (fS (h.below hb1));have HB:=I hb1;clear hb1 h;generalize ux D S L=E at*;have hd:(E != 0)=true:=by simpa using hE
 clear hE;go_in;go_wp2_with fail;refine HC.out.mono ?_;rintro e w2 ⟨rfl,hb⟩;have HF:Hid (Below w.heap.size w w2):=I (HB.out.trans (hb.mono HB.out.size));clear hb HC HB;go_wp2_with fail;go_ret2;exact⟨rfl,HF.out⟩
theorem YZ(h:tE w DA SA A nd dc ns sc n cap D S L)(hE:ux D S L=0)(start:Int)(hr:start<0∨4611686018427387904<start):Calls Tryz.prog 28 #[.agg #[.slice DA nd dc,.slice SA ns sc,.slice A n cap],.i start] w fun e w'=>e=.returned (.tuple #[.pointer none,.i 1])∧Below w.heap.size w w':=by
 have hb1:Below w.heap.size w (w.alloc (.cells #[.slice DA nd dc,.slice SA ns sc,.slice A n cap] 26)):=(Below.refl _ _).alloc (zm _) _;have HC:=I (fS (h.below hb1));have HB:=I hb1;rw[hE]at HC;clear hb1 h hE;have hd:decide (start<0)=true∨decide (start<0)=false∧decide (4611686018427387904<start)=true:=by
  rcases hr with q|q
  ·exact .inl (decide_eq_true q)
  ·exact .inr ⟨decide_eq_false (by omega),decide_eq_true q⟩
 clear hr;rcases hd with d1|⟨d1,d2⟩;all_goals go_in;go_wp2_with fail;refine HC.out.mono ?_;rintro e w2 ⟨rfl,hb⟩;have HF:Hid (Below w.heap.size w w2):=I (HB.out.trans (hb.mono HB.out.size));clear hb HC HB;go_wp2_with fail;go_ret2;exact⟨rfl,HF.out⟩
theorem xR.snoc{w0 W:World}{γ γ':U}{b g:Nat}{p:kd}{M:Mc}(h:xR γ b g p M){E:Dm}{vd:Value}{ge:Nat}(hb:γ' b=some (g,.cells #[p.vs,vd,.p p.gl,.i M.now] 105 (0,0)))(hd:yR γ' (b+2) 97 1 vd (M.ds.length+1) (fT p.gd++[.p ge]))
 (he:uQ γ' (b+100+200*M.ds.length) ge E) (h7:M.ds.length<8) (hk:∀k,k≠b→k≠b+2→xB b k→(k<b+100+200*M.ds.length∨b+100+200*M.ds.length+200≤k)→γ' k=γ k):
 xR γ' b g {p with vd:=vd,gd:=p.gd++[ge]} {M with ds:=M.ds++[E]}where
 xw:=hb
 uu:=h.uu.keep (hk _ (by omega) (by omega) (by unfold xB;omega) (by omega))
 qh:=by
  show yR γ' (b+2) 97 1 vd (M.ds++[E]).length (fT (p.gd++[ge]))
  rw[zr,yh]
  unfold fT at hd⊢
  rw[yI]
  exact hd
 each:=fun i F hi=>by
  have hl:p.gd.length=M.ds.length:=by have:=h.qh.1;unfold fT at this;rw[zA]at this;omega
  replace hi:(M.ds++[E])[i]? =some F:=hi
  by_cases e:i<M.ds.length
  ·rw[zF e]at hi
   have e1:(p.gd++[ge]).getD i 0=p.gd.getD i 0:=by rw[zn,zF (by omega),←zn]
   show uQ γ' (b+100+200*i) ((p.gd++[ge]).getD i 0) F
   rw[e1]
   exact(h.each i F hi).keep fun k hu=>hk k (by unfold xi at hu;omega) (by unfold xi at hu;omega) (by unfold xi at hu;unfold xB;omega) (by unfold xi at hu;omega)
  ·rw[yu (by omega)]at hi
   have e0:i=M.ds.length:=by
    have:=(zk.1 hi).1
    simp at this
    omega
   subst e0
   simp at hi
   subst hi
   have e1:(p.gd++[ge]).getD M.ds.length 0=ge:=by rw[zn,yu (by omega),hl];simp
   show uQ γ' (b+100+200*M.ds.length) ((p.gd++[ge]).getD M.ds.length 0) E
   rw[e1]
   exact he
 sC:=h.sC.keep h.l8 fun k q1 q2=>hk k (by omega) (by omega) (by unfold xB;omega) (by omega)
 d8:=by show(M.ds++[E]).length≤8;rw[zr,yh];omega
 l8:=h.l8
def bn(w:World)(b g gb:Nat)(box:Obj)(D:List Dv)(S:List (Int×Int))(L:List Lk)(start:Int)(k:Nat)(W:World):Prop:=
 ∃γ p,Own w W γ∧γ (b+3)=some (gb,box)∧xR γ b g p (uC (D.take k) S L start)∧∀t,(t<b∨b+2000≤t)→γ t=none
theorem TE(h:tE w DA SA A nd dc ns sc n cap D S L)(hE:ux D S L=0)(b:Nat)(start:Int)(hs0:0≤start)(hs1:start≤4611686018427387904):Calls Tryz.prog 28 #[.agg #[.slice DA nd dc,.slice SA ns sc,.slice A n cap],.i start] w fun e w'=>∃g γ',e=.returned (.tuple #[.p g,.i 0])∧Own w w' γ'∧wW γ' b g (tZ D S L start)∧∀k,(k<b∨b+2000≤k)→γ' k=none:=by
 have hP:=po.of hE;have hb1:Below w.heap.size w (w.alloc (.cells #[.slice DA nd dc,.slice SA ns sc,.slice A n cap] 26)):=(Below.refl _ _).alloc (zm _) _;have HC:=I (fS (h.below hb1));rw[hE]at HC;have o1:=(Own.start w).new (b+3) (.cells #[.slice DA nd dc,.slice SA ns sc,.slice A n cap] 26);have q1:=yQ (fun _=>Option.none) (b+3) w.heap.size (.cells #[.slice DA nd dc,.slice SA ns sc,.slice A n cap] 26);have k1:∀k,k≠b+3→put (fun _=>Option.none) (b+3) w.heap.size (.cells #[.slice DA nd dc,.slice SA ns sc,.slice A n cap] 26) k=none:=fun k hk=>yO _ _ _ hk;generalize put (fun _=>Option.none) (b+3) w.heap.size (.cells #[.slice DA nd dc,.slice SA ns sc,.slice A n cap] 26)=γ1 at*;have hd1:decide (start<0)=false:=decide_eq_false (by omega);have hd2:decide (4611686018427387904<start)=false:=decide_eq_false (by omega);have H:=I h;have HO1:=I o1;have Q1:=I q1;have K1:=I k1;have HP:=I hP;have hnd:=h.dl;have hn:=h.ll;have hns:=h.sl;have hP1:=hP.d1;have hP8:=hP.d8;have hPs:=hP.Uy;have hPs1:=hP.s1;have hPl:=hP.l8;rw[hnd]at hP1 hP8;rw[hns]at hPs hPs1;rw[hn]at hPl;clear h hP o1 q1 k1 hb1 hE;go_in;go_wp2_with fail;refine HC.out.mono ?_;rintro e w2 ⟨rfl,hb2⟩;have HO2:=I (HO1.out.xh hb2);clear hb2 HC HO1;go_wp2_with fail;have HD2:=I HO2.out.drew;have HX:Hid (∀W,Own w W γ1→W.cell? (zc w.heap.size 0)=some (.slice DA nd dc)∧W.cell? (zc w.heap.size 1)=some (.slice SA ns sc)∧W.cell? (zc w.heap.size 2)=some (.slice A n cap)):=I fun W hW=>⟨hW.cell Q1.out rfl,hW.cell Q1.out rfl,hW.cell Q1.out rfl⟩;refine yP.region [0,1,3] (.step 5 (.step 2 (.step 4 (.step 6 (.step 7 (.step 8 .done)))))) (fun w'=>Own w w' γ1) (by kernel_rfl) (by kernel_rfl) (fun _ _ _ _ _ h=>h) HD2.out ?_;repeat
  refine Perm.xm rfl ?_ (fun w' hS=>?_) ?_;rotate_left
  ·(obtain⟨s0,s1,s2⟩:=HX.out _ hS;clear hS;go_simp;try with_reducible rfl)
  simp only[pt]
 refine Perm.xt ?_;refine yP.xA rfl (by rfl) ?_ (fun w'=>?_) ?_;rotate_left
 ·(go_simp;try with_reducible rfl)
 simp only[pt];refine yP.yY rfl (by rfl) ?_;have HR:=I ((H.out.below HD2.out.below).reads hPs1);have HS:Hid (yR γ1 (b+1) 70 2 (.slice none 0 0) 0 []):=I (yR.nil _ _ _ _);refine yP.pF rfl fun K' hK=>tN (.const (.slice none 0 0)) (.tmp 22) 23 rfl 70 _ 2 16 Tryz.underlying23 Tryz.Pr rfl (by decide) HD2.out HS.out rfl HR.out rfl (by unfold maxLen;omega) (by omega) fun A9 c9 w9 γ9 hA9 o9 s9 k9=>hK _ _ (fun _ _=>o9.less fun t x hx=>?_) ?_
 ·by_cases e:t=b+1
  ·rw[e,K1.out _ (by omega)]at hx;cases hx
  ·rw[k9 t e];exact hx
 simp only[pt];rw[zy,zD]at s9;refine yP.yY rfl (by rfl) ?_;have hll:(L.map Lk.eu).length=n:=by rw[zA];exact hn
 have hlk:=YU (b+10) (.slice DA nd dc) (.slice SA ns sc) ((H.out.below o9.below).sC hPl);rw[hll]at hlk;have HO9:=I o9;have HS9:=I s9;have K9:Hid (∀k,k≠b+3→k≠b+1→γ9 k=none):=I fun k a1 a2=>(k9 k a2).trans (K1.out k a1);have Q9:=I ((k9 (b+3) (by omega)).trans Q1.out);have HLK:=I hlk;clear o9 s9 k9 hlk HR HS HO2 HD2 HX Q1 K1;rw[zy];refine yP.xJ rfl 42 _ _ rfl (by kernel_rfl) _ rfl (HLK.out.mono ?_);rintro e w10 ⟨gl,γL,rfl,hL,kL⟩;refine⟨_,rfl,Perm.xx (by kernel_rfl),?_⟩;simp only[pt];have o10:=HO9.out.join hL.own;have e10:∀k,(k<b+10∨b+40≤k)→both γ9 γL k=γ9 k:=fun k hk=>by unfold both;rw[kL k (by omega)]
 have f10:∀k,b+10≤k→k<b+10+30→both γ9 γL k=γL k:=fun k a1 a2=>by
  unfold both;cases hx:γL k with
  |some x=>rfl
  |none=>exact K9.out k (by omega) (by omega)
 have l10:pU (both γ9 γL) (b+10) gl (Zk (L.map Lk.eu)):=pU.keep (γ:=γL) hL.top (by show(L.map Lk.eu).length≤8;omega) f10;have HO10:=I o10;have HL10:=I l10;have HS10:=I (HS9.out.keep (e10 (b+1) (by omega)));have Q10:=I ((e10 (b+3) (by omega)).trans Q9.out);have K10:Hid (∀k,k≠b+3→k≠b+1→(k<b+10∨b+40≤k)→both γ9 γL k=none):=I fun k a1 a2 a3=>(e10 k a3).trans (K9.out k a1 a2);clear o10 e10 f10 l10 hL kL HO9 HS9 Q9 K9 HLK;generalize both γ9 γL=γA at*;repeat
  refine yP.xA rfl (by rfl) ?_ (fun w'=>?_) ?_;rotate_left
  ·(go_simp;try with_reducible rfl)
  simp only[pt]
 refine yP.yY rfl (by rfl) ?_;refine yP.xy rfl (.value (.p w10.heap.size)) _ (.inl rfl) (w':=w10.alloc (.cells #[.slice A9 ns c9,.slice none 0 0,.p gl,.i start] 105)) (by go_simp;try with_reducible rfl) (Perm.xx (by kernel_rfl)) ?_;simp only[pt];have oB:=HO10.out.new b (.cells #[.slice A9 ns c9,.slice none 0 0,.p gl,.i start] 105);have kB:∀k,k≠b→put γA b w10.heap.size (.cells #[.slice A9 ns c9,.slice none 0 0,.p gl,.i start] 105) k=γA k:=fun k hk=>yO _ _ _ hk;have bB:=yQ γA b w10.heap.size (.cells #[.slice A9 ns c9,.slice none 0 0,.p gl,.i start] 105);generalize put γA b w10.heap.size (.cells #[.slice A9 ns c9,.slice none 0 0,.p gl,.i start] 105)=γB at*
 have hMB:xR γB b w10.heap.size ⟨.slice A9 ns c9,.slice none 0 0,gl,[]⟩ (uC (D.take 0) S L start):={xw:=bB,uu:=by show yR γB (b+1) 70 2 (.slice A9 ns c9) S.length _;rw[hns];exact HS10.out.keep (kB _ (by omega)),qh:=yR.nil _ _ _ _,each:=fun i E hi=>by change((D.take 0).map Dv.new)[i]? =some E at hi;simp at hi,sC:=HL10.out.keep (by show(L.map Lk.eu).length≤8;omega) fun k a1 a2=>kB k (by omega),d8:=by show((D.take 0).map Dv.new).length≤8;simp,l8:=by show(L.map Lk.eu).length≤8;omega}
 have HL0:Hid (bn w b w10.heap.size w.heap.size (.cells #[.slice DA nd dc,.slice SA ns sc,.slice A n cap] 26) D S L start 0 (w10.alloc (.cells #[.slice A9 ns c9,.slice none 0 0,.p gl,.i start] 105))):=I ⟨γB,_,oB,(kB (b+3) (by omega)).trans Q10.out,hMB,fun t ht=>(kB t (by omega)).trans (K10.out t (by omega) (by omega) (by omega))⟩;have x0:=oB.cell ((kB (b+3) (by omega)).trans Q10.out) (i:=0) rfl;clear oB kB bB hMB HO10 HL10 HS10 Q10 K10;repeat
  refine yP.xA rfl (by rfl) ?_ (fun w'=>?_) ?_;rotate_left
  ·(go_simp;try with_reducible rfl)
  simp only[pt]
 refine yP.xC ?_;generalize w10.heap.size=g at*;generalize w10.alloc (.cells #[.slice A9 ns c9,.slice none 0 0,.p gl,.i start] 105)=w11 at*;go_wp2_with fail;clear x0;go_loopw [32] (fun i wr=>∃j:Nat,i=.i j∧j≤nd∧bn w b g w.heap.size (.cells #[.slice DA nd dc,.slice SA ns sc,.slice A n cap] 26) D S L start j wr) (fun i _=>100-(intOf i).toNat);case atStart=>exact⟨0,rfl,by omega,HL0.out⟩
 case round=>
  clear HL0;obtain⟨j,rfl,hj,γ,p,o,qb,hM,kf⟩:=hrel;by_cases hlt:j<nd
  ·obtain⟨d,hd⟩:∃d,D[j]? =some d:=⟨D[j],zl (by omega)⟩;obtain⟨gD,off,rfl,hDv⟩:=H.out.dr j d hd;obtain⟨c0,c1,c2,c3,c4,c5⟩:=hDv.below (o.below);have hlt':(j:Int)<nd:=by omega
   obtain⟨hk1,hk2,hk3,hk4,hk5,hk6,-,-⟩:=HP.out.VI (zo hd);have hlen:(uC (D.take j) S L start).ds.length=j:=by show((D.take j).map Dv.new).length=j;rw[zA,zE];omega
   have hnext:Hid ({uC (D.take j) S L start with ds:=(uC (D.take j) S L start).ds++[Dm.new d.kt.toNat d.ko.toNat]}=uC (D.take (j+1)) S L start):=I (by unfold uC;rw[yk,hd,yI];rfl);have o2:=o.new (b+4) (.cells #[.string d.nm,.i d.lv,.i d.ct,.i d.kt,.i d.ko,.i d.rg] 80);have k2:∀k,k≠b+4→put γ (b+4) wr.heap.size (.cells #[.string d.nm,.i d.lv,.i d.ct,.i d.kt,.i d.ko,.i d.rg] 80) k=γ k:=fun k hk=>yO _ _ _ hk;have q2:=yQ γ (b+4) wr.heap.size (.cells #[.string d.nm,.i d.lv,.i d.ct,.i d.kt,.i d.ko,.i d.rg] 80);generalize put γ (b+4) wr.heap.size (.cells #[.string d.nm,.i d.lv,.i d.ct,.i d.kt,.i d.ko,.i d.rg] 80)=γ2 at*;have h2:xR γ2 b g p (uC (D.take j) S L start):=hM.keep fun k hk=>k2 k (by unfold xB at hk;omega);obtain⟨Ad,cd,hvd,-⟩:=h2.qh.form;rw[hlen]at hvd;have HX2:Hid (∀W γx,Own w W γx→γx b=γ2 b→γx (b+4)=γ2 (b+4)→W.cell? (zc g 1)=some (.slice Ad j cd)∧W.cell? (zc wr.heap.size 0)=some (.string d.nm)∧W.cell? (zc wr.heap.size 1)=some (.i d.lv)∧W.cell? (zc wr.heap.size 2)=some (.i d.ct)∧W.cell? (zc wr.heap.size 3)=some (.i d.kt)∧W.cell? (zc wr.heap.size 4)=some (.i d.ko)∧W.cell? (zc wr.heap.size 5)=some (.i d.rg)):=I fun W γx hW e1 e2=>⟨(hW.cell (e1.trans h2.xw) (i:=1) (v:=p.vd) rfl).trans (by rw[hvd]),hW.cell (e2.trans q2) rfl,hW.cell (e2.trans q2) rfl,hW.cell (e2.trans q2) rfl,hW.cell (e2.trans q2) rfl,hW.cell (e2.trans q2) rfl,hW.cell (e2.trans q2) rfl⟩;have HN:Hid (∀W,Own w W γ2→Calls Tryz.prog 43 #[.agg #[.string d.nm,.i d.lv,.i d.ct,.i d.kt,.i d.ko,.i d.rg]] W fun e w'=>∃g γ',e=.returned (.p g)∧Own w w' γ'∧uQ γ' (b+100+200*j) g (Dm.new d.kt.toNat d.ko.toNat)∧∀k,yU 40 (b+100+200*j) k→γ' k=γ2 k):=I fun W hW=>Od hW ⟨d.nm,d.lv,d.ct,d.kt,d.ko,d.rg⟩ (b+100+200*j) (kt:=d.kt.toNat) (ko:=d.ko.toNat) (by show d.kt=_;omega) (by omega) (by omega) (by show d.ko=_;omega) (by omega);have H2:=I h2;have HQ:=I ((k2 (b+3) (by omega)).trans qb);have KF:Hid (∀t,(t<b∨b+2000≤t)→γ2 t=none):=I fun t ht=>(k2 t (by omega)).trans (kf t ht);have HV:Hid (p.vd=.slice Ad j cd):=I hvd;have O2:=I o2;obtain⟨nm,lv,ct,kt,ko,rg⟩:=d;simp only at c0 c1 c2 c3 c4 c5 HX2 HN O2 hk3 hk4 hk5 hk6 hnext;clear o qb hM kf o2 k2 q2 h2 hvd hDv hk1 hk2 hlt;go_wp2_with fail;clear c0 c1 c2 c3 c4 c5;have HD2:=I O2.out.drew;generalize(wr.alloc (.cells #[.string nm,.i lv,.i ct,.i kt,.i ko,.i rg] 80))=W2 at*;refine yP.region [1,2,3,4,5] (.step 0 (.step 6 (.step 7 (.step 8 (.step 9 (.step 10 (.step 11 .done))))))) (fun w'=>w'.cell? (zc g 1)=some (.slice Ad j cd)∧w'.cell? (zc wr.heap.size 0)=some (.string nm)∧w'.cell? (zc wr.heap.size 1)=some (.i lv)∧w'.cell? (zc wr.heap.size 2)=some (.i ct)∧w'.cell? (zc wr.heap.size 3)=some (.i kt)∧w'.cell? (zc wr.heap.size 4)=some (.i ko)∧w'.cell? (zc wr.heap.size 5)=some (.i rg)) (by kernel_rfl) (by kernel_rfl) (fun _ _ _ _ _ h=>h) (HX2.out _ _ HD2.out rfl rfl) ?_;repeat
    refine Perm.xm rfl ?_ (fun w' hS=>?_) ?_;rotate_left
    ·(obtain⟨s0,s1,s2,s3,s4,s5,s6⟩:=hS;go_simp;try with_reducible rfl)
    simp only[pt]
   refine Perm.xt ?_;refine yP.xA rfl (by rfl) ?_ (fun w'=>?_) ?_;rotate_left
   ·(go_simp;try with_reducible rfl)
   simp only[pt];refine yP.yY rfl (by rfl) ?_;refine yP.xJ rfl 43 _ _ rfl (by kernel_rfl) _ rfl ((HN.out _ HD2.out).mono ?_);rintro e w3 ⟨gk,γ3,rfl,o3,d3,k3⟩;refine⟨_,rfl,fun _ _=>HX2.out _ _ o3 (k3 _ (by unfold yU;omega)) (k3 _ (by unfold yU;omega)),?_⟩;simp only[pt];have HK3:Hid (∀k,(k<b+100+200*j∨b+100+200*j+200≤k)→γ3 k=γ2 k):=I fun k hk=>k3 k (by unfold yU;omega);have HD3:=I d3;have o4:=o3.new (b+5) (.cells #[.p gk] 97);have HR4:Hid (Reads (w3.alloc (.cells #[.p gk] 97)) 1 (.slice (zb w3.heap.size) 1 1) 1 [.p gk]):=I (.inr ⟨_,1,rfl,rfl,fun i u hi=>by rw[Go.WideShapes.add_plain,zy];refine o4.cell (yQ _ _ _ _) ?_;simpa using hi,by simp[Value.oneCell']⟩);have HS4:Hid (yR γ3 (b+2) 97 1 (.slice Ad j cd) j (fT p.gd)):=I (by have:=H2.out.qh;rw[HV.out,hlen]at this;exact this.keep (HK3.out _ (by omega)));have O4:Hid (Own w (w3.alloc (.cells #[.p gk] 97)) γ3):=I (o3.xh ((Below.refl _ _).alloc (zm _) _));clear o3 d3 k3 o4 HN HD2 O2;refine yP.yY rfl (by rfl) ?_;refine yP.xy rfl (.value (.slice (zb w3.heap.size) 1 1)) _ (.inl rfl) (w':=w3.alloc (.cells #[.p gk] 97)) (by go_simp;try with_reducible rfl) (fun _ _=>HX2.out _ _ O4.out (HK3.out _ (by omega)) (HK3.out _ (by omega))) ?_;clear HX2;simp only[pt];refine yP.yY rfl (by rfl) ?_;refine yP.pF rfl fun K' hK=>tN (.tmp 40) (.tmp 43) 103 rfl 97 _ 1 8 Tryz.underlying103 Tryz.Ps rfl (by decide) O4.out HS4.out rfl HR4.out rfl (by unfold maxLen;omega) (by omega) fun A5 c5 w5 γ5 hA5 o5 s5 k5=>hK _ _ (Perm.xx (by kernel_rfl)) ?_;simp only[pt];have hblk:=(k5 b (by omega)).trans ((HK3.out b (by omega)).trans H2.out.xw);have fz:=o5.free hblk 1;have cz:=o5.cell hblk (i:=1) (v:=p.vd) rfl;have o6:=o5.set hblk 1 (.slice A5 (j+1) c5);have k6:∀k,k≠b→put γ5 b g (.cells (#[p.vs,p.vd,.p p.gl,.i (uC (D.take j) S L start).now].setIfInBounds 1 (.slice A5 (j+1) c5)) 105) k=γ5 k:=fun k hk=>yO _ _ _ hk;have b6:=yQ γ5 b g (.cells (#[p.vs,p.vd,.p p.gl,.i (uC (D.take j) S L start).now].setIfInBounds 1 (.slice A5 (j+1) c5)) 105);generalize put γ5 b g (.cells (#[p.vs,p.vd,.p p.gl,.i (uC (D.take j) S L start).now].setIfInBounds 1 (.slice A5 (j+1) c5)) 105)=γ6 at*;have hM6:xR γ6 b g {p with vd:=.slice A5 (j+1) c5,gd:=p.gd++[gk]} (uC (D.take (j+1)) S L start):=by
    rw[←hnext.out];refine H2.out.snoc (w0:=w) (W:=w) b6 ?_ ?_ (by omega) fun k a1 a2 _ a4=>?_
    ·rw[hlen];exact s5.keep (k6 _ (by omega))
    ·rw[hlen];exact HD3.out.keep fun k hu=>(k6 k (by unfold xi at hu;omega)).trans (k5 k (by unfold xi at hu;omega))
    ·rw[hlen]at a4;exact(k6 k a1).trans ((k5 k a2).trans (HK3.out k a4))
   have HL2:Hid (bn w b g w.heap.size (.cells #[.slice (some (zc gD off)) nd dc,.slice SA ns sc,.slice A n cap] 26) D S L start (j+1) (w5.setCell (zc g 1) (.slice A5 (j+1) c5))):=I ⟨γ6,_,o6,(k6 _ (by omega)).trans ((k5 _ (by omega)).trans ((HK3.out _ (by omega)).trans HQ.out)),hM6,fun t ht=>(k6 t (by omega)).trans ((k5 t (by omega)).trans ((HK3.out t (by omega)).trans (KF.out t ht)))⟩;clear o5 s5 k5 hblk o6 k6 b6 hM6 HK3 HD3 HR4 HS4 O4 H2 HQ KF HV hA5 hnext;repeat
    refine yP.xA rfl (by rfl) ?_ (fun w'=>?_) ?_;rotate_left
    ·(go_simp;try with_reducible rfl)
    simp only[pt]
   refine yP.yY rfl (by rfl) ?_;refine yP.xy rfl .skip undef (.inr ⟨rfl,rfl⟩) (w':=w5.setCell (zc g 1) (.slice A5 (j+1) c5)) (by go_simp;try with_reducible rfl) (Perm.xx (by kernel_rfl)) ?_;simp only[pt];refine yP.xC ?_;clear fz cz;go_wp2_with fail;exact⟨⟨j+1,by simp,by omega,HL2.out⟩,by simp[intOf];omega⟩
  ·obtain rfl:j=nd:=by omega
   have dl:decide ((j:Int)<j)=false:=by simp
   have ht:D.take j=D:=by rw[←hnd,yA]
   rw[ht]at hM;have hBG:=Xr hM o (wj.start HP.out hs0 hs1) (by omega);have HBG:Hid (Calls Tryz.prog 44 #[.p g] wr fun e w'=>(∃v,e=.returned v)∧∃γ',Own w w' γ'∧wW γ' b g (tZ D S L start)∧∀k,(k<b∨b+2000≤k)→γ' k=none):=I (hBG.mono (by rintro e w' ⟨he,γ',o',h',k'⟩;exact⟨he,γ',o',⟨p,h'⟩,fun k hk=>(k' k (by omega)).trans (kf k hk)⟩));clear o qb hM kf hBG ht H HP;go_wp2_with fail;refine HBG.out.mono ?_;rintro e w' ⟨⟨v,rfl⟩,hfin⟩;have HZ:=I hfin;clear hfin HBG;go_wp2_with fail;go_ret2;obtain⟨γ',o',h',k'⟩:=HZ.out;exact⟨g,γ',rfl,o',h',k'⟩
end
end
section
open Go.RowKit Go.WideShapes Go.ChangeMaps
theorem Tryz.VZ:(Tryz.prog.info? 38).map (fun i=>(i.zero,i.size,i.bytes))=some (some (.agg #[.i 0,.i 0,.i 0,.i 0,.i 0,.i 0,.i 0]),7,56):=by kernel_rfl
def je{α:Type}(f:α→List Value)(m:Nat)(W:World)(v:Value)(l:List α):Prop:=
 ∃A c,v=.slice A l.length c∧l.length≤c∧∀(i:Nat) x,l[i]? =some x→∃g,A=zb g∧∀(j:Nat) u,(f x)[j]? =some u→W.cell? (zc g (i*m+j))=some u
section
variable {α:Type} {f:α→List Value} {m:Nat}
theorem je.keep{W W':World}{v:Value}{l:List α}(h:je f m W v l)(hk:∀p u,W.cell? p=some u→W'.cell? p=some u):je f m W' v l:=by obtain⟨A,c,h1,h2,h3⟩:=h;refine⟨A,c,h1,h2,fun i x hx=>?_⟩;obtain⟨g,e,q⟩:=h3 i x hx;exact⟨g,e,fun j u hj=>hk _ _ (q j u hj)⟩
theorem je.below{W W':World}{v:Value}{l:List α}(h:je f m W v l)(hb:Below W.heap.size W W'):je f m W' v l:=h.keep fun p u hp=>(hb.cell (World.block_lt_of_cell? _ _ hp)).trans hp
theorem yR.rdL{w0 W:World}{γ:U}{t e:Nat}{v:Value}{l:List α}(hf:∀x,(f x).length=m)(hm:0<m)(h:yR γ t e m v l.length (yW f l))(ho:Own w0 W γ):je f m W v l:=by
 obtain⟨A,c,rfl,hc⟩:=h.form;refine⟨A,c,rfl,hc,fun i x hx=>?_⟩;have hi:=(zk.1 hx).1;obtain⟨g,c',e1,-,hr⟩:=h.row ho (by omega);cases e1;refine⟨g,rfl,fun j u hj=>hr _ _ ?_⟩;have hjm:j<m:=by rw[←hf x];exact(zk.1 hj).1
 rw[vf hf hx j hjm];exact hj
end
def En.yV(x:En):List Value:=[.i x.kind,.i x.xr,.i x.pick,.i x.op,.i x.a,.i x.b,.i x.c]
theorem En.len(x:En):x.yV.length=7:=rfl
theorem En.one(x:En):∀u∈x.yV,u.oneCell'=true:=by intro u hu;simp[En.yV]at hu;rcases hu with rfl|rfl|rfl|rfl|rfl|rfl|rfl<;>rfl
def En.times(x:En):Int:=if x.kind=1∧0<x.a then 1+x.a%20 else 1
def En.zero:En:=⟨0,0,0,0,0,0,0⟩
def En.norm(x:En):En:=if x.kind=1 then{En.zero with kind:=1}else x
theorem En.aP(x:En):1≤x.times∧x.times≤20:=by unfold En.times;split<;>omega
def uE(f:Nat→En)(n:Nat):List En:=(List.range n).flatMap fun i=>List.replicate (f i).times.toNat (f i).norm
theorem js(f:Nat→En)(n:Nat):uE f (n+1)=uE f n++List.replicate (f n).times.toNat (f n).norm:=by unfold uE;rw[yD,List.flatMap_append];simp
theorem dQ(f:Nat→En):∀n,(uE f n).length≤20*n
 |0=>by simp[uE]
 |n+1=>by
  have:=dQ f n
  have:=(f n).aP
  rw[js,zr,zz]
  omega
structure jc (w:World) (A:Option Addr) (len cap:Nat) (f:Nat→En):Prop where
 lc:len≤cap
 lm:len≤9223372036854775807
 row:∀i,i<len→∃g off,A=some (zc g off)∧∀(j:Nat) u,(f i).yV[j]? =some u→w.cell? (zc g (off+i*7+j))=some u
 fit:∀i,i<len→(f i).a≤9223372036854775807∧(f i).b≤9223372036854775807
theorem Sa(x:En)(w:World):Calls Tryz.prog 32 #[x.val] w fun e w'=>e=.returned (.i x.times)∧Below w.heap.size w w':=by
 obtain⟨xk,xd,xp,xo,xa,xb,xc⟩:=x;have hb:Below w.heap.size w (w.alloc (.cells #[.i xk,.i xd,.i xp,.i xo,.i xa,.i xb,.i xc] 38)):=(Below.refl _ _).alloc (zm _) _;unfold En.times;show Calls _ _ #[.agg #[.i xk,.i xd,.i xp,.i xo,.i xa,.i xb,.i xc]] _ _;simp only;by_cases h1:xk=1
 ·have d1:(xk==1)=true:=by simpa using h1
  by_cases h2:0<xa
  ·have d2:decide (0<xa)=true:=decide_eq_true h2;have e0:xa.tmod 20=xa%20:=Int.tmod_eq_emod_of_nonneg (by omega);rw[if_pos ⟨h1,h2⟩];clear h1;go_in;go_wp2_with fail;go_ret;exact⟨by simp[e0],hb⟩
  ·have d2:decide (0<xa)=false:=decide_eq_false h2;rw[if_neg (fun c=>h2 c.2)];clear h1 h2;go_in;go_wp2_with fail;go_ret;exact⟨rfl,hb⟩
 ·have d1:(xk==1)=false:=by simpa using h1
  rw[if_neg (fun c=>h1 c.1)];clear h1;go_in;go_wp2_with fail;go_ret;exact⟨rfl,hb⟩
theorem eI{w0 W:World}{γ:U}{t g m e:Nat}{xs:List Value}(o:Own w0 W γ)(q:γ t=some (g,.cells xs.toArray e (0,0)))(hm:xs.length=m)(h1:∀u∈xs,u.oneCell'=true):Reads W m (.slice (zb g) 1 1) 1 xs:=.inr ⟨_,1,rfl,by omega,fun j u hj=>by rw[Go.WideShapes.add_plain,zy];refine o.cell q ?_;simpa using hj,h1⟩
def jf(w:World)(f:Nat→En)(j m:Nat)(v:Value)(W:World):Prop:=
 ∃γ,Own w W γ∧yR γ 0 38 7 v (uE f j++List.replicate m (f j).norm).length (yW En.yV (uE f j++List.replicate m (f j).norm))
theorem U0{w:World}{A:Option Addr}{len cap:Nat}{f:Nat→En}(hs:jc w A len cap f)(xE:Nat)(hm:xE≤120):Calls Tryz.prog 11 #[.slice A len cap,.i xE] w fun e w'=>∃γ v,e=.returned v∧Own w w' γ∧yR γ 0 38 7 v (uE f (min len xE)).length (yW En.yV (uE f (min len xE))):=by
 have hlm:=hs.lm;have hlc:=hs.lc;have HS:=I hs;clear hs;have o0:=(Own.start w).new 0 (.cells #[] 38);have HI:Hid (jf w f 0 0 (.slice (zb w.heap.size) 0 0) (w.alloc (.cells #[] 38))):=I ⟨_,o0,⟨rfl,.inr ⟨w.heap.size,0,_,rfl,yQ _ _ _ _,zm _,by unfold maxLen;omega,rfl,rfl⟩⟩⟩;clear o0;go_in;go_wp2_with fail;generalize w.alloc (.cells #[] 38)=w1 at*;go_loopw [5,6] (fun v i wr=>∃j:Nat,i=.i j∧j≤min len xE∧jf w f j 0 v wr) (fun _ i _=>1000-(intOf i).toNat);case atStart=>exact⟨0,rfl,by omega,HI.out⟩
 case round=>
  clear HI;obtain⟨j,rfl,hj,γ,o,sl⟩:=hrel;rw[List.replicate_zero,zP]at sl;obtain⟨A0,c0,rfl,-⟩:=sl.form;by_cases hlt:j<min len xE
  ·have hl1:(j:Int)<len:=by omega
   have hl2:(j:Int)<xE:=by omega
   have d2:decide ((j:Int)<xE)=true:=decide_eq_true hl2;obtain⟨g,off,rfl,hr⟩:=HS.out.row j (by omega);have hr':∀(i:Nat) u,(f j).yV[i]? =some u→wr.cell? (zc g (off+j*7+i))=some u:=fun i u hu=>(Below.xT o.below (hr i u hu));obtain⟨q0,q1,q2,q3,q4,q5,q6⟩:wr.cell? (zc g (off+j*7))=some (.i (f j).kind)∧wr.cell? (zc g (off+j*7+1))=some (.i (f j).xr)∧wr.cell? (zc g (off+j*7+2))=some (.i (f j).pick)∧wr.cell? (zc g (off+j*7+3))=some (.i (f j).op)∧wr.cell? (zc g (off+j*7+4))=some (.i (f j).a)∧wr.cell? (zc g (off+j*7+5))=some (.i (f j).b)∧wr.cell? (zc g (off+j*7+6))=some (.i (f j).c):=⟨hr' 0 _ rfl,hr' 1 _ rfl,hr' 2 _ rfl,hr' 3 _ rfl,hr' 4 _ rfl,hr' 5 _ rfl,hr' 6 _ rfl⟩;have htm:=Sa (f j) wr;have htp:=(f j).aP;have hnm:(f j).norm=if(f j).kind=1 then⟨1,0,0,0,0,0,0⟩else f j:=rfl;have HL:Hid (jf w f j 0 (.slice A0 (uE f j).length c0) wr):=I ⟨γ,o,by rw[List.replicate_zero,zP];exact sl⟩;have hsz:=dQ f j;have HW:=I o.below;have HN:Hid (∀v W,jf w f j (f j).times.toNat v W→jf w f (j+1) 0 v W):=I fun v W ⟨γ,o,s⟩=>⟨γ,o,by rw[List.replicate_zero,zP,js];exact s⟩;have HCE:Hid (∀W,Below w.heap.size w W→∀(i:Nat) u,(f j).yV[i]? =some u→W.cell? (zc g (off+j*7+i))=some u):=I fun W hW i u hu=>(hW.cell (World.block_lt_of_cell? _ _ (hr i u hu))).trans (hr i u hu);unfold En.val En.xq at htm;generalize(f j).times=T at*;clear hr hr' o sl hlt;go_wp2_with fail;refine htm.mono ?_;rintro e w2 ⟨rfl,hb2⟩;have HB2:Hid (Below wr.heap.size wr w2):=I hb2;clear hb2 htm q0 q1 q2 q3 q4 q5 q6;have HL2:Hid (jf w f j 0 (.slice A0 (uE f j).length c0) w2):=by obtain⟨γ,o,s⟩:=HL.out;exact I ⟨γ,o.xh HB2.out,s⟩
   clear HB2 HW HL;go_wp2_with fail;go_loopw [5,7] (fun v n wr=>∃m:Nat,n=.i (T-m)∧(m:Int)≤T∧jf w f j m v wr) (fun _ n _=>(intOf n).toNat);case atStart=>exact⟨0,by simp,by omega,HL2.out⟩
   case round=>
    clear HL2;obtain⟨m,rfl,hmT,γ,o,sl⟩:=hrel;obtain⟨A1,c1,rfl,-⟩:=sl.form;by_cases hm0:(m:Int)<T
    ·have d0:decide (0<T-(m:Int))=true:=decide_eq_true (by omega);obtain⟨q0,q1,q2,q3,q4,q5,q6⟩:wr.cell? (zc g (off+j*7))=some (.i (f j).kind)∧wr.cell? (zc g (off+j*7+1))=some (.i (f j).xr)∧wr.cell? (zc g (off+j*7+2))=some (.i (f j).pick)∧wr.cell? (zc g (off+j*7+3))=some (.i (f j).op)∧wr.cell? (zc g (off+j*7+4))=some (.i (f j).a)∧wr.cell? (zc g (off+j*7+5))=some (.i (f j).b)∧wr.cell? (zc g (off+j*7+6))=some (.i (f j).c):=⟨HCE.out _ o.below 0 _ rfl,HCE.out _ o.below 1 _ rfl,HCE.out _ o.below 2 _ rfl,HCE.out _ o.below 3 _ rfl,HCE.out _ o.below 4 _ rfl,HCE.out _ o.below 5 _ rfl,HCE.out _ o.below 6 _ rfl⟩;have hll:(uE f j++List.replicate m (f j).norm).length≤100000:=by rw[zr,zz];omega
     have HAP:Hid (∀v W γ',Own w W γ'→yR γ' 0 38 7 v ((uE f j++List.replicate m (f j).norm).length+1) (yW En.yV (uE f j++List.replicate m (f j).norm)++(f j).norm.yV)→jf w f j (m+1) v W):=I fun v W γ' o' s'=>by refine⟨γ',o',?_⟩;rw[List.replicate_succ',←zU,zr,yh,←sz];exact s'
     generalize(uE f j++List.replicate m (f j).norm).length=ll at*;generalize yW En.yV (uE f j++List.replicate m (f j).norm)=fl at*;by_cases hk:(f j).kind=1
     ·have d1:((f j).kind==1)=true:=by simpa using hk
      rw[if_pos hk]at hnm;rw[hnm]at HAP;obtain⟨γ2,o2,a1,a2,a3⟩:=vv o 1 2 (by omega) #[.i 1,.i 0,.i 0,.i 0,.i 0,.i 0,.i 0] #[.i 1,.i 0,.i 0,.i 0,.i 0,.i 0,.i 0] 38 38;have HR:=I (eI (xs:=[.i 1,.i 0,.i 0,.i 0,.i 0,.i 0,.i 0]) o2 a2 rfl (En.one ⟨1,0,0,0,0,0,0⟩));have HSL:=I (sl.keep (γ':=γ2) (a3 0 (by omega) (by omega)));have HO:=I o2;clear o sl o2 a1 a2 a3 hnm hk;go_wp2_with (at_builtin;refine xG rfl (.tmp 38) (.tmp 40) 27 rfl 38 _ 7 56 Tryz.underlying27 Tryz.VZ rfl (by decide) HO.out HSL.out rfl HR.out rfl ?_ ?_ ?_)
      ·unfold maxLen;omega
      ·omega
      intro A2 c2 w3 γ3 hA2 o3 s3 k3;have HF:=I (HAP.out _ _ _ o3 s3);clear o3 s3 k3 hA2 HAP HO HSL HR q0 q1 q2 q3 q4 q5 q6;go_wp2_with fail;go_roundw;case rel=>exact⟨m+1,by simp;omega,by omega,HF.out⟩
      case measure=>simp[intOf];omega
     ·have d1:((f j).kind==1)=false:=by simpa using hk
      rw[if_neg hk]at hnm;rw[hnm]at HAP;obtain⟨γ2,o2,a1,a2,a3⟩:=vv o 1 2 (by omega) #[.i (f j).kind,.i (f j).xr,.i (f j).pick,.i (f j).op,.i (f j).a,.i (f j).b,.i (f j).c] #[.i (f j).kind,.i (f j).xr,.i (f j).pick,.i (f j).op,.i (f j).a,.i (f j).b,.i (f j).c] 38 38;have HR:=I (eI (xs:=(f j).yV) o2 a2 rfl (En.one _));have HSL:=I (sl.keep (γ':=γ2) (a3 0 (by omega) (by omega)));have HO:=I o2;obtain⟨r0,r1,r2,r3,r4,r5,r6⟩:=uJ o2 a1;clear o sl o2 a1 a2 a3 hnm hk;go_wp2_with (at_builtin;refine xG rfl (.tmp 38) (.tmp 40) 27 rfl 38 _ 7 56 Tryz.underlying27 Tryz.VZ rfl (by decide) HO.out HSL.out rfl HR.out rfl ?_ ?_ ?_)
      ·unfold maxLen;omega
      ·omega
      intro A2 c2 w3 γ3 hA2 o3 s3 k3;have HF:=I (HAP.out _ _ _ o3 s3);clear o3 s3 k3 hA2 HAP HO HSL HR q0 q1 q2 q3 q4 q5 q6 r0 r1 r2 r3 r4 r5 r6;go_wp2_with fail;go_roundw;case rel=>exact⟨m+1,by simp;omega,by omega,HF.out⟩
      case measure=>simp[intOf];omega
    ·have d0:decide (0<T-(m:Int))=false:=decide_eq_false (by omega);have hmm:T.toNat=m:=by omega
     rw[hmm]at HN;have HF:=I (HN.out _ _ ⟨γ,o,sl⟩);generalize(uE f j++List.replicate m (f j).norm).length=ll at*;clear o sl hnm HN;go_wp2_with fail;go_roundw;case rel=>exact⟨j+1,by simp,by omega,HF.out⟩
     case measure=>simp[intOf];omega
  ·obtain rfl:j=min len xE:=by omega
   have hdd:len≤min len xE∨min len xE<len∧xE≤min len xE:=by omega
   have HF:Hid (∃γ v,Ending.returned (.slice A0 (uE f (min len xE)).length c0)=.returned v∧Own w wr γ∧yR γ 0 38 7 v (uE f (min len xE)).length (yW En.yV (uE f (min len xE)))):=I ⟨γ,_,rfl,o,sl⟩;clear o sl;rcases hdd with d|⟨d,d'⟩;all_goals go_wp2_with fail;go_ret;exact HF.out
end
section
open Go.RowKit
structure Ev where
 xr:Int
 x:En
 o:xN
 tick:Int
def Ev.yV(v:Ev):List Value:=.i v.xr::(v.x.yV++v.o.yV++[.i v.tick])
theorem Ev.len(v:Ev):v.yV.length=15:=rfl
theorem Ev.one(v:Ev):∀u∈v.yV,u.oneCell'=true:=by intro u hu;simp[Ev.yV,En.yV,xN.yV]at hu;rcases hu with rfl|rfl|rfl|rfl|rfl|rfl|rfl|rfl|rfl|rfl|rfl|rfl|rfl|rfl|rfl<;>rfl
def Mc.seen(M:Mc)(k:Nat):List xN:=match M.ds[k]? with
 |some D=>D.seen
 |none=>[]
def Mc.vx(M M':Mc)(n:Nat):List Ev:=(List.range n).flatMap fun k=>((M'.seen k).drop (M.seen k).length).map fun o=>⟨k,En.zero,o,M'.now⟩
def Mc.jL(M:Mc)(x:En):List Ev:=
 if x.kind=1 then M.vx (M.xL x).1 M.ds.length else if(M.xL x).2.xI≠0 then [⟨x.xr,x,(M.xL x).2,(M.xL x).1.now⟩]else []
def Mc.run(M:Mc)(l:List En):Mc:=l.foldl (fun M x=>(M.xL x).1) M
def Mc.wR:Mc→List En→List Ev
 |_,[]=>[]
 |M,x::l=>M.jL x++Mc.wR (M.xL x).1 l
theorem Mc.TZ(M:Mc)(l:List En)(x:En):M.run (l++[x])=((M.run l).xL x).1:=by unfold Mc.run;rw[yq];rfl
theorem Mc.ZP:∀(l:List En) (M:Mc) (x:En),M.wR (l++[x])=M.wR l++(M.run l).jL x
 |[],M,x=>by simp[Mc.wR,Mc.run]
 |y::l,M,x=>by
  show M.jL y++Mc.wR (M.xL y).1 (l++[x])=M.jL y++Mc.wR (M.xL y).1 l++_
  rw[Mc.ZP l,zU]
  rfl
theorem Mc.de(M M':Mc)(n:Nat):M.vx M' (n+1)=M.vx M' n++((M'.seen n).drop (M.seen n).length).map fun o=>⟨n,En.zero,o,M'.now⟩:=by unfold Mc.vx;rw[yD,List.flatMap_append];simp
def ke(l:List En):Nat:=(l.filter fun x=>x.kind != 1).length
theorem Th(x:En)(l:List En):ke (x::l)=(if x.kind=1 then 0 else 1)+ke l:=by
 unfold ke;rw[List.filter_cons];by_cases h:x.kind=1
 ·simp[h]
 ·have:(x.kind != 1)=true:=by simpa using h
  rw[if_pos this,if_neg h,zM];omega
theorem cf(a b:List En):ke (a++b)=ke a+ke b:=by unfold ke;rw[List.filter_append,zr]
theorem wj.run{a s:Nat}:∀(l:List En) {M:Mc} {a s:Nat},wj M a s→wj (M.run l) (a+ke l) (s+8*l.length)
 |[],_,_,_,h=>h
 |x::l,M,a,s,h=>by
  have h1:=wj.run (a:=a) (s:=s) l (h.xL x)
  rw[Th,zM]
  show wj ((M.xL x).1.run l) _ _
  split at h1
  ·rename_i e
   rw[if_pos e]
   exact h1.more (by omega) (by omega)
  ·rename_i e
   rw[if_neg e]
   exact h1.more (by omega) (by omega)
theorem Mc.SR(M:Mc)(i:Nat)(D:Dm)(t:Int)(x:En):(M.act i D t x).1.ds.length=M.ds.length∧(M.act i D t x).1.sl=M.sl∧(M.act i D t x).1.now=M.now:=by
 unfold Mc.act;split
 ·exact⟨zq,rfl,rfl⟩
 split
 ·exact⟨zq,rfl,rfl⟩
 split
 ·exact⟨zq,rfl,rfl⟩
 ·refine⟨?_,?_,?_⟩
  ·show((if _ then _ else _:Mc).ds.set _ _).length=_;rw[zq];split<;>rfl
  ·show(if _ then _ else _:Mc).sl=_;split<;>rfl
  ·show(if _ then _ else _:Mc).now=_;split<;>rfl
theorem Mc.VH(M:Mc)(x:En):(M.xL x).1.ds.length=M.ds.length:=by
 unfold Mc.xL;split
 ·split
  ·rfl
  ·exact(Mc.ZB _).2.2.2
 split
 ·rfl
 split
 ·rfl
 split
 ·rfl
 split
 ·rfl
 ·exact(M.SR _ _ _ _).1
theorem Mc.Xy:∀(l:List En) (M:Mc),(M.run l).ds.length=M.ds.length
 |[],_=>rfl
 |x::l,M=>(Mc.Xy l (M.xL x).1).trans (M.VH x)
theorem wj.XB{M:Mc}{a s:Nat}(h:wj M a s)(k:Nat):(M.seen k).length≤s:=by
 unfold Mc.seen;split
 ·rename_i D hD;exact(h.kg D (zo hD)).2.2.2
 ·exact Nat.zero_le _
theorem Mc.fu{M M':Mc}{s:Nat}(h:∀k,(M'.seen k).length≤s):∀n,(M.vx M' n).length≤s*n
 |0=>by simp[Mc.vx]
 |n+1=>by
  have ih:=Mc.fu (M:=M) h n
  have:=h n
  rw[Mc.de,zr,zA,ya,Nat.mul_succ]
  omega
theorem wj.Tp{M:Mc}{a s:Nat}(h:wj M a s)(h8:M.ds.length≤8)(x:En):(M.jL x).length≤(s+8)*8+1:=by
 unfold Mc.jL;split
 ·have:=Mc.fu (M:=M) (fun k=>(h.xL x).XB k) M.ds.length;have:(s+8)*M.ds.length≤(s+8)*8:=Nat.mul_le_mul_left _ h8;omega
 ·split
  ·simp
  ·simp
theorem wj.bI{a s:Nat}:∀(l:List En) {M:Mc} {a s:Nat},wj M a s→M.ds.length≤8→s+8*l.length≤24000→(M.wR l).length≤200000*l.length
 |[],_,_,_,_,_,_=>zm _
 |x::l,M,a,s,h,h8,hs=>by
  have h1:=h.Tp h8 x
  have h2:=wj.bI (a:=a) (s:=s) l (h.xL x) (by rw[M.VH];exact h8) (by rw[zM]at hs;omega)
  rw[zM]at hs⊢
  show(M.jL x++Mc.wR (M.xL x).1 l).length≤_
  rw[zr]
  omega
end
end Go.Proofs.YtkmamlifgbocgaaGreat
