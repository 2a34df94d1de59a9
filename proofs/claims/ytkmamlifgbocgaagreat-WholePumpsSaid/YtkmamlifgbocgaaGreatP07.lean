/- What the program's code does, as contracts, and what follows of it, part 7: for the law's proof. -/
import Derived.Test.YtkmamlifgbocgaaGreatP00
import Derived.Test.YtkmamlifgbocgaaGreatP06
set_option linter.unusedVariables false
set_option linter.unusedSimpArgs false
set_option maxRecDepth 100000
set_option maxHeartbeats 16000000
namespace Go.Proofs.YtkmamlifgbocgaaGreat
section
open Go.RowKit Go.WideShapes
def Vf(hi:Nat)(n:Int):Nat:=if n<0 then 0 else if(hi:Int)<n then hi else n.toNat
theorem OU(hi:Nat)(n:Int):Vf hi n≤hi:=by unfold Vf;split<;>(try split)<;>omega
def Ar.linked(k m:Nat):Ar:=⟨(List.range k).map fun j=>⟨0,if j<m then -1 else if j+1=k then -1 else(j:Int)+1,false⟩,if m<k then m else -1⟩
def Ar.new(k:Nat):Ar:=Ar.linked k 0
def Ar.raw(m:Nat):Ar:=⟨List.replicate m ⟨0,-1,false⟩,-1⟩
theorem Ar.PJ(k:Nat):Ar.raw k=Ar.linked k k:=by
 unfold Ar.raw Ar.linked;congr 1
 ·apply yb;intro i;by_cases h:i<k
  ·simp[h]
  ·simp[h]
 ·rw[if_neg (by omega)]
theorem Ar.cI(k m:Nat):(Ar.linked k m).l.length=k:=by simp[Ar.linked]
theorem Ar.cH(k m i:Nat)(h:i<k):(Ar.linked k m).l[i]? =some ⟨0,if i<m then -1 else if i+1=k then -1 else(i:Int)+1,false⟩:=by simp[Ar.linked,h]
theorem Ar.YX(k m:Nat)(h:m+1≤k):(⟨(Ar.linked k (m+1)).l.set m ⟨0,(Ar.linked k (m+1)).free,false⟩,(m:Int)⟩:Ar)=Ar.linked k m:=by
 unfold Ar.linked;congr 1
 ·apply yb;intro i;by_cases hi:i<k
  ·by_cases e:i=m
   ·subst e;rw[zp (by simp;omega)];simp only[zx,yM hi,yo,Option.some.injEq,Pl.mk.injEq,true_and,and_true];by_cases e2:i+1=k
    ·rw[if_neg (by omega),if_neg (by omega),if_pos e2]
    ·rw[if_pos (by omega),if_neg (by omega),if_neg e2];omega
   ·rw[zt (Ne.symm e)];simp only[zx,yM hi,yo,Option.some.injEq,Pl.mk.injEq,true_and,and_true];by_cases e2:i<m
    ·rw[if_pos (by omega),if_pos e2]
    ·rw[if_neg (by omega),if_neg e2]
  ·rw[zJ (by simp;omega),zJ (by simp;omega)]
 ·rw[if_pos (by omega)]
section
variable {w0 w:World} {γ:U} {b g:Nat} {a:Ar}
theorem ug.grow{γ':U}{w':World}{v v':Value}(h0:γ b=some (g,.cells #[v,.i a.free] 163 (0,0)))(ho:Own w0 w' γ')(p:Pl)(hs:yR γ' (b+1) 165 3 v' (a.l.length+1) (yW Pl.yV a.l++p.yV))(hk:∀k,k≠b+1→γ' k=γ k):(∃u,w'.cell? (zc g 0)=some u)∧w'.frozen? (zc g 0)=false∧∃γ2,Own w0 (w'.setCell (zc g 0) v') γ2∧ug γ2 b g ⟨a.l++[p],a.free⟩∧∀k,k≠b→k≠b+1→γ2 k=γ k:=by have h1:γ' b=_:=(hk b (by omega)).trans h0;refine⟨⟨_,ho.cell h1 (i:=0) rfl⟩,ho.free h1 0,_,ho.set h1 0 v',⟨v',yQ _ _ _ _,?_⟩,fun k k1 k2=>(yO _ _ _ k1).trans (hk k k2)⟩;show yR _ _ _ _ v' (a.l++[p]).length (yW Pl.yV (a.l++[p]));rw[zr,←sz];exact hs.keep (yO _ _ _ (by omega))
def dy(w0:World)(γ:U)(b g k:Nat)(i:Value)(wr:World):Prop:=
 ∃(m:Nat) (γ':U),i=.i ((k:Int)-1-m)∧m≤k∧Own w0 wr γ'∧ug γ' b g (Ar.raw m)∧∀t,(t<b∨b+3≤t)→γ' t=γ t
def dA(w0:World)(γ:U)(b g k:Nat)(i:Value)(wr:World):Prop:=
 ∃(m:Nat) (γ':U),i=.i ((m:Int)-1)∧m≤k∧Own w0 wr γ'∧ug γ' b g (Ar.linked k m)∧∀t,(t<b∨b+3≤t)→γ' t=γ t
def ab(w0:World)(γ:U)(b k:Nat)(e:Ending)(w':World):Prop:=
 ∃g γ',e=.returned (.p g)∧Own w0 w' γ'∧ug γ' b g (Ar.new k)∧∀t,(t<b∨b+3≤t)→γ' t=γ t
theorem Xe(ho:Own w0 w γ)(b:Nat)(n:Int)(k:Nat)(hk:max 0 (min n 16)=(k:Int)):Calls Tryz.prog 58 #[.i n] w (ab w0 γ b k):=by
 have hk16:k≤16:=by omega
 have o1:=ho.new b (.cells #[.slice none 0 0,.i (-1)] 163);have hstart:dy w0 γ b w.heap.size k (.i ((k:Int)-1)) (w.alloc (.cells #[.slice none 0 0,.i (-1)] 163)):=⟨0,_,by simp,by omega,o1,⟨_,yQ _ _ _ _,yR.nil _ _ _ _⟩,fun t ht=>yO _ _ _ (by omega)⟩;have HS:=I hstart;clear hstart o1 ho;have hc:(n<0∧k=0)∨(16<n∧k=16)∨n=k:=by omega
 clear hk;have HC:Hid ((n<0∧k=0)∨(16<n∧k=16)∨n=k):=I hc;rcases hc with⟨c,hk0⟩|⟨c,hk0⟩|hk0;all_goals clear hk0;go_in;go_wp2_with fail
 all_goals
  generalize w.heap.size=g at*;generalize w.alloc _=wS at*;go_loopw [4] (fun i wr=>dy w0 γ b g k i wr) (fun i _=>(intOf i+1).toNat);case atStart=> obtain⟨m,γ',h1,h2⟩:=HS.out;exact⟨m,γ',by rw[←h1];congr 1;have:=HC.out;omega,h2⟩
  case round=>
   obtain⟨m,γ',rfl,hm,ho,⟨v,h1,h2⟩,hf⟩:=hrel;obtain⟨A,cap,rfl,_⟩:=h2.form;have hln:(Ar.raw m).l.length=m:=by simp[Ar.raw]
   have hraw:(⟨(Ar.raw m).l++[⟨0,-1,false⟩],(Ar.raw m).free⟩:Ar)=Ar.raw (m+1):=by simp[Ar.raw,List.replicate_succ']
   by_cases hlt:m<k
   ·have d1:decide ((0:Int)≤(k:Int)-1-m)=true:=by simp;omega
    have c0:=ho.cell h1 (i:=0) (v:=.slice A (Ar.raw m).l.length cap) rfl;have ho1:=ho.new (b+2) (.cells #[.i 0,.i (-1),.bool false] 165);have h11:put γ' (b+2) wr.heap.size (.cells #[.i 0,.i (-1),.bool false] 165) b=_:=(yO _ _ _ (by omega)).trans h1;have h21:=h2.keep (γ':=put γ' (b+2) wr.heap.size (.cells #[.i 0,.i (-1),.bool false] 165)) (yO _ _ _ (by omega));have hfr:∀t,(t<b∨b+3≤t)→put γ' (b+2) wr.heap.size (.cells #[.i 0,.i (-1),.bool false] 165) t=γ t:=fun t ht=>(yO _ _ _ (by omega)).trans (hf t ht);have hr:Reads (wr.alloc (.cells #[.i 0,.i (-1),.bool false] 165)) 3 (.slice (zb wr.heap.size) 1 1) 1 (Pl.yV ⟨0,-1,false⟩):=.inr ⟨_,1,rfl,rfl,fun j u hj=>by rw[add_plain,zy];exact ho1.cell (yQ _ _ _ _) (i:=j) (by simpa[Pl.yV]using hj),Pl.one _⟩;rw[hln]at h11 h21 c0;have HO1:=I ho1;have H11:=I h11;have H21:=I h21;have HFR:=I hfr;have HR:=I hr;have HRAW:=I hraw;have HLN:=I hln;clear ho h1 h2 hf ho1 h11 h21 hfr hr hraw hln;go_wp2_with (at_builtin;refine xG rfl (.tmp 20) (.tmp 22) 161 rfl 165 _ 3 24 Tryz.underlying161 Tryz.RG rfl (by decide) HO1.out H21.out rfl HR.out rfl ?_ ?_ ?_)
    ·unfold maxLen;omega
    ·omega
    intro A' cap' w2 γ2 hA2 ho2 hs2 hk2;obtain⟨⟨u,hu⟩,hfz,γ3,ho3,hA3,hk3⟩:=ug.grow (a:=Ar.raw m) H11.out ho2 ⟨0,-1,false⟩ (by rw[HLN.out];exact hs2) hk2;rw[HRAW.out]at hA3;have hN:dy w0 γ b g k (.i ((k:Int)-1-m-1)) (w2.setCell (zc g 0) (.slice A' (m+1) cap')):=⟨m+1,γ3,by congr 1;omega,by omega,ho3,hA3,fun t ht=>(hk3 t (by omega) (by omega)).trans (HFR.out t ht)⟩;have HN:=I hN;clear hN ho2 hs2 hk2 ho3 hA3 hk3 hA2;go_wp2_with fail;go_roundw;case rel=>exact HN.out
    case measure=>simp[intOf];omega
   ·obtain rfl:m=k:=by omega
    have d1:decide ((0:Int)≤(m:Int)-1-m)=false:=by simp;omega
    have c0:=ho.cell h1 (i:=0) (v:=.slice A m cap) (by rw[hln];rfl);have hA:ug γ' b g (Ar.linked m m):=by rw[←Ar.PJ];exact⟨_,h1,h2⟩
    have HA:Hid (dA w0 γ b g m (.i ((m:Int)-1)) wr):=I ⟨m,γ',rfl,zm _,ho,hA,hf⟩;clear ho h1 h2 hf hraw hln hA;go_wp2_with fail;go_loopw [5] (fun i wr=>dA w0 γ b g m i wr) (fun i _=>(intOf i+1).toNat);case atStart=>exact HA.out
    case round=>
     obtain⟨q,γ1,rfl,hq,ho,hA1,hf⟩:=hrel;have hlen:=Ar.cI m q;cases q with
     |zero=> have hfin:ab w0 γ b m (.returned (.p g)) wr:=⟨g,γ1,rfl,ho,hA1,hf⟩;have HF:=I hfin;clear ho hA1 hf hfin hlen;go_wp2_with fail;go_ret;exact HF.out
     |succ q=>
      have hp:=Ar.cH m (q+1) q (by omega);rw[if_pos (by omega)]at hp;obtain⟨gl,c,hI⟩:=hA1.open_ (by omega);have hne:=hI.ne ho;obtain⟨c0',c1,f1,q0,q1,q2,r0,r1,r2⟩:=hI.cells ho hp;rw[hlen]at c0';obtain⟨γ2,ho2,hA2,hk2⟩:=hI.put ho hp 1 (.i (Ar.linked m (q+1)).free) ⟨0,(Ar.linked m (q+1)).free,false⟩ (by omega) rfl;obtain⟨γ3,ho3,hA3,hk3⟩:=hA2.XC ho2 q;rw[Ar.YX m q (by omega)]at hA3;have hN:dA w0 γ b g m (.i ((q:Int)-1)) _:=⟨q,γ3,rfl,by omega,ho3.drew,hA3.close,fun t ht=>(hk3 t (by omega)).trans ((hk2 t (by omega)).trans (hf t ht))⟩;have HN:=I hN;have hqm:(q:Int)<m:=by omega
      have e1:((q+1:Nat):Int)-1=(q:Int):=by omega
      rw[e1];generalize(Ar.linked m (q+1)).free=fr at*;clear ho hA1 hf hlen hp hI ho2 hA2 hk2 ho3 hA3 hk3 hN c0 e1;go_wp2_with fail;refine yP.region [0,1,2,3,4,6,7,8,9,11,12] (.step 5 (.step 10 (.step 13 (.step 14 (.step 15 (.step 16 .done)))))) (fun w'=>w'.cell? (zc g 0)=some (.slice (zb gl) m c)∧w'.cell? (zc g 1)=some (.i fr)) (by kernel_rfl) (by kernel_rfl) (fun _ _ _ _ _ h=>h) (by refine⟨?_,?_⟩<;>(go_simp;try first|done|assumption)) ?_;repeat
       refine Perm.xm rfl ?_ (fun w' hS=>?_) ?_;rotate_left
       ·(obtain⟨s0,s1⟩:=hS;go_simp;try with_reducible rfl)
       simp only[pt]
      refine Perm.xt ?_;repeat
       refine yP.xA rfl (by rfl) ?_ (fun w'=>?_) ?_;rotate_left
       ·(go_simp;try with_reducible rfl)
       simp only[pt]
      refine yP.yY rfl (by rfl) ?_;refine yP.xy rfl .skip undef (.inr ⟨rfl,rfl⟩) (w':=?_) ?_ (Perm.xx (by kernel_rfl)) ?_;rotate_left
      ·(go_simp;try with_reducible rfl)
      simp only[pt];repeat
       refine yP.xA rfl (by rfl) ?_ (fun w'=>?_) ?_;rotate_left
       ·(go_simp;try with_reducible rfl)
       simp only[pt]
      refine yP.yY rfl (by rfl) ?_;refine yP.xy rfl .skip undef (.inr ⟨rfl,rfl⟩) (w':=?_) ?_ (Perm.xx (by kernel_rfl)) ?_;rotate_left
      ·(go_simp;try with_reducible rfl)
      simp only[pt];refine yP.xC ?_;go_wp2_with fail;go_roundw;case rel=>exact HN.out
      case measure=>first|(simp[intOf];done)|(simp[intOf];omega)
end
end
section
open Go.RowKit Go.WideShapes
def Fi.kU(x:Qu)(nd:Nd):Qu:=if nd.ahead= -1 then{x with first:=nd.behind}else x
def Fi.kV(x:Qu)(nd:Nd):Qu:=if nd.behind= -1 then{x with last:=nd.ahead}else x
def Fi.vV(ns:List Nd)(k:Int)(g:Nd→Nd):List Nd:=if k= -1 then ns else match ns[k.toNat]? with
 |some y=>ns.set k.toNat (g y)
 |none=>ns
def Fi.remove(f:Fi)(i:Nat):Fi:=match f.ns[i]? with
 |some nd=>match f.qs[nd.queue.toNat]? with
  |some x=>⟨f.qs.set nd.queue.toNat {Fi.kV (Fi.kU x nd) nd with size:=x.size-1},
   (Fi.vV (Fi.vV f.ns nd.ahead fun y=>{y with behind:=nd.behind}) nd.behind fun y=>{y with ahead:=nd.ahead}).set i ⟨-1,-1,-1⟩⟩
  |none=>f
 |none=>f
section
variable {w0 w:World} {γ:U} {b g gq cq gn cn:Nat} {f:Fi}
theorem YQ(h:rj γ b g f)(ho:Own w0 w γ){i:Nat}(hi:i<f.ns.length)(hw:f.vX i= -1):Calls Tryz.prog 108 #[.p g,.i i] w (uG w0 γ b g f (.bool false)):=by have hwh:=qU h ho hi;rw[hw]at hwh;have HF:Hid (uG w0 γ b g f (.bool false) (.returned (.bool false)) w):=I ⟨rfl,γ,ho,h,fun _ _=>rfl⟩;clear h ho hw hi;go_in;go_wp2_with fail;refine hwh.mono ?_;rintro e w' ⟨rfl,rfl⟩;go_wp2_with fail;go_ret;exact HF.out
theorem Tr(h:rj γ b g f)(ho:Own w0 w γ){n i a c:Nat}{x:Qu}(hx:f.qs[n]? =some x)(hi:f.ns[i]? =some ⟨n,-1,-1⟩)(hsz:0≤x.size∧x.size≤1000):Calls Tryz.prog 108 #[.p g,.i i] w (uG w0 γ b g (f.remove i) (.bool true)):=by
 have hn:n<f.qs.length:=(zk.1 hx).1;have hil:i<f.ns.length:=(zk.1 hi).1;have hwh:=qU h ho hil;have hw:f.vX i=n:=by unfold Fi.vX;rw[hi]
 rw[hw]at hwh;obtain⟨gq,cq,gn,cn,h⟩:=h;have ho1:=ho.drew.new (b+3) (.cells #[.i n,.i (-1),.i (-1)] 210);have kb:=yQ γ (b+3) w.drew.heap.size (.cells #[.i n,.i (-1),.i (-1)] 210);have h1:=h.keep (γ':=put γ (b+3) w.drew.heap.size (.cells #[.i n,.i (-1),.i (-1)] 210)) fun k k1 k2=>yO _ _ _ (by omega);have kk:∀k,(k<b∨b+4≤k)→put γ (b+3) w.drew.heap.size (.cells #[.i n,.i (-1),.i (-1)] 210) k=γ k:=fun k hk=>yO _ _ _ (by omega);obtain⟨c0,c1⟩:=h.cells ho;obtain⟨p0,p1,p2,-⟩:=h.n ho hi;dsimp only at p0 p1 p2;have h32:=h.2.2.2;have hin:(i:Int)<f.ns.length:=by omega
 have hnn:(n:Int)<f.qs.length:=by omega
 have hn1:((n:Int)== -1)=false:=by rw[beq_eq_false_iff_ne];omega
 have hrem:f.remove i=⟨f.qs.set n {Fi.kV (Fi.kU x ⟨n,-1,-1⟩) ⟨n,-1,-1⟩with size:=x.size-1},(Fi.vV (Fi.vV f.ns (-1) fun y=>{y with behind:= -1}) (-1) fun y=>{y with ahead:= -1}).set i ⟨-1,-1,-1⟩⟩:=by unfold Fi.remove;rw[hi];dsimp only;rw[zu,hx]
 go_in;go_wp2_with fail;refine hwh.mono ?_;rintro e w' ⟨rfl,rfl⟩;have H1:=I h1;have HK:=I kk;have HREM:=I hrem;have HX:=I hx;have HI:=I hi;clear h h1 ho hx hi hw hrem kk hwh;go_wp2_with fail;refine yP.region [0,1,2,3,4,5,6,7,8,9,10,11,12] (.step 13 (.step 14 (.step 15 .done))) (fun w'=>w'.cell? ⟨g,0,none⟩=some (.slice (zb gq) f.qs.length cq)∧w'.cell? ⟨g,1,none⟩=some (.slice (zb gn) f.ns.length cn)∧w'.cell? ⟨gn,i*3,none⟩=some (.i n)∧w'.cell? ⟨gn,i*3+1,none⟩=some (.i (-1))∧w'.cell? ⟨gn,i*3+2,none⟩=some (.i (-1))) (by kernel_rfl) (by kernel_rfl) (fun _ _ _ _ _ h=>h) (by refine⟨?_,?_,?_,?_,?_⟩<;>(go_simp;try first|done|assumption)) ?_;repeat
  refine Perm.xm rfl ?_ (fun w' hS=>?_) ?_;rotate_left
  ·(obtain⟨s0,s1,s2,s3,s4⟩:=hS;go_simp;try with_reducible rfl)
  simp only[pt]
 refine Perm.xt ?_;refine yP.yY rfl (by rfl) ?_;refine yP.xy rfl (.value (.p w.drew.heap.size)) _ (.inl rfl) (w':=w.drew.alloc (.cells #[.i 0,.i 0,.i 0] 210)) (by go_simp;try with_reducible rfl) (fun _ hS=>⟨xU hS.1 _,xU hS.2.1 _,xU hS.2.2.1 _,xU hS.2.2.2.1 _,xU hS.2.2.2.2 _⟩) ?_;simp only[pt];repeat
  refine yP.xA rfl (by rfl) ?_ (fun w'=>?_) ?_;rotate_left
  ·(go_simp;try with_reducible rfl)
  simp only[pt]
 refine yP.yY rfl (by rfl) ?_;refine yP.xy rfl .skip undef (.inr ⟨rfl,rfl⟩) (w':=w.drew.alloc (.cells #[.i n,.i (-1),.i (-1)] 210)) (by go_simp;try with_reducible rfl) (Perm.xx (by kernel_rfl)) ?_;simp only[pt];refine yP.xC ?_;clear c0 c1 p0 p1 p2;generalize put γ (b+3) _ _=γ1 at*;generalize w.drew.alloc _=W at*;generalize w.drew.heap.size=gx at*;have h:=H1.out;obtain⟨c0,c1⟩:=h.cells ho1;obtain⟨n1,n2,n3⟩:=h.ne ho1;obtain⟨q0,q1,q2,r0,r1,r2⟩:=h.q ho1 HX.out;obtain⟨p0,p1,p2,s0,s1,s2⟩:=h.n ho1 HI.out;have l0:=ho1.cell kb (i:=0) (v:=.i n) rfl;have l1:=ho1.cell kb (i:=1) (v:=.i (-1)) rfl;have l2:=ho1.cell kb (i:=2) (v:=.i (-1)) rfl;have nx:gx≠g∧gx≠gq∧gx≠gn:=by
  obtain⟨z0,z1,z2,_⟩:=h;refine⟨fun e=>?_,fun e=>?_,fun e=>?_⟩
  ·subst e;have:=ho1.inj _ _ _ _ _ kb z0;omega
  ·rcases z1.2 with⟨y,_⟩|⟨_,_,_,y,y2,_⟩
   ·cases y
   ·cases y;subst e;have:=ho1.inj _ _ _ _ _ kb y2;omega
  ·rcases z2.2 with⟨y,_⟩|⟨_,_,_,y,y2,_⟩
   ·cases y
   ·cases y;subst e;have:=ho1.inj _ _ _ _ _ kb y2;omega
 obtain⟨nx1,nx2,nx3⟩:=nx;obtain⟨xf,xl,xs⟩:=x;dsimp only at*;obtain⟨ga1,oa1,ha_1,ka1⟩:=h.pa ho1 HX.out 0 (.i (-1)) ⟨-1,xl,xs⟩ (by omega) rfl;obtain⟨ga2,oa2,ha_2,ka2⟩:=ha_1.pa oa1 (n:=n) (x:=⟨-1,xl,xs⟩) (zp hn) 1 (.i (-1)) ⟨-1,-1,xs⟩ (by omega) rfl;simp only[ye]at ha_2;obtain⟨ga3,oa3,ha_3,ka3⟩:=ha_2.cS oa2 (n:=i) (by simp;omega) ⟨-1,-1,-1⟩;obtain⟨ga4,oa4,ha_4,ka4⟩:=ha_3.pa oa3 (n:=n) (x:=⟨-1,-1,xs⟩) (zp hn) 2 (.i (xs-1)) ⟨-1,-1,xs-1⟩ (by omega) rfl;simp only[ye]at ha_4;have hfin:uG w0 γ b g (f.remove i) (.bool true) (.returned (.bool true)) _:=⟨rfl,ga4,oa4,⟨gq,cq,gn,cn,by rw[HREM.out];unfold Fi.vV Fi.kU Fi.kV;simp only[if_true];exact ha_4⟩,fun k hk=>(ka4 k (by omega)).trans ((ka3 k (by omega)).trans ((ka2 k (by omega)).trans ((ka1 k (by omega)).trans (HK.out k hk))))⟩;simp only[yv,World.setCell_drew]at hfin;have HF:=I hfin;generalize f.remove i=f2 at*;generalize f.ns.length=m at*;generalize f.qs.length=m2 at*;clear h H1 HX HI HREM HK ho1 kb hfin oa1 ha_1 ka1 oa2 ha_2 ka2 oa3 ha_3 ka3 oa4 ha_4 ka4;go_wp2_with fail;go_ret;exact HF.out
theorem VS(h:rj γ b g f)(ho:Own w0 w γ){n i a c:Nat}{x:Qu}(hx:f.qs[n]? =some x)(hi:f.ns[i]? =some ⟨n,-1,(c:Int)⟩)(hc:c<f.ns.length)(hci:c≠i)(hsz:0≤x.size∧x.size≤1000):Calls Tryz.prog 108 #[.p g,.i i] w (uG w0 γ b g (f.remove i) (.bool true)):=by
 have hn:n<f.qs.length:=(zk.1 hx).1;have hil:i<f.ns.length:=(zk.1 hi).1;have hwh:=qU h ho hil;have hw:f.vX i=n:=by unfold Fi.vX;rw[hi]
 rw[hw]at hwh;obtain⟨gq,cq,gn,cn,h⟩:=h;have ho1:=ho.drew.new (b+3) (.cells #[.i n,.i (-1),.i (c:Int)] 210);have kb:=yQ γ (b+3) w.drew.heap.size (.cells #[.i n,.i (-1),.i (c:Int)] 210);have h1:=h.keep (γ':=put γ (b+3) w.drew.heap.size (.cells #[.i n,.i (-1),.i (c:Int)] 210)) fun k k1 k2=>yO _ _ _ (by omega);have kk:∀k,(k<b∨b+4≤k)→put γ (b+3) w.drew.heap.size (.cells #[.i n,.i (-1),.i (c:Int)] 210) k=γ k:=fun k hk=>yO _ _ _ (by omega);obtain⟨c0,c1⟩:=h.cells ho;obtain⟨p0,p1,p2,-⟩:=h.n ho hi;dsimp only at p0 p1 p2;have h32:=h.2.2.2;have hin:(i:Int)<f.ns.length:=by omega
 have hnn:(n:Int)<f.qs.length:=by omega
 have hn1:((n:Int)== -1)=false:=by rw[beq_eq_false_iff_ne];omega
 have hc1:((c:Int)== -1)=false:=by rw[beq_eq_false_iff_ne];omega
 have hcn:(c:Int)<f.ns.length:=by omega
 have hrem:f.remove i=⟨f.qs.set n {Fi.kV (Fi.kU x ⟨n,-1,(c:Int)⟩) ⟨n,-1,(c:Int)⟩with size:=x.size-1},(Fi.vV (Fi.vV f.ns (-1) fun y=>{y with behind:=(c:Int)}) ((c:Int)) fun y=>{y with ahead:= -1}).set i ⟨-1,-1,-1⟩⟩:=by unfold Fi.remove;rw[hi];dsimp only;rw[zu,hx]
 go_in;go_wp2_with fail;refine hwh.mono ?_;rintro e w' ⟨rfl,rfl⟩;have H1:=I h1;have HK:=I kk;have HREM:=I hrem;have HX:=I hx;have HI:=I hi;clear h h1 ho hx hi hw hrem kk hwh;go_wp2_with fail;refine yP.region [0,1,2,3,4,5,6,7,8,9,10,11,12] (.step 13 (.step 14 (.step 15 .done))) (fun w'=>w'.cell? ⟨g,0,none⟩=some (.slice (zb gq) f.qs.length cq)∧w'.cell? ⟨g,1,none⟩=some (.slice (zb gn) f.ns.length cn)∧w'.cell? ⟨gn,i*3,none⟩=some (.i n)∧w'.cell? ⟨gn,i*3+1,none⟩=some (.i (-1))∧w'.cell? ⟨gn,i*3+2,none⟩=some (.i ((c:Int)))) (by kernel_rfl) (by kernel_rfl) (fun _ _ _ _ _ h=>h) (by refine⟨?_,?_,?_,?_,?_⟩<;>(go_simp;try first|done|assumption)) ?_;repeat
  refine Perm.xm rfl ?_ (fun w' hS=>?_) ?_;rotate_left
  ·(obtain⟨s0,s1,s2,s3,s4⟩:=hS;go_simp;try with_reducible rfl)
  simp only[pt]
 refine Perm.xt ?_;refine yP.yY rfl (by rfl) ?_;refine yP.xy rfl (.value (.p w.drew.heap.size)) _ (.inl rfl) (w':=w.drew.alloc (.cells #[.i 0,.i 0,.i 0] 210)) (by go_simp;try with_reducible rfl) (fun _ hS=>⟨xU hS.1 _,xU hS.2.1 _,xU hS.2.2.1 _,xU hS.2.2.2.1 _,xU hS.2.2.2.2 _⟩) ?_;simp only[pt];repeat
  refine yP.xA rfl (by rfl) ?_ (fun w'=>?_) ?_;rotate_left
  ·(go_simp;try with_reducible rfl)
  simp only[pt]
 refine yP.yY rfl (by rfl) ?_;refine yP.xy rfl .skip undef (.inr ⟨rfl,rfl⟩) (w':=w.drew.alloc (.cells #[.i n,.i (-1),.i ((c:Int))] 210)) (by go_simp;try with_reducible rfl) (Perm.xx (by kernel_rfl)) ?_;simp only[pt];refine yP.xC ?_;clear c0 c1 p0 p1 p2;generalize put γ (b+3) _ _=γ1 at*;generalize w.drew.alloc _=W at*;generalize w.drew.heap.size=gx at*;have h:=H1.out;obtain⟨c0,c1⟩:=h.cells ho1;obtain⟨n1,n2,n3⟩:=h.ne ho1;obtain⟨q0,q1,q2,r0,r1,r2⟩:=h.q ho1 HX.out;obtain⟨p0,p1,p2,s0,s1,s2⟩:=h.n ho1 HI.out;have l0:=ho1.cell kb (i:=0) (v:=.i n) rfl;have l1:=ho1.cell kb (i:=1) (v:=.i (-1)) rfl;have l2:=ho1.cell kb (i:=2) (v:=.i ((c:Int))) rfl;have nx:gx≠g∧gx≠gq∧gx≠gn:=by
  obtain⟨z0,z1,z2,_⟩:=h;refine⟨fun e=>?_,fun e=>?_,fun e=>?_⟩
  ·subst e;have:=ho1.inj _ _ _ _ _ kb z0;omega
  ·rcases z1.2 with⟨y,_⟩|⟨_,_,_,y,y2,_⟩
   ·cases y
   ·cases y;subst e;have:=ho1.inj _ _ _ _ _ kb y2;omega
  ·rcases z2.2 with⟨y,_⟩|⟨_,_,_,y,y2,_⟩
   ·cases y
   ·cases y;subst e;have:=ho1.inj _ _ _ _ _ kb y2;omega
 obtain⟨nx1,nx2,nx3⟩:=nx;obtain⟨xf,xl,xs⟩:=x;dsimp only at*;obtain⟨ga1,oa1,ha_1,ka1⟩:=h.pa ho1 HX.out 0 (.i ((c:Int))) ⟨(c:Int),xl,xs⟩ (by omega) rfl;obtain⟨z,hz⟩:∃z,f.ns[c]? =some z:=⟨_,zl hc⟩;obtain⟨z0,z1,z2,v0,v1,v2⟩:=h.n ho1 hz;have HZ:=I hz;clear hz;obtain⟨ga2,oa2,ha_2,ka2⟩:=ha_1.fV oa1.drew HZ.out 1 (.i (-1)) {z with ahead:= -1} (by omega) rfl;obtain⟨ga3,oa3,ha_3,ka3⟩:=ha_2.cS oa2 (n:=i) (by simp;omega) ⟨-1,-1,-1⟩;obtain⟨ga4,oa4,ha_4,ka4⟩:=ha_3.pa oa3 (n:=n) (x:=⟨(c:Int),xl,xs⟩) (zp hn) 2 (.i (xs-1)) ⟨(c:Int),xl,xs-1⟩ (by omega) rfl;simp only[ye]at ha_4;have hfin:uG w0 γ b g (f.remove i) (.bool true) (.returned (.bool true)) _:=⟨rfl,ga4,oa4,⟨gq,cq,gn,cn,by
  rw[HREM.out];unfold Fi.vV Fi.kU Fi.kV;simp only[if_true];have e2:¬((c:Int)= -1):=by omega
  simp only[if_neg e2,zu,HZ.out];exact ha_4⟩,fun k hk=>(ka4 k (by omega)).trans ((ka3 k (by omega)).trans ((ka2 k (by omega)).trans ((ka1 k (by omega)).trans (HK.out k hk))))⟩;simp only[yv,World.setCell_drew]at hfin;have HF:=I hfin;have e8:c*3+1≠i*3:=by omega
 have e9:c*3+1≠i*3+1:=by omega
 have ea:c*3+1≠i*3+2:=by omega
 generalize f.remove i=f2 at*;generalize f.ns.length=m at*;generalize f.qs.length=m2 at*;clear h H1 HX HI HREM HK ho1 kb hfin HZ oa1 ha_1 ka1 oa2 ha_2 ka2 oa3 ha_3 ka3 oa4 ha_4 ka4;go_wp2_with fail;refine yP.region [0,1,2,3,4,5,6,7,8,9] (.step 10 .done) (fun w'=>w'.cell? ⟨g,1,none⟩=some (.slice (zb gn) m cn)∧w'.cell? ⟨gx,1,none⟩=some (.i (-1))∧w'.cell? ⟨gx,2,none⟩=some (.i (c:Int))) (by kernel_rfl) (by kernel_rfl) (fun _ _ _ _ _ h=>h) (by refine⟨?_,?_,?_⟩<;>(go_simp;try first|done|assumption)) ?_;repeat
  refine Perm.xm rfl ?_ (fun w' hS=>?_) ?_;rotate_left
  ·(obtain⟨s0,s1,s2⟩:=hS;go_simp;try with_reducible rfl)
  simp only[pt]
 refine Perm.xt ?_;refine yP.yY rfl (by rfl) ?_;refine yP.xy rfl .skip undef (.inr ⟨rfl,rfl⟩) (w':=?_) ?_ (Perm.xx (by kernel_rfl)) ?_;rotate_left
 ·(go_simp;try with_reducible rfl)
 simp only[pt];refine yP.xC ?_;go_wp2_with fail;go_ret;exact HF.out
theorem VR(h:rj γ b g f)(ho:Own w0 w γ){n i a c:Nat}{x:Qu}(hx:f.qs[n]? =some x)(hi:f.ns[i]? =some ⟨n,(a:Int),-1⟩)(ha:a<f.ns.length)(hai:a≠i)(hsz:0≤x.size∧x.size≤1000):Calls Tryz.prog 108 #[.p g,.i i] w (uG w0 γ b g (f.remove i) (.bool true)):=by
 have hn:n<f.qs.length:=(zk.1 hx).1;have hil:i<f.ns.length:=(zk.1 hi).1;have hwh:=qU h ho hil;have hw:f.vX i=n:=by unfold Fi.vX;rw[hi]
 rw[hw]at hwh;obtain⟨gq,cq,gn,cn,h⟩:=h;have ho1:=ho.drew.new (b+3) (.cells #[.i n,.i (a:Int),.i (-1)] 210);have kb:=yQ γ (b+3) w.drew.heap.size (.cells #[.i n,.i (a:Int),.i (-1)] 210);have h1:=h.keep (γ':=put γ (b+3) w.drew.heap.size (.cells #[.i n,.i (a:Int),.i (-1)] 210)) fun k k1 k2=>yO _ _ _ (by omega);have kk:∀k,(k<b∨b+4≤k)→put γ (b+3) w.drew.heap.size (.cells #[.i n,.i (a:Int),.i (-1)] 210) k=γ k:=fun k hk=>yO _ _ _ (by omega);obtain⟨c0,c1⟩:=h.cells ho;obtain⟨p0,p1,p2,-⟩:=h.n ho hi;dsimp only at p0 p1 p2;have h32:=h.2.2.2;have hin:(i:Int)<f.ns.length:=by omega
 have hnn:(n:Int)<f.qs.length:=by omega
 have hn1:((n:Int)== -1)=false:=by rw[beq_eq_false_iff_ne];omega
 have ha1:((a:Int)== -1)=false:=by rw[beq_eq_false_iff_ne];omega
 have han:(a:Int)<f.ns.length:=by omega
 have hrem:f.remove i=⟨f.qs.set n {Fi.kV (Fi.kU x ⟨n,(a:Int),-1⟩) ⟨n,(a:Int),-1⟩with size:=x.size-1},(Fi.vV (Fi.vV f.ns ((a:Int)) fun y=>{y with behind:= -1}) (-1) fun y=>{y with ahead:=(a:Int)}).set i ⟨-1,-1,-1⟩⟩:=by unfold Fi.remove;rw[hi];dsimp only;rw[zu,hx]
 go_in;go_wp2_with fail;refine hwh.mono ?_;rintro e w' ⟨rfl,rfl⟩;have H1:=I h1;have HK:=I kk;have HREM:=I hrem;have HX:=I hx;have HI:=I hi;clear h h1 ho hx hi hw hrem kk hwh;go_wp2_with fail;refine yP.region [0,1,2,3,4,5,6,7,8,9,10,11,12] (.step 13 (.step 14 (.step 15 .done))) (fun w'=>w'.cell? ⟨g,0,none⟩=some (.slice (zb gq) f.qs.length cq)∧w'.cell? ⟨g,1,none⟩=some (.slice (zb gn) f.ns.length cn)∧w'.cell? ⟨gn,i*3,none⟩=some (.i n)∧w'.cell? ⟨gn,i*3+1,none⟩=some (.i ((a:Int)))∧w'.cell? ⟨gn,i*3+2,none⟩=some (.i (-1))) (by kernel_rfl) (by kernel_rfl) (fun _ _ _ _ _ h=>h) (by refine⟨?_,?_,?_,?_,?_⟩<;>(go_simp;try first|done|assumption)) ?_;repeat
  refine Perm.xm rfl ?_ (fun w' hS=>?_) ?_;rotate_left
  ·(obtain⟨s0,s1,s2,s3,s4⟩:=hS;go_simp;try with_reducible rfl)
  simp only[pt]
 refine Perm.xt ?_;refine yP.yY rfl (by rfl) ?_;refine yP.xy rfl (.value (.p w.drew.heap.size)) _ (.inl rfl) (w':=w.drew.alloc (.cells #[.i 0,.i 0,.i 0] 210)) (by go_simp;try with_reducible rfl) (fun _ hS=>⟨xU hS.1 _,xU hS.2.1 _,xU hS.2.2.1 _,xU hS.2.2.2.1 _,xU hS.2.2.2.2 _⟩) ?_;simp only[pt];repeat
  refine yP.xA rfl (by rfl) ?_ (fun w'=>?_) ?_;rotate_left
  ·(go_simp;try with_reducible rfl)
  simp only[pt]
 refine yP.yY rfl (by rfl) ?_;refine yP.xy rfl .skip undef (.inr ⟨rfl,rfl⟩) (w':=w.drew.alloc (.cells #[.i n,.i ((a:Int)),.i (-1)] 210)) (by go_simp;try with_reducible rfl) (Perm.xx (by kernel_rfl)) ?_;simp only[pt];refine yP.xC ?_;clear c0 c1 p0 p1 p2;generalize put γ (b+3) _ _=γ1 at*;generalize w.drew.alloc _=W at*;generalize w.drew.heap.size=gx at*;have h:=H1.out;obtain⟨c0,c1⟩:=h.cells ho1;obtain⟨n1,n2,n3⟩:=h.ne ho1;obtain⟨q0,q1,q2,r0,r1,r2⟩:=h.q ho1 HX.out;obtain⟨p0,p1,p2,s0,s1,s2⟩:=h.n ho1 HI.out;have l0:=ho1.cell kb (i:=0) (v:=.i n) rfl;have l1:=ho1.cell kb (i:=1) (v:=.i ((a:Int))) rfl;have l2:=ho1.cell kb (i:=2) (v:=.i (-1)) rfl;have nx:gx≠g∧gx≠gq∧gx≠gn:=by
  obtain⟨z0,z1,z2,_⟩:=h;refine⟨fun e=>?_,fun e=>?_,fun e=>?_⟩
  ·subst e;have:=ho1.inj _ _ _ _ _ kb z0;omega
  ·rcases z1.2 with⟨y,_⟩|⟨_,_,_,y,y2,_⟩
   ·cases y
   ·cases y;subst e;have:=ho1.inj _ _ _ _ _ kb y2;omega
  ·rcases z2.2 with⟨y,_⟩|⟨_,_,_,y,y2,_⟩
   ·cases y
   ·cases y;subst e;have:=ho1.inj _ _ _ _ _ kb y2;omega
 obtain⟨nx1,nx2,nx3⟩:=nx;obtain⟨xf,xl,xs⟩:=x;dsimp only at*;obtain⟨y,hy⟩:∃y,f.ns[a]? =some y:=⟨_,zl ha⟩;obtain⟨y0,y1,y2,t0,t1,t2⟩:=h.n ho1 hy;have HY:=I hy;clear hy;obtain⟨ga1,oa1,ha_1,ka1⟩:=h.fV ho1.drew HY.out 2 (.i (-1)) {y with behind:= -1} (by omega) rfl;obtain⟨ga2,oa2,ha_2,ka2⟩:=ha_1.pa oa1 (n:=n) (x:=⟨xf,xl,xs⟩) HX.out 1 (.i ((a:Int))) ⟨xf,(a:Int),xs⟩ (by omega) rfl;simp only[ye]at ha_2;obtain⟨ga3,oa3,ha_3,ka3⟩:=ha_2.cS oa2 (n:=i) (by simp;omega) ⟨-1,-1,-1⟩;obtain⟨ga4,oa4,ha_4,ka4⟩:=ha_3.pa oa3 (n:=n) (x:=⟨xf,(a:Int),xs⟩) (zp hn) 2 (.i (xs-1)) ⟨xf,(a:Int),xs-1⟩ (by omega) rfl;simp only[ye]at ha_4;have hfin:uG w0 γ b g (f.remove i) (.bool true) (.returned (.bool true)) _:=⟨rfl,ga4,oa4,⟨gq,cq,gn,cn,by
  rw[HREM.out];unfold Fi.vV Fi.kU Fi.kV;have e1:¬((a:Int)= -1):=by omega
  simp only[if_neg e1,zu,HY.out];simp only[if_true];exact ha_4⟩,fun k hk=>(ka4 k (by omega)).trans ((ka3 k (by omega)).trans ((ka2 k (by omega)).trans ((ka1 k (by omega)).trans (HK.out k hk))))⟩;simp only[yv,World.setCell_drew]at hfin;have HF:=I hfin;have e5:a*3+2≠i*3:=by omega
 have e6:a*3+2≠i*3+1:=by omega
 have e7:a*3+2≠i*3+2:=by omega
 generalize f.remove i=f2 at*;generalize f.ns.length=m at*;generalize f.qs.length=m2 at*;clear h H1 HX HI HREM HK ho1 kb hfin HY oa1 ha_1 ka1 oa2 ha_2 ka2 oa3 ha_3 ka3 oa4 ha_4 ka4;go_wp2_with fail;refine yP.region [0,1,2,3,4,5,6,7,8,9] (.step 10 .done) (fun w'=>w'.cell? ⟨g,1,none⟩=some (.slice (zb gn) m cn)∧w'.cell? ⟨gx,1,none⟩=some (.i (a:Int))∧w'.cell? ⟨gx,2,none⟩=some (.i (-1))) (by kernel_rfl) (by kernel_rfl) (fun _ _ _ _ _ h=>h) (by refine⟨?_,?_,?_⟩<;>(go_simp;try first|done|assumption)) ?_;repeat
  refine Perm.xm rfl ?_ (fun w' hS=>?_) ?_;rotate_left
  ·(obtain⟨s0,s1,s2⟩:=hS;go_simp;try with_reducible rfl)
  simp only[pt]
 refine Perm.xt ?_;refine yP.yY rfl (by rfl) ?_;refine yP.xy rfl .skip undef (.inr ⟨rfl,rfl⟩) (w':=?_) ?_ (Perm.xx (by kernel_rfl)) ?_;rotate_left
 ·(go_simp;try with_reducible rfl)
 simp only[pt];refine yP.xC ?_;go_wp2_with fail;go_ret;exact HF.out
theorem Wb(h:rj γ b g f)(ho:Own w0 w γ){n i a c:Nat}{x:Qu}(hx:f.qs[n]? =some x)(hi:f.ns[i]? =some ⟨n,(a:Int),(c:Int)⟩)(ha:a<f.ns.length)(hai:a≠i)(hc:c<f.ns.length)(hci:c≠i)(hac:a≠c)(hsz:0≤x.size∧x.size≤1000):Calls Tryz.prog 108 #[.p g,.i i] w (uG w0 γ b g (f.remove i) (.bool true)):=by
 have hn:n<f.qs.length:=(zk.1 hx).1;have hil:i<f.ns.length:=(zk.1 hi).1;have hwh:=qU h ho hil;have hw:f.vX i=n:=by unfold Fi.vX;rw[hi]
 rw[hw]at hwh;obtain⟨gq,cq,gn,cn,h⟩:=h;have ho1:=ho.drew.new (b+3) (.cells #[.i n,.i (a:Int),.i (c:Int)] 210);have kb:=yQ γ (b+3) w.drew.heap.size (.cells #[.i n,.i (a:Int),.i (c:Int)] 210);have h1:=h.keep (γ':=put γ (b+3) w.drew.heap.size (.cells #[.i n,.i (a:Int),.i (c:Int)] 210)) fun k k1 k2=>yO _ _ _ (by omega);have kk:∀k,(k<b∨b+4≤k)→put γ (b+3) w.drew.heap.size (.cells #[.i n,.i (a:Int),.i (c:Int)] 210) k=γ k:=fun k hk=>yO _ _ _ (by omega);obtain⟨c0,c1⟩:=h.cells ho;obtain⟨p0,p1,p2,-⟩:=h.n ho hi;dsimp only at p0 p1 p2;have h32:=h.2.2.2;have hin:(i:Int)<f.ns.length:=by omega
 have hnn:(n:Int)<f.qs.length:=by omega
 have hn1:((n:Int)== -1)=false:=by rw[beq_eq_false_iff_ne];omega
 have ha1:((a:Int)== -1)=false:=by rw[beq_eq_false_iff_ne];omega
 have han:(a:Int)<f.ns.length:=by omega
 have hc1:((c:Int)== -1)=false:=by rw[beq_eq_false_iff_ne];omega
 have hcn:(c:Int)<f.ns.length:=by omega
 have hrem:f.remove i=⟨f.qs.set n {Fi.kV (Fi.kU x ⟨n,(a:Int),(c:Int)⟩) ⟨n,(a:Int),(c:Int)⟩with size:=x.size-1},(Fi.vV (Fi.vV f.ns ((a:Int)) fun y=>{y with behind:=(c:Int)}) ((c:Int)) fun y=>{y with ahead:=(a:Int)}).set i ⟨-1,-1,-1⟩⟩:=by unfold Fi.remove;rw[hi];dsimp only;rw[zu,hx]
 go_in;go_wp2_with fail;refine hwh.mono ?_;rintro e w' ⟨rfl,rfl⟩;have H1:=I h1;have HK:=I kk;have HREM:=I hrem;have HX:=I hx;have HI:=I hi;clear h h1 ho hx hi hw hrem kk hwh;go_wp2_with fail;refine yP.region [0,1,2,3,4,5,6,7,8,9,10,11,12] (.step 13 (.step 14 (.step 15 .done))) (fun w'=>w'.cell? ⟨g,0,none⟩=some (.slice (zb gq) f.qs.length cq)∧w'.cell? ⟨g,1,none⟩=some (.slice (zb gn) f.ns.length cn)∧w'.cell? ⟨gn,i*3,none⟩=some (.i n)∧w'.cell? ⟨gn,i*3+1,none⟩=some (.i ((a:Int)))∧w'.cell? ⟨gn,i*3+2,none⟩=some (.i ((c:Int)))) (by kernel_rfl) (by kernel_rfl) (fun _ _ _ _ _ h=>h) (by refine⟨?_,?_,?_,?_,?_⟩<;>(go_simp;try first|done|assumption)) ?_;repeat
  refine Perm.xm rfl ?_ (fun w' hS=>?_) ?_;rotate_left
  ·(obtain⟨s0,s1,s2,s3,s4⟩:=hS;go_simp;try with_reducible rfl)
  simp only[pt]
 refine Perm.xt ?_;refine yP.yY rfl (by rfl) ?_;refine yP.xy rfl (.value (.p w.drew.heap.size)) _ (.inl rfl) (w':=w.drew.alloc (.cells #[.i 0,.i 0,.i 0] 210)) (by go_simp;try with_reducible rfl) (fun _ hS=>⟨xU hS.1 _,xU hS.2.1 _,xU hS.2.2.1 _,xU hS.2.2.2.1 _,xU hS.2.2.2.2 _⟩) ?_;simp only[pt];repeat
  refine yP.xA rfl (by rfl) ?_ (fun w'=>?_) ?_;rotate_left
  ·(go_simp;try with_reducible rfl)
  simp only[pt]
 refine yP.yY rfl (by rfl) ?_;refine yP.xy rfl .skip undef (.inr ⟨rfl,rfl⟩) (w':=w.drew.alloc (.cells #[.i n,.i ((a:Int)),.i ((c:Int))] 210)) (by go_simp;try with_reducible rfl) (Perm.xx (by kernel_rfl)) ?_;simp only[pt];refine yP.xC ?_;clear c0 c1 p0 p1 p2;generalize put γ (b+3) _ _=γ1 at*;generalize w.drew.alloc _=W at*;generalize w.drew.heap.size=gx at*;have h:=H1.out;obtain⟨c0,c1⟩:=h.cells ho1;obtain⟨n1,n2,n3⟩:=h.ne ho1;obtain⟨q0,q1,q2,r0,r1,r2⟩:=h.q ho1 HX.out;obtain⟨p0,p1,p2,s0,s1,s2⟩:=h.n ho1 HI.out;have l0:=ho1.cell kb (i:=0) (v:=.i n) rfl;have l1:=ho1.cell kb (i:=1) (v:=.i ((a:Int))) rfl;have l2:=ho1.cell kb (i:=2) (v:=.i ((c:Int))) rfl;have nx:gx≠g∧gx≠gq∧gx≠gn:=by
  obtain⟨z0,z1,z2,_⟩:=h;refine⟨fun e=>?_,fun e=>?_,fun e=>?_⟩
  ·subst e;have:=ho1.inj _ _ _ _ _ kb z0;omega
  ·rcases z1.2 with⟨y,_⟩|⟨_,_,_,y,y2,_⟩
   ·cases y
   ·cases y;subst e;have:=ho1.inj _ _ _ _ _ kb y2;omega
  ·rcases z2.2 with⟨y,_⟩|⟨_,_,_,y,y2,_⟩
   ·cases y
   ·cases y;subst e;have:=ho1.inj _ _ _ _ _ kb y2;omega
 obtain⟨nx1,nx2,nx3⟩:=nx;obtain⟨xf,xl,xs⟩:=x;dsimp only at*;obtain⟨y,hy⟩:∃y,f.ns[a]? =some y:=⟨_,zl ha⟩;obtain⟨y0,y1,y2,t0,t1,t2⟩:=h.n ho1 hy;have HY:=I hy;clear hy;obtain⟨ga1,oa1,ha_1,ka1⟩:=h.fV ho1.drew HY.out 2 (.i ((c:Int))) {y with behind:=(c:Int)} (by omega) rfl;obtain⟨z,hz⟩:∃z,f.ns[c]? =some z:=⟨_,zl hc⟩;obtain⟨z0,z1,z2,v0,v1,v2⟩:=h.n ho1 hz;have HZ:=I hz;clear hz;obtain⟨ga2,oa2,ha_2,ka2⟩:=ha_1.fV oa1.drew (x:=z) (by rw[zt hac];exact HZ.out) 1 (.i ((a:Int))) {z with ahead:=(a:Int)} (by omega) rfl;obtain⟨ga3,oa3,ha_3,ka3⟩:=ha_2.cS oa2 (n:=i) (by simp;omega) ⟨-1,-1,-1⟩;obtain⟨ga4,oa4,ha_4,ka4⟩:=ha_3.pa oa3 (n:=n) (x:=⟨xf,xl,xs⟩) HX.out 2 (.i (xs-1)) ⟨xf,xl,xs-1⟩ (by omega) rfl;simp only[ye]at ha_4;have hfin:uG w0 γ b g (f.remove i) (.bool true) (.returned (.bool true)) _:=⟨rfl,ga4,oa4,⟨gq,cq,gn,cn,by
  rw[HREM.out];unfold Fi.vV Fi.kU Fi.kV;have e1:¬((a:Int)= -1):=by omega
  simp only[if_neg e1,zu,HY.out];have e2:¬((c:Int)= -1):=by omega
  have e3:(f.ns.set a {y with behind:=(c:Int)})[c]? =some z:=by rw[zt hac];exact HZ.out
  simp only[if_neg e2,zu,e3];exact ha_4⟩,fun k hk=>(ka4 k (by omega)).trans ((ka3 k (by omega)).trans ((ka2 k (by omega)).trans ((ka1 k (by omega)).trans (HK.out k hk))))⟩;simp only[yv,World.setCell_drew]at hfin;have HF:=I hfin;have e5:a*3+2≠i*3:=by omega
 have e6:a*3+2≠i*3+1:=by omega
 have e7:a*3+2≠i*3+2:=by omega
 have e8:c*3+1≠i*3:=by omega
 have e9:c*3+1≠i*3+1:=by omega
 have ea:c*3+1≠i*3+2:=by omega
 have eb:c*3+1≠a*3+2:=by omega
 generalize f.remove i=f2 at*;generalize f.ns.length=m at*;generalize f.qs.length=m2 at*;clear h H1 HX HI HREM HK ho1 kb hfin HY HZ oa1 ha_1 ka1 oa2 ha_2 ka2 oa3 ha_3 ka3 oa4 ha_4 ka4;go_wp2_with fail;refine yP.region [0,1,2,3,4,5,6,7,8,9] (.step 10 .done) (fun w'=>w'.cell? ⟨g,1,none⟩=some (.slice (zb gn) m cn)∧w'.cell? ⟨gx,1,none⟩=some (.i (a:Int))∧w'.cell? ⟨gx,2,none⟩=some (.i ((c:Int)))) (by kernel_rfl) (by kernel_rfl) (fun _ _ _ _ _ h=>h) (by refine⟨?_,?_,?_⟩<;>(go_simp;try first|done|assumption)) ?_;repeat
  refine Perm.xm rfl ?_ (fun w' hS=>?_) ?_;rotate_left
  ·(obtain⟨s0,s1,s2⟩:=hS;go_simp;try with_reducible rfl)
  simp only[pt]
 refine Perm.xt ?_;refine yP.yY rfl (by rfl) ?_;refine yP.xy rfl .skip undef (.inr ⟨rfl,rfl⟩) (w':=?_) ?_ (Perm.xx (by kernel_rfl)) ?_;rotate_left
 ·(go_simp;try with_reducible rfl)
 simp only[pt];refine yP.xC ?_;go_wp2_with fail;refine yP.region [0,1,2,3,4,5,6,7,8,9] (.step 10 .done) (fun w'=>w'.cell? ⟨g,1,none⟩=some (.slice (zb gn) m cn)∧w'.cell? ⟨gx,1,none⟩=some (.i ((a:Int)))∧w'.cell? ⟨gx,2,none⟩=some (.i (c:Int))) (by kernel_rfl) (by kernel_rfl) (fun _ _ _ _ _ h=>h) (by refine⟨?_,?_,?_⟩<;>(go_simp;try first|done|assumption)) ?_;repeat
  refine Perm.xm rfl ?_ (fun w' hS=>?_) ?_;rotate_left
  ·(obtain⟨s0,s1,s2⟩:=hS;go_simp;try with_reducible rfl)
  simp only[pt]
 refine Perm.xt ?_;refine yP.yY rfl (by rfl) ?_;refine yP.xy rfl .skip undef (.inr ⟨rfl,rfl⟩) (w':=?_) ?_ (Perm.xx (by kernel_rfl)) ?_;rotate_left
 ·(go_simp;try with_reducible rfl)
 simp only[pt];refine yP.xC ?_;go_wp2_with fail;go_ret;exact HF.out
end
end
section
open Go.RowKit Go.WideShapes
def nx(l:List Nat)(k:Nat):Int:=match l[k]? with
 |some j=>j
 |none=> -1
def pv(l:List Nat)(k:Nat):Int:=if k=0 then -1 else nx l (k-1)
theorem eH{l:List Nat}{k j:Nat}(h:l[k]? =some j):nx l k=j:=by unfold nx;rw[h]
theorem eG{l:List Nat}{k:Nat}(h:l.length≤k):nx l k= -1:=by unfold nx;rw[zJ h]
theorem SC{l:List Nat}{k:Nat}(h:k<l.length):nx l k=(l[k]:Int):=eH (zl h)
theorem dN(l:List Nat)(k:Nat):(l.length≤k∧nx l k= -1)∨∃j:Nat,l[k]? =some j∧nx l k=j:=by
 cases h:l[k]? with
 |none=>exact .inl ⟨List.getElem?_eq_none_iff.1 h,by unfold nx;rw[h]⟩
 |some j=>exact .inr ⟨j,rfl,eH h⟩
structure uz (f:Fi) (L:List (List Nat)) (m:Nat):Prop where
 lq:f.qs.length=L.length
 ln:f.ns.length=m
 q:∀(n:Nat) (l:List Nat),L[n]? =some l→f.qs[n]? =some ⟨nx l 0,pv l l.length,l.length⟩
 nd:∀(n:Nat) (l:List Nat) (k i:Nat),L[n]? =some l→l[k]? =some i→f.ns[i]? =some ⟨n,pv l k,nx l (k+1)⟩
 out:∀(i:Nat) (x:Nd),f.ns[i]? =some x→(∀l∈L,i∉l)→x.queue= -1
 dup:∀l∈L,l.Nodup
def rE(L:List (List Nat))(i:Nat):Bool:=L.any (·.contains i)
theorem aC{L:List (List Nat)}{i:Nat}:rE L i=false↔∀l∈L,i∉l:=by simp[rE]
theorem Yb{L:List (List Nat)}{i:Nat}:rE L i=true↔∃(n k:Nat) (l:List Nat),L[n]? =some l∧l[k]? =some i:=by
 simp only[rE,z7,List.contains_iff_mem];constructor
 ·rintro⟨l,hl,hi⟩;obtain⟨n,hn⟩:=zQ hl;obtain⟨k,hk⟩:=zQ hi;exact⟨n,k,l,hn,hk⟩
 ·rintro⟨n,k,l,hn,hk⟩;exact⟨l,zo hn,zo hk⟩
variable {f:Fi} {L:List (List Nat)} {m:Nat}
theorem uz.lt(h:uz f L m){n k i:Nat}{l:List Nat}(hl:L[n]? =some l)(hi:l[k]? =some i):i<m:=by rw[←h.ln];exact(zk.1 (h.nd n l k i hl hi)).1
theorem uz.one(h:uz f L m){n n' k k' i:Nat}{l l':List Nat}(hl:L[n]? =some l)(hi:l[k]? =some i)(hl':L[n']? =some l')(hi':l'[k']? =some i):n=n'∧k=k':=by
 have e1:=h.nd n l k i hl hi;rw[h.nd n' l' k' i hl' hi']at e1;have en:n=n':=by injection e1 with e;injection e with e;omega
 subst en;rw[hl]at hl';cases hl';refine⟨rfl,?_⟩;have hd:=h.dup l (zo hl);obtain⟨hk,ek⟩:=zk.1 hi;obtain⟨hk',ek'⟩:=zk.1 hi';exact(List.getElem_inj hd).1 (ek.trans ek'.symm)
theorem uz.Sh(h:uz f L m){n k i:Nat}{l:List Nat}(hl:L[n]? =some l)(hi:l[k]? =some i):f.vX i=n:=by unfold Fi.vX;rw[h.nd n l k i hl hi]
theorem uz.aU(h:uz f L m){i:Nat}(hm:i<m)(ho:∀l∈L,i∉l):f.vX i= -1:=by obtain⟨x,hx⟩:∃x,f.ns[i]? =some x:=⟨_,zl (by rw[h.ln];exact hm)⟩;unfold Fi.vX;rw[hx];exact h.out i x hx ho
theorem j7(l:List Nat)(i k:Nat):nx (l++[i]) k=if k=l.length then(i:Int)else nx l k:=by
 unfold nx;by_cases h:k<l.length
 ·rw[zF h,if_neg (by omega)]
 ·by_cases e:k=l.length
  ·subst e;simp
  ·rw[if_neg e,zJ (by simp;omega),zJ (by omega)]
theorem uz.push(h:uz f L m){n i:Nat}{l:List Nat}(hl:L[n]? =some l)(hi:i<m)(ho:∀l∈L,i∉l):uz (f.push n i) (L.set n (l++[i])) m:=by
 have hn:n<L.length:=(zk.1 hl).1;have hx:=h.q n l hl;have hil:i∉l:=ho l (zo hl);have hget:∃ns',f.push n i=⟨f.qs.set n ⟨if l=[]then(i:Int)else nx l 0,i,l.length+1⟩,ns'⟩∧ns'.length=m∧ns'[i]? =some ⟨n,pv l l.length,-1⟩∧∀e,e≠i→ns'[e]? =if 0<l.length∧l[l.length-1]? =some e then(f.ns[e]?).map fun y=>{y with behind:=(i:Int)}else f.ns[e]? :=by
  have hm:i<f.ns.length:=by rw[h.ln];exact hi
  unfold Fi.push;rw[hx];dsimp only;by_cases hl0:l=[]
  ·subst hl0;refine⟨_,by rw[if_pos (by rfl),if_pos rfl],by rw[zq,h.ln],zp hm,fun e he=>?_⟩;rw[if_neg (by simp),zt (Ne.symm he)]
  ·have hpos:0<l.length:=yg.2 hl0;obtain⟨j,hj⟩:∃j,l[l.length-1]? =some j:=⟨_,zl (by omega)⟩;have hpv:pv l l.length=(j:Int):=by unfold pv;rw[if_neg (by omega),eH hj]
   have hnj:=h.nd n l _ j hl hj;have hji:j≠i:=fun e=>hil (e ▸ zo hj);rw[hpv,if_neg (by omega),zu,hnj];refine⟨_,by rw[if_neg hl0],by simp[h.ln],by rw[zt hji];exact zp hm,fun e he=>?_⟩;by_cases ej:e=j
   ·subst ej;rw[if_pos ⟨hpos,hj⟩,zp (by simp;exact(zk.1 hnj).1),hnj];rfl
   ·rw[if_neg (fun hh=>ej (by rw[hj]at hh;exact(Option.some.inj hh.2).symm)),zt (Ne.symm ej),zt (Ne.symm he)]
 obtain⟨ns',he,hlen,hni,hne⟩:=hget;rw[he];refine⟨by simp[h.lq],hlen,fun n' l' hl'=>?_,fun n' l' k e hl' hk=>?_,fun e x hx' ho'=>?_,fun l' hl'=>?_⟩
 ·by_cases en:n'=n
  ·subst en;rw[zp hn]at hl';cases hl';show(f.qs.set n' _)[n']? =_;rw[zp (by rw[h.lq];exact hn)];congr 2
   ·rw[j7];by_cases hl0:l=[]
    ·subst hl0;rfl
    ·rw[if_neg hl0,if_neg (by have:=yg.2 hl0;omega)]
   ·unfold pv;rw[if_neg (by simp),j7,if_pos (by simp)]
   ·simp
  ·rw[zt (Ne.symm en)]at hl';show(f.qs.set n _)[n']? =_;rw[zt (Ne.symm en)];exact h.q n' l' hl'
 ·show ns'[e]? =_;by_cases en:n'=n
  ·subst en;rw[zp hn]at hl';cases hl';by_cases hkl:k<l.length
   ·rw[zF hkl]at hk;have hei:e≠i:=fun x=>hil (x ▸ zo hk);rw[hne e hei,h.nd n' l k e hl hk];have hpv:pv (l++[i]) k=pv l k:=by
     unfold pv;by_cases k0:k=0
     ·rw[if_pos k0,if_pos k0]
     ·rw[if_neg k0,if_neg k0,j7,if_neg (by omega)]
    rw[hpv,j7];by_cases hlast:k+1=l.length
    ·have:k=l.length-1:=by omega
     rw[if_pos ⟨by omega,by rw[←this];exact hk⟩,if_pos hlast];rfl
    ·rw[if_neg,if_neg hlast];rintro⟨_,hh⟩;have:=(h.one hl hk hl hh).2;omega
   ·have hkk:k=l.length:=by have:=(zk.1 hk).1;simp at this;omega
    subst hkk;simp at hk;subst hk;rw[hni];congr 2
    ·unfold pv;by_cases k0:l.length=0
     ·rw[if_pos k0,if_pos k0]
     ·rw[if_neg k0,if_neg k0,j7,if_neg (by omega)]
    ·rw[eG (by simp)]
  ·rw[zt (Ne.symm en)]at hl';have hei:e≠i:=fun x=>ho l' (zo hl') (x ▸ zo hk);rw[hne e hei,if_neg,h.nd n' l' k e hl' hk];rintro⟨_,hh⟩;exact en (h.one hl' hk hl hh).1
 ·change ns'[e]? =some x at hx';have hmem:l++[i]∈L.set n (l++[i]):=zo (zp hn);have hei:e≠i:=fun hx=>ho' _ hmem (by simp[hx]);have hold:∀l'∈L,e∉l':=by
   intro l' hl' hin;obtain⟨n',hn'⟩:=zQ hl';by_cases en:n'=n
   ·subst en;rw[hl]at hn';cases hn';exact ho' _ hmem (by simp[hin])
   ·exact ho' l' (zo (by rw[zt (Ne.symm en)];exact hn')) hin
  rw[hne e hei,if_neg]at hx'
  ·exact h.out e x hx' hold
  ·rintro⟨_,hh⟩;exact hold l (zo hl) (zo hh)
 ·rcases yx hl' with h1|h1
  ·exact h.dup l' h1
  ·subst h1;rw[yd];refine⟨h.dup l (zo hl),by simp,fun a ha b hb=>?_⟩;simp at hb;subst hb;exact fun e=>hil (e ▸ ha)
theorem cU{ns:List Nd}{k:Int}{g:Nd→Nd}(hk:-1≤k)(e:Nat):(Fi.vV ns k g)[e]? =if k=(e:Int)then(ns[e]?).map g else ns[e]? :=by
 unfold Fi.vV;by_cases h1:k= -1
 ·rw[if_pos h1,if_neg (by omega)]
 ·rw[if_neg h1];obtain⟨j,rfl⟩:∃j:Nat,k=j:=⟨k.toNat,by omega⟩;rw[zu];cases hj:ns[j]? with
  |none=>
   dsimp only;by_cases e1:(j:Int)=e
   ·obtain rfl:j=e:=by omega
    rw[if_pos e1,hj];rfl
   ·rw[if_neg e1]
  |some y=>
   dsimp only;by_cases e1:(j:Int)=e
   ·obtain rfl:j=e:=by omega
    rw[if_pos e1,hj,zp (zk.1 hj).1];rfl
   ·rw[if_neg e1,zt (by omega)]
theorem qf{ns:List Nd}{k:Int}{g:Nd→Nd}:(Fi.vV ns k g).length=ns.length:=by
 unfold Fi.vV;split
 ·rfl
 ·split<;>simp
theorem SB(l:List Nat)(k:Nat):-1≤nx l k:=by rcases dN l k with⟨_,h⟩|⟨j,_,h⟩<;>omega
theorem OD(l:List Nat)(k:Nat):-1≤pv l k:=by unfold pv;split;exact Int.le_refl _;exact SB _ _
theorem Zn{l:List Nat}{k e:Nat}:nx l k=(e:Int)↔l[k]? =some e:=by
 rcases dN l k with⟨h1,h2⟩|⟨j,h1,h2⟩
 ·rw[h2,zJ h1];constructor
  ·intro h;omega
  ·intro h;cases h
 ·rw[h1,h2];constructor
  ·intro h;congr 1;omega
  ·intro h;injection h with h;omega
theorem fh{l:List Nat}{k e:Nat}:pv l k=(e:Int)↔0<k∧l[k-1]? =some e:=by
 unfold pv;split
 ·constructor
  ·intro h;omega
  ·rintro⟨h,_⟩;omega
 ·rw[Zn];constructor
  ·exact fun h=>⟨by omega,h⟩
  ·exact fun h=>h.2
theorem uz.remove(h:uz f L m){n k i:Nat}{l:List Nat}(hl:L[n]? =some l)(hi:l[k]? =some i):uz (f.remove i) (L.set n (l.eraseIdx k)) m:=by
 have hn:n<L.length:=(zk.1 hl).1;have hk:k<l.length:=(zk.1 hi).1;have hx:=h.q n l hl;have hni:=h.nd n l k i hl hi;have him:i<f.ns.length:=(zk.1 hni).1;have hme:∀j,(l.eraseIdx k)[j]? =if j<k then l[j]? else l[j+1]? :=fun j=>List.getElem?_eraseIdx;have hle:(l.eraseIdx k).length=l.length-1:=List.length_eraseIdx_of_lt hk;have hnxe:∀j,nx (l.eraseIdx k) j=if j<k then nx l j else nx l (j+1):=fun j=>by
  unfold nx;by_cases c:j<k
  ·rw[hme,if_pos c,if_pos c]
  ·rw[hme,if_neg c,if_neg c]
 have hpve:∀j,pv (l.eraseIdx k) j=if j≤k then pv l j else pv l (j+1):=fun j=>by
  by_cases j0:j=0
  ·subst j0;rw[if_pos (Nat.zero_le _)];rfl
  ·have p1:pv (l.eraseIdx k) j=nx (l.eraseIdx k) (j-1):=if_neg j0;have p2:pv l j=nx l (j-1):=if_neg j0;have p3:pv l (j+1)=nx l j:=if_neg (by omega);rw[p1,p2,p3,hnxe];by_cases c:j≤k
   ·rw[if_pos (by omega),if_pos c]
   ·rw[if_neg (by omega),if_neg c];congr 1;omega
 obtain⟨ns',hns⟩:∃ns',ns'=(Fi.vV (Fi.vV f.ns (pv l k) fun y=>{y with behind:=nx l (k+1)}) (nx l (k+1)) fun y=>{y with ahead:=pv l k}).set i ⟨-1,-1,-1⟩:=⟨_,rfl⟩;obtain⟨x',hx'⟩:∃x',x'=({Fi.kV (Fi.kU ⟨nx l 0,pv l l.length,(l.length:Int)⟩ ⟨n,pv l k,nx l (k+1)⟩) ⟨n,pv l k,nx l (k+1)⟩with size:=(l.length:Int)-1}:Qu):=⟨_,rfl⟩;have he:f.remove i=⟨f.qs.set n x',ns'⟩:=by unfold Fi.remove;rw[hni];dsimp only;rw[zu,hx,hns,hx']
 have hlen:ns'.length=m:=by rw[hns,zq,qf,qf,h.ln]
 have hgi:ns'[i]? =some ⟨-1,-1,-1⟩:=by rw[hns,zp (by rw[qf,qf];exact him)]
 have hge:∀e,e≠i→ns'[e]? =(f.ns[e]?).map fun y=>⟨y.queue,if nx l (k+1)=(e:Int)then pv l k else y.ahead,if pv l k=(e:Int)then nx l (k+1)else y.behind⟩:=fun e hei=>by
  rw[hns,zt (Ne.symm hei),cU (SB _ _),cU (OD _ _)];cases f.ns[e]? with
  |none=>split<;>split<;>rfl
  |some y=>split<;>split<;>simp_all
 have hxv:x'=⟨nx (l.eraseIdx k) 0,pv (l.eraseIdx k) (l.eraseIdx k).length,(l.eraseIdx k).length⟩:=by
  rw[hx',hle];unfold Fi.kV Fi.kU;dsimp only;have e1:pv l k= -1↔k=0:=by
   constructor
   ·intro hp;refine zC fun k0=>?_;obtain⟨j,hj⟩:∃j,l[k-1]? =some j:=⟨_,zl (by omega)⟩;have:=fh.2 ⟨by omega,hj⟩;omega
   ·intro k0;subst k0;rfl
  have e2:nx l (k+1)= -1↔k+1=l.length:=by
   constructor
   ·intro hp;refine zC fun k0=>?_;have:=SC (l:=l) (k:=k+1) (by omega);omega
   ·intro k0;exact eG (by omega)
  have f1:nx (l.eraseIdx k) 0=if pv l k= -1 then nx l (k+1)else nx l 0:=by
   rw[hnxe];by_cases c:pv l k= -1
   ·rw[if_pos c,if_neg (by have:=e1.1 c;omega),e1.1 c]
   ·rw[if_neg c,if_pos (by have:=mt e1.2 c;omega)]
  have f2:pv (l.eraseIdx k) (l.length-1)=if nx l (k+1)= -1 then pv l k else pv l l.length:=by
   rw[hpve];by_cases c:nx l (k+1)= -1
   ·have:=e2.1 c;rw[if_pos c,if_pos (by omega)];congr 1;omega
   ·have:=mt e2.2 c;rw[if_neg c,if_neg (by omega)];congr 1;omega
  rw[f1,f2];have e3:((l.length-1:Nat):Int)=(l.length:Int)-1:=by omega
  rw[e3];split<;>split<;>rfl
 rw[he];refine⟨by simp[h.lq],hlen,fun n' l' hl'=>?_,fun n' l' j e hl' hj=>?_,fun e x hxe ho'=>?_,fun l' hl'=>?_⟩
 ·by_cases en:n'=n
  ·subst en;rw[zp hn]at hl';cases hl';show(f.qs.set n' x')[n']? =_;rw[zp (by rw[h.lq];exact hn),hxv]
  ·rw[zt (Ne.symm en)]at hl';show(f.qs.set n x')[n']? =_;rw[zt (Ne.symm en)];exact h.q n' l' hl'
 ·show ns'[e]? =_;by_cases en:n'=n
  ·subst en;rw[zp hn]at hl';cases hl';rw[hme]at hj;obtain⟨q,hq,hqk,hpvq,hnxq⟩:∃q,l[q]? =some e∧q≠k∧(pv (l.eraseIdx k) j=if q=k+1 then pv l k else pv l q)∧(nx (l.eraseIdx k) (j+1)=if q+1=k then nx l (k+1)else nx l (q+1)):=by
    by_cases c:j<k
    ·rw[if_pos c]at hj;refine⟨j,hj,by omega,?_,?_⟩
     ·rw[hpve,if_pos (by omega),if_neg (by omega)]
     ·rw[hnxe];by_cases c2:j+1=k
      ·rw[if_neg (by omega),if_pos c2,c2]
      ·rw[if_pos (by omega),if_neg c2]
    ·rw[if_neg c]at hj;refine⟨j+1,hj,by omega,?_,?_⟩
     ·rw[hpve];by_cases c2:j=k
      ·rw[if_pos (by omega),if_pos (by omega),c2]
      ·rw[if_neg (by omega),if_neg (by omega)]
     ·rw[hnxe,if_neg (by omega),if_neg (by omega)]
   have hei:e≠i:=fun x=>hqk (h.one hl (x ▸ hq) hl hi).2;rw[hge e hei,h.nd n' l q e hl hq,yo,hpvq,hnxq];congr 2
   ·by_cases c:q=k+1
    ·subst c;rw[if_pos rfl,if_pos (Zn.2 hq)]
    ·rw[if_neg c,if_neg];intro hh;exact c (h.one hl hq hl (Zn.1 hh)).2
   ·by_cases c:q+1=k
    ·subst c;rw[if_pos rfl,if_pos (fh.2 ⟨by omega,hq⟩)]
    ·rw[if_neg c,if_neg];intro hh;obtain⟨h1,h2⟩:=fh.1 hh;have:=(h.one hl hq hl h2).2;omega
  ·rw[zt (Ne.symm en)]at hl';have hei:e≠i:=fun x=>en (h.one hl' hj hl (x ▸ hi)).1;rw[hge e hei,h.nd n' l' j e hl' hj,yo];congr 2
   ·rw[if_neg];intro hh;exact en (h.one hl' hj hl (Zn.1 hh)).1
   ·rw[if_neg];intro hh;exact en (h.one hl' hj hl (fh.1 hh).2).1
 ·change ns'[e]? =some x at hxe;by_cases hei:e=i
  ·subst hei;rw[hgi]at hxe;cases hxe;rfl
  ·rw[hge e hei]at hxe;cases hy:f.ns[e]? with
   |none=>rw[hy]at hxe;cases hxe
   |some y=>
    rw[hy]at hxe;cases hxe;refine h.out e y hy fun l' hl' hin=>?_;obtain⟨n',hn'⟩:=zQ hl';by_cases en:n'=n
    ·subst en;rw[hl]at hn';cases hn';obtain⟨q,hq⟩:=zQ hin;have hqk:q≠k:=fun c=>by subst c;rw[hi]at hq;cases hq;exact hei rfl
     refine ho' (l.eraseIdx k) (zo (zp hn)) ?_;by_cases c:q<k
     ·exact zo (i:=q) (by rw[hme,if_pos c];exact hq)
     ·exact zo (i:=q-1) (by rw[hme,if_neg (by omega)];rw[show q-1+1=q by omega];exact hq)
    ·exact ho' l' (zo (by rw[zt (Ne.symm en)];exact hn')) hin
 ·rcases yx hl' with h1|h1
  ·exact h.dup l' h1
  ·subst h1;exact(h.dup l (zo hl)).sublist (List.eraseIdx_sublist _ _)
theorem uz.chain(h:uz f L m){n:Nat}{l:List Nat}(hl:L[n]? =some l):∀(d k:Nat),l.length-k=d→Ch f.ns (nx l k) (l.drop k)
 |0,k,hd=>by
  rw[List.drop_eq_nil_of_le (by omega)]
  exact eG (by omega)
 |d+1,k,hd=>by
  have hk:k<l.length:=by omega
  rw[List.drop_eq_getElem_cons hk]
  exact⟨SC hk,_,h.nd n l k _ hl (zl hk),h.chain hl d (k+1) (by omega)⟩
end
end Go.Proofs.YtkmamlifgbocgaaGreat
