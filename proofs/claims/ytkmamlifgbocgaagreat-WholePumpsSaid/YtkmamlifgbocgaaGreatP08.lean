/- What the program's code does, as contracts, and what follows of it, part 8: for the law's proof. -/
import Derived.Test.YtkmamlifgbocgaaGreatP00
import Derived.Test.YtkmamlifgbocgaaGreatP07
set_option linter.unusedVariables false
set_option linter.unusedSimpArgs false
set_option maxRecDepth 100000
set_option maxHeartbeats 16000000
namespace Go.Proofs.YtkmamlifgbocgaaGreat
section
open Go.RowKit Go.WideShapes
structure AV where
 pl:List (Nat×Bool)
 fr:List Nat
def AV.hand(v:AV)(i:Nat):Int:=match v.pl[i]? with
 |some p=>1+(i:Int)+16*(p.1:Int)
 |none=>0
def AV.place(v:AV)(x:Int):Int:=if x<1 then -1 else match v.pl[Ar.ix x]? with
 |some p=>if p.2=true∧v.hand (Ar.ix x)=x then(Ar.ix x:Int)else -1
 |none=> -1
def AV.take(v:AV):AV:=match v.fr with
 |i::r=>⟨v.pl.modify i fun p=>(p.1,true),r⟩
 |[]=>v
def AV.wP(v:AV)(i:Nat):AV:=match v.pl[i]? with
 |some p=>if p.1<255 then⟨v.pl.set i (p.1+1,false),i::v.fr⟩else⟨v.pl.set i (p.1,false),v.fr⟩
 |none=>v
def AV.free(v:AV)(x:Int):AV:=if v.place x= -1 then v else v.wP (v.place x).toNat
def AV.new(k:Nat):AV:=⟨List.replicate k (0,false),List.range k⟩
structure AV.Ok (v:AV):Prop where
 len:v.pl.length≤16
 gen:∀(i:Nat) p,v.pl[i]? =some p→p.1≤255
 fr:∀i∈v.fr,∃g,v.pl[i]? =some (g,false)
 dup:v.fr.Nodup
structure td (a:Ar) (v:AV):Prop where
 ok:a.Ok
 pl:v.pl=a.l.map fun p=>(p.gen,p.taken)
 free:a.free=nx v.fr 0
 fr:∀(k i:Nat),v.fr[k]? =some i→∃p,a.l[i]? =some p∧p.next=nx v.fr (k+1)∧p.taken=false
 dup:v.fr.Nodup
section
variable {a:Ar} {v:AV}
theorem td.hand(h:td a v)(i:Nat):a.hand i=v.hand i:=by unfold Ar.hand AV.hand;rw[h.pl,zx];cases a.l[i]? <;>rfl
theorem td.place(h:td a v)(x:Int):a.place x=v.place x:=by unfold Ar.place AV.place;rw[←h.hand,h.pl,zx];cases a.l[Ar.ix x]? <;>rfl
theorem td.wV(h:td a v):v.Ok where
 len:=by rw[h.pl,zA];exact h.ok.len
 gen:=fun i p hp=>by
  rw[h.pl,zx]at hp
  cases hq:a.l[i]? with
  |none=>rw[hq]at hp;cases hp
  |some q=>rw[hq]at hp;cases hp;exact(h.ok.gen i q hq).1
 fr:=fun i hi=>by
  obtain⟨k,hk⟩:=zQ hi
  obtain⟨p,hp,_,ht⟩:=h.fr k i hk
  exact⟨p.gen,by rw[h.pl,zx,hp,←ht];rfl⟩
 dup:=h.dup
theorem NG(i:Nat)(r:List Nat)(k:Nat):nx (i::r) (k+1)=nx r k:=rfl
theorem td.take(h:td a v){i:Nat}{r:List Nat}(hf:v.fr=i::r):a.free=i∧td a.take v.take:=by
 have hfree:a.free=i:=by rw[h.free,hf];rfl
 obtain⟨p,hp,hn,ht⟩:=h.fr 0 i (by rw[hf];rfl);have hil:=(zk.1 hp).1;have e1:a.take=⟨a.l.set i {p with taken:=true},p.next⟩:=by unfold Ar.take;rw[hfree,zu,hp]
 have e2:v.take=⟨v.pl.modify i fun p=>(p.1,true),r⟩:=by unfold AV.take;rw[hf]
 have hd:=h.dup;rw[hf]at hd;refine⟨hfree,h.ok.take,?_,?_,fun k j hj=>?_,?_⟩
 ·rw[e1,e2,h.pl];dsimp only;apply yb;intro j;rw[List.getElem?_modify,zx,zx];by_cases e:i=j
  ·subst e;rw[zp hil,hp];simp
  ·rw[zt e];cases a.l[j]? <;>simp[e]
 ·rw[e1,e2];show p.next=nx r 0;rw[hn,hf];rfl
 ·rw[e2]at hj⊢;rw[e1];change r[k]? =some j at hj;obtain⟨q,hq,hqn,hqt⟩:=h.fr (k+1) j (by rw[hf];exact hj);have hij:i≠j:=fun e=>(zN.1 hd).1 (e ▸ zo hj);refine⟨q,?_,?_,hqt⟩
  ·show(a.l.set i _)[j]? =_;rw[zt hij];exact hq
  ·rw[hqn,hf];rfl
 ·rw[e2];exact(zN.1 hd).2
theorem Ar.Ok.wP{a:Ar}(h:a.Ok)(i:Nat):(a.wP i).Ok:=by
 unfold Ar.wP;cases hp:a.l[i]? with
 |none=>exact h
 |some p=>
  have hil:=(zk.1 hp).1;have hg:=h.gen i p hp;dsimp only;split
  ·refine⟨by rw[zq];exact h.len,fun j q hq=>?_,?_⟩
   ·rw[zq];change(a.l.set i _)[j]? =some q at hq;by_cases e:i=j
    ·subst e;rw[zp hil]at hq;cases hq;exact⟨by show p.gen+1≤255;omega,h.free.1,h.free.2⟩
    ·rw[zt e]at hq;exact h.gen j q hq
   ·rw[zq];exact⟨by show(-1:Int)≤i;omega,by show(i:Int)<_;omega⟩
  ·refine⟨by rw[zq];exact h.len,fun j q hq=>?_,?_⟩
   ·rw[zq];change(a.l.set i _)[j]? =some q at hq;by_cases e:i=j
    ·subst e;rw[zp hil]at hq;cases hq;exact⟨hg.1,hg.2⟩
    ·rw[zt e]at hq;exact h.gen j q hq
   ·rw[zq];exact h.free
theorem td.wP(h:td a v){i:Nat}{p:Pl}(hp:a.l[i]? =some p)(ht:p.taken=true):td (a.wP i) (v.wP i):=by
 have hil:=(zk.1 hp).1;have hvp:v.pl[i]? =some (p.gen,p.taken):=by rw[h.pl,zx,hp];rfl
 have hni:i∉v.fr:=fun hi=>by obtain⟨k,hk⟩:=zQ hi;obtain⟨q,hq,_,hqt⟩:=h.fr k i hk;rw[hp]at hq;cases hq;rw[ht]at hqt;cases hqt
 have hmap:∀(y:Pl),(a.l.set i y).map (fun p=>(p.gen,p.taken))=v.pl.set i (y.gen,y.taken):=fun y=>by rw[h.pl,List.map_set]
 have hfr:∀(y:Pl) (k j:Nat),v.fr[k]? =some j→∃q,(a.l.set i y)[j]? =some q∧q.next=nx v.fr (k+1)∧q.taken=false:=fun y k j hj=>by obtain⟨q,hq,h1,h2⟩:=h.fr k j hj;have hij:i≠j:=fun e=>hni (e ▸ zo hj);exact⟨q,by rw[zt hij];exact hq,h1,h2⟩
 have hok:=h.ok.wP i;by_cases hg:p.gen<255
 ·have e1:a.wP i=⟨a.l.set i ⟨p.gen+1,a.free,false⟩,i⟩:=by unfold Ar.wP;rw[hp];exact if_pos hg
  have e2:v.wP i=⟨v.pl.set i (p.gen+1,false),i::v.fr⟩:=by unfold AV.wP;rw[hvp];exact if_pos hg
  rw[e1]at hok⊢;rw[e2];refine⟨hok,(hmap ⟨p.gen+1,a.free,false⟩).symm,rfl,fun k j hj=>?_,zN.2 ⟨hni,h.dup⟩⟩;cases k with
  |zero=> obtain rfl:i=j:=Option.some.inj hj;exact⟨_,zp hil,h.free,rfl⟩
  |succ k=>exact hfr _ k j hj
 ·have e1:a.wP i=⟨a.l.set i {p with taken:=false},a.free⟩:=by unfold Ar.wP;rw[hp];exact if_neg hg
  have e2:v.wP i=⟨v.pl.set i (p.gen,false),v.fr⟩:=by unfold AV.wP;rw[hvp];exact if_neg hg
  rw[e1]at hok⊢;rw[e2];exact⟨hok,(hmap {p with taken:=false}).symm,h.free,hfr _,h.dup⟩
theorem td.new(k:Nat)(hk:k≤16):td (Ar.new k) (AV.new k):=by
 have hget:∀i,i<k→(Ar.new k).l[i]? =some ⟨0,if i+1=k then -1 else(i:Int)+1,false⟩:=fun i hi=>by have:=Ar.cH k 0 i hi;rw[if_neg (by omega)]at this;exact this
 have hnx:∀i,nx (List.range k) i=if i<k then(i:Int)else -1:=fun i=>by
  by_cases c:i<k
  ·rw[if_pos c];exact eH (by rw[yM c])
  ·rw[if_neg c];exact eG (by simp;omega)
 have hlen:(Ar.new k).l.length=k:=Ar.cI k 0;have hfree:(Ar.new k).free=if 0<k then 0 else -1:=rfl;refine⟨⟨by rw[hlen];exact hk,fun i p hp=>?_,?_⟩,?_,?_,fun q i hq=>?_,List.nodup_range⟩
 ·have hi:i<k:=by rw[←hlen];exact(zk.1 hp).1
  rw[hget i hi]at hp;cases hp;rw[hlen];dsimp only;refine⟨by omega,?_,?_⟩<;>split<;>omega
 ·rw[hfree,hlen];split<;>constructor<;>omega
 ·apply yb;intro i;rw[zx];by_cases c:i<k
  ·rw[hget i c];show(List.replicate k (0,false))[i]? =_;rw[List.getElem?_replicate_of_lt c];rfl
  ·rw[zJ (by simp[AV.new];omega),zJ (by rw[hlen];omega)];rfl
 ·show(Ar.new k).free=nx (List.range k) 0;rw[hnx,hfree];rfl
 ·change(List.range k)[q]? =some i at hq;have hqk:q<k:=by have:=(zk.1 hq).1;simpa using this
  rw[yM hqk]at hq;cases hq;refine⟨_,hget q hqk,?_,rfl⟩;show _=nx (List.range k) (q+1);rw[hnx];dsimp only;by_cases c:q+1=k
  ·rw[if_pos c,if_neg (by omega)]
  ·rw[if_neg c,if_pos (by omega)];omega
end
def rL(γ:U)(b g:Nat)(v:AV):Prop:=∃a,ug γ b g a∧td a v
theorem rL.keep{γ γ':U}{b g:Nat}{v:AV}(h:rL γ b g v)(hk:∀k,b≤k→k<b+2→γ' k=γ k):rL γ' b g v:=by obtain⟨a,h1,h2⟩:=h;exact⟨a,h1.keep hk,h2⟩
def jT(w0:World)(γ:U)(b g:Nat)(v:AV)(r:Value)(e:Ending)(w':World):Prop:=
 e=.returned r∧∃γ',Own w0 w' γ'∧rL γ' b g v∧∀k,(k<b∨b+2≤k)→γ' k=γ k
section
variable {w0 w:World} {γ:U} {b g:Nat} {v:AV}
theorem gI{a:Ar}(hf:td a v){r:Value}{e:Ending}{w':World}(h:rO w0 γ b g a r e w'):jT w0 γ b g v r e w':=by obtain⟨rfl,γ',ho,ha,hk⟩:=h;exact⟨rfl,γ',ho,⟨a,ha,hf⟩,hk⟩
theorem rL.wV(h:rL γ b g v):v.Ok:=by obtain⟨a,_,h⟩:=h;exact h.wV
theorem AV.wI(hv:v.Ok)(x:Int):-1≤v.place x∧v.place x<v.pl.length:=by
 unfold AV.place;split
 ·omega
 ·split
  ·rename_i p hp;have:=(zk.1 hp).1;split<;>omega
  ·omega
theorem xS(h:rL γ b g v)(ho:Own w0 w γ)(x:Int)(hx:x≤9223372036854775807):Calls Tryz.prog 112 #[.p g,.i x] w fun e w'=>e=.returned (.i (v.place x))∧w=w':=by obtain⟨a,h1,h2⟩:=h;rw[←h2.place];exact bC h1 ho h2.ok x hx
def AV.taken(v:AV):Value:=match v.fr with
 |i::_=>.tuple #[.i (v.hand i),.bool true]
 |[]=>.tuple #[.i 0,.bool false]
theorem bD(h:rL γ b g v)(ho:Own w0 w γ):Calls Tryz.prog 102 #[.p g] w (jT w0 γ b g v.take v.taken):=by
 obtain⟨a,h1,h2⟩:=h;cases hf:v.fr with
 |nil=>
  have e1:v.take=v:=by unfold AV.take;rw[hf]
  have e2:v.taken=.tuple #[.i 0,.bool false]:=by unfold AV.taken;rw[hf]
  rw[e1,e2];exact(Yx h1 ho (by rw[h2.free,hf];rfl)).mono fun e w' h=>gI h2 h
 |cons i r=>
  obtain⟨e1,h3⟩:=h2.take hf;have e2:v.taken=.tuple #[.i (a.hand a.free.toNat),.bool true]:=by unfold AV.taken;rw[hf,e1,zu,h2.hand]
  rw[e2];exact(QS h1 ho h2.ok (by omega)).mono fun e w' h=>gI h3 h
theorem Xd(h:rL γ b g v)(ho:Own w0 w γ)(x:Int)(hx:x≤9223372036854775807):Calls Tryz.prog 173 #[.p g,.i x] w (jT w0 γ b g (v.free x) (.bool (v.place x != -1))):=by
 obtain⟨a,h1,h2⟩:=h;have hpl:=h2.place x;rcases Ar.Y2 a x with hc|⟨i,hc⟩
 ·have e1:v.free x=v:=if_pos (by rw[←hpl];exact hc);have e2:(v.place x != -1)=false:=by rw[←hpl,hc];rfl
  rw[e1,e2];exact(WZ h1 ho h2.ok x hx hc).mono fun e w' h=>gI h2 h
 ·obtain⟨p,hp,ht,-⟩:=Ar.Z8 hc;have e1:v.free x=v.wP i:=by unfold AV.free;rw[←hpl,hc,if_neg (by omega),zu]
  have e2:(v.place x != -1)=true:=by rw[←hpl,hc,bne_iff_ne];omega
  rw[e1,e2];exact(QP h1 ho h2.ok x hx hc).mono fun e w' h=>gI (h2.wP hp ht) h
end
end
section
open Go.RowKit Go.WideShapes
def Ar.uH(a:Ar)(j:Nat):List Int:=((List.range j).filter fun i=>((a.l[i]?).map Pl.taken).getD false).map a.hand
theorem Ar.YY(a:Ar)(j:Nat){p:Pl}(hp:a.l[j]? =some p):a.uH (j+1)=a.uH j++if p.taken=true then [a.hand j]else []:=by unfold Ar.uH;rw[yD,List.filter_append,yI];congr 1;cases h:p.taken<;>simp[hp,h]
theorem Ar.cJ(a:Ar)(j:Nat):(a.uH j).length≤j:=by unfold Ar.uH;rw[zA];have:=List.length_filter_le (fun i=>((a.l[i]?).map Pl.taken).getD false) (List.range j);simpa using this
def gF(w0:World)(γ:U)(q s1 s2:Nat)(a:Ar)(v i:Value)(wr:World):Prop:=
 ∃(j:Nat) (γ':U),i=.i j∧j≤a.l.length∧Own w0 wr γ'∧yR γ' q 3 1 v (a.uH j).length (ints (a.uH j))∧∀k,k≠s1→k≠s2→k≠q→γ' k=γ k
def dK(w0:World)(γ:U)(q s1 s2:Nat)(l:List Int)(e:Ending)(w':World):Prop:=
 ∃v γ',e=.returned v∧Own w0 w' γ'∧xK γ' q 3 1 v l.length (ints l)∧∀k,k≠s1→k≠s2→k≠q→γ' k=γ k
section
variable {w0 w:World} {γ:U} {b g:Nat} {a:Ar}
theorem QR(h:ug γ b g a)(ho:Own w0 w γ)(hok:a.Ok)(q s1 s2:Nat)(hq:q<b∨b+2≤q)(h1:s1<b∨b+2≤s1)(h2:s2<b∨b+2≤s2)(e1:q≠s1)(e2:q≠s2)(e3:s1≠s2):Calls Tryz.prog 272 #[.p g] w (dK w0 γ q s1 s2 (a.uH a.l.length)):=by
 have HK:Hid (∀γ',(∀k,k≠s1→k≠s2→k≠q→γ' k=γ k)→ug γ' b g a):=I fun γ' hk=>h.keep fun k q1 q2=>hk k (by omega) (by omega) (by omega);have HH:Hid (∀γ' W,(∀k,k≠s1→k≠s2→k≠q→γ' k=γ k)→Own w0 W γ'→∀(i:Nat) p,a.l[i]? =some p→Calls Tryz.prog 141 #[.p g,.i i] W fun e w'=>e=.returned (.i (a.hand i))∧W=w'):=I fun γ' W hk ho' i p hp=>dE (h.keep fun k q1 q2=>hk k (by omega) (by omega) (by omega)) ho' hok hp;obtain⟨v,hb1,hb2⟩:=h;have c0:=ho.cell hb1 (i:=0) (v:=v) rfl;have hlen:=hok.len;have H2:=I hb2;have HS:Hid (gF w0 γ q s1 s2 a (.slice none 0 0) (.i 0) w):=I ⟨0,γ,rfl,by omega,ho,yR.nil _ _ _ _,fun _ _ _ _=>rfl⟩;obtain⟨A,cap,rfl,-⟩:=hb2.form;generalize hn:a.l.length=n at*;have HN:=I hn;clear hb1 hb2 ho hn hok;go_in;go_wp2_with fail;go_loopw [3,13] (fun v i wr=>gF w0 γ q s1 s2 a v i wr) (fun _ i _=>n-(intOf i).toNat);case atStart=>exact HS.out
 case round=>
  clear HS;obtain⟨j,γ',rfl,hj,ho,hs,hk⟩:=hrel;rw[HN.out]at hj;obtain⟨A0,cap0,rfl,-⟩:=hs.form;by_cases hlt:j<n
  ·have dl:decide ((j:Int)<n)=true:=by simpa using hlt
   obtain⟨p,hp⟩:∃p,a.l[j]? =some p:=⟨_,zl (by rw[HN.out];exact hlt)⟩;obtain⟨gw,cw,hv,-,hc⟩:=(H2.out.keep (hk (b+1) (by omega) (by omega) (by omega))).qN.row ho (by omega);cases hv;have q0:=hc _ _ ((vf Pl.len hp 0 (by omega)).trans rfl);have q1:=hc _ _ ((vf Pl.len hp 1 (by omega)).trans rfl);have q2:=hc _ _ ((vf Pl.len hp 2 (by omega)).trans rfl);simp only[yv]at q0;have hle:=a.cJ j;have hsu:=a.YY j hp;have o1:=ho.new s1 (.cells #[.i p.gen,.i p.next,.bool p.taken] 165);have kB:∀k,k≠s1→put γ' s1 wr.heap.size (.cells #[.i p.gen,.i p.next,.bool p.taken] 165) k=γ' k:=fun k h=>yO _ _ _ h;have hs1:=hs.keep (kB q e1);have hk1:∀k,k≠s1→k≠s2→k≠q→put γ' s1 wr.heap.size (.cells #[.i p.gen,.i p.next,.bool p.taken] 165) k=γ k:=fun k r1 r2 r3=>(kB k r1).trans (hk k r1 r2 r3);generalize put γ' s1 wr.heap.size (.cells #[.i p.gen,.i p.next,.bool p.taken] 165)=γB at*;have hhd:=HH.out γB _ hk1 o1 j p hp;cases ht:p.taken with
   |true=>
    rw[ht,if_pos rfl]at hsu;rw[ht]at o1 hhd q2;obtain⟨o2,r2⟩:=qv o1 s2 (a.hand j);have hsz:(wr.alloc (.cells #[.i p.gen,.i p.next,.bool true] 165)).heap.size=wr.heap.size+1:=by simp
    rw[hsz]at o2 r2;have HO:=I o2;have HR:=I r2;have HS:=I (hs1.keep (γ':=put γB s2 (wr.heap.size+1) (.cells #[.i (a.hand j)] 3)) (yO _ _ _ e2));have HKK:Hid (∀k,k≠s1→k≠s2→k≠q→put γB s2 (wr.heap.size+1) (.cells #[.i (a.hand j)] 3) k=γ k):=I fun k r1 r2 r3=>(yO _ _ _ r2).trans (hk1 k r1 r2 r3);have HX:=I hsu;generalize hkk:(a.uH j).length=kk at*;have HL:=I hkk;clear hs hs1 ho o1 o2 r2 hk kB hp hsu hk1 hc hkk ht;go_wp2_with fail;refine hhd.mono ?_;rintro e w' ⟨rfl,rfl⟩;go_wp2_with (at_builtin;refine xG rfl (.tmp 20) (.tmp 24) 61 rfl 3 _ 1 8 Tryz.underlying61 Tryz.tF rfl (by decide) HO.out HS.out rfl HR.out rfl ?_ ?_ ?_)
    ·unfold maxLen;omega
    ·omega
    intro A' cap' w2 γ3 hA2 ho4 hs4 hk4;rw[qt]at hs4;have HF:Hid (gF w0 γ q s1 s2 a (.slice A' (kk+1) cap') (.i ((j:Int)+1)) w2):=by refine I ⟨j+1,γ3,rfl,by rw[HN.out];omega,ho4,?_,fun k r1 r2 r3=>(hk4 k r3).trans (HKK.out k r1 r2 r3)⟩;rw[HX.out,zr,HL.out];exact hs4
    clear ho4 hs4 hk4 hA2 hhd;go_wp2_with fail;go_roundw;case rel=>exact HF.out
    case measure=>simp[intOf];omega
   |false=>
    rw[ht,if_neg (by simp),zP]at hsu;rw[ht]at o1 q2;have HF:Hid (gF w0 γ q s1 s2 a (.slice A0 (a.uH j).length cap0) (.i ((j:Int)+1)) (wr.alloc (.cells #[.i p.gen,.i p.next,.bool false] 165))):=I ⟨j+1,γB,rfl,by rw[HN.out];omega,o1,by rw[hsu];exact hs1,hk1⟩;clear hs hs1 ho o1 hk kB hp hsu hk1 hc hhd ht;go_wp2_with fail;go_roundw;case rel=>exact HF.out
    case measure=>simp[intOf];omega
  ·obtain rfl:j=n:=by omega
   have dl:decide ((j:Int)<j)=false:=by simp
   have hcl:=fun w'=>tV (w:=w') hs (by have:=a.cJ j;omega);have HC:=I hcl;have HF:Hid (∀v',xK γ' q 3 1 v' (a.uH j).length (ints (a.uH j))→dK w0 γ q s1 s2 (a.uH j) (.returned v') wr):=I fun v' hp=>⟨v',γ',rfl,ho,hp,hk⟩;clear hs ho hk hcl;generalize(a.uH j).length=kk at*;go_wp2_with fail;refine(HC.out _).mono ?_;rintro e w' ⟨v',rfl,hp,rfl⟩;obtain⟨A2,c2,rfl⟩:=hp.form;go_wp2_with fail;go_ret;exact HF.out _ hp
end
def AV.live(v:AV):List Int:=((List.range v.pl.length).filter fun i=>((v.pl[i]?).map Prod.snd).getD false).map v.hand
theorem SW{w0 w:World}{γ:U}{b g:Nat}{v:AV}(h:rL γ b g v)(ho:Own w0 w γ)(q s1 s2:Nat)(hq:q<b∨b+2≤q)(h1:s1<b∨b+2≤s1)(h2:s2<b∨b+2≤s2)(e1:q≠s1)(e2:q≠s2)(e3:s1≠s2):Calls Tryz.prog 272 #[.p g] w (dK w0 γ q s1 s2 v.live):=by
 obtain⟨a,ha,hv⟩:=h;have hl:v.live=a.uH a.l.length:=by unfold AV.live Ar.uH;rw[show v.pl.length=a.l.length by rw[hv.pl,zA]];have:v.hand=a.hand:=funext fun i=>(hv.hand i).symm;rw[this];congr 2;funext i;rw[hv.pl,zx];cases a.l[i]? <;>rfl
 rw[hl];exact QR ha ho hv.ok q s1 s2 hq h1 h2 e1 e2 e3
end
section
open Go.RowKit Go.WideShapes
theorem UY(w:World)(t:Int)(h0:0≤t)(h1:t≤4611686018427387904):Calls Tryz.prog 80 #[.i t] w fun e w'=>e=.returned (.i t)∧w=w':=by
 by_cases hz:t=0
 ·subst hz;go_in;go_wp2_with fail;go_ret;exact⟨rfl,rfl⟩
 ·have h2:0<t:=by omega
  go_in;go_wp2_with fail;all_goals first|(go_ret;exact⟨rfl,rfl⟩)|(exfalso;omega)|skip
  all_goals
   have:t=4611686018427387904:=by omega
   subst this;go_ret;exact⟨rfl,rfl⟩
theorem SL(w:World)(t:Int)(h0:0≤t)(h1:t≤4611686018427387904):Calls Tryz.prog 106 #[.i t,.i 0] w fun e w'=>e=.returned (.i t)∧w=w':=by
 have hh:=UY w t h0 h1;have h3:0≤4611686018427387904-t:=by omega
 go_in;go_wp2_with fail;refine hh.mono ?_;rintro e w' ⟨rfl,rfl⟩;go_wp2_with fail;go_ret;exact⟨rfl,rfl⟩
def jK(a b:Int):Int:=if a<b then -1 else if b<a then 1 else 0
theorem ZX(w:World)(a:Int):Calls Tryz.prog 198 #[.i a] w fun e w'=>e=.returned (.bool false)∧w=w':=by
 have hd:(a != a)=false:=by simp
 go_in;go_wp2_with fail;go_ret;exact⟨rfl,rfl⟩
theorem dY(w:World)(a b:Int):Calls Tryz.prog 154 #[.i a,.i b] w fun e w'=>e=.returned (.i (jK a b))∧w=w':=by
 have n1:=ZX w a;have n2:=ZX w b;by_cases h1:a<b
 ·have d1:decide (a<b)=true:=by simpa using h1
  have HR:=I (show jK a b= -1 from if_pos h1);clear h1;go_in;go_wp2_with fail;refine n1.mono ?_;rintro e w' ⟨rfl,rfl⟩;go_wp2_with fail;refine n2.mono ?_;rintro e w' ⟨rfl,rfl⟩;go_wp2_with fail;go_ret;exact⟨by rw[HR.out];rfl,rfl⟩
 ·have d1:decide (a<b)=false:=by simpa using h1
  by_cases h2:b<a
  ·have d2:decide (b<a)=true:=by simpa using h2
   have HR:=I (show jK a b=1 by unfold jK;rw[if_neg h1,if_pos h2]);clear h1 h2;go_in;go_wp2_with fail;refine n1.mono ?_;rintro e w' ⟨rfl,rfl⟩;go_wp2_with fail;refine n2.mono ?_;rintro e w' ⟨rfl,rfl⟩;go_wp2_with fail;go_ret;exact⟨by rw[HR.out];rfl,rfl⟩
  ·have d2:decide (b<a)=false:=by simpa using h2
   have HR:=I (show jK a b=0 by unfold jK;rw[if_neg h1,if_neg h2]);clear h1 h2;go_in;go_wp2_with fail;refine n1.mono ?_;rintro e w' ⟨rfl,rfl⟩;go_wp2_with fail;refine n2.mono ?_;rintro e w' ⟨rfl,rfl⟩;go_wp2_with fail;go_ret;exact⟨by rw[HR.out];rfl,rfl⟩
def Xv(a b:Int):Int:=if a≠0 then a else b
theorem OA(w:World)(g:Nat)(a b:Int)(c0:w.cell? (zc g 0)=some (.i a))(c1:w.cell? (zc g 1)=some (.i b)):Calls Tryz.prog 153 #[.slice (zb g) 2 2] w fun e w'=>e=.returned (.i (Xv a b))∧w=w':=by
 have hr:∀j:Nat,j<2→w.cell? (zc g j)=some (.i (if j=0 then a else b)):=fun j hj=>by
  rcases(show j=0∨j=1 by omega)with rfl|rfl
  ·exact c0
  ·exact c1
 have HC:=I hr;clear c0 c1 hr;go_in;go_wp2_with fail;go_loopw [8] (fun i wr=>∃j:Nat,i=.i j∧j≤2∧wr=w∧∀k,k<j→(if k=0 then a else b)=0) (fun i _=>2-(intOf i).toNat);case atStart=>exact⟨0,rfl,by omega,rfl,fun k hk=>by omega⟩
 case round=>
  obtain⟨j,rfl,hj,rfl,hz⟩:=hrel;by_cases hlt:j<2
  ·have dl:decide ((j:Int)<2)=true:=by simp;omega
   have hlt':(j:Int)<2:=by omega
   have cj:=HC.out j hlt;by_cases hx:(if j=0 then a else b)=0
   ·have HZ:Hid (∀k,k<j+1→(if k=0 then a else b)=0):=I fun k hk=>by
     by_cases e:k=j
     ·rw[e];exact hx
     ·exact hz k (by omega)
    rw[hx]at cj;clear hx hz;go_wp2_with fail;go_roundw;case rel=>exact⟨j+1,rfl,by omega,by trivial,HZ.out⟩
    case measure=>simp[intOf];omega
   ·have hd:((if j=0 then a else b) != 0)=true:=by simpa using hx
    have HR:Hid (Xv a b=(if j=0 then a else b)):=I (by
     unfold Xv;by_cases e:j=0
     ·rw[if_pos e]at hx;rw[if_pos hx,if_pos e]
     ·have:=hz 0 (by omega);rw[if_pos rfl]at this;rw[if_neg (by simpa using this),if_neg e]);generalize(if j=0 then a else b)=y at*;clear hx hz;go_wp2_with fail;go_ret;exact⟨by rw[HR.out];rfl,rfl⟩
  ·obtain rfl:j=2:=by omega
   have HR:Hid (Xv a b=0):=I (by unfold Xv;have h0:=hz 0 (by omega);have h1:=hz 1 (by omega);rw[if_pos rfl]at h0;rw[if_neg (by omega)]at h1;rw[if_neg (by simpa using h0),h1]);clear hz;go_wp2_with fail;go_ret;exact⟨by rw[HR.out];rfl,rfl⟩
end
section
open Go.RowKit Go.WideShapes
theorem gY:∀(m:Nat) (l:List Nat),l.Nodup→(∀i∈l,i<m)→l.length≤m
 |0,l,_,h=>by
  cases l with
  |nil=>simp
  |cons a r=>have:=h a (by simp);omega
 |m+1,l,hd,h=>by
  have h1:=gY m (l.erase m) (hd.erase m) fun i hi=>by
   have hi':=zK hi
   have:=h i hi'
   have:i≠m:=fun e=>by subst e;exact(List.Nodup.not_mem_erase hd) hi
   omega
  have:=List.length_erase (a:=m) (l:=l)
  split at this<;>omega
def rM(γ:U)(b g:Nat)(L:List (List Nat))(m:Nat):Prop:=∃f,rj γ b g f∧uz f L m
theorem rM.keep{γ γ':U}{b g m:Nat}{L:List (List Nat)}(h:rM γ b g L m)(hk:∀k,b≤k→k<b+3→γ' k=γ k):rM γ' b g L m:=by obtain⟨f,h1,h2⟩:=h;exact⟨f,h1.keep hk,h2⟩
theorem rM.bounds{γ:U}{b g m:Nat}{L:List (List Nat)}(h:rM γ b g L m):L.length≤32∧m≤32∧(∀l∈L,l.length≤m)∧(∀l∈L,∀i∈l,i<m)∧∀l∈L,l.Nodup:=by
 obtain⟨f,⟨gq,cq,gn,cn,h1⟩,h2⟩:=h;have hlt:∀l∈L,∀i∈l,i<m:=fun l hl i hi=>by obtain⟨n,hn⟩:=zQ hl;obtain⟨k,hk⟩:=zQ hi;exact h2.lt hn hk
 exact⟨by rw[←h2.lq];exact h1.2.2.2.1,by rw[←h2.ln];exact h1.2.2.2.2,fun l hl=>gY m l (h2.dup l hl) (hlt l hl),hlt,h2.dup⟩
def pz(L:List (List Nat))(n i:Nat):List (List Nat):=if rE L i=true then L else L.set n (L.getD n []++[i])
def uh(L:List (List Nat))(i:Nat):List (List Nat):=L.map fun l=>l.erase i
def qT(w0:World)(γ:U)(b g:Nat)(L:List (List Nat))(m:Nat)(v:Value)(e:Ending)(w':World):Prop:=
 e=.returned v∧∃γ',Own w0 w' γ'∧rM γ' b g L m∧∀k,(k<b∨b+4≤k)→γ' k=γ k
section
variable {w0 w:World} {γ:U} {b g m:Nat} {L:List (List Nat)}
theorem qj{f:Fi}(hf:uz f L m){v:Value}{e:Ending}{w':World}(h:uG w0 γ b g f v e w'):qT w0 γ b g L m v e w':=by obtain⟨rfl,γ',ho,ha,hk⟩:=h;exact⟨rfl,γ',ho,⟨f,ha,hf⟩,hk⟩
theorem Xl(h:rM γ b g L m)(ho:Own w0 w γ){n i:Nat}(hn:n<L.length)(hi:i<m):Calls Tryz.prog 122 #[.p g,.i n,.i i] w (qT w0 γ b g (pz L n i) m (.bool (!rE L i))):=by
 have hbd:=h.bounds;obtain⟨f,ha,hf⟩:=h;have hnq:n<f.qs.length:=by rw[hf.lq];exact hn
 have him:i<f.ns.length:=by rw[hf.ln];exact hi
 cases hq:rE L i with
 |true=> obtain⟨n',k,l,hl,hk⟩:=Yb.1 hq;have:=VQ ha ho hnq him (by rw[hf.Sh hl hk];omega);refine this.mono fun e w' h=>?_;unfold pz;rw[if_pos hq];exact qj hf h
 |false=>
  have hout:=aC.1 hq;obtain⟨l,hl⟩:∃l,L[n]? =some l:=⟨_,zl hn⟩;have hx:=hf.q n l hl;have hlm:=hbd.2.2.1 l (zo hl);have:=Pm ha ho hx him (hf.aU hi hout) (by
   rcases Nat.eq_zero_or_pos l.length with h0|h0
   ·exact .inl (by rw[h0];rfl)
   ·obtain⟨j,hj⟩:∃j,l[l.length-1]? =some j:=⟨_,zl (by omega)⟩;exact .inr ⟨j,fh.2 ⟨h0,hj⟩,by rw[hf.ln];exact hf.lt hl hj,fun e=>hout l (zo hl) (e ▸ zo hj)⟩) ⟨by simp,by simp;omega⟩;refine this.mono fun e w' h=>?_;unfold pz;rw[if_neg (by rw[hq];decide),show L.getD n []=l by rw[zn,hl];rfl];exact qj (hf.push hl hi hout) h
theorem TP{f:Fi}(hf:uz f L m){n k i:Nat}{l:List Nat}(hl:L[n]? =some l)(hk:l[k]? =some i):uh L i=L.set n (l.eraseIdx k):=by
 apply yb;intro j;unfold uh;rw[zx];by_cases e:j=n
 ·subst e;rw[zp (zk.1 hl).1,hl,yo];congr 1;have hlt:=(zk.1 hk).1;have hmem:=zo hk;have hidx:l.idxOf i=k:=by
   have h1:=List.idxOf_lt_length_of_mem hmem;have h2:l[l.idxOf i]? =some i:=by rw[zl h1,List.getElem_idxOf h1]
   exact(hf.one hl h2 hl hk).2
  exact List.erase_eq_eraseIdx_of_idxOf hidx
 ·rw[zt (Ne.symm e)];cases hj:L[j]? with
  |none=>rfl
  |some l'=> rw[yo];congr 1;refine zS fun hin=>?_;obtain⟨k',hk'⟩:=zQ hin;exact e (hf.one hj hk' hl hk).1
theorem TO{i:Nat}(h:∀l∈L,i∉l):uh L i=L:=by unfold uh;exact(List.map_congr_left (g:=fun l=>l) (fun l hl=>zS (h l hl))).trans (List.map_id L)
theorem jh(h:rM γ b g L m)(ho:Own w0 w γ){i:Nat}(hi:i<m):Calls Tryz.prog 108 #[.p g,.i i] w (qT w0 γ b g (uh L i) m (.bool (rE L i))):=by
 have hbd:=h.bounds;obtain⟨f,ha,hf⟩:=h;have him:i<f.ns.length:=by rw[hf.ln];exact hi
 cases hq:rE L i with
 |false=> have hout:=aC.1 hq;rw[TO hout];exact(YQ ha ho him (hf.aU hi hout)).mono fun e w' h=>qj hf h
 |true=>
  obtain⟨n,k,l,hl,hk⟩:=Yb.1 hq;rw[TP hf hl hk];have hx:=hf.q n l hl;have hni:=hf.nd n l k i hl hk;have hlm:=hbd.2.2.1 l (zo hl);have hsz:(0:Int)≤(l.length:Int)∧(l.length:Int)≤1000:=⟨by omega,by omega⟩;have hfin:=hf.remove hl hk;rcases dN l (k+1)with⟨h1,h2⟩|⟨c,h1,h2⟩
  ·rw[h2]at hni;by_cases h0:k=0
   ·subst h0;exact(Tr (a:=0) (c:=0) ha ho hx hni hsz).mono fun e w' h=>qj hfin h
   ·obtain⟨a,h3⟩:∃a,l[k-1]? =some a:=⟨_,zl (by have:=(zk.1 hk).1;omega)⟩;rw[fh.2 ⟨by omega,h3⟩]at hni;exact(VR (c:=0) ha ho hx hni (by rw[hf.ln];exact hf.lt hl h3) (fun e=>by subst e;have:=(hf.one hl h3 hl hk).2;omega) hsz).mono fun e w' h=>qj hfin h
  ·rw[h2]at hni;have hcl:c<f.ns.length:=by rw[hf.ln];exact hf.lt hl h1
   have hci:c≠i:=fun e=>by subst e;have:=(hf.one hl h1 hl hk).2;omega
   by_cases h0:k=0
   ·subst h0;exact(VS (a:=0) ha ho hx hni hcl hci hsz).mono fun e w' h=>qj hfin h
   ·obtain⟨a,h3⟩:∃a,l[k-1]? =some a:=⟨_,zl (by have:=(zk.1 hk).1;omega)⟩;rw[fh.2 ⟨by omega,h3⟩]at hni;exact(Wb ha ho hx hni (by rw[hf.ln];exact hf.lt hl h3) (fun e=>by subst e;have:=(hf.one hl h3 hl hk).2;omega) hcl hci (fun e=>by subst e;have:=(hf.one hl h3 hl h1).2;omega) hsz).mono fun e w' h=>qj hfin h
theorem VP(h:rM γ b g L m)(ho:Own w0 w γ){n:Nat}{l:List Nat}(hl:L[n]? =some l)(t:Nat)(ht:γ t=none):Calls Tryz.prog 107 #[.p g,.i n] w fun e w'=>∃v γ',e=.returned v∧Own w0 w' γ'∧xK γ' t 3 1 v l.length (ints (wo l))∧∀k,k≠t→γ' k=γ k:=by have hbd:=h.bounds;obtain⟨f,ha,hf⟩:=h;have hlm:=hbd.2.2.1 l (zo hl);exact Oh ha ho (hf.q n l hl) (hf.chain hl _ 0 rfl) (by rw[List.drop_zero];omega) t ht
end
end
section
open Go.RowKit Go.WideShapes
structure Wh where
 L:List (List Nat)
 at_:List Int
 tw:List Int
 now:Int
structure Wh.Ok (v:Wh):Prop where
 len:v.at_.length≤16
 tl:v.tw.length=v.at_.length
 Sn:v.L.length=16
 at0:∀x∈v.at_,0≤x∧x≤4611686018427387904
def dC(γ:U)(b g gf:Nat)(va vt:Value)(v:Wh):Prop:=
 γ b=some (g,.cells #[.p gf,va,vt,.i v.now] 167 (0,0))∧yR γ (b+1) 3 1 va v.at_.length (ints v.at_)∧yR γ (b+2) 3 1 vt v.tw.length (ints v.tw)∧rM γ (b+3) gf v.L v.at_.length∧v.Ok
def uS(γ:U)(b g:Nat)(v:Wh):Prop:=∃gf va vt,dC γ b g gf va vt v
theorem dC.keep{γ γ':U}{b g gf:Nat}{va vt:Value}{v:Wh}(h:dC γ b g gf va vt v)(hk:∀k,b≤k→k<b+6→γ' k=γ k):dC γ' b g gf va vt v:=⟨by rw[hk _ (by omega) (by omega)];exact h.1,h.2.1.keep (hk _ (by omega) (by omega)),h.2.2.1.keep (hk _ (by omega) (by omega)),h.2.2.2.1.keep (fun k h1 h2=>hk _ (by omega) (by omega)),h.2.2.2.2⟩
theorem uS.keep{γ γ':U}{b g:Nat}{v:Wh}(h:uS γ b g v)(hk:∀k,b≤k→k<b+6→γ' k=γ k):uS γ' b g v:=by obtain⟨gf,va,vt,h⟩:=h;exact⟨gf,va,vt,h.keep hk⟩
def Wh.ord(v:Wh)(a b:Nat):Int:=Xv (jK (v.at_.getD a 0) (v.at_.getD b 0)) (jK (v.tw.getD a 0) (v.tw.getD b 0))
section
variable {w0 w:World} {γ:U} {b g gf:Nat} {va vt:Value} {v:Wh}
theorem uf{t n:Nat}{u:Value}{l:List Int}(hs:yR γ t 3 1 u n (ints l))(ho:Own w0 w γ){i:Nat}(hi:i<n):∃g' cap,u=.slice (zb g') n cap∧w.cell? (zc g' i)=some (.i (l.getD i 0)):=by
 have hl:l.length=n:=by have:=hs.1;rw[us]at this;omega
 obtain⟨g',cap,hv,hc⟩:=hs.at_ ho hi;rw[gU _ _ (by omega)]at hc;exact⟨g',cap,hv,hc⟩
theorem QG(h:dC γ b g gf va vt v)(ho:Own w0 w γ)(i j:Nat)(hi:i<v.at_.length)(hj:j<v.at_.length):Calls Tryz.prog 110 #[.p g,.i i,.i j] w fun e w'=>e=.returned (.i (v.ord i j))∧Below w.heap.size w w':=by
 obtain⟨h1,h2,h3,-,hk⟩:=h;have h16:=hk.len;have htl:=hk.tl;obtain⟨ga,ca,rfl,-⟩:=uf h2 ho hi;obtain⟨gt,ct,rfl,-⟩:=uf h3 ho (show i<v.tw.length by omega);have HC:Hid (∀w',Own w0 w' γ→w'.cell? (zc g 1)=some (.slice (zb ga) v.at_.length ca)∧w'.cell? (zc g 2)=some (.slice (zb gt) v.tw.length ct)∧w'.cell? (zc ga i)=some (.i (v.at_.getD i 0))∧w'.cell? (zc ga j)=some (.i (v.at_.getD j 0))∧w'.cell? (zc gt i)=some (.i (v.tw.getD i 0))∧w'.cell? (zc gt j)=some (.i (v.tw.getD j 0))):=I fun w' hw'=>by
  refine⟨hw'.cell h1 rfl,hw'.cell h1 rfl,?_,?_,?_,?_⟩
  ·obtain⟨_,_,e,q⟩:=uf h2 hw' hi;cases e;exact q
  ·obtain⟨_,_,e,q⟩:=uf h2 hw' hj;cases e;exact q
  ·obtain⟨_,_,e,q⟩:=uf h3 hw' (show i<v.tw.length by omega);cases e;exact q
  ·obtain⟨_,_,e,q⟩:=uf h3 hw' (show j<v.tw.length by omega);cases e;exact q
 have HO:=I ho.drew;rw[htl]at HC;unfold Wh.ord;generalize v.at_.getD i 0=a1 at*;generalize v.at_.getD j 0=a2 at*;generalize v.tw.getD i 0=t1 at*;generalize v.tw.getD j 0=t2 at*;generalize v.at_.length=n at*;have hi':(i:Int)<n:=by omega
 have hj':(j:Int)<n:=by omega
 have hb0:Hid (Below w.heap.size w w.drew):=I (Below.refl _ _).drew;clear h1 h2 h3 hk ho htl;go_in;go_wp2_with fail;refine yP.region [0,1,2,3,4,5,6,7,8,9,10,11,12,13,15,16,17,18,19,20,21,22,23,24,25,26,27,28] (.step 14 (.step 29 (.step 30 (.step 31 (.step 32 .done))))) (fun w'=>Own w0 w' γ) (by kernel_rfl) (by kernel_rfl) (fun _ _ _ _ _ h=>h) HO.out ?_;repeat
  refine Perm.xm rfl ?_ (fun w' hS=>?_) ?_;rotate_left
  ·(obtain⟨q1,q2,q3,q4,q5,q6⟩:=HC.out _ hS;clear hS;go_simp;try with_reducible rfl)
  simp only[pt]
 refine Perm.xt ?_;generalize w.drew=wd at*;refine yP.yY rfl (by rfl) ?_;refine yP.xJ rfl 154 _ _ rfl (by kernel_rfl) _ rfl ((dY _ _ _).mono ?_);rintro e w1 ⟨rfl,rfl⟩;refine⟨_,rfl,fun _ h=>h,?_⟩;simp only[pt];refine yP.yY rfl (by rfl) ?_;refine yP.xJ rfl 154 _ _ rfl (by kernel_rfl) _ rfl ((dY _ _ _).mono ?_);rintro e w1 ⟨rfl,rfl⟩;refine⟨_,rfl,fun _ h=>h,?_⟩;simp only[pt];generalize hx1:jK a1 a2=x1 at*;generalize hx2:jK t1 t2=x2 at*;have HX:=I (And.intro hx1 hx2);clear hx1 hx2;refine yP.yY rfl (by rfl) ?_;refine yP.xy rfl (.value (.slice (zb wd.heap.size) 2 2)) _ (.inl rfl) (w':=wd.alloc (.cells #[.i x1,.i x2] 3)) (by go_simp;try with_reducible rfl) (fun _ hS=>hS.xh ((Below.refl _ _).alloc (zm _) _)) ?_;simp only[pt];have hor:=OA (wd.alloc (.cells #[.i x1,.i x2] 3)) wd.heap.size x1 x2 (by rw[World.cell?_alloc_at _ _ _ _ rfl];rfl) (by rw[World.cell?_alloc_at _ _ _ _ rfl];rfl);have HB:Hid (Below w.heap.size w (wd.alloc (.cells #[.i x1,.i x2] 3))):=I (hb0.out.alloc hb0.out.size _);generalize wd.alloc (.cells #[.i x1,.i x2] 3)=WM at*;refine yP.yY rfl (by rfl) ?_;refine yP.xJ rfl 153 _ _ rfl (by kernel_rfl) _ rfl (hor.mono ?_);rintro e w1 ⟨rfl,rfl⟩;refine⟨_,rfl,fun _ h=>h,?_⟩;simp only[pt];repeat
  refine yP.xA rfl (by rfl) ?_ (fun w'=>?_) ?_;rotate_left
  ·(go_simp;try with_reducible rfl)
  simp only[pt]
 refine yP.xC ?_;go_wp2_with fail;go_ret;exact⟨by rw[HX.out.1,HX.out.2];rfl,HB.out⟩
end
end
section
open Go.RowKit Go.WideShapes
structure SV where
 ar:AV
 run:List Nat
 wD:List Int
def qg(γ:U)(b g ga gf:Nat)(v:Value)(s:SV):Prop:=
 γ b=some (g,.cells #[.p ga,.p gf,v] 159 (0,0))∧
  rL γ (b+1) ga s.ar∧rM γ (b+4) gf [s.run] s.ar.pl.length∧yR γ (b+8) 3 1 v s.ar.pl.length (ints s.wD)
def tS(γ:U)(b g:Nat)(s:SV):Prop:=∃ga gf v,qg γ b g ga gf v s
theorem qg.keep{γ γ':U}{b g ga gf:Nat}{v:Value}{s:SV}(h:qg γ b g ga gf v s)(hk:∀k,b≤k→k<b+9→γ' k=γ k):qg γ' b g ga gf v s:=⟨by rw[hk _ (by omega) (by omega)];exact h.1,h.2.1.keep fun k h1 h2=>hk k (by omega) (by omega),h.2.2.1.keep fun k h1 h2=>hk k (by omega) (by omega),h.2.2.2.keep (hk _ (by omega) (by omega))⟩
theorem tS.keep{γ γ':U}{b g:Nat}{s:SV}(h:tS γ b g s)(hk:∀k,b≤k→k<b+9→γ' k=γ k):tS γ' b g s:=by obtain⟨ga,gf,v,h⟩:=h;exact⟨ga,gf,v,h.keep hk⟩
def SV.ready(s:SV)(x:Int):SV:=if s.ar.place x= -1 then s else if(s.ar.place x).toNat∈s.run then s else{s with run:=s.run++[(s.ar.place x).toNat]}
def SV.rG(s:SV)(x:Int):Bool:=s.ar.place x != -1&& !decide ((s.ar.place x).toNat∈s.run)
def SV.block(s:SV)(x:Int):SV:=if s.ar.place x= -1 then s else{s with run:=s.run.erase (s.ar.place x).toNat}
def SV.rR(s:SV)(x:Int):Bool:=s.ar.place x != -1&&decide ((s.ar.place x).toNat∈s.run)
def ud(w0:World)(γ:U)(b g:Nat)(s:SV)(r:Value)(e:Ending)(w':World):Prop:=
 e=.returned r∧∃γ',Own w0 w' γ'∧tS γ' b g s∧∀k,(k<b∨b+10≤k)→γ' k=γ k
section
variable {w0 w:World} {γ:U} {b g ga gf:Nat} {v:Value} {s:SV}
theorem qg.cells(h:qg γ b g ga gf v s)(ho:Own w0 w γ):w.cell? (zc g 0)=some (.p ga)∧w.cell? (zc g 1)=some (.p gf)∧w.cell? (zc g 2)=some v:=⟨ho.cell h.1 (i:=0) rfl,ho.cell h.1 (i:=1) rfl,ho.cell h.1 (i:=2) rfl⟩
theorem tS.wV(h:tS γ b g s):s.ar.Ok:=by obtain⟨_,_,_,h⟩:=h;exact h.2.1.wV
theorem ur(h:tS γ b g s)(ho:Own w0 w γ)(x:Int)(hx:x≤9223372036854775807):Calls Tryz.prog 103 #[.p g,.i x] w fun e w'=>e=.returned (.i (s.ar.place x))∧w=w':=by obtain⟨ga,gf,v,h⟩:=h;obtain⟨c0,-⟩:=h.cells ho;have hp:=xS h.2.1 ho x hx;clear h ho;go_in;go_wp2_with fail;refine hp.mono ?_;rintro e w' ⟨rfl,rfl⟩;go_wp2_with fail;go_ret;exact⟨rfl,rfl⟩
theorem bV(l:List Nat)(i:Nat):rE [l] i=decide (i∈l):=by simp[rE]
theorem Up(l:List Nat)(i:Nat):pz [l] 0 i=[if i∈l then l else l++[i]]:=by
 unfold pz;rw[bV];by_cases h:i∈l
 ·rw[if_pos (by simpa using h),if_pos h]
 ·rw[if_neg (by simpa using h),if_neg h];rfl
theorem qg.UB(h:qg γ b g ga gf v s){r:List Nat}{γ':U}(hf:rM γ' (b+4) gf [r] s.ar.pl.length)(hk:∀k,(k<b+4∨b+4+4≤k)→γ' k=γ k):qg γ' b g ga gf v {s with run:=r}:=⟨by rw[hk _ (by omega)];exact h.1,h.2.1.keep fun k h1 h2=>hk k (by omega),hf,h.2.2.2.keep (hk _ (by omega))⟩
theorem bZ(h:tS γ b g s)(ho:Own w0 w γ)(x:Int)(hx:x≤9223372036854775807):Calls Tryz.prog 85 #[.p g,.i x] w (ud w0 γ b g (s.ready x) (.bool (s.rG x))):=by
 have hp:=fun W (hW:Own w0 W γ)=>ur (w:=W) h hW x hx;have hlt:=AV.wI h.wV x;have hw:=h;obtain⟨ga,gf,v,h⟩:=h;obtain⟨c0,c1,c2⟩:=h.cells ho.drew;by_cases hc:s.ar.place x= -1
 ·have e1:s.ready x=s:=if_pos hc;have e2:s.rG x=false:=by unfold SV.rG;rw[hc];rfl
  rw[e1,e2];have dq:decide ((0:Int)≤s.ar.place x)=false:=by rw[hc];rfl
  have HF:Hid (∀n,ud w0 γ b g s (.bool false) (.returned (.bool false)) (w.drewN n)):=I fun n=>⟨rfl,γ,ho.drewN n,hw,fun _ _=>rfl⟩;have HO:=I ho;generalize s.ar.place x=y at*;clear h ho hw hlt hc e1 e2 c0 c1 c2;go_in;go_wp2_with fail;go_quiet ((go_at_call 103;exact Calls.quiet_of_same ((hp _ (HO.out.drewN _)).mono fun e w' ⟨h1,h2⟩=>⟨h1,h2.symm⟩)));go_wp2_with fail;go_ret;exact HF.out _
 ·obtain⟨p,hpe⟩:∃p:Nat,s.ar.place x=p:=⟨(s.ar.place x).toNat,by omega⟩;have e1:s.ready x={s with run:=if p∈s.run then s.run else s.run++[p]}:=by unfold SV.ready;rw[if_neg hc,hpe,zu];split<;>rfl
  have e2:s.rG x= !rE [s.run] p:=by unfold SV.rG;rw[hpe,zu,bV,show((p:Int) != -1)=true from by rw[bne_iff_ne];omega];rfl
  have hpm:p<s.ar.pl.length:=by omega
  have hpu:=fun(W:World) (hW:Own w0 W γ)=>Xl (w:=W) h.2.2.1 hW (n:=0) (by simp) hpm;rw[hpe]at hp;have dp:decide ((0:Int)≤p)=true:=by simp
  have HO:=I ho.drew;have HF:Hid (∀e w',qT w0 γ (b+4) gf (pz [s.run] 0 p) s.ar.pl.length (.bool (!rE [s.run] p)) e w'→ud w0 γ b g (s.ready x) (.bool (s.rG x)) e w'):=I fun e w' he=>by obtain⟨rfl,γ',ho',hf',hk⟩:=he;rw[Up]at hf';refine⟨by rw[e2],γ',ho',⟨ga,gf,v,by rw[e1];exact h.UB hf' hk⟩,fun k hk'=>hk k (by omega)⟩
  rw[e2]at*;generalize(!rE [s.run] p)=rb at*;generalize ud w0 γ b g (s.ready x) (.bool rb)=post at*;clear h ho hw hlt hc e1 e2 hpm;go_in;go_wp2_with fail;go_region_with (first|(go_at_call 103;refine(hp _ HO.out).mono ?_;rintro e w' ⟨rfl,rfl⟩)|(go_at_call 122;refine(hpu _ HO.out).mono ?_;rintro e w' he;have he':=HF.out _ _ he;obtain⟨rfl,-⟩:=he));all_goals go_wp2_with fail;go_ret;assumption
theorem TN(l:List Nat)(i:Nat):uh [l] i=[l.erase i]:=rfl
theorem bY(h:tS γ b g s)(ho:Own w0 w γ)(x:Int)(hx:x≤9223372036854775807):Calls Tryz.prog 170 #[.p g,.i x] w (ud w0 γ b g (s.block x) (.bool (s.rR x))):=by
 have hp:=fun W (hW:Own w0 W γ)=>ur (w:=W) h hW x hx;have hlt:=AV.wI h.wV x;have hw:=h;obtain⟨ga,gf,v,h⟩:=h;obtain⟨c0,c1,c2⟩:=h.cells ho.drew;by_cases hc:s.ar.place x= -1
 ·have e1:s.block x=s:=if_pos hc;have e2:s.rR x=false:=by unfold SV.rR;rw[hc];rfl
  rw[e1,e2];have dq:decide ((0:Int)≤s.ar.place x)=false:=by rw[hc];rfl
  have HF:Hid (∀n,ud w0 γ b g s (.bool false) (.returned (.bool false)) (w.drewN n)):=I fun n=>⟨rfl,γ,ho.drewN n,hw,fun _ _=>rfl⟩;have HO:=I ho;generalize s.ar.place x=y at*;clear h ho hw hlt hc e1 e2 c0 c1 c2;go_in;go_wp2_with fail;go_quiet ((go_at_call 103;exact Calls.quiet_of_same ((hp _ (HO.out.drewN _)).mono fun e w' ⟨h1,h2⟩=>⟨h1,h2.symm⟩)));go_wp2_with fail;go_ret;exact HF.out _
 ·obtain⟨p,hpe⟩:∃p:Nat,s.ar.place x=p:=⟨(s.ar.place x).toNat,by omega⟩;have e1:s.block x={s with run:=s.run.erase p}:=by unfold SV.block;rw[if_neg hc,hpe,zu]
  have e2:s.rR x=rE [s.run] p:=by unfold SV.rR;rw[hpe,zu,bV,show((p:Int) != -1)=true from by rw[bne_iff_ne];omega];rfl
  have hpm:p<s.ar.pl.length:=by omega
  have hpu:=fun(W:World) (hW:Own w0 W γ)=>jh (w:=W) h.2.2.1 hW hpm;rw[hpe]at hp;have dp:decide ((0:Int)≤p)=true:=by simp
  have HO:=I ho.drew;have HF:Hid (∀e w',qT w0 γ (b+4) gf (uh [s.run] p) s.ar.pl.length (.bool (rE [s.run] p)) e w'→ud w0 γ b g (s.block x) (.bool (s.rR x)) e w'):=I fun e w' he=>by obtain⟨rfl,γ',ho',hf',hk⟩:=he;rw[TN]at hf';refine⟨by rw[e2],γ',ho',⟨ga,gf,v,by rw[e1];exact h.UB hf' hk⟩,fun k hk'=>hk k (by omega)⟩
  rw[e2]at*;generalize(rE [s.run] p)=rb at*;generalize ud w0 γ b g (s.block x) (.bool rb)=post at*;clear h ho hw hlt hc e1 e2 hpm;go_in;go_wp2_with fail;go_region_with (first|(go_at_call 103;refine(hp _ HO.out).mono ?_;rintro e w' ⟨rfl,rfl⟩)|(go_at_call 108;refine(hpu _ HO.out).mono ?_;rintro e w' he;have he':=HF.out _ _ he;obtain⟨rfl,-⟩:=he));all_goals go_wp2_with fail;go_ret;assumption
theorem qg.wD(h:qg γ b g ga gf v s):s.wD.length=s.ar.pl.length:=by have:=h.2.2.2.1;rw[us]at this;omega
end
end
section
open Go.RowKit Go.WideShapes
def SV.exit(s:SV)(x:Int):SV:=if s.ar.place x= -1 then s else{s.block x with ar:=s.ar.free x}
theorem AV.gR(v:AV)(i:Nat):(v.wP i).pl.length=v.pl.length:=by
 unfold AV.wP;split
 ·split<;>simp
 ·rfl
theorem AV.gQ(v:AV)(x:Int):(v.free x).pl.length=v.pl.length:=by
 unfold AV.free;split
 ·rfl
 ·exact AV.gR _ _
theorem SV.kz(s:SV)(x:Int):(s.block x).ar=s.ar:=by unfold SV.block;split<;>rfl
theorem SV.fj(s:SV)(x:Int):(s.ready x).ar=s.ar:=by
 unfold SV.ready;split
 ·rfl
 ·split<;>rfl
theorem SV.OT(s:SV)(x:Int):(s.block x).wD=s.wD:=by unfold SV.block;split<;>rfl
theorem SV.Nb(s:SV)(x:Int):(s.ready x).wD=s.wD:=by
 unfold SV.ready;split
 ·rfl
 ·split<;>rfl
section
variable {w0 w:World} {γ:U} {b g ga gf:Nat} {v:Value} {s:SV}
theorem qg.WG(h:qg γ b g ga gf v s){a:AV}{γ':U}(hf:rL γ' (b+1) ga a)(hl:a.pl.length=s.ar.pl.length)(hk:∀k,(k<b+1∨b+1+2≤k)→γ' k=γ k):qg γ' b g ga gf v {s with ar:=a}:=⟨by rw[hk _ (by omega)];exact h.1,hf,by show rM γ' (b+4) gf [s.run] a.pl.length;rw[hl];exact h.2.2.1.keep fun k h1 h2=>hk k (by omega),by show yR γ' (b+8) 3 1 v a.pl.length _;rw[hl];exact h.2.2.2.keep (hk _ (by omega))⟩
theorem PN(h:tS γ b g s)(ho:Own w0 w γ)(x:Int)(hx:x≤9223372036854775807):Calls Tryz.prog 169 #[.p g,.i x] w (ud w0 γ b g (s.exit x) (.bool (s.ar.place x != -1))):=by
 have hp:=ur h ho x hx;have hlt:=AV.wI h.wV x;by_cases hc:s.ar.place x= -1
 ·have e1:s.exit x=s:=if_pos hc;have e2:(s.ar.place x != -1)=false:=by rw[hc];rfl
  have dq:decide (s.ar.place x<0)=true:=by rw[hc];rfl
  rw[e1,e2];have HF:Hid (ud w0 γ b g s (.bool false) (.returned (.bool false)) w):=I ⟨rfl,γ,ho,h,fun _ _=>rfl⟩;generalize s.ar.place x=y at*;clear h ho hlt hc e1 e2;go_in;go_wp2_with fail;refine hp.mono ?_;rintro e w' ⟨rfl,rfl⟩;go_wp2_with fail;go_ret;exact HF.out
 ·have e1:s.exit x={s.block x with ar:=s.ar.free x}:=if_neg hc;have e2:(s.ar.place x != -1)=true:=by simpa using hc
  have dq:decide (s.ar.place x<0)=false:=by simp;omega
  have hb:=bY h ho x hx;rw[e1];generalize hsb:s.block x=s2 at*;have hs2:s2.ar=s.ar:=by rw[←hsb];exact SV.kz s x
  rw[←hs2];rw[←hs2]at e2;rw[e2];generalize s.rR x=bb at*;generalize s.ar.place x=y at*;clear h ho hlt hc e1 hsb hs2;go_in;go_wp2_with fail;refine hp.mono ?_;rintro e w' ⟨rfl,rfl⟩;go_wp2_with fail;refine hb.mono ?_;rintro e w' ⟨rfl,γ1,ho1,⟨ga,gf,v,h1⟩,hk1⟩;obtain⟨c0,-⟩:=h1.cells ho1;have hfr:=Xd h1.2.1 ho1 x hx;rw[e2]at hfr;have HF:Hid (∀e w',jT w0 γ1 (b+1) ga (s2.ar.free x) (.bool true) e w'→ud w0 γ b g {s2 with ar:=s2.ar.free x} (.bool true) e w'):=I fun e w' he=>by obtain⟨rfl,γ',ho',hf',hk⟩:=he;exact⟨rfl,γ',ho',⟨ga,gf,v,h1.WG hf' (AV.gQ _ _) hk⟩,fun k hk'=>(hk k (by omega)).trans (hk1 k hk')⟩
  clear h1 ho1 hk1;go_wp2_with fail;refine hfr.mono ?_;rintro e w' he;have he':=HF.out _ _ he;obtain⟨rfl,-⟩:=he;go_wp2_with fail;go_ret;exact he'
def SV.list(s:SV):List Int:=s.run.map fun p=>s.wD.getD p 0
def bo(w0:World)(γ:U)(t tt:Nat)(l:List Int)(v i:Value)(wr:World):Prop:=
 ∃(j:Nat) (γ':U),i=.i j∧j≤l.length∧Own w0 wr γ'∧yR γ' t 3 1 v j (ints (l.take j))∧∀k,k≠t→k≠tt→γ' k=γ k
def bX(w0:World)(γ:U)(b g t:Nat)(s:SV)(e:Ending)(w':World):Prop:=
 ∃v γ',e=.returned v∧Own w0 w' γ'∧tS γ' b g s∧xK γ' t 3 1 v s.run.length (ints s.list)∧∀k,k≠t→(k<b∨b+11≤k)→γ' k=γ k
theorem SF(h:tS γ b g s)(ho:Own w0 w γ)(t:Nat)(ht:t<b∨b+11≤t)(htn:γ (b+9)=none):Calls Tryz.prog 87 #[.p g] w (bX w0 γ b g t s):=by
 have hok:=h.wV;obtain⟨ga,gf,v,h⟩:=h;have hwho:=h.wD;obtain⟨-,c1,-⟩:=h.cells ho;have hall:=VP h.2.2.1 ho (n:=0) (l:=s.run) rfl (b+9) htn;have hbd:=h.2.2.1.bounds;have hrl:s.run.length≤16:=by have:=hbd.2.2.1 s.run (by simp);have:=hok.len;omega
 have hrm:∀p∈s.run,p<s.ar.pl.length:=hbd.2.2.2.1 s.run (by simp);have hll:s.list.length=s.run.length:=by simp[SV.list]
 have H:=I h;clear h ho hbd;go_in;go_wp2_with fail;refine hall.mono ?_;rintro e w1 ⟨v1,γ1,rfl,ho1,hp1,hk1⟩;obtain⟨A1,c1',rfl⟩:=hp1.form;have h1:=H.out.keep (γ':=γ1) fun k h1 h2=>hk1 k (by omega);have HS:Hid (bo w0 γ1 t (b+10) s.list (.slice none 0 0) (.i (0:Nat)) w1):=I ⟨0,γ1,rfl,by omega,ho1,yR.nil _ _ _ _,fun _ _ _=>rfl⟩;have H1:=I h1;have HP1:=I hp1;have HK1:=I hk1;clear h1 hp1 hk1 ho1 c1;go_wp2_with fail;go_loopw [3,14] (fun v i wr=>bo w0 γ1 t (b+10) s.list v i wr) (fun _ i _=>s.run.length-(intOf i).toNat);case atStart=>exact HS.out
 case round=>
  obtain⟨j,γ2,rfl,hj,ho2,hs2,hk2⟩:=hrel;have h2:=H1.out.keep (γ':=γ2) fun k h1 h2=>hk2 k (by omega) (by omega);have hp2:=HP1.out.keep (γ':=γ2) (hk2 _ (by omega) (by omega));rw[hll]at hj;by_cases hlt:j<s.run.length
  ·have dl:decide ((j:Int)<s.run.length)=true:=by simpa using hlt
   obtain⟨p,hp⟩:∃p,s.run[j]? =some p:=⟨_,zl hlt⟩;have hpm:=hrm p (zo hp);obtain⟨g1,c1,e1,-,hr1⟩:=hp2.row ho2 (by omega);cases e1;have hrj:=hr1 j (.i p) (by simp[ints,wo,hp]);obtain⟨gw,cw,rfl,hwc⟩:=h2.2.2.2.at_ ho2 hpm;rw[gU _ _ (by omega)]at hwc;obtain⟨-,-,c2⟩:=h2.cells ho2;have hjj:(j:Int)<s.run.length:=by omega
   have hpp:(p:Int)<s.ar.pl.length:=by omega
   obtain⟨A2,cap2,rfl,-⟩:=hs2.form;have ho3:=ho2.new (b+10) (.cells #[.i (s.wD.getD p 0)] 3);have hs3:=hs2.keep (γ':=Go.Proofs.YtkmamlifgbocgaaGreat.put γ2 (b+10) wr.heap.size (.cells #[.i (s.wD.getD p 0)] 3)) (yO _ _ _ (by omega));have hrd:Reads (wr.alloc (.cells #[.i (s.wD.getD p 0)] 3)) 1 (.slice (zb wr.heap.size) 1 1) 1 [.i (s.wD.getD p 0)]:=.inr ⟨_,1,rfl,rfl,fun j u hj=>by rw[add_plain,zy];exact ho3.cell (yQ _ _ _ _) (i:=j) (by simpa using hj),by simp[Value.oneCell']⟩;have hstep:ints (s.list.take j)++[.i (s.wD.getD p 0)]=ints (s.list.take (j+1)):=by rw[qt,yk];congr 2;simp[SV.list,hp]
   have HO3:=I ho3;have HS3:=I hs3;have HRD:=I hrd;have HST:=I hstep;have HK2:=I hk2;generalize s.wD.getD p 0=y at*;generalize s.run.length=m at*;generalize s.ar.pl.length=m2 at*;clear h2 hp2 hr1 ho2 hs2 hp ho3 hs3 hrd hstep hk2 hall hrm;go_wp2_with (at_builtin;refine xG rfl (.tmp 18) (.tmp 26) 61 rfl 3 _ 1 8 Tryz.underlying61 Tryz.tF rfl (by decide) HO3.out HS3.out rfl HRD.out rfl ?_ ?_ ?_)
   ·unfold maxLen;omega
   ·omega
   intro A' cap' w2 γ3 hA2 ho4 hs4 hk4;rw[HST.out]at hs4;have hN:bo w0 γ1 t (b+10) s.list (.slice A' (j+1) cap') (.i ((j:Int)+1)) w2:=⟨j+1,γ3,rfl,by omega,ho4,hs4,fun k k1 k2=>(hk4 k k1).trans ((yO _ _ _ k2).trans (HK2.out k k1 k2))⟩;have HN:=I hN;clear hN ho4 hs4 hk4 hA2;go_wp2_with fail;go_roundw;case rel=>exact HN.out
   case measure=>simp[intOf];omega
  ·obtain rfl:j=s.run.length:=by omega
   have dl:decide ((s.run.length:Int)<s.run.length)=false:=by simp
   rw[zO (by omega)]at hs2;have hfr:∀k,k≠t→(k<b∨b+11≤k)→γ2 k=γ k:=fun k h1 h2=>(hk2 k h1 (by omega)).trans (HK1.out k (by omega));have hsl:tS γ2 b g s:=⟨ga,gf,v,h2⟩;rcases hs2.2 with⟨rfl,h0⟩|⟨g',cap,cur,rfl,-,hcap,-⟩
   ·have HF:Hid (bX w0 γ b g t s (.returned (.slice none 0 0)) wr):=I ⟨_,γ2,rfl,ho2,hsl,hs2.qN,hfr⟩;clear hs2 ho2 hk2 h2 hp2 hfr hsl hall;go_wp2_with fail;refine(dG _ _).mono ?_;rintro e w' ⟨rfl,rfl⟩;go_wp2_with fail;go_ret;exact HF.out
   ·have HF:Hid (bX w0 γ b g t s (.returned (.slice (zb g') s.run.length s.run.length)) wr):=I ⟨_,γ2,rfl,ho2,hsl,hs2.clip,hfr⟩;clear hs2 ho2 hk2 h2 hp2 hfr hsl hall;go_wp2_with fail;refine(fI _ _ _ _ hcap (by omega)).mono ?_;rintro e w' ⟨rfl,rfl⟩;go_wp2_with fail;go_ret;exact HF.out
end
end
section
open Go.RowKit Go.WideShapes
def SV.pick(s:SV)(x:Int):Value:=if 0≤x∧x<s.run.length then .tuple #[.i (s.list.getD x.toNat 0),.bool true]else .tuple #[.i 0,.bool false]
def fe(w0:World)(γ:U)(b g:Nat)(s:SV)(r:Value)(e:Ending)(w':World):Prop:=
 e=.returned r∧∃γ',Own w0 w' γ'∧tS γ' b g s∧∀k,(k<b∨b+12≤k)→γ' k=γ k
def SV.spawn(s:SV):SV:=match s.ar.fr with
 |i::_=>SV.ready {s with ar:=s.ar.take,wD:=s.wD.set i (s.ar.hand i)} (s.ar.hand i)
 |[]=>s
theorem AV.take_len(v:AV):v.take.pl.length=v.pl.length:=by
 unfold AV.take;split
 ·exact List.length_modify _ _ _
 ·rfl
theorem AV.sQ{v:AV}(hv:v.Ok){i:Nat}(hi:i<v.pl.length):Ar.ix (v.hand i)=i∧1≤v.hand i∧v.hand i≤4096:=by
 have h16:=hv.len;obtain⟨p,hp⟩:∃p,v.pl[i]? =some p:=⟨_,zl hi⟩;have hg:=hv.gen i p hp;have e:v.hand i=1+(i:Int)+16*(p.1:Int):=by unfold AV.hand;rw[hp]
 rw[e];refine⟨?_,by omega,by omega⟩;unfold Ar.ix;omega
theorem AV.ft{v:AV}(hv:v.Ok){i:Nat}{r:List Nat}(hf:v.fr=i::r):v.take.place (v.hand i)=i:=by
 obtain⟨g,hg⟩:=hv.fr i (by rw[hf];simp);obtain⟨h1,h2,h3⟩:=AV.sQ hv (zk.1 hg).1;have e1:v.take=⟨v.pl.modify i fun p=>(p.1,true),r⟩:=by unfold AV.take;rw[hf]
 have e2:v.take.pl[i]? =some (g,true):=by rw[e1];show(v.pl.modify i _)[i]? =_;rw[List.getElem?_modify,hg];simp
 have e3:v.take.hand i=v.hand i:=by unfold AV.hand;rw[e2,hg]
 unfold AV.place;rw[if_neg (by omega),h1,e2];exact if_pos ⟨rfl,e3⟩
theorem ints_set(l:List Int)(i:Nat)(x:Int):(ints l).set i (.i x)=ints (l.set i x):=by simp[ints,List.map_set]
section
variable {w0 w:World} {γ:U} {b g ga gf:Nat} {v:Value} {s:SV}
theorem PO(h:tS γ b g s)(ho:Own w0 w γ)(x:Int)(htn:γ (b+9)=none):Calls Tryz.prog 64 #[.p g,.i x] w (fe w0 γ b g s (s.pick x)):=by
 have hr:=SF h ho (b+11) (by omega) htn;have hll:s.list.length=s.run.length:=by simp[SV.list]
 by_cases hx:0≤x∧x<s.run.length
 ·have e1:s.pick x=.tuple #[.i (s.list.getD x.toNat 0),.bool true]:=if_pos hx;obtain⟨i,rfl⟩:∃i:Nat,x=i:=⟨x.toNat,by omega⟩;rw[e1,zu];have d1:decide ((i:Int)<0)=false:=by simp
  have d2:decide ((s.run.length:Int)≤i)=false:=by simp;omega
  have hin:(i:Int)<s.run.length:=hx.2;go_in;go_wp2_with fail;refine hr.mono ?_;rintro e w1 ⟨v1,γ1,rfl,ho1,hs1,hp1,hk1⟩;obtain⟨g1,c1,rfl,-,hr1⟩:=hp1.row ho1 (by omega);have hc:=hr1 i (.i (s.list.getD i 0)) (by simp[ints,zx,zl (show i<s.list.length by omega),zn]);have HF:Hid (fe w0 γ b g s (.tuple #[.i (s.list.getD i 0),.bool true]) (.returned (.tuple #[.i (s.list.getD i 0),.bool true])) w1):=I ⟨rfl,γ1,ho1,hs1,fun k hk=>hk1 k (by omega) (by omega)⟩;generalize s.list.getD i 0=y at*;generalize s.run.length=m at*;clear hr1 hp1 hs1 ho1 hk1 hr h ho e1;go_wp2_with fail;go_ret2;exact HF.out
 ·have e1:s.pick x=.tuple #[.i 0,.bool false]:=if_neg hx;rw[e1];have hcase:x<0∨(s.run.length:Int)≤x:=by omega
  rcases hcase with hneg|hge
  ·have d1:decide (x<0)=true:=by simpa using hneg
   go_in;go_wp2_with fail;refine hr.mono ?_;rintro e w1 ⟨v1,γ1,rfl,ho1,hs1,hp1,hk1⟩;have HF:Hid (fe w0 γ b g s (.tuple #[.i 0,.bool false]) (.returned (.tuple #[.i 0,.bool false])) w1):=I ⟨rfl,γ1,ho1,hs1,fun k hk=>hk1 k (by omega) (by omega)⟩;clear hp1 hs1 ho1 hk1 hr h ho e1 hx hneg;go_wp2_with fail;go_ret2;exact HF.out
  ·have d1:decide (x<0)=false:=by simp;omega
   have d2:decide ((s.run.length:Int)≤x)=true:=by simpa using hge
   go_in;go_wp2_with fail;refine hr.mono ?_;rintro e w1 ⟨v1,γ1,rfl,ho1,hs1,hp1,hk1⟩;obtain⟨A1,c1,rfl⟩:=hp1.form;have HF:Hid (fe w0 γ b g s (.tuple #[.i 0,.bool false]) (.returned (.tuple #[.i 0,.bool false])) w1):=I ⟨rfl,γ1,ho1,hs1,fun k hk=>hk1 k (by omega) (by omega)⟩;generalize s.run.length=m at*;clear hp1 hs1 ho1 hk1 hr h ho e1 hx hge;go_wp2_with fail;go_ret2;exact HF.out
theorem aJ(h:s.ar.fr=[]):s.spawn=s:=by unfold SV.spawn;rw[h]
theorem fq{i:Nat}{r:List Nat}(h:s.ar.fr=i::r):s.spawn=SV.ready {s with ar:=s.ar.take,wD:=s.wD.set i (s.ar.hand i)} (s.ar.hand i):=by unfold SV.spawn;rw[h]
theorem XA(h:tS γ b g s)(ho:Own w0 w γ):Calls Tryz.prog 77 #[.p g] w (ud w0 γ b g s.spawn s.ar.taken):=by
 have hok:=h.wV;obtain⟨ga,gf,v,h⟩:=h;have hwho:=h.wD;obtain⟨c0,-⟩:=h.cells ho;have ht:=bD h.2.1 ho;cases hf:s.ar.fr with
 |nil=>
  have e2:s.ar.taken=.tuple #[.i 0,.bool false]:=by unfold AV.taken;rw[hf]
  rw[aJ hf,e2];rw[e2]at ht;have e3:s.ar.take=s.ar:=by unfold AV.take;rw[hf]
  rw[e3]at ht;have HF:Hid (∀e w',jT w0 γ (b+1) ga s.ar (.tuple #[.i 0,.bool false]) e w'→ud w0 γ b g s (.tuple #[.i 0,.bool false]) e w'):=I fun e w' he=>by obtain⟨rfl,γ',ho',hf',hk⟩:=he;exact⟨rfl,γ',ho',⟨ga,gf,v,h.WG hf' rfl hk⟩,fun k hk'=>hk k (by omega)⟩
  clear h ho e2 e3 hf;go_in;go_wp2_with fail;refine ht.mono ?_;rintro e w' he;have he':=HF.out _ _ he;obtain⟨rfl,-⟩:=he;go_wp2_with fail;go_ret2;exact he'
 |cons i r=>
  have hil:i<s.ar.pl.length:=by obtain⟨q,hq⟩:=hok.fr i (by rw[hf];simp);exact(zk.1 hq).1
  have e2:s.ar.taken=.tuple #[.i (s.ar.hand i),.bool true]:=by unfold AV.taken;rw[hf]
  have hpl:=AV.ft hok hf;obtain⟨-,hh1,hh2⟩:=AV.sQ hok hil;have hln:=AV.take_len s.ar;rw[fq hf,e2];rw[e2]at ht;have H:=I h;clear h ho e2 hok;generalize s.ar.hand i=x at*;go_in;go_wp2_with fail;refine ht.mono ?_;rintro e w1 ⟨rfl,γ1,ho1,ha1,hk1⟩;have h1:=H.out.WG ha1 hln hk1;obtain⟨c0',c1',c2'⟩:=h1.cells ho1;have hpc:=fun(W:World) (hW:Own w0 W γ1)=>ur (w:=W) ⟨ga,gf,v,h1⟩ hW x (by omega);obtain⟨gw,cw,rfl,hwc,hwf,hws⟩:=h1.2.2.2.jP ho1.drew (i:=i) (by show i<s.ar.take.pl.length;omega);obtain⟨γ2,ho2,hs2,hk2⟩:=hws (.i x);rw[ints_set]at hs2;have h2:qg γ2 b g ga gf (.slice (zb gw) s.ar.take.pl.length cw) {s with ar:=s.ar.take,wD:=s.wD.set i x}:=⟨(hk2 _ (by omega)).trans h1.1,h1.2.1.keep fun k _ _=>hk2 k (by omega),h1.2.2.1.keep fun k _ _=>hk2 k (by omega),hs2⟩;have hrd:=bZ ⟨ga,gf,_,h2⟩ ho2 x (by omega);have HF:Hid (∀e w',ud w0 γ2 b g (SV.ready {s with ar:=s.ar.take,wD:=s.wD.set i x} x) (.bool (SV.rG {s with ar:=s.ar.take,wD:=s.wD.set i x} x)) e w'→ud w0 γ b g (SV.ready {s with ar:=s.ar.take,wD:=s.wD.set i x} x) (.tuple #[.i x,.bool true]) (.returned (.tuple #[.i x,.bool true])) w'):=I fun e w' he=>by obtain⟨-,γ',ho',hf',hk⟩:=he;exact⟨rfl,γ',ho',hf',fun k hk'=>(hk k (by omega)).trans ((hk2 k (by omega)).trans (hk1 k (by omega)))⟩
  have hpl':({s with ar:=s.ar.take}:SV).ar.place x=i:=hpl;rw[hpl']at hpc;have him:(i:Int)<s.ar.take.pl.length:=by omega
  have HO:=I ho1.drew;generalize SV.rG _ x=rb at*;generalize SV.ready _ x=sr at*;change w1.drew.cell? (zc gw i)=_ at hwc;generalize s.ar.take.pl.length=m at*;clear h1 ho1 ha1 hk1 hws ho2 hs2 hk2 h2 ht hpl hpl' hf hln c0;go_wp2_with fail;refine yP.region [0,1,2,3,4,5,7] (.step 6 (.step 8 (.step 9 .done))) (fun w'=>w'.cell? (zc g 2)=some (.slice (zb gw) m cw)) (by kernel_rfl) (by kernel_rfl) (fun _ _ _ _ _ h=>h) (by(go_simp;try first|done|assumption)) ?_;repeat
   refine Perm.xm rfl ?_ (fun w' hS=>?_) ?_;rotate_left
   ·(have s0:=hS;go_simp;try with_reducible rfl)
   simp only[pt]
  refine Perm.xt ?_;refine yP.yY rfl (by rfl) ?_;refine yP.xJ rfl 103 _ _ rfl (by kernel_rfl) _ rfl ((hpc _ HO.out).mono ?_);rintro e w' ⟨rfl,rfl⟩;refine⟨_,rfl,fun _ h=>h,?_⟩;simp only[pt];refine yP.yY rfl (by rfl) ?_;refine yP.rP rfl ?_ ?_ ?_;rotate_left
  ·(go_simp;try with_reducible rfl)
  simp only[pt];refine yP.yY rfl (by rfl) ?_;refine yP.xy rfl .skip undef (.inr ⟨rfl,rfl⟩) (w':=?_) ?_ (Perm.xx (by kernel_rfl)) ?_;rotate_left
  ·(go_simp;try with_reducible rfl)
  simp only[pt];refine yP.xC ?_;go_wp2_with fail;refine hrd.mono ?_;rintro e w' he;have he':=HF.out _ _ he;obtain⟨rfl,-⟩:=he;go_wp2_with fail;go_ret2;exact he'
end
end
end Go.Proofs.YtkmamlifgbocgaaGreat
