/- What the program's code does, as contracts, and what follows of it, part 4: for the law's proof. -/
import Derived.Test.YtkmamlifgbocgaaGreatP00
import Derived.Test.YtkmamlifgbocgaaGreatP03
import Derived.Deep.RegionLaw
set_option linter.unusedVariables false
set_option linter.unusedSimpArgs false
set_option maxRecDepth 100000
set_option maxHeartbeats 16000000
namespace Go.Proofs.YtkmamlifgbocgaaGreat
section
open Go.RowKit Go.WideShapes
def vj{α:Type}(l:List α)(p:α→Bool):Int:=if l.any p=true then(l.findIdx p:Int)else -1
theorem qX{α:Type}{l:List α}{p:α→Bool}{j:Nat}{x:α}(h:∀y∈l.take j,p y=false)(hx:l[j]? =some x)(hp:p x=true):vj l p=j:=by obtain⟨hj,rfl⟩:=zk.1 hx;unfold vj;rw[if_pos (z7.2 ⟨_,List.getElem_mem hj,hp⟩)];have:l.findIdx p=j:=(List.findIdx_eq hj).2 ⟨hp,fun i hi=>h _ (List.mem_take_iff_getElem.2 ⟨i,by omega,rfl⟩)⟩;omega
theorem rA{α:Type}{l:List α}{p:α→Bool}(h:∀y∈l,p y=false):vj l p= -1:=if_neg (by rw[z7];rintro⟨x,hx,hp⟩;rw[h x hx]at hp;cases hp)
theorem qW{α:Type}(l:List α)(p:α→Bool):decide (0≤vj l p)=l.any p:=by
 unfold vj;by_cases h:l.any p=true
 ·rw[if_pos h,h];simp
 ·rw[if_neg h];simp at h⊢;exact fun x hx=>by simp[h x hx]
theorem vK{α:Type}{l:List α}{p:α→Bool}{j:Nat}{x:α}(h:∀y∈l.take j,p y=false)(hx:l[j]? =some x)(hp:p x=false):∀y∈l.take (j+1),p y=false:=by
 intro y hy;rw[yk,zB,hx]at hy;rcases hy with hy|hy
 ·exact h y hy
 ·simp at hy;subst hy;exact hp
def jd{α:Type}(gf:Nat)(lb:Array Value)(rV:α→Value)(p:α→Bool)(l:List α)(w:World):Prop:=
 ∀x∈l,∀W,Below w.heap.size w W→Calls Tryz.prog gf (#[rV x]++lb) W fun e W'=>e=.returned (.bool (p x))∧Below w.heap.size w W'
def fc(x:Int×Int):Value:=.agg #[.i x.1,.i x.2]
def Pu(x:Int):Value:=.i x
def xF(x:Int×Int):List Value:=[.i x.1,.i x.2]
theorem Below.xT{w W:World}(hb:Below w.heap.size w W){p:Addr}{u:Value}(h:w.cell? p=some u):W.cell? p=some u:=(hb.cell (World.block_lt_of_cell? w _ h)).trans h
theorem ZS{w:World}{A:Option Addr}{n cap:Nat}{l:List (Int×Int)}(hl:l.length=n)(hn:n≤1000)(gf:Nat)(lb:Array Value)(eg:∀args w,(callFunc gf args).run Tryz.prog w=.ok (.enter gf args) w)(p:(Int×Int)→Bool)(hp:jd gf lb fc p l w)(hc:∀j x,l[j]? =some x→∃g,A=zb g∧w.cell? (zc g (j*2))=some (.i x.1)∧w.cell? (zc g (j*2+1))=some (.i x.2)):Calls Tryz.prog 199 #[.slice A n cap,.func (.func gf) #[] lb] w fun e w'=>e=.returned (.i (vj l p))∧Below w.heap.size w w':=by
 have HC:=I hc;have HP:=I hp;clear hc hp;go_in;go_wp2_with fail;go_loopw [8] (fun i wr=>∃j:Nat,i=.i j∧j≤n∧Below w.heap.size w wr∧∀y∈l.take j,p y=false) (fun i _=>n-(intOf i).toNat);case atStart=>exact⟨0,rfl,by omega,Below.refl _ _,by simp⟩
 case round=>
  obtain⟨j,rfl,hj,hb,hnot⟩:=hrel;by_cases hlt:j<n
  ·have dl:decide ((j:Int)<n)=true:=by simpa using hlt
   have hx:l[j]? =some l[j]:=zl (by omega);generalize l[j]=x at*;obtain⟨g,rfl,c0,c1⟩:=HC.out j x hx;replace c0:=Below.xT hb c0;replace c1:=Below.xT hb c1;have hm:x∈l:=zo hx;have hcall:=HP.out x hm wr hb;cases hpx:p x with
   |true=> have HR:=I (qX hnot hx hpx);rw[hpx]at hcall;clear hnot hx hm hb hpx;go_wp2_with fail;refine hcall.mono ?_;rintro e w' ⟨rfl,hb'⟩;go_wp2_with fail;go_ret;exact⟨by rw[HR.out];rfl,hb'⟩
   |false=>
    have HN:=I (vK hnot hx hpx);rw[hpx]at hcall;clear hnot hx hm hb hpx;go_wp2_with fail;refine hcall.mono ?_;rintro e w' ⟨rfl,hb'⟩;go_wp2_with fail;go_roundw;case rel=>exact⟨j+1,rfl,by omega,hb',HN.out⟩
    case measure=>simp[intOf];omega
  ·obtain rfl:j=n:=by omega
   have dl:decide ((j:Int)<j)=false:=by simp
   have hr:vj l p= -1:=rA (by rw[zO (by omega)]at hnot;exact hnot);have HR:=I hr;have HB:=I hb;clear hr hb hnot;go_wp2_with fail;go_ret;exact⟨by rw[HR.out];rfl,HB.out⟩
theorem ZT{w:World}{A:Option Addr}{n cap:Nat}{l:List (Int×Int)}(hl:l.length=n)(hn:n≤1000)(gf:Nat)(lb:Array Value)(eg:∀args w,(callFunc gf args).run Tryz.prog w=.ok (.enter gf args) w)(p:(Int×Int)→Bool)(hp:jd gf lb fc p l w)(hc:∀j x,l[j]? =some x→∃g,A=zb g∧w.cell? (zc g (j*2))=some (.i x.1)∧w.cell? (zc g (j*2+1))=some (.i x.2)):Calls Tryz.prog 263 #[.slice A n cap,.func (.func gf) #[] lb] w fun e w'=>e=.returned (.i (vj l p))∧Below w.heap.size w w':=by
 have HC:=I hc;have HP:=I hp;clear hc hp;go_in;go_wp2_with fail;go_loopw [8] (fun i wr=>∃j:Nat,i=.i j∧j≤n∧Below w.heap.size w wr∧∀y∈l.take j,p y=false) (fun i _=>n-(intOf i).toNat);case atStart=>exact⟨0,rfl,by omega,Below.refl _ _,by simp⟩
 case round=>
  obtain⟨j,rfl,hj,hb,hnot⟩:=hrel;by_cases hlt:j<n
  ·have dl:decide ((j:Int)<n)=true:=by simpa using hlt
   have hx:l[j]? =some l[j]:=zl (by omega);generalize l[j]=x at*;obtain⟨g,rfl,c0,c1⟩:=HC.out j x hx;replace c0:=Below.xT hb c0;replace c1:=Below.xT hb c1;have hm:x∈l:=zo hx;have hcall:=HP.out x hm wr hb;cases hpx:p x with
   |true=> have HR:=I (qX hnot hx hpx);rw[hpx]at hcall;clear hnot hx hm hb hpx;go_wp2_with fail;refine hcall.mono ?_;rintro e w' ⟨rfl,hb'⟩;go_wp2_with fail;go_ret;exact⟨by rw[HR.out];rfl,hb'⟩
   |false=>
    have HN:=I (vK hnot hx hpx);rw[hpx]at hcall;clear hnot hx hm hb hpx;go_wp2_with fail;refine hcall.mono ?_;rintro e w' ⟨rfl,hb'⟩;go_wp2_with fail;go_roundw;case rel=>exact⟨j+1,rfl,by omega,hb',HN.out⟩
    case measure=>simp[intOf];omega
  ·obtain rfl:j=n:=by omega
   have dl:decide ((j:Int)<j)=false:=by simp
   have hr:vj l p= -1:=rA (by rw[zO (by omega)]at hnot;exact hnot);have HR:=I hr;have HB:=I hb;clear hr hb hnot;go_wp2_with fail;go_ret;exact⟨by rw[HR.out];rfl,HB.out⟩
theorem ZU{w:World}{A:Option Addr}{n cap:Nat}{l:List Value}(hl:l.length=n)(hn:n≤1000)(gf:Nat)(lb:Array Value)(eg:∀args w,(callFunc gf args).run Tryz.prog w=.ok (.enter gf args) w)(p:Value→Bool)(hp:jd gf lb id p l w)(hc:∀j x,l[j]? =some x→∃g,A=zb g∧w.cell? (zc g j)=some (x)):Calls Tryz.prog 269 #[.slice A n cap,.func (.func gf) #[] lb] w fun e w'=>e=.returned (.i (vj l p))∧Below w.heap.size w w':=by
 have HC:=I hc;have HP:=I hp;clear hc hp;go_in;go_wp2_with fail;go_loopw [8] (fun i wr=>∃j:Nat,i=.i j∧j≤n∧Below w.heap.size w wr∧∀y∈l.take j,p y=false) (fun i _=>n-(intOf i).toNat);case atStart=>exact⟨0,rfl,by omega,Below.refl _ _,by simp⟩
 case round=>
  obtain⟨j,rfl,hj,hb,hnot⟩:=hrel;by_cases hlt:j<n
  ·have dl:decide ((j:Int)<n)=true:=by simpa using hlt
   have hx:l[j]? =some l[j]:=zl (by omega);generalize l[j]=x at*;obtain⟨g,rfl,c0⟩:=HC.out j x hx;replace c0:=Below.xT hb c0;have hm:x∈l:=zo hx;have hcall:=HP.out x hm wr hb;cases hpx:p x with
   |true=> have HR:=I (qX hnot hx hpx);rw[hpx]at hcall;clear hnot hx hm hb hpx;go_wp2_with fail;refine hcall.mono ?_;rintro e w' ⟨rfl,hb'⟩;go_wp2_with fail;go_ret;exact⟨by rw[HR.out];rfl,hb'⟩
   |false=>
    have HN:=I (vK hnot hx hpx);rw[hpx]at hcall;clear hnot hx hm hb hpx;go_wp2_with fail;refine hcall.mono ?_;rintro e w' ⟨rfl,hb'⟩;go_wp2_with fail;go_roundw;case rel=>exact⟨j+1,rfl,by omega,hb',HN.out⟩
    case measure=>simp[intOf];omega
  ·obtain rfl:j=n:=by omega
   have dl:decide ((j:Int)<j)=false:=by simp
   have hr:vj l p= -1:=rA (by rw[zO (by omega)]at hnot;exact hnot);have HR:=I hr;have HB:=I hb;clear hr hb hnot;go_wp2_with fail;go_ret;exact⟨by rw[HR.out];rfl,HB.out⟩
theorem ZV{w:World}{A:Option Addr}{n cap:Nat}{l:List Int}(hl:l.length=n)(hn:n≤1000)(gf:Nat)(lb:Array Value)(eg:∀args w,(callFunc gf args).run Tryz.prog w=.ok (.enter gf args) w)(p:Int→Bool)(hp:jd gf lb Pu p l w)(hc:∀j x,l[j]? =some x→∃g,A=zb g∧w.cell? (zc g j)=some (.i x)):Calls Tryz.prog 283 #[.slice A n cap,.func (.func gf) #[] lb] w fun e w'=>e=.returned (.i (vj l p))∧Below w.heap.size w w':=by
 have HC:=I hc;have HP:=I hp;clear hc hp;go_in;go_wp2_with fail;go_loopw [8] (fun i wr=>∃j:Nat,i=.i j∧j≤n∧Below w.heap.size w wr∧∀y∈l.take j,p y=false) (fun i _=>n-(intOf i).toNat);case atStart=>exact⟨0,rfl,by omega,Below.refl _ _,by simp⟩
 case round=>
  obtain⟨j,rfl,hj,hb,hnot⟩:=hrel;by_cases hlt:j<n
  ·have dl:decide ((j:Int)<n)=true:=by simpa using hlt
   have hx:l[j]? =some l[j]:=zl (by omega);generalize l[j]=x at*;obtain⟨g,rfl,c0⟩:=HC.out j x hx;replace c0:=Below.xT hb c0;have hm:x∈l:=zo hx;have hcall:=HP.out x hm wr hb;cases hpx:p x with
   |true=> have HR:=I (qX hnot hx hpx);rw[hpx]at hcall;clear hnot hx hm hb hpx;go_wp2_with fail;refine hcall.mono ?_;rintro e w' ⟨rfl,hb'⟩;go_wp2_with fail;go_ret;exact⟨by rw[HR.out];rfl,hb'⟩
   |false=>
    have HN:=I (vK hnot hx hpx);rw[hpx]at hcall;clear hnot hx hm hb hpx;go_wp2_with fail;refine hcall.mono ?_;rintro e w' ⟨rfl,hb'⟩;go_wp2_with fail;go_roundw;case rel=>exact⟨j+1,rfl,by omega,hb',HN.out⟩
    case measure=>simp[intOf];omega
  ·obtain rfl:j=n:=by omega
   have dl:decide ((j:Int)<j)=false:=by simp
   have hr:vj l p= -1:=rA (by rw[zO (by omega)]at hnot;exact hnot);have HR:=I hr;have HB:=I hb;clear hr hb hnot;go_wp2_with fail;go_ret;exact⟨by rw[HR.out];rfl,HB.out⟩
theorem dZ{w:World}{A:Option Addr}{n cap:Nat}{l:List (Int×Int)}(hl:l.length=n)(hn:n≤1000)(gf:Nat)(lb:Array Value)(eg:∀args w,(callFunc gf args).run Tryz.prog w=.ok (.enter gf args) w)(p:(Int×Int)→Bool)(hp:jd gf lb fc p l w)(hc:∀j x,l[j]? =some x→∃g,A=zb g∧w.cell? (zc g (j*2))=some (.i x.1)∧w.cell? (zc g (j*2+1))=some (.i x.2)):Calls Tryz.prog 202 #[.slice A n cap,.func (.func gf) #[] lb] w fun e w'=>e=.returned (.bool (l.any p))∧Below w.heap.size w w':=by have hi:=ZT (cap:=cap) hl hn gf lb eg p hp hc;rw[←qW];generalize vj l p=y at*;clear hp hc eg;go_in;go_wp2_with fail;refine hi.mono ?_;rintro e w' ⟨rfl,hb⟩;have HB:=I hb;clear hb hi;go_wp2_with fail;go_ret;exact⟨rfl,HB.out⟩
theorem Ss{w:World}{A:Option Addr}{n cap:Nat}{l:List Value}(hl:l.length=n)(hn:n≤1000)(gf:Nat)(lb:Array Value)(eg:∀args w,(callFunc gf args).run Tryz.prog w=.ok (.enter gf args) w)(p:Value→Bool)(hp:jd gf lb id p l w)(hc:∀j x,l[j]? =some x→∃g,A=zb g∧w.cell? (zc g j)=some (x)):Calls Tryz.prog 206 #[.slice A n cap,.func (.func gf) #[] lb] w fun e w'=>e=.returned (.bool (l.any p))∧Below w.heap.size w w':=by have hi:=ZU (cap:=cap) hl hn gf lb eg p hp hc;rw[←qW];generalize vj l p=y at*;clear hp hc eg;go_in;go_wp2_with fail;refine hi.mono ?_;rintro e w' ⟨rfl,hb⟩;have HB:=I hb;clear hb hi;go_wp2_with fail;go_ret;exact⟨rfl,HB.out⟩
theorem cc{w:World}{A:Option Addr}{n cap:Nat}{l:List Int}(hl:l.length=n)(hn:n≤1000)(gf:Nat)(lb:Array Value)(eg:∀args w,(callFunc gf args).run Tryz.prog w=.ok (.enter gf args) w)(p:Int→Bool)(hp:jd gf lb Pu p l w)(hc:∀j x,l[j]? =some x→∃g,A=zb g∧w.cell? (zc g j)=some (.i x)):Calls Tryz.prog 271 #[.slice A n cap,.func (.func gf) #[] lb] w fun e w'=>e=.returned (.bool (l.any p))∧Below w.heap.size w w':=by have hi:=ZV (cap:=cap) hl hn gf lb eg p hp hc;rw[←qW];generalize vj l p=y at*;clear hp hc eg;go_in;go_wp2_with fail;refine hi.mono ?_;rintro e w' ⟨rfl,hb⟩;have HB:=I hb;clear hb hi;go_wp2_with fail;go_ret;exact⟨rfl,HB.out⟩
end
section
open Go.RowKit Go.WideShapes
structure Sm where
 size:Int
 f:Int
 ws:List (Int×Int)
structure Sm.Ok (m:Sm):Prop where
 s1:1≤m.size
 s2:m.size≤16
 f1:0≤m.f
 f2:m.f≤m.size
 n1:∀x∈m.ws,1≤x.2∧x.2≤m.size
 len:m.ws.length≤100
def Ni(γ:U)(b g:Nat)(v:Value)(m:Sm):Prop:=
 γ b=some (g,.cells #[.i m.size,.i m.f,v] 272 (0,0))∧yR γ (b+1) 270 2 v m.ws.length (yW xF m.ws)∧m.Ok
def vJ(γ:U)(b g:Nat)(m:Sm):Prop:=∃v,Ni γ b g v m
theorem vJ.keep{γ γ':U}{b g:Nat}{m:Sm}(h:vJ γ b g m)(hk:∀k,b≤k→k<b+2→γ' k=γ k):vJ γ' b g m:=by obtain⟨v,h1,h2,h3⟩:=h;exact⟨v,by rw[hk _ (by omega) (by omega)];exact h1,h2.keep (hk _ (by omega) (by omega)),h3⟩
def Sm.at_(m:Sm)(x:Int):Int:=vj m.ws fun p=>p.1==x
def Sm.xP(m:Sm)(x n:Int):Int:=if x<1∨n<1∨m.size<n then 1 else if 0≤m.at_ x then 11 else if m.ws≠[]∨m.f<n then 12 else 0
def Sm.wi(m:Sm)(x n:Int):Sm:=if m.xP x n=0 then{m with f:=m.f-n}else m
def Sm.pV(m:Sm)(x n:Int):Int:=if m.xP x n=12 then 14 else m.xP x n
def Sm.fx(m:Sm)(x n:Int):Sm:=if m.xP x n=12 then{m with ws:=m.ws++[(x,n)]}else m.wi x n
def qa:Int→List (Int×Int)→Int×List (Int×Int)×List Int
 |f,[]=>(f,[],[])
 |f,p::r=>if p.2≤f then((qa (f-p.2) r).1,(qa (f-p.2) r).2.1,p.1::(qa (f-p.2) r).2.2)else(f,p::r,[])
def Sm.serve(m:Sm):Sm×List Int:=({m with f:=(qa m.f m.ws).1,ws:=(qa m.f m.ws).2.1},(qa m.f m.ws).2.2)
theorem rC(x:Int×Int):(xF x).length=2:=rfl
theorem fR(l:List (Int×Int)):∀u∈yW xF l,u.oneCell'=true:=si (f:=xF) (by intro x u hu;simp[xF]at hu;rcases hu with rfl|rfl<;>rfl) l
theorem Sm.Ok.wi{m:Sm}(h:m.Ok)(x n:Int):(m.wi x n).Ok:=by
 unfold Sm.wi;split
 case isTrue e=>
  unfold Sm.xP at e;by_cases c:x<1∨n<1∨m.size<n
  ·rw[if_pos c]at e;cases e
  ·rw[if_neg c]at e;by_cases c2:0≤m.at_ x
   ·rw[if_pos c2]at e;cases e
   ·rw[if_neg c2]at e;by_cases c3:m.ws≠[]∨m.f<n
    ·rw[if_pos c3]at e;cases e
    ·have:¬m.f<n:=fun h=>c3 (.inr h);exact⟨h.s1,h.s2,by show 0≤m.f-n;omega,by show m.f-n≤m.size;have:=h.f2;omega,h.n1,h.len⟩
 case isFalse=>exact h
theorem Below.trans'{a b c:World}(h:Below a.heap.size a b)(k:Below b.heap.size b c):Below a.heap.size a c:=h.trans ⟨k.os,k.tape,k.output,k.size,fun i hi=>k.block i (by have:=h.size;omega)⟩
section
variable {w0 w:World} {γ:U} {b g:Nat} {m:Sm}
theorem Ql(ho:Own w0 w γ)(b:Nat)(x k:Int)(hk:1≤k∧k≤16)(h:x=k):Calls Tryz.prog 214 #[.i x] w fun e w'=>∃g γ',e=.returned (.p g)∧Own w0 w' γ'∧vJ γ' b g ⟨k,k,[]⟩∧∀j,j≠b→γ' j=γ j:=by
 have HF:Hid (∃g γ',Ending.returned (.p w.heap.size)=.returned (.p g)∧Own w0 (w.alloc (.cells #[.i k,.i k,.slice none 0 0] 272)) γ'∧vJ γ' b g ⟨k,k,[]⟩∧∀j,j≠b→γ' j=γ j):=I ⟨_,_,rfl,ho.new b _,⟨_,yQ _ _ _ _,yR.nil _ _ _ _,⟨hk.1,hk.2,by show 0≤k;omega,Int.le_refl _,by simp,by simp⟩⟩,fun k hk=>yO _ _ _ hk⟩;subst h;clear ho;go_in;go_wp2_with fail
 ·go_ret;obtain⟨g,γ',q1,q2⟩:=HF.out;exact⟨g,q1,γ',q2⟩
 ·obtain rfl:x=1:=by omega
  go_ret;obtain⟨g,γ',q1,q2⟩:=HF.out;exact⟨g,q1,γ',q2⟩
theorem UF(h:vJ γ b g m)(ho:Own w0 w γ):Calls Tryz.prog 220 #[.p g] w fun e w'=>e=.returned (.i m.f)∧w=w':=by obtain⟨v,h1,-⟩:=h;have c0:=ho.cell h1 (i:=1) (v:=.i m.f) rfl;clear h1 ho;go_in;go_wp2_with fail;go_ret;exact⟨rfl,rfl⟩
theorem UH(h:vJ γ b g m)(ho:Own w0 w γ):Calls Tryz.prog 221 #[.p g] w fun e w'=>e=.returned (.i m.size)∧w=w':=by obtain⟨v,h1,-⟩:=h;have c0:=ho.cell h1 (i:=0) (v:=.i m.size) rfl;clear h1 ho;go_in;go_wp2_with fail;go_ret;exact⟨rfl,rfl⟩
theorem Qk{w:World}{g:Nat}(a b x:Int)(hc:w.cell? (zc g 0)=some (.i x)):Calls Tryz.prog 200 #[.agg #[.i a,.i b],.p g] w fun e w'=>e=.returned (.bool (a==x))∧w'=w.alloc (.cells #[.i a,.i b] 270):=by have hc2:=xU hc (.cells #[.i a,.i b] 270);go_in;go_wp2_with fail;go_ret;exact⟨rfl,rfl⟩
theorem qH{A:Option Addr}{cap:Nat}{l:List (Int×Int)}{t e:Nat}(hs:yR γ t e 2 (.slice A l.length cap) l.length (yW xF l))(ho:Own w0 w γ):∀j x,l[j]? =some x→∃g,A=zb g∧w.cell? (zc g (j*2))=some (.i x.1)∧w.cell? (zc g (j*2+1))=some (.i x.2):=by intro j x hx;have hj:=(zk.1 hx).1;obtain⟨g',c',hv,_,hc⟩:=hs.qN.row ho (by omega);cases hv;exact⟨g',rfl,hc _ _ (by have:=vf rC hx 0 (by omega);simpa[xF]using this),hc _ _ (by have:=vf rC hx 1 (by omega);simpa[xF]using this)⟩
theorem UE(h:vJ γ b g m)(ho:Own w0 w γ)(x:Int):Calls Tryz.prog 158 #[.p g,.i x] w fun e w'=>e=.returned (.i (m.at_ x))∧Below w.heap.size w w':=by
 obtain⟨v,h1,h2,h3⟩:=h;have hmf:∀(fn:Fn) (first cap:Array Value) (w:World),(Instr.makeFunc fn first cap).run Tryz.prog w=.ok (.func fn first cap) w:=fun _ _ _ _=>rfl;have c0:=ho.cell h1 (i:=2) (v:=v) rfl;have c0':=xU c0 (.cells #[.i x] 3);have hb1:Below w.heap.size w (w.alloc (.cells #[.i x] 3)):=(Below.refl _ w).alloc (zm _) _;have o1:=ho.xh hb1;have hbx:(w.alloc (.cells #[.i x] 3)).cell? (zc w.heap.size 0)=some (.i x):=by rw[World.cell?_alloc_at _ _ _ _ rfl];rfl
 obtain⟨A,cap,rfl,-⟩:=h2.form;have hi:=ZS (w:=w.alloc (.cells #[.i x] 3)) (A:=A) (cap:=cap) (l:=m.ws) rfl (by have:=h3.len;omega) 200 #[.p w.heap.size] (enters_of Tryz.func200 (by kernel_rfl) rfl) (fun p=>p.1==x) (fun y _ W hW=>(Qk y.1 y.2 x (Below.xT hW hbx)).mono fun e W' ⟨q1,q2⟩=>⟨q1,by rw[q2];exact hW.alloc (by have:=hW.size;simp at this⊢;omega) _⟩) (qH h2 o1);have HB:=I hb1;have HR:Hid (m.at_ x=vj m.ws fun p=>p.1==x):=I rfl;generalize vj m.ws (fun p=>p.1==x)=y at*;generalize m.ws.length=k at*;clear h1 h2 h3 ho o1 hb1 c0;go_in;go_wp2_with fail;refine hi.mono ?_;rintro e w' ⟨rfl,hb⟩;have HB2:=I hb;clear hb hi;go_wp2_with fail;go_ret;exact⟨by rw[HR.out];rfl,Below.trans' HB.out HB2.out⟩
end
end
section
open Go.RowKit Go.WideShapes
theorem b8{P:Program}{ops:Array Oper}{o:Oper}{a:Act}{K:Act→World→Prop}{Q:Exit→Act→World→Prop}{E:Prop}{w:World}(hgd:o.guard=none)(d s:Operand)(dT:TypeId)(ho:o.op=.call {callee:=.builtin .copy,args:=#[d,s],argTypes:=#[dT,dT]})(elem:TypeId)(m:Nat)(hu:P.underlying dT=some (.slice elem))(hs:(P.info? elem).map (·.size)=some m){g off dLen dCap:Nat}{ad:Addr}{sLen sCap:Nat}{cur:Array Value}{t:TypeId}{cs:List Value}(hd:a.eval d=.slice (some (zc g off)) dLen dCap)(hsr:a.eval s=.slice (some ad) sLen sCap)(hg:w.heap[g]? =some (.cells cur t (0,0))){k:Nat}(hk:k=Nat.min sLen dLen)(hn:cs.length=k*m)(hsrc:∀j v,cs[j]? =some v→w.cell? (ad.add j)=some v)(hfit:off+cs.length≤cur.size)(h1:∀v∈cs,v.oneCell'=true)(h:K (a.put o.dst (goInt k)) (w.setRow g (cur.toList.take off++cs++cur.toList.drop (off+cs.length)).toArray)):if Region.wanted o (yielded ops a.tmps)=true then Oper.wp P o a w K Q else E:=by
 have hw:Region.wanted o (yielded ops a.tmps)=true:=by simp[Region.wanted,hgd]
 rw[if_pos hw];exact qO d s dT ho elem m hu hs hd hsr hg hk hn hsrc hfit h1 h
structure Bu where
 l:List (Int×Int)
 xE:Nat
def XH(γ:U)(b g:Nat)(cs:Array Value)(m:Bu):Prop:=
 γ b=some (g,.cells cs 172 (0,0))∧cs.size=18∧cs.toList.take (m.l.length*2)=yW xF m.l∧cs[16]? =some (.i m.l.length)∧cs[17]? =some (.i m.xE)∧m.l.length≤m.xE∧m.xE≤8
def ti(γ:U)(b g:Nat)(m:Bu):Prop:=∃cs,XH γ b g cs m
theorem ti.keep{γ γ':U}{b g:Nat}{m:Bu}(h:ti γ b g m)(hk:γ' b=γ b):ti γ' b g m:=by obtain⟨cs,h1,h2⟩:=h;exact⟨cs,by rw[hk];exact h1,h2⟩
def Bu.no(m:Bu)(x:Int×Int):Bool:=decide (m.l.length=m.xE)||m.l.any fun p=>p.1==x.1
def Bu.put(m:Bu)(x:Int×Int):Bu:=if m.no x=true then m else{m with l:=m.l++[x]}
def Bu.out(m:Bu):List (Int×Int):=m.l++List.replicate (m.xE-m.l.length) (0,0)
section
variable {w0 w:World} {γ:U} {b g:Nat} {m:Bu}
theorem XH.cell{cs:Array Value}(h:XH γ b g cs m)(ho:Own w0 w γ):∀j x,m.l[j]? =some x→∃g',some ((zc g 0):Addr)=zb g'∧w.cell? (zc g' (j*2))=some (.i x.1)∧w.cell? (zc g' (j*2+1))=some (.i x.2):=by
 intro j x hx;obtain⟨h1,h2,h3,-⟩:=h;have hj:=(zk.1 hx).1;have q:∀i,i<2→cs[j*2+i]? =(xF x)[i]? :=fun i hi=>by have:=vf rC hx i hi;rw[←h3,zG,if_pos (by omega)]at this;simpa using this
 exact⟨g,rfl,ho.cell h1 (by have:=q 0 (by omega);simpa[xF]using this),ho.cell h1 (by have:=q 1 (by omega);simpa[xF]using this)⟩
theorem SZ(ho:Own w0 w γ)(b:Nat)(x:Int)(k:Nat)(hk0:0<k)(hk:k≤8)(h:x=k):Calls Tryz.prog 60 #[.i x] w fun e w'=>∃g,e=.returned (.p g)∧∃γ',Own w0 w' γ'∧ti γ' b g ⟨[],k⟩∧∀j,j≠b→γ' j=γ j:=by have HF:Hid (∃g,Ending.returned (.p w.heap.size)=.returned (.p g)∧∃γ',Own w0 (w.alloc (.cells #[.i 0,.i 0,.i 0,.i 0,.i 0,.i 0,.i 0,.i 0,.i 0,.i 0,.i 0,.i 0,.i 0,.i 0,.i 0,.i 0,.i 0,.i k] 172)) γ'∧ti γ' b g ⟨[],k⟩∧∀j,j≠b→γ' j=γ j):=I ⟨_,rfl,_,ho.new b _,⟨_,yQ _ _ _ _,rfl,by simp[yW],rfl,rfl,by simp,hk⟩,fun k hk=>yO _ _ _ hk⟩;subst h;clear ho;go_in;go_wp2_with fail;go_ret;exact HF.out
theorem QU{w:World}{g:Nat}(a b x y:Int)(hc:w.cell? (zc g 0)=some (.i x)):Calls Tryz.prog 203 #[.agg #[.i a,.i b],.p g] w fun e w'=>e=.returned (.bool (a==x))∧w'=w.alloc (.cells #[.i a,.i b] 169):=by have hc2:=xU hc (.cells #[.i a,.i b] 169);go_in;go_wp2_with fail;go_ret;exact⟨rfl,rfl⟩
theorem P6(h:ti γ b g m)(ho:Own w0 w γ)(x:Int×Int):Calls Tryz.prog 164 #[.p g,fc x] w (wg (fun γ'=>ti γ' b g (m.put x)) w0 γ b (.bool (!m.no x))):=by
 obtain⟨cs,hin⟩:=h;have hin':=hin;obtain⟨h1,h2,h3,h4,h5,h6,h7⟩:=hin;have o1:=(ho.xh ((Below.refl w.heap.size w).alloc (zm _) (.cells #[.i x.1,.i x.2] 169)));have hmf:∀(fn:Fn) (first cap:Array Value) (w:World),(Instr.makeFunc fn first cap).run Tryz.prog w=.ok (.func fn first cap) w:=fun _ _ _ _=>rfl;have bx0:(w.alloc (.cells #[.i x.1,.i x.2] 169)).cell? (zc w.heap.size 0)=some (.i x.1):=by rw[World.cell?_alloc_at _ _ _ _ rfl];rfl
 have bx1:(w.alloc (.cells #[.i x.1,.i x.2] 169)).cell? (zc w.heap.size 1)=some (.i x.2):=by rw[World.cell?_alloc_at _ _ _ _ rfl];rfl
 by_cases hf:m.l.length=m.xE
 ·have e1:m.no x=true:=by simp[Bu.no,hf]
  have e2:m.put x=m:=if_pos e1;rw[e1,e2];have c16:=o1.cell h1 h4;have c17:=o1.cell h1 h5;rw[hf]at c16;have hb:((m.xE:Int)==m.xE)=true:=by simp
  have HF:Hid (∀n,wg (fun γ'=>ti γ' b g m) w0 γ b (.bool false) (.returned (.bool false)) ((w.alloc (.cells #[.i x.1,.i x.2] 169)).drewN n)):=I fun n=>⟨rfl,γ,o1.drewN n,⟨cs,hin'⟩,fun _ _=>rfl⟩;generalize m.xE=k at*;clear h1 h2 h3 h4 h5 h6 h7 hin' ho o1 e1 e2 hf hmf bx0 bx1;show Calls _ _ _ _ (wg (fun γ'=>ti γ' b g m) w0 γ b (.bool false));unfold fc;go_in;go_wp2_with fail;go_quiet (fail);go_wp2_with fail;go_ret;exact HF.out _
 ·have hb:((m.l.length:Int)==m.xE)=false:=by simpa using fun h=>hf (by omega)
  have HX:Hid (m.no x=m.l.any fun p=>p.1==x.1):=I (by simp[Bu.no,hf]);generalize hW0:w.alloc (.cells #[.i x.1,.i x.2] 169)=W0 at*;have hci:∀X:qz (fun w'=>Below W0.heap.size W0 w'),Calls Tryz.prog 202 #[.slice (zb g) m.l.length 8,.func (.func 203) #[] #[.p w.heap.size]] X.world fun e w''=>e=.returned (.bool (m.l.any fun p=>p.1==x.1))∧∃y:qz (fun w'=>Below W0.heap.size W0 w'),w''=y.world:=fun X=>by have hXb:=X.ok;have hx0:=Below.xT hXb bx0;refine ZI ((dZ (w:=X.world) (A:=zb g) (cap:=8) (l:=m.l) rfl (by omega) 203 #[.p w.heap.size] (enters_of Tryz.func203 (by kernel_rfl) rfl) (fun p=>p.1==x.1) (fun y _ W hW=>(QU y.1 y.2 x.1 0 (Below.xT hW hx0)).mono fun e W' ⟨q1,q2⟩=>⟨q1,by rw[q2];exact hW.alloc hW.size _⟩) (hin'.cell (o1.xh hXb))).mono fun e w'' ⟨q1,q2⟩=>⟨q1,Below.trans' hXb q2⟩)
  have c16:∀X:qz (fun w'=>Below W0.heap.size W0 w'),X.world.cell? (zc g 16)=some (.i m.l.length):=fun X=>(o1.xh X.ok).cell h1 h4;have c17:∀X:qz (fun w'=>Below W0.heap.size W0 w'),X.world.cell? (zc g 17)=some (.i m.xE):=fun X=>(o1.xh X.ok).cell h1 h5;have B0:Hid (∀W,Below W0.heap.size W0 W→W.cell? (zc w.heap.size 0)=some (.i x.1)∧W.cell? (zc w.heap.size 1)=some (.i x.2)):=I fun W hW=>⟨Below.xT hW bx0,Below.xT hW bx1⟩;have HO:=I o1;have hkk:m.l.length<m.xE:=by omega
  have hn8:m.l.length≤8:=by omega
  have hn8':(m.l.length:Int)≤8:=by omega
  have e3:m.no x=m.l.any fun p=>p.1==x.1:=HX.out;have hb0:Below W0.heap.size W0 W0.drew:=(Below.refl _ W0).drew;have hne0:Nonempty (qz (fun w'=>Below W0.heap.size W0 w')):=⟨⟨_,hb0⟩⟩;unfold Bu.put;rw[e3];have HI:=I hin';cases hbb:(m.l.any fun p=>p.1==x.1)with
  |true=>
   rw[hbb]at hci;have HF:Hid (∀W,Own w0 W γ→wg (fun γ'=>ti γ' b g m) w0 γ b (.bool false) (.returned (.bool false)) W):=I fun W hW=>⟨rfl,γ,hW,⟨cs,HI.out⟩,fun _ _=>rfl⟩;show Calls _ _ _ _ (wg (fun γ'=>ti γ' b g m) w0 γ b (.bool false));generalize m.l.length=n at*;generalize m.xE=k at*;clear h1 h2 h3 h4 h5 h6 hin' ho o1 hf bx0 bx1 e3 hbb HX;unfold fc;go_in;go_wp2_with fail;refine tJ (fun w'=>Below W0.heap.size W0 w') (by kernel_rfl) (by kernel_rfl) hb0 ?_;repeat(go_big_quiet_step (exact hci _))
   refine wpQuiet_nil ?_;rintro W1 ⟨X,hX⟩;have hw1:Below W0.heap.size W0 W1:=by rw[hX];exact X.ok
   clear hX;clear X;have HZ:=I (HF.out _ (HO.out.xh hw1));clear hw1 hb0 hci c16 c17 hne0;go_wp2_with fail;go_ret;exact HZ.out
  |false=>
   rw[hbb]at hci;show Calls _ _ _ _ (wg (fun γ'=>ti γ' b g {m with l:=m.l++[x]}) w0 γ b (.bool true));have HM:Hid (m.l.length<m.xE∧m.xE≤8):=I ⟨hkk,h7⟩;generalize hln:m.l.length=n at*;have HLN:=I hln;clear h1 h2 h3 h4 h5 h6 hin' ho o1 hf bx0 bx1 e3 hbb HX hln;unfold fc;go_in;go_wp2_with fail;refine tJ (fun w'=>Below W0.heap.size W0 w') (by kernel_rfl) (by kernel_rfl) hb0 ?_;repeat(go_big_quiet_step (exact hci _))
   refine wpQuiet_nil ?_;rintro W1 ⟨X,hX⟩;have hw1:Below W0.heap.size W0 W1:=by rw[hX];exact X.ok
   clear hX;clear X;have o1:=HO.out.xh hw1;obtain⟨b0,b1⟩:=B0.out _ hw1;have h1:=HI.out.1;have d16:=o1.cell h1 HI.out.2.2.2.1;rw[HLN.out]at d16;have hn7:n<8:=by have:=HM.out;omega
   have hn7':(n:Int)<8:=by omega
   obtain⟨u0,hu0⟩:∃u,cs[n*2]? =some u:=⟨_,zv (by have:=HI.out.2.1;omega)⟩;obtain⟨u1,hu1⟩:∃u,cs[n*2+1]? =some u:=⟨_,zv (by have:=HI.out.2.1;omega)⟩;have cu0:=o1.cell h1 hu0;have cu1:=o1.cell h1 hu1;have fu0:=o1.free h1 (n*2);have fu1:=o1.free h1 (n*2+1);clear hw1 hb0 hci c16 c17 hne0;go_wp2_with fail;have o2:=o1.set h1 (n*2) (.i x.1);have g2:=yQ γ b g (.cells (cs.setIfInBounds (n*2) (.i x.1)) 172 (0,0));have o3:=(o2.set g2 (n*2+1) (.i x.2)).drew;rw[gh]at o3;have g3:=yQ γ b g (.cells ((cs.setIfInBounds (n*2) (.i x.1)).setIfInBounds (n*2+1) (.i x.2)) 172 (0,0));have hcs3:XH γ b g cs m:=HI.out;have d3:((cs.setIfInBounds (n*2) (.i x.1)).setIfInBounds (n*2+1) (.i x.2))[16]? =some (.i n):=by rw[zX (by omega),zX (by omega),hcs3.2.2.2.1,HLN.out]
   have hfin:ti (put γ b g (.cells (((cs.setIfInBounds (n*2) (.i x.1)).setIfInBounds (n*2+1) (.i x.2)).setIfInBounds 16 (.i ((n:Int)+1))) 172 (0,0))) b g {m with l:=m.l++[x]}:=by
    obtain⟨i1,i2,i3,i4,i5,i6,i7⟩:=hcs3;have hl1:(m.l++[x]).length=n+1:=by simp[HLN.out]
    refine⟨_,yQ _ _ _ _,by simpa using i2,?_,?_,?_,by rw[hl1];have:=HM.out;show n+1≤m.xE;omega,i7⟩
    ·show List.take ((m.l++[x]).length*2) _=yW xF (m.l++[x]);rw[hl1,←sz,←i3,HLN.out];apply yb;intro j;have hsz:cs.toList.length=18:=by simpa using i2
     rw[zG,List.getElem?_append];simp only[yE,zE,hsz];rw[show min (n*2) 18=n*2 by omega];by_cases hj:j<n*2
     ·rw[if_pos (by omega),if_pos hj,zt (by omega),zt (by omega),zt (by omega),zG,if_pos hj]
     ·rw[if_neg hj];by_cases hj2:j<(n+1)*2
      ·rw[if_pos hj2,zt (by omega)];by_cases e0:j=n*2
       ·subst e0;rw[zt (by omega),zp (by omega)];simp[xF]
       ·obtain rfl:j=n*2+1:=by omega
        rw[zp (by simp[hsz];omega),show n*2+1-n*2=1 by omega];rfl
      ·rw[if_neg hj2,zJ (by simp[xF];omega)]
    ·show _=some (Value.int .i64 ((m.l++[x]).length:Int));rw[Array.getElem?_setIfInBounds_self_of_lt (by simp[i2]),hl1];simp
    ·rw[zX (by omega),zX (by omega),zX (by omega),i5]
   have HFI:=I hfin;clear hfin hcs3 h1 o1 o2 g2;go_region;clear d16;generalize((W1.setCell (zc g (n*2)) (.i x.1)).setCell (zc g (n*2+1)) (.i x.2)).drew=W2 at*;have c16:=o3.cell g3 d3;have f16:=o3.free g3 16;have HF:Hid (wg (fun γ'=>ti γ' b g {m with l:=m.l++[x]}) w0 γ b (.bool true) (.returned (.bool true)) (W2.setCell (zc g 16) (.i ((n:Int)+1)))):=by have o4:=o3.set g3 16 (.i ((n:Int)+1));rw[gh]at o4;exact I ⟨rfl,_,o4,HFI.out,fun k hk=>yO _ _ _ (by omega)⟩
   clear o3 g3 d3 cu0 cu1 fu0 fu1;go_wp2_with fail;go_ret;exact HF.out
theorem Z1(n:Nat):(madeCells #[Value.int .i64 0,.i 0] (n*2)).toList=yW xF (List.replicate n (0,0)):=by
 induction n with
 |zero=>simp[madeCells,yW]
 |succ n ih=>
  have e:∀k,(madeCells #[Value.int .i64 0,.i 0] k).toList=(List.range k).map (#[Value.int .i64 0,.i 0][· %2]!):=fun k=>by simp[madeCells]
  rw[e,show(n+1)*2=n*2+1+1 by omega,yD,yD,yI,yI,←e,ih,List.replicate_succ',←sz,zU];have h1:(n*2)%2=0:=by omega
  have h2:(n*2+1)%2=1:=by omega
  simp[h2,xF]
theorem Tryz.RH:(Tryz.prog.info? 169).map (fun i=>(i.zero,i.size,i.bytes))=some (some (.agg #[.i 0,.i 0]),2,16):=by kernel_rfl
theorem Y6(n:Nat)(hn:n≤4096)(w:World):(Instr.makeSlice 184 (.i n) (.i n)).run Tryz.prog w=.ok (.slice (zb w.heap.size) n n) (w.alloc (.cells (madeCells #[.i 0,.i 0] (n*2)) 169)):=by obtain⟨i0,hi,hz0,hz1,hz2⟩:=info_parts Tryz.RH;have:=run_makeSlice w (P:=Tryz.prog) 184 169 i0 _ Tryz.underlying184 hi hz0 .i64 .i64 n n (by omega) (by omega) (by rw[hz1];simp;omega) (by rw[hz2];omega) (by omega);rw[hz1]at this;simpa[Value.cells]using this
theorem Vb(h:ti γ b g m)(ho:Own w0 w γ)(q:Nat)(hq:q≠b):Calls Tryz.prog 84 #[.p g] w fun e w'=>∃v γ',e=.returned v∧Own w0 w' γ'∧ti γ' b g ⟨[],m.xE⟩∧yR γ' q 169 2 v m.xE (yW xF m.out)∧∀k,k≠b→k≠q→γ' k=γ k:=by
 obtain⟨cs,hin⟩:=h;have hin':=hin;obtain⟨h1,h2,h3,h4,h5,h6,h7⟩:=hin;have hmk:=Y6 m.xE (by omega) w;have o1:=ho.new q (.cells (madeCells #[.i 0,.i 0] (m.xE*2)) 169);have g1:=yQ γ q w.heap.size (.cells (madeCells #[.i 0,.i 0] (m.xE*2)) 169);have k1:∀k,k≠q→put γ q w.heap.size (.cells (madeCells #[.i 0,.i 0] (m.xE*2)) 169) k=γ k:=fun k hk=>yO _ _ _ hk;have c17:=ho.cell h1 h5;generalize hA:w.alloc (.cells (madeCells #[.i 0,.i 0] (m.xE*2)) 169)=W1 at*;generalize put γ q w.heap.size (.cells (madeCells #[.i 0,.i 0] (m.xE*2)) 169)=γ1 at*;generalize hH:w.heap.size=H at*;have hb1:=(k1 b (Ne.symm hq)).trans h1;have c16:=o1.cell hb1 h4;clear hA;obtain⟨u0,hu0⟩:∃u,cs[0]? =some u:=⟨_,zv (by omega)⟩;obtain⟨u1,hu1⟩:∃u,cs[1]? =some u:=⟨_,zv (by omega)⟩;obtain⟨u2,hu2⟩:∃u,cs[2]? =some u:=⟨_,zv (by omega)⟩;obtain⟨u3,hu3⟩:∃u,cs[3]? =some u:=⟨_,zv (by omega)⟩;obtain⟨u4,hu4⟩:∃u,cs[4]? =some u:=⟨_,zv (by omega)⟩;obtain⟨u5,hu5⟩:∃u,cs[5]? =some u:=⟨_,zv (by omega)⟩;obtain⟨u6,hu6⟩:∃u,cs[6]? =some u:=⟨_,zv (by omega)⟩;obtain⟨u7,hu7⟩:∃u,cs[7]? =some u:=⟨_,zv (by omega)⟩;obtain⟨u8,hu8⟩:∃u,cs[8]? =some u:=⟨_,zv (by omega)⟩;obtain⟨u9,hu9⟩:∃u,cs[9]? =some u:=⟨_,zv (by omega)⟩;obtain⟨u10,hu10⟩:∃u,cs[10]? =some u:=⟨_,zv (by omega)⟩;obtain⟨u11,hu11⟩:∃u,cs[11]? =some u:=⟨_,zv (by omega)⟩;obtain⟨u12,hu12⟩:∃u,cs[12]? =some u:=⟨_,zv (by omega)⟩;obtain⟨u13,hu13⟩:∃u,cs[13]? =some u:=⟨_,zv (by omega)⟩;obtain⟨u14,hu14⟩:∃u,cs[14]? =some u:=⟨_,zv (by omega)⟩;obtain⟨u15,hu15⟩:∃u,cs[15]? =some u:=⟨_,zv (by omega)⟩;have HS:Hid (∀j v,(yW xF m.l)[j]? =some v→W1.drew.cell? (((zc g 0):Addr).add j)=some v):=I fun j v hj=>by
  rw[add_plain,zy];refine o1.drew.cell hb1 ?_;rw[←h3,zG]at hj;split at hj
  ·simpa using hj
  ·cases hj
 have HG:Hid (W1.drew.heap[H]? =some (.cells (madeCells #[Value.int .i64 0,.i 0] (m.xE*2)) 169 (0,0))):=I (o1.drew.own q H _ g1).2;have HL:Hid ((yW xF m.l).length=m.l.length*2):=I (ua rC _);have HN:Hid (m.l.length=Nat.min m.l.length m.xE):=I (Nat.min_eq_left h6).symm;have HT:Hid (0+(yW xF m.l).length≤(madeCells #[Value.int .i64 0,.i 0] (m.xE*2)).size):=I (by rw[HL.out,size_madeCells];omega);have o2:=o1.drew.row g1 ((madeCells #[Value.int .i64 0,.i 0] (m.xE*2)).toList.take 0++yW xF m.l++(madeCells #[Value.int .i64 0,.i 0] (m.xE*2)).toList.drop (0+(yW xF m.l).length)).toArray;have hrow:((madeCells #[Value.int .i64 0,.i 0] (m.xE*2)).toList.take 0++yW xF m.l++(madeCells #[Value.int .i64 0,.i 0] (m.xE*2)).toList.drop (0+(yW xF m.l).length))=yW xF m.out:=by rw[Z1,zy,HL.out];unfold Bu.out;rw[v8,List.take_zero,zD];congr 1;rw[show m.xE=m.l.length+(m.xE-m.l.length)by omega,←yw,v8,List.drop_left' (by rw[ua rC,zz]),show m.l.length+(m.xE-m.l.length)-m.l.length=m.xE-m.l.length by omega]
 have hb2:put γ1 q H (.cells ((madeCells #[Value.int .i64 0,.i 0] (m.xE*2)).toList.take 0++yW xF m.l++(madeCells #[Value.int .i64 0,.i 0] (m.xE*2)).toList.drop (0+(yW xF m.l).length)).toArray 169 (0,0)) b=some (g,.cells cs 172 (0,0)):=(yO _ _ _ (Ne.symm hq)).trans hb1;have g2:=yQ γ1 q H (.cells ((madeCells #[Value.int .i64 0,.i 0] (m.xE*2)).toList.take 0++yW xF m.l++(madeCells #[Value.int .i64 0,.i 0] (m.xE*2)).toList.drop (0+(yW xF m.l).length)).toArray 169 (0,0));have k2:∀k,k≠q→put γ1 q H (.cells ((madeCells #[Value.int .i64 0,.i 0] (m.xE*2)).toList.take 0++yW xF m.l++(madeCells #[Value.int .i64 0,.i 0] (m.xE*2)).toList.drop (0+(yW xF m.l).length)).toArray 169 (0,0)) k=γ k:=fun k hk=>(yO _ _ _ hk).trans (k1 k hk);generalize put γ1 q H (.cells ((madeCells #[Value.int .i64 0,.i 0] (m.xE*2)).toList.take 0++yW xF m.l++(madeCells #[Value.int .i64 0,.i 0] (m.xE*2)).toList.drop (0+(yW xF m.l).length)).toArray 169 (0,0))=γ2 at*;have hsl:yR γ2 q 169 2 (.slice (zb H) m.xE m.xE) m.xE (yW xF m.out):=by
  have hml:(yW xF m.out).length=m.xE*2:=by rw[ua rC];unfold Bu.out;rw[zr,zz];omega
  refine⟨hml,.inr ⟨H,_,_,rfl,g2,zm _,by unfold maxLen;omega,?_,?_⟩⟩
  ·rw[zH,hrow,hml]
  ·rw[hrow,←hml];exact yA
 generalize hWW:W1.drew.setRow H ((madeCells #[Value.int .i64 0,.i 0] (m.xE*2)).toList.take 0++yW xF m.l++(madeCells #[Value.int .i64 0,.i 0] (m.xE*2)).toList.drop (0+(yW xF m.l).length)).toArray=W2 at*;have HWW:=I hWW;have e0:=o2.cell hb2 hu0;have e1:=o2.cell hb2 hu1;have e2:=o2.cell hb2 hu2;have e3:=o2.cell hb2 hu3;have e4:=o2.cell hb2 hu4;have e5:=o2.cell hb2 hu5;have e6:=o2.cell hb2 hu6;have e7:=o2.cell hb2 hu7;have e8:=o2.cell hb2 hu8;have e9:=o2.cell hb2 hu9;have e10:=o2.cell hb2 hu10;have e11:=o2.cell hb2 hu11;have e12:=o2.cell hb2 hu12;have e13:=o2.cell hb2 hu13;have e14:=o2.cell hb2 hu14;have e15:=o2.cell hb2 hu15;have f0:=o2.free hb2 0;have f1:=o2.free hb2 1;have f2:=o2.free hb2 2;have f3:=o2.free hb2 3;have f4:=o2.free hb2 4;have f5:=o2.free hb2 5;have f6:=o2.free hb2 6;have f7:=o2.free hb2 7;have f8:=o2.free hb2 8;have f9:=o2.free hb2 9;have f10:=o2.free hb2 10;have f11:=o2.free hb2 11;have f12:=o2.free hb2 12;have f13:=o2.free hb2 13;have f14:=o2.free hb2 14;have f15:=o2.free hb2 15;have f16:=o2.free hb2 16;have e16:=o2.cell hb2 h4;obtain⟨cs',z1,z2,γ3,o3,g3,k3⟩:=Own.setCells [.i 0,.i 0,.i 0,.i 0,.i 0,.i 0,.i 0,.i 0,.i 0,.i 0,.i 0,.i 0,.i 0,.i 0,.i 0,.i 0] 0 W2 γ2 _ o2 hb2 (by simp;omega);have z16:cs'[16]? =some (.i m.l.length):=by rw[←Array.getElem?_toList,z2,←h4,←Array.getElem?_toList];simp[List.getElem?_append,yF]
 have z17:cs'[17]? =some (.i m.xE):=by rw[←Array.getElem?_toList,z2,←h5,←Array.getElem?_toList];simp[List.getElem?_append,yF]
 have Uy:=o3.cell g3 z16;have t16:=o3.free g3 16;have HF:Hid (∃v γ',Ending.returned (.slice (zb H) m.xE m.xE)=.returned v∧Own w0 ((W2.setCells g 0 [.i 0,.i 0,.i 0,.i 0,.i 0,.i 0,.i 0,.i 0,.i 0,.i 0,.i 0,.i 0,.i 0,.i 0,.i 0,.i 0]).setCell (zc g 16) (.i 0)) γ'∧ti γ' b g ⟨[],m.xE⟩∧yR γ' q 169 2 v m.xE (yW xF m.out)∧∀k,k≠b→k≠q→γ' k=γ k):=by
  refine I ⟨_,_,rfl,o3.set g3 16 (.i 0),⟨_,yQ _ _ _ _,by simp[z1,h2],by simp[yW],?_,?_,Nat.zero_le _,h7⟩,hsl.keep ((yO _ _ _ hq).trans (k3 q hq)),fun k q1 q2=>(yO _ _ _ q1).trans ((k3 k q1).trans (k2 k q2))⟩
  ·rw[Array.getElem?_setIfInBounds_self_of_lt (by rw[z1,h2];omega)];rfl
  ·rw[zX (by omega),z17]
 have HM:Hid (∀u∈yW xF m.l,u.oneCell'=true):=I (fR _);have hn8:m.l.length≤8:=by omega
 have hn8':(m.l.length:Int)≤8:=by omega
 have hm:(Tryz.prog.info? 169).map (·.size)=some 2:=by kernel_rfl
 generalize m.xE=mm at*;generalize m.l.length=n at*;clear h1 h2 h3 h4 h5 h6 ho o1 hb1 hin' k1 k2 o2 hb2 g2 hsl hrow o3 g3 k3 z1 z2 z16 z17 hWW hH g1;go_in;go_wp2_with fail;go_region_law (refine b8 rfl (.tmp 11) (.tmp 19) 184 rfl 169 2 Tryz.underlying184 hm rfl rfl HG.out HN.out HL.out HS.out HT.out HM.out ?_;rw[HWW.out]);go_wp2_with fail;go_ret;exact HF.out
end
end
section
open Go.RowKit Go.WideShapes
theorem Np{w:World}(x y:Nat)(hx:x≤1000)(hy:y≤1000):Calls Tryz.prog 290 #[.i x,.i y] w fun e w'=>e=.returned (.i ((x%5+5*(y%5):Nat):Int))∧w=w':=by go_in;go_wp2_with fail;go_ret;exact⟨by simp,rfl⟩
theorem QT(y:Nat)(hy:y<64):bits .and .u64 (y:Int) 63=y:=by
 have:∀y:Fin 64,bits .and .u64 (y.val:Int) 63=y.val:=by decide
 exact this ⟨y,hy⟩
theorem Sw{w:World}(x:Int)(y:Nat)(hy:y<64):Calls Tryz.prog 291 #[.int .u64 x,.i y] w fun e w'=>(∃n:Int,e=.returned (.int .u64 n))∧w=w':=by have hb:=QT y hy;go_in;go_wp2_with fail;go_ret;exact⟨⟨_,rfl⟩,rfl⟩
theorem Pw{w:World}(y:Nat)(hy:y<24):Calls Tryz.prog 289 #[.i y] w fun e w'=>(∃n:Int,e=.returned (.int .u64 n))∧w=w':=by
 go_in;go_wp2_with fail;go_loopw [3,4,10] (fun r n i wr=>w=wr∧∃(j:Nat) (a b:Int),r=.i a∧n=.int .u64 b∧i=.i j∧j≤7*(y+1)) (fun _ _ i _=>7*(y+1)-(intOf i).toNat);case atStart=>exact⟨rfl,0,1,0,rfl,rfl,rfl,by omega⟩
 case round=>
  obtain⟨rfl,j,a,b,rfl,rfl,rfl,hj⟩:=hrel;by_cases hlt:j<7*(y+1)
  ·have dl:decide ((j:Int)<7*((y:Int)+1))=true:=by simp;omega
   by_cases hb:7*y≤j
   ·obtain⟨k,hk7,hk⟩:∃k:Nat,k<7∧(j:Int)-7*(y:Int)=k:=⟨j-7*y,by omega,by omega⟩;have dg:decide (7*(y:Int)≤j)=true:=by simp;omega
    go_wp2_with fail;all_goals exact⟨⟨trivial,j+1,_,_,rfl,rfl,rfl,by omega⟩,by simp[intOf];omega⟩
   ·have dg:decide (7*(y:Int)≤j)=false:=by simp;omega
    go_wp2_with fail;all_goals exact⟨⟨trivial,j+1,_,_,rfl,rfl,rfl,by omega⟩,by simp[intOf];omega⟩
  ·have dl:decide ((j:Int)<7*((y:Int)+1))=false:=by simp;omega
   go_wp2_with fail;go_ret;exact⟨⟨_,rfl⟩,rfl⟩
end
section
open Go.RowKit Go.WideShapes
def vQ(γ:U)(b g:Nat)(ws:List Int):Prop:=∃v,γ b=some (g,.cells #[v] 278 (0,0))∧yR γ (b+1) 3 1 v ws.length (ints ws)∧ws.length≤100
theorem vQ.keep{γ γ':U}{b g:Nat}{ws:List Int}(h:vQ γ b g ws)(hk:∀k,b≤k→k<b+2→γ' k=γ k):vQ γ' b g ws:=by obtain⟨v,h1,h2,h3⟩:=h;exact⟨v,by rw[hk _ (by omega) (by omega)];exact h1,h2.keep (hk _ (by omega) (by omega)),h3⟩
def uL(ws:List Int)(x:Int):Int:=if x<1 then 1 else if x∈ws then 11 else 14
section
variable {w0 w:World} {γ:U} {b g:Nat} {ws:List Int}
theorem QX{γ0:U}{j:Nat}{v:Value}{xs:List Int}{r:Value}{e:Ending}{w':World}(h:wY w0 γ b g 278 #[v] 0 (b+1) (b+2) xs r e w')(hl:xs.length≤100):wg (fun γ'=>vQ γ' b g xs) w0 γ b r e w':=by obtain⟨rfl,v',γ',h1,h2,h3,h4⟩:=h;exact⟨rfl,γ',h1,⟨v',h2,h3,hl⟩,fun k hk=>h4 k (by omega) (by omega) (by omega)⟩
theorem P8(ho:Own w0 w γ)(b:Nat):Calls Tryz.prog 216 #[] w fun e w'=>∃g γ',e=.returned (.p g)∧Own w0 w' γ'∧vQ γ' b g []∧∀k,k≠b→γ' k=γ k:=by have HF:Hid (∃g γ',Ending.returned (.p w.heap.size)=.returned (.p g)∧Own w0 (w.alloc (.cells #[.slice none 0 0] 278)) γ'∧vQ γ' b g []∧∀k,k≠b→γ' k=γ k):=I ⟨_,_,rfl,ho.new b _,⟨_,yQ _ _ _ _,yR.nil _ _ _ _,by simp⟩,fun k hk=>yO _ _ _ hk⟩;clear ho;go_in;go_wp2_with fail;go_ret;exact HF.out
theorem QY(h:vQ γ b g ws)(ho:Own w0 w γ)(x:Int)(hlt:ws.length<100):Calls Tryz.prog 247 #[.p g,.i x] w (wg (fun γ'=>vQ γ' b g (if uL ws x=14 then ws++[x]else ws)) w0 γ b (.i (uL ws x))):=by
 have hsame:Hid (∀r,wg (fun γ'=>vQ γ' b g ws) w0 γ b r (.returned r) w):=I fun r=>⟨rfl,γ,ho,h,fun _ _=>rfl⟩;obtain⟨v,h1,h2,h3⟩:=h;have c0:=ho.cell h1 (i:=0) (v:=v) rfl;have hc:=st h2 ho (by omega) x;obtain⟨A,cap,rfl,-⟩:=h2.form;by_cases hx:x<1
 ·have d1:decide (x<1)=true:=by simpa using hx
  have e1:uL ws x=1:=if_pos hx;rw[e1,if_neg (by decide)];generalize ws.length=k at*;clear h1 h2 ho hx e1 hc;go_in;go_wp2_with fail;go_ret;exact hsame.out _
 ·have d1:decide (x<1)=false:=by simpa using hx
  by_cases hm:x∈ws
  ·have e1:uL ws x=11:=by unfold uL;rw[if_neg hx,if_pos hm]
   rw[e1,if_neg (by decide)];rw[show decide (x∈ws)=true by simpa using hm]at hc;generalize ws.length=k at*;clear h1 h2 ho hx e1 hm;go_in;go_wp2_with fail;refine hc.mono ?_;rintro e w' ⟨rfl,rfl⟩;go_wp2_with fail;go_ret;exact hsame.out _
  ·have e1:uL ws x=14:=by unfold uL;rw[if_neg hx,if_neg hm]
   rw[e1,if_pos rfl];rw[show decide (x∈ws)=false by simpa using hm]at hc;have hl:ws.length=ws.length:=rfl;obtain⟨HO,HS,HR,HF⟩:=qn (tq:=b+2) h1 (j:=0) rfl h2 ho (by omega) (by omega) (by omega) hl x;have HL:Hid ((ws++[x]).length≤100):=I (by simp;omega);generalize ws.length=k at*;clear h1 h2 ho hx e1 hm hl;go_in;go_wp2_with fail;refine hc.mono ?_;rintro e w' ⟨rfl,rfl⟩;go_wp2_with (at_builtin;refine xG rfl (.tmp 23) (.tmp 25) 61 rfl 3 _ 1 8 Tryz.underlying61 Tryz.tF rfl (by decide) HO.out HS.out rfl HR.out rfl ?_ ?_ ?_)
   ·unfold maxLen;omega
   ·omega
   intro A' cap' w2 γ3 hA2 ho4 hs4 hk4;obtain⟨c1',f1',HG⟩:=HF.out _ _ _ _ ho4 hs4 hk4;clear ho4 hs4 hk4 hA2 HF c0;go_wp2_with fail;go_ret;exact QX (j:=0) (γ0:=γ) (HG.out _) HL.out
theorem U7(h:vQ γ b g ws)(ho:Own w0 w γ):Calls Tryz.prog 248 #[.p g] w (wg (fun γ'=>vQ γ' b g ws.tail) w0 γ b (if ws=[]then .tuple #[.i 0,.bool false]else .tuple #[.i (ws.headD 0),.bool true])):=by
 have h0:=h;obtain⟨v,h1,h2,h3⟩:=h;have c0:=ho.cell h1 (i:=0) (v:=v) rfl;cases ws with
 |nil=> have hsame:Hid (∀r,wg (fun γ'=>vQ γ' b g []) w0 γ b r (.returned r) w):=I fun r=>⟨rfl,γ,ho,h0,fun _ _=>rfl⟩;obtain⟨A,cap,rfl,-⟩:=h2.form;rw[if_pos rfl];show Calls _ _ _ _ (wg (fun γ'=>vQ γ' b g []) w0 γ b _);clear h1 h2 ho h0;go_in;go_wp2_with fail;go_ret2;exact hsame.out _
 |cons y r=>
  rw[if_neg (by simp)];obtain⟨gw,cap,hv,cw⟩:=h2.at_ ho (i:=0) (by simp);subst hv;replace cw:w.cell? (zc gw 0)=some (.i y):=cw;have hdel:=sh h2 ho (by omega) (i:=0) (by simp);rw[show(y::r).eraseIdx 0=r from rfl,show(y::r).length - 1=r.length from rfl]at hdel;have hlen:(y::r).length=r.length+1:=rfl;have hr:Hid (r.length≤100):=I (by simp at h3;omega);have hz:(((y::r).length:Int)==0)=false:=by simp[hlen];omega
  have hpos':(0:Int)<((y::r).length:Int):=by omega
  have G2:=I h1;show Calls _ _ _ _ (wg (fun γ'=>vQ γ' b g r) w0 γ b (.tuple #[.i y,.bool true]));generalize(y::r).length=k at*;clear h1 h2 ho h0;go_in;go_wp2_with fail;subst hlen;refine Calls.mono (show Calls Tryz.prog 155 #[.slice (zb gw) (r.length+1) cap,.i 0,.i 1] _ _ from hdel) ?_;rintro e w3 ⟨v3,γ3,rfl,o3,s3,k3⟩;have g3:=(k3 b (by omega)).trans G2.out;obtain⟨A3,cap3,rfl,-⟩:=s3.form;have c1':=o3.cell g3 (i:=0) (v:=.slice (zb gw) (r.length+1) cap) rfl;have f1':=o3.free g3 0;have HF:Hid (wg (fun γ'=>vQ γ' b g r) w0 γ b (.tuple #[.i y,.bool true]) (.returned (.tuple #[.i y,.bool true])) (w3.setCell (zc g 0) (.slice A3 r.length cap3))):=I ⟨rfl,_,o3.set g3 0 (.slice A3 r.length cap3),⟨_,yQ _ _ _ _,s3.keep (yO _ _ _ (by omega)),hr.out⟩,fun j hj=>(yO _ _ _ (by omega)).trans (k3 j (by omega))⟩;clear o3 s3 k3 g3 hdel;go_wp2_with fail;go_ret2;exact HF.out
theorem Yz(h:vQ γ b g ws)(ho:Own w0 w γ)(q:Nat)(hq:q<b∨b+8≤q):Calls Tryz.prog 249 #[.p g] w (xY (fun γ'=>vQ γ' b g []) w0 γ b q id ws):=by obtain⟨v,h1,h2,h3⟩:=h;have c0:=ho.cell h1 (i:=0) (v:=v) rfl;have f0:=ho.free h1 0;have o1:=ho.set h1 0 (.slice none 0 0);have hcl:=tV (w:=w.setCell (zc g 0) (.slice none 0 0)) h2 (by omega);have HF:Hid (∀v',xK γ (b+1) 3 1 v' ws.length (ints ws)→xY (fun γ'=>vQ γ' b g []) w0 γ b q id ws (.returned v') (w.setCell (zc g 0) (.slice none 0 0))):=I fun v' hp=>⟨v',_,rfl,o1.mv (a:=q) (b:=b+1) (by omega),⟨_,(tL _ (by omega) (by omega)).trans (yQ _ _ _ _),yR.nil _ _ _ _,by simp⟩,by obtain⟨hp1,hp2⟩:=hp;refine⟨hp1,hp2.imp id ?_⟩;rintro⟨g',c',cur,e1,e2,e3⟩;exact⟨g',c',cur,e1,by rw[Zm,yO _ _ _ (by omega)];exact e2,e3⟩,fun k hk hkq=>(tL _ hkq (by omega)).trans (yO _ _ _ (by omega))⟩;obtain⟨A,cap,rfl,-⟩:=h2.form;generalize ws.length=n at*;clear h1 h2 ho o1;go_in;go_wp2_with fail;refine hcl.mono ?_;rintro e w' ⟨v',rfl,hp,rfl⟩;obtain⟨A1,c1,rfl⟩:=hp.form;go_wp2_with fail;go_ret;exact HF.out _ hp
theorem QW(h:vQ γ b g ws)(ho:Own w0 w γ)(x:Int):Calls Tryz.prog 118 #[.p g,.i x] w (wg (fun γ'=>vQ γ' b g (ws.erase x)) w0 γ b (.bool (decide (x∈ws)))):=by obtain⟨v,h1,h2,h3⟩:=h;exact(Rp (tq:=b+2) h1 rfl h2 ho (by omega) h3 x).mono fun e w' hp=>QX (j:=0) (γ0:=γ) hp (yn (yl) h3)
theorem S3(h:vQ γ b g ws)(ho:Own w0 w γ)(q:Nat)(hq:q<b∨b+8≤q):Calls Tryz.prog 223 #[.p g] w (xY (fun γ'=>vQ γ' b g ws) w0 γ b q id ws):=by
 have HK:Hid (∀γ',(∀k,k≠q→γ' k=γ k)→vQ γ' b g ws):=I fun γ' hk=>h.keep fun k h1 h2=>hk k (by omega);obtain⟨v,h1,h2,h3⟩:=h;have c0:=ho.cell h1 (i:=0) (v:=v) rfl;have hcl:=ZH h2 ho (by omega) q (by omega);have h3':ws.length≤1000:=by omega
 obtain⟨A,cap,rfl,-⟩:=h2.form;generalize hn:ws.length=n at*;clear h1 h2 ho h3;go_in;go_wp2_with fail;refine hcl.mono ?_;rintro e w1 ⟨v1,γ1,rfl,o1,s1,k1⟩;have HN:=I hn;clear hn;have hc2:=tV (w:=w1) s1 h3';have HO:=I o1;obtain⟨A1,c1,rfl,-⟩:=s1.form;clear s1 o1;go_wp2_with fail;refine hc2.mono ?_;rintro e w' ⟨v',rfl,hp,rfl⟩;obtain⟨A2,c2,rfl⟩:=hp.form;go_wp2_with fail;go_ret;exact⟨_,_,rfl,HO.out,HK.out _ k1,by rw[HN.out];exact hp,fun k _ hk=>k1 k hk⟩
end
end
end Go.Proofs.YtkmamlifgbocgaaGreat
