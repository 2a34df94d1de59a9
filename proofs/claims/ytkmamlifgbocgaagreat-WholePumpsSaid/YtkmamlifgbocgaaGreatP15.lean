/- What the program's code does, as contracts, and what follows of it, part 15: for the law's proof. -/
import Derived.Test.YtkmamlifgbocgaaGreatP00
import Derived.Test.YtkmamlifgbocgaaGreatP14
set_option linter.unusedVariables false
set_option linter.unusedSimpArgs false
set_option maxRecDepth 100000
set_option maxHeartbeats 16000000
namespace Go.Proofs.YtkmamlifgbocgaaGreat
section
open Go.RowKit Go.Shelf Go.WideShapes
structure Dv where
 nm:ByteArray
 lv:Int
 ct:Int
 kt:Int
 ko:Int
 rg:Int
def Dv.rV(d:Dv):Value:=.agg #[.string d.nm,.i d.lv,.i d.ct,.i d.kt,.i d.ko,.i d.rg]
def Zu(w:World)(g k:Nat)(d:Dv):Prop:=w.cell? (zc g k)=some (.string d.nm)∧w.cell? (zc g (k+1))=some (.i d.lv)∧w.cell? (zc g (k+2))=some (.i d.ct)∧w.cell? (zc g (k+3))=some (.i d.kt)∧w.cell? (zc g (k+4))=some (.i d.ko)∧w.cell? (zc g (k+5))=some (.i d.rg)
def rI(w:World)(A:Option Addr)(l:List Dv):Prop:=∀j x,l[j]? =some x→∃g off,A=some (zc g off)∧Zu w g (off+j*6) x
theorem Zu.below{w W:World}(hb:Below w.heap.size w W){g k:Nat}{d:Dv}(h:Zu w g k d):Zu W g k d:=by obtain⟨h0,h1,h2,h3,h4,h5⟩:=h;exact⟨Below.xT hb h0,Below.xT hb h1,Below.xT hb h2,Below.xT hb h3,Below.xT hb h4,Below.xT hb h5⟩
theorem rI.below{w W:World}(hb:Below w.heap.size w W){A:Option Addr}{l:List Dv}(h:rI w A l):rI W A l:=fun j x hx=>by obtain⟨g,off,e,ha⟩:=h j x hx;exact⟨g,off,e,ha.below hb⟩
theorem rI.take{w:World}{A:Option Addr}{l:List Dv}(h:rI w A l)(n:Nat):rI w A (l.take n):=
 fun j x hx=>by
  rw[zG]at hx;split at hx
  ·exact h j x hx
  ·cases hx
theorem Pn(d:Dv)(s:ByteArray)(g:Nat)(W:World)(hc:W.cell? (zc g 0)=some (.string s)):Calls Tryz.prog 97 #[d.rV,.p g] W fun e W'=>e=.returned (.bool (d.nm.toList==s.toList))∧Below W.heap.size W W':=by obtain⟨nm,lv,ct,kt,ko,rg⟩:=d;have hc':=xU hc (.cells #[.string nm,.i lv,.i ct,.i kt,.i ko,.i rg] 80);unfold Dv.rV;go_in;go_wp2_with fail;go_ret;exact⟨rfl,(Below.refl _ _).alloc (zm _) _⟩
theorem YT{w:World}{A:Option Addr}{n cap:Nat}{l:List Dv}(hl:l.length=n)(hn:n≤1000)(hcap:n≤cap)(gf:Nat)(lb:Array Value)(eg:∀args w,(callFunc gf args).run Tryz.prog w=.ok (.enter gf args) w)(p:Dv→Bool)(hp:jd gf lb Dv.rV p l w)(hc:rI w A l):Calls Tryz.prog 96 #[.slice A n cap,.func (.func gf) #[] lb] w fun e w'=>e=.returned (.i (vj l p))∧Below w.heap.size w w':=by
 have HC:=I hc;have HP:=I hp;clear hc hp;go_in;go_wp2_with fail;go_loopw [8] (fun i wr=>∃j:Nat,i=.i j∧j≤n∧Below w.heap.size w wr∧∀y∈l.take j,p y=false) (fun i _=>n-(intOf i).toNat);case atStart=>exact⟨0,rfl,by omega,Below.refl _ _,by simp⟩
 case round=>
  obtain⟨j,rfl,hj,hb,hnot⟩:=hrel;by_cases hlt:j<n
  ·have dl:decide ((j:Int)<n)=true:=by simpa using hlt
   have hlt':(j:Int)<n:=by omega
   have hx:l[j]? =some l[j]:=zl (by omega);generalize l[j]=x at*;obtain⟨g,off,rfl,hat⟩:=HC.out j x hx;obtain⟨c0,c1,c2,c3,c4,c5⟩:=hat.below hb;have hm:x∈l:=zo hx;have hcall:=HP.out x hm wr hb;unfold Dv.rV at hcall;cases hpx:p x with
   |true=> have HR:=I (qX hnot hx hpx);rw[hpx]at hcall;clear hnot hx hm hb hpx;go_wp2_with fail;refine hcall.mono ?_;rintro e w' ⟨rfl,hb'⟩;go_wp2_with fail;go_ret;exact⟨by rw[HR.out];rfl,hb'⟩
   |false=>
    have HN:=I (vK hnot hx hpx);rw[hpx]at hcall;clear hnot hx hm hb hpx;go_wp2_with fail;refine hcall.mono ?_;rintro e w' ⟨rfl,hb'⟩;go_wp2_with fail;go_roundw;case rel=>exact⟨j+1,rfl,by omega,hb',HN.out⟩
    case measure=>simp[intOf];omega
  ·obtain rfl:j=n:=by omega
   have dl:decide ((j:Int)<j)=false:=by simp
   have hr:vj l p= -1:=rA (by rw[zO (by omega)]at hnot;exact hnot);have HR:=I hr;have HB:=I hb;clear hr hb hnot;go_wp2_with fail;go_ret;exact⟨by rw[HR.out];rfl,HB.out⟩
theorem R2{w:World}{A:Option Addr}{n cap:Nat}{l:List Dv}(hl:l.length=n)(hn:n≤1000)(hcap:n≤cap)(hc:rI w A l)(s:ByteArray):Calls Tryz.prog 71 #[.slice A n cap,.string s] w fun e w'=>e=.returned (.i (vj l fun d=>d.nm.toList==s.toList))∧Below w.heap.size w w':=by
 obtain⟨w1,hw1⟩:∃w1,w.alloc (.cells #[.string s] 9)=w1:=⟨_,rfl⟩;have hb1:Below w.heap.size w w1:=by rw[←hw1];exact(Below.refl _ _).alloc (zm _) _
 have c0:w1.cell? (zc w.heap.size 0)=some (.string s):=by rw[←hw1];exact(Boxed.new w 9 _).cell
 have hz:w1.heap.size=w.heap.size+1:=by rw[←hw1];simp
 have hi:=YT (w:=w1) (A:=A) (cap:=cap) hl hn hcap 97 #[.p w.heap.size] (enters_of Tryz.func97 (by kernel_rfl) rfl) (fun d=>d.nm.toList==s.toList) (fun x _ W hW=>by refine(Pn x s w.heap.size W ((hW.cell (p:=(zc w.heap.size 0)) (by show w.heap.size<_;omega)).trans c0)).mono ?_;rintro e W' ⟨rfl,hb⟩;exact⟨rfl,hW.trans (hb.mono hW.size)⟩) (hc.below hb1);obtain⟨y,hy⟩:∃y,vj l (fun d=>d.nm.toList==s.toList)=y:=⟨_,rfl⟩;rw[hy]at hi⊢;replace hw1:=I hw1;replace hz:=I hz;clear c0 hy;go_in;go_wp2_with fail;rw[hw1.out];refine hi.mono ?_;rintro e w' ⟨rfl,hb⟩;have HB:=I (hb1.trans (hb.mono hb1.size));clear hi hb1 hb;go_wp2_with fail;go_ret;exact⟨rfl,HB.out⟩
end
section
open Go.RowKit Go.Shelf Go.WideShapes
theorem RE{w:World}{g n cap:Nat}{l:List Bool}(hl:l.length=n)(hn:n≤1000)(hc:∀j x,l[j]? =some x→w.cell? (zc g j)=some (.bool x)):Calls Tryz.prog 98 #[.slice (zb g) n cap,.bool false] w fun e w'=>e=.returned (.i (vj l fun x=> !x))∧w=w':=by
 have HC:=I hc;clear hc;go_in;go_wp2_with fail;go_loopw [8] (fun i wr=>∃j:Nat,i=.i j∧j≤n∧wr=w∧∀y∈l.take j,(!y)=false) (fun i _=>n-(intOf i).toNat);case atStart=>exact⟨0,rfl,by omega,rfl,by simp⟩
 case round=>
  obtain⟨j,rfl,hj,rfl,hnot⟩:=hrel;by_cases hlt:j<n
  ·have dl:decide ((j:Int)<n)=true:=by simpa using hlt
   have hlt':(j:Int)<n:=by omega
   have hx:l[j]? =some l[j]:=zl (by omega);generalize l[j]=x at*;have c0:=HC.out j x hx;cases x with
   |false=> have HR:=I (qX hnot hx rfl);clear hnot hx;go_wp2_with fail;go_ret;exact⟨by rw[HR.out];rfl,rfl⟩
   |true=>
    have HN:=I (vK hnot hx rfl);clear hnot hx;go_wp2_with fail;go_roundw;case rel=>exact⟨j+1,rfl,by omega,by trivial,HN.out⟩
    case measure=>simp[intOf];omega
  ·obtain rfl:j=n:=by omega
   have dl:decide ((j:Int)<j)=false:=by simp
   have hr:vj l (fun x=> !x)= -1:=rA (by rw[zO (by omega)]at hnot;exact hnot);have HR:=I hr;clear hr hnot;go_wp2_with fail;go_ret;exact⟨by rw[HR.out];rfl,rfl⟩
theorem XV{w:World}{g n cap:Nat}{l:List Bool}(hl:l.length=n)(hn:n≤1000)(hc:∀j x,l[j]? =some x→w.cell? (zc g j)=some (.bool x)):Calls Tryz.prog 73 #[.slice (zb g) n cap,.bool false] w fun e w'=>e=.returned (.bool (l.any fun x=> !x))∧w=w':=by have hi:=RE (cap:=cap) hl hn hc;rw[←qW];generalize vj l _=y at*;clear hc;go_in;go_wp2_with fail;refine hi.mono ?_;rintro e w' ⟨rfl,rfl⟩;go_wp2_with fail;go_ret;exact⟨rfl,rfl⟩
end
section
open Go.RowKit Go.Shelf Go.WideShapes
def dU(w:World)(A:Option Addr)(L:List (Int×Int)):Prop:=∀j x,L[j]? =some x→∃g off,A=some (zc g off)∧w.cell? (zc g (off+j*2))=some (.i x.1)∧w.cell? (zc g (off+j*2+1))=some (.i x.2)
def pB(m:Nat)(x:Int×Int):Bool:= !vU x.1 0 ((m:Int)-1)|| !vU x.2 1 16
def sI(bs:List Bool)(x:Int×Int):List Bool:=bs.set x.1.toNat true
def vR(L:List (Int×Int))(m:Nat):Int:=if L.any (pB m)then 1 else if(L.foldl sI (List.replicate m false)).any (fun x=> !x)then 5 else 0
def qc(bs:List Bool):Array Value:=(bs.map Value.bool).toArray
theorem WB(n:Nat)(hn:n≤8)(w:World):(Instr.makeSlice 93 (.i n) (.i n)).run Tryz.prog w=.ok (.slice (zb w.heap.size) n n) (w.alloc (.cells (qc (List.replicate n false)) 4)):=by
 obtain⟨i0,hi,hz0,hz1,hz2⟩:=info_parts Tryz.Om;have:=run_makeSlice w (P:=Tryz.prog) 93 4 i0 _ Tryz.underlying93 hi hz0 .i64 .i64 n n (by omega) (by omega) (by rw[hz1];simp;omega) (by rw[hz2];omega) (by omega);rw[hz1]at this;have e:madeCells #[.bool false] (n*1)=qc (List.replicate n false):=by rw[yG];apply Array.toList_inj.1;rw[toList_madeCells_one];simp[qc]
 rw[←e];simpa[Value.cells]using this
theorem aI(L:List (Int×Int)):∀bs:List Bool,(L.foldl sI bs).length=bs.length:=by
 induction L with
 |nil=>intro bs;rfl
 |cons x L ih=>intro bs;rw[List.foldl_cons,ih,sI,zq]
theorem TL{w:World}{A:Option Addr}{n cap m:Nat}{L:List (Int×Int)}(hl:L.length=n)(hn:n≤1000)(hcap:n≤cap)(hm1:1≤m)(hm8:m≤8)(hc:dU w A L):Calls Tryz.prog 52 #[.slice A n cap,.i m] w fun e w'=>e=.returned (.i (vR L m))∧Below w.heap.size w w':=by
 have HC:=I hc;have hds:Hid (vR L m=if L.any (pB m)then 1 else if(L.foldl sI (List.replicate m false)).any (fun x=> !x)then 5 else 0):=I rfl;generalize vR L m=res at*;have hmk:=WB m hm8 w;have hwm:IntKind.i64.wrap ((m:Int)-1)=(m:Int)-1:=by rw[IntKind.wrap_i64];omega
 have HI:Hid ((w.alloc (.cells (qc (List.replicate m false)) 4)).heap[w.heap.size]? =some (.cells (qc (List.replicate m false)) 4 (0,0))∧Below w.heap.size w (w.alloc (.cells (qc (List.replicate m false)) 4))):=I ⟨World.alloc_heap_new _ _,(Below.refl _ _).alloc (zm _) _⟩;clear hc;go_in;go_wp2_with fail;go_loopw [12] (fun i wr=>∃j:Nat,i=.i j∧j≤n∧Below w.heap.size w wr∧wr.heap[w.heap.size]? =some (.cells (qc ((L.take j).foldl sI (List.replicate m false))) 4 (0,0))∧∀y∈L.take j,pB m y=false) (fun i _=>n-(intOf i).toNat);case atStart=>exact⟨0,rfl,by omega,HI.out.2,HI.out.1,by simp⟩
 case round=>
  obtain⟨j,rfl,hj,hb,hbs,hnot⟩:=hrel;by_cases hlt:j<n
  ·have dl:decide ((j:Int)<n)=true:=by simpa using hlt
   have hlt':(j:Int)<n:=by omega
   have hx:L[j]? =some L[j]:=zl (by omega);generalize L[j]=x at*;obtain⟨g,off,rfl,c0,c1⟩:=HC.out j x hx;replace c0:=Below.xT hb c0;replace c1:=Below.xT hb c1;have hxB:Hid (pB m x=(!vU x.1 0 ((m:Int)-1)|| !vU x.2 1 16)):=I rfl;have hbad:Hid (pB m x=true→res=1):=I fun h=>by rw[hds.out,if_pos (z7.2 ⟨x,zo hx,h⟩)]
   have hgood:Hid (pB m x=false→∀y∈L.take (j+1),pB m y=false):=I fun h=>vK hnot hx h;have hnext:Hid ((L.take (j+1)).foldl sI (List.replicate m false)=sI ((L.take j).foldl sI (List.replicate m false)) x):=I (by rw[yk,hx];simp);have hlen:Hid (((L.take j).foldl sI (List.replicate m false)).length=m):=I (by rw[aI];simp);generalize(L.take j).foldl sI (List.replicate m false)=bs at*;obtain⟨xd,xl⟩:=x;simp only at c0 c1;have HB:=I hb;have HV:Hid (Below w.heap.size w (wr.alloc (.cells #[.i xd,.i xl] 70))∧(wr.alloc (.cells #[.i xd,.i xl] 70)).heap[w.heap.size]? =some (.cells (qc bs) 4 (0,0))):=I ⟨hb.alloc hb.size _,(Below.heap_alloc _ _ _ (zI.1 hbs).1).trans hbs⟩;clear hb hbs hnot hx;cases hq1:vU xd 0 ((m:Int)-1)with
   |false=> have hr:=hbad.out (by rw[hxB.out];simp only[hq1];rfl);subst hr;go_wp2_with (first|(go_at_call 50;refine(vF _ _ _ _).mono ?_;rintro e w' ⟨rfl,rfl⟩;rw[hq1]));go_ret;exact⟨rfl,HV.out.1⟩
   |true=>
    cases hq2:vU xl 1 16 with
    |false=> have hr:=hbad.out (by rw[hxB.out];simp only[hq1,hq2];rfl);subst hr;go_wp2_with (first|(go_at_call 50;refine(vF _ _ _ _).mono ?_;rintro e w' ⟨rfl,rfl⟩;first|rw[hq1]|rw[hq2]));go_ret;exact⟨rfl,HV.out.1⟩
    |true=>
     have hN:=I (hgood.out (by rw[hxB.out];simp only[hq1,hq2];rfl));have hxr:0≤xd∧xd≤(m:Int)-1:=by simpa[vU]using hq1
     obtain⟨d,rfl⟩:∃d:Nat,xd=d:=⟨xd.toNat,by omega⟩;have hd:(d:Int)<m:=by omega
     have hdm:d<m:=by omega
     have hfz:(wr.alloc (.cells #[.i d,.i xl] 70)).frozen? (zc w.heap.size d)=false:=by simp[World.frozen?,HV.out.2]
     have hcl:(wr.alloc (.cells #[.i d,.i xl] 70)).cell? (zc w.heap.size d)=some (.bool (bs[d]'(by have:=hlen.out;omega))):=by have:=hlen.out;simp[World.cell?,HV.out.2,qc,show d<bs.length by omega]
     have HW:Hid (Below w.heap.size w ((wr.alloc (.cells #[.i d,.i xl] 70)).setCell (zc w.heap.size d) (.bool true))∧((wr.alloc (.cells #[.i d,.i xl] 70)).setCell (zc w.heap.size d) (.bool true)).heap[w.heap.size]? =some (.cells (qc (sI bs ((d:Int),xl))) 4 (0,0))):=by refine I ⟨HV.out.1.setCell (p:=(zc w.heap.size d)) (zm _) _,?_⟩;rw[heap_setCell_same HV.out.2];simp[qc,sI]
     go_wp2_with (first|(go_at_call 50;refine(vF _ _ _ _).mono ?_;rintro e w' ⟨rfl,rfl⟩;first|rw[hq1]|rw[hq2]));go_roundw;case rel=>exact⟨j+1,rfl,by omega,HW.out.1,by rw[hnext.out];exact HW.out.2,hN.out⟩
     case measure=>simp[intOf];omega
  ·obtain rfl:j=n:=by omega
   have dl:decide ((j:Int)<j)=false:=by simp
   rw[zO (by omega)]at hnot hbs;have hr:res=if(L.foldl sI (List.replicate m false)).any (fun x=> !x)then 5 else 0:=by rw[hds.out,if_neg];rw[z7];rintro⟨y,hy,h⟩;rw[hnot y hy]at h;cases h
   have hlen:(L.foldl sI (List.replicate m false)).length=m:=by rw[aI];simp
   generalize L.foldl sI (List.replicate m false)=bs at*;have h73:=XV (w:=wr) (g:=w.heap.size) (cap:=m) hlen (by omega) (fun k x hx=>by simp only[World.cell?,hbs,qc];simp[hx]);have HB:=I hb;clear hb hbs hnot hlen;cases hh:bs.any (fun x=> !x)with
   |false=> rw[hh]at hr h73;simp only[Bool.false_eq_true,if_false]at hr;subst hr;go_wp2_with fail;refine h73.mono ?_;rintro e w' ⟨rfl,rfl⟩;go_wp2_with fail;go_ret;exact⟨rfl,HB.out⟩
   |true=> rw[hh]at hr h73;simp only[if_true]at hr;subst hr;go_wp2_with fail;refine h73.mono ?_;rintro e w' ⟨rfl,rfl⟩;go_wp2_with fail;go_ret;exact⟨rfl,HB.out⟩
end
section
open Go.RowKit Go.Shelf Go.WideShapes
def sY(f:Nat→Int):Nat→Nat→Int
 |0,_=>0
 |n+1,i=>if f i=0 then sY f n (i+1)else f i
theorem gN(f:Nat→Int):∀(j n i:Nat),(∀k,k<j→f (i+k)=0)→sY f (j+n) i=sY f n (i+j)
 |0,n,i,_=>by simp
 |j+1,n,i,h=>by
  rw[show j+1+n=(j+n)+1 by omega,sY,if_pos (by simpa using h 0 (by omega)),gN f j n (i+1) fun k hk=>by have:=h (k+1) (by omega);rwa[show i+(k+1)=i+1+k by omega]at this]
  congr 1
  omega
theorem ZO{f:Nat→Int}{n j:Nat}(h:∀k,k<j→f k=0)(hj:j<n)(hf:f j≠0):sY f n 0=f j:=by obtain⟨m,rfl⟩:∃m,n=j+(m+1):=⟨n-j-1,by omega⟩;rw[gN f j (m+1) 0 (fun k hk=>by simpa using h k hk),sY];simp[hf]
theorem ck{f:Nat→Int}{n:Nat}(h:∀k,k<n→f k=0):sY f n 0=0:=by have:=gN f n 0 0 (fun k hk=>by simpa using h k hk);rw[yv]at this;rw[this,sY]
def rU(l:List Dv)(j:Nat):Int:=match l[j]? with
 |none=>0
 |some d=>if !pJ d.nm||decide (0≤vj (l.take j) fun x=>x.nm.toList==d.nm.toList)then 4 else if !pG d.lv d.ct then 3 else if !vU d.kt 1 8|| !vU d.ko 0 8|| !vU d.rg 1 16 then 1 else 0
def uO(l:List Dv):Int:=sY (rU l) l.length 0
theorem R1{w:World}{A:Option Addr}{n cap:Nat}{l:List Dv}(hl:l.length=n)(hn:n≤1000)(hcap:n≤cap)(hc:rI w A l):Calls Tryz.prog 51 #[.slice A n cap] w fun e w'=>e=.returned (.i (uO l))∧Below w.heap.size w w':=by
 have HC:=I hc;have hds:Hid (uO l=sY (rU l) n 0):=I (by unfold uO;rw[hl]);generalize uO l=res at*;clear hc;go_in;go_wp2_with fail;go_loopw [7] (fun i wr=>∃j:Nat,i=.i j∧j≤n∧Below w.heap.size w wr∧∀k,k<j→rU l k=0) (fun i _=>n-(intOf i).toNat);case atStart=>exact⟨0,rfl,by omega,Below.refl _ _,by omega⟩
 case round=>
  obtain⟨j,rfl,hj,hb,hnot⟩:=hrel;by_cases hlt:j<n
  ·have dl:decide ((j:Int)<n)=true:=by simpa using hlt
   have hlt':(j:Int)<n:=by omega
   have hx:l[j]? =some l[j]:=zl (by omega);generalize l[j]=x at*;obtain⟨g,off,rfl,hat⟩:=HC.out j x hx;obtain⟨c0,c1,c2,c3,c4,c5⟩:=hat.below hb;have hxe:Hid (rU l j=if !pJ x.nm||decide (0≤vj (l.take j) fun y=>y.nm.toList==x.nm.toList)then 4 else if !pG x.lv x.ct then 3 else if !vU x.kt 1 8|| !vU x.ko 0 8|| !vU x.rg 1 16 then 1 else 0):=I (by unfold rU;rw[hx]);obtain⟨nm,lv,ct,kt,ko,rg⟩:=x;simp only at c0 c1 c2 c3 c4 c5 hxe;have hnm:Hid (∀W,Calls Tryz.prog 70 #[.string nm] W fun e w'=>e=.returned (.bool (pJ nm))∧Below W.heap.size W w'):=I fun W=>T8 nm W;have hfi:Hid (∀W,Below w.heap.size w W→Calls Tryz.prog 71 #[.slice (some (zc g off)) j cap,.string nm] W fun e w'=>e=.returned (.i (vj (l.take j) fun y=>y.nm.toList==nm.toList))∧Below W.heap.size W w'):=I fun W hW=>R2 (by rw[zE];omega) (by omega) (by omega) ((HC.out.below hW).take j) nm;generalize pJ nm=nk at*;generalize vj (l.take j) _=ix at*;have hjc:(j:Int)≤cap:=by omega
   have HNot:=I hnot;have hERR:Hid (∀x,rU l j=x→x≠0→res=x):=I fun x hx h0=>by rw[hds.out,ZO hnot hlt (by rw[hx];exact h0),hx]
   obtain⟨V,hV⟩:∃V,wr.alloc (.cells #[.string nm,.i lv,.i ct,.i kt,.i ko,.i rg] 80)=V:=⟨_,rfl⟩;have hVo:V.heap[wr.heap.size]? =some (.cells #[.string nm,.i lv,.i ct,.i kt,.i ko,.i rg] 80 (0,0)):=by rw[←hV];exact World.alloc_heap_new _ _
   have hVl:wr.heap.size<V.heap.size:=by rw[←hV];simp
   have hVB:Below w.heap.size w V:=by rw[←hV];exact hb.alloc hb.size _
   have HBX:Hid (∀W,Below V.heap.size V W→W.cell? (zc wr.heap.size 0)=some (.string nm)∧W.cell? (zc wr.heap.size 1)=some (.i lv)∧W.cell? (zc wr.heap.size 2)=some (.i ct)∧W.cell? (zc wr.heap.size 3)=some (.i kt)∧W.cell? (zc wr.heap.size 4)=some (.i ko)∧W.cell? (zc wr.heap.size 5)=some (.i rg)):=I fun W hW=>by have e:=(hW.block _ hVl).trans hVo;simp[World.cell?,e]
   have HVB:Hid (∀W,Below V.heap.size V W→Below w.heap.size w W):=I fun W hW=>hVB.trans (hW.mono hVB.size);have hn0:=hnm.out V.drew;have HQ:Hid (∀W,Below V.heap.size V.drew W→W.cell? (zc wr.heap.size 0)=some (.string nm)∧Calls Tryz.prog 71 #[.slice (some (zc g off)) j cap,.string nm] W fun e w'=>e=.returned (.i ix)∧Below V.heap.size V w'):=I fun W hW=>by have hW':Below V.heap.size V W:=(Below.refl _ V).drew.trans hW;refine⟨(HBX.out W hW').1,(hfi.out W (HVB.out W hW')).mono ?_⟩;rintro e w' ⟨rfl,h⟩;exact⟨rfl,hW'.trans (h.mono hW'.size)⟩
   have b0:=(HBX.out V (Below.refl _ _)).1;replace hV:=I hV;clear hat hx hb hnot hVo hVB;go_wp2_with fail;rw[hV.out];cases nk with
   |false=>
    have hr:=hERR.out 4 (by rw[hxe.out];rfl) (by omega);subst hr;first|(go_region_with (first|(go_at_call 70;refine hn0.mono ?_;rintro e w5 ⟨rfl,hb5⟩;replace hb5:=I hb5)))|fail
    all_goals go_wp2_with fail;go_ret;exact⟨rfl,HVB.out _ ((Below.refl _ V).drew.trans hb5.out)⟩
   |true=>
    by_cases hix:0≤ix
    ·have hdx:decide (0≤ix)=true:=by simpa using hix
     have hr:=hERR.out 4 (by rw[hxe.out,hdx];rfl) (by omega);subst hr;first|(go_region_with (first|(go_at_call 70;refine hn0.mono ?_;rintro e w5 ⟨rfl,hb5⟩;obtain⟨b5,hq⟩:=HQ.out _ hb5;clear hb5 b0)|(go_at_call 71;refine hq.mono ?_;rintro e w6 ⟨rfl,hb6⟩;replace hb6:=I hb6)))|fail
     all_goals go_wp2_with fail;go_ret;exact⟨rfl,HVB.out _ hb6.out⟩
    ·have hdx:decide (0≤ix)=false:=by simpa using hix
     have hx2:Hid (rU l j=if(!pG lv ct)=true then 3 else if(!vU kt 1 8|| !vU ko 0 8|| !vU rg 1 16)=true then 1 else 0):=I (by rw[hxe.out,hdx];rfl);first|(go_region_with (first|(go_at_call 70;refine hn0.mono ?_;rintro e w5 ⟨rfl,hb5⟩;obtain⟨b5,hq⟩:=HQ.out _ hb5;clear hb5 b0)|(go_at_call 71;refine hq.mono ?_;rintro e w6 ⟨rfl,hb6⟩;replace hb6:=I hb6)))|fail
     have HB6:=I (HVB.out _ hb6.out);obtain⟨-,b1,b2,-,-,-⟩:=HBX.out w6 hb6.out;have hgd:Hid (∀W,Below V.heap.size V W→Calls Tryz.prog 72 #[Wm lv ct] W fun e w'=>e=.returned (.bool (pG lv ct))∧Below V.heap.size V w'):=I fun W hW=>(RL lv ct W).mono (by rintro e w' ⟨rfl,h⟩;exact⟨rfl,hW.trans (h.mono hW.size)⟩);have hg6:=hgd.out w6 hb6.out;generalize pG lv ct=gd at*;cases gd with
     |false=> have hr:=hERR.out 3 (by rw[hx2.out];rfl) (by omega);subst hr;go_wp2_with fail;refine hg6.mono ?_;rintro e w7 ⟨rfl,hb7⟩;have HB7:=I (HVB.out _ hb7);clear hb7 hg6;go_wp2_with fail;go_ret;exact⟨rfl,HB7.out⟩
     |true=>
      go_wp2_with fail;refine hg6.mono ?_;rintro e w7 ⟨rfl,hb7⟩;have HB7:=I (HVB.out _ hb7);obtain⟨-,-,-,b3,b4,b5'⟩:=HBX.out w7 hb7;clear hb7 hg6 b1 b2;cases hq1:vU kt 1 8 with
      |false=> have hr:=hERR.out 1 (by rw[hx2.out,hq1];rfl) (by omega);subst hr;go_wp2_with (first|(go_at_call 50;refine(vF _ _ _ _).mono ?_;rintro e w' ⟨rfl,rfl⟩;first|rw[hq1]));go_ret;exact⟨rfl,HB7.out⟩
      |true=>
       cases hq2:vU ko 0 8 with
       |false=> have hr:=hERR.out 1 (by rw[hx2.out,hq1,hq2];rfl) (by omega);subst hr;go_wp2_with (first|(go_at_call 50;refine(vF _ _ _ _).mono ?_;rintro e w' ⟨rfl,rfl⟩;first|rw[hq1]|rw[hq2]));go_ret;exact⟨rfl,HB7.out⟩
       |true=>
        cases hq3:vU rg 1 16 with
        |false=> have hr:=hERR.out 1 (by rw[hx2.out,hq1,hq2,hq3];rfl) (by omega);subst hr;go_wp2_with (first|(go_at_call 50;refine(vF _ _ _ _).mono ?_;rintro e w' ⟨rfl,rfl⟩;first|rw[hq1]|rw[hq2]|rw[hq3]));go_ret;exact⟨rfl,HB7.out⟩
        |true=>
         have HN:=I (show ∀k,k<j+1→rU l k=0 from fun k hk=>by
          rcases Nat.lt_succ_iff_lt_or_eq.1 hk with h|rfl
          ·exact HNot.out k h
          ·rw[hx2.out,hq1,hq2,hq3];rfl);go_wp2_with (first|(go_at_call 50;refine(vF _ _ _ _).mono ?_;rintro e w' ⟨rfl,rfl⟩;first|rw[hq1]|rw[hq2]|rw[hq3]));go_roundw;case rel=>exact⟨j+1,rfl,by omega,HB7.out,HN.out⟩
         case measure=>simp[intOf];omega
  ·obtain rfl:j=n:=by omega
   have dl:decide ((j:Int)<j)=false:=by simp
   have HR:Hid (res=0):=I (by rw[hds.out];exact ck hnot);have HB:=I hb;clear hb hnot;go_wp2_with fail;go_ret;exact⟨by rw[HR.out];rfl,HB.out⟩
end
section
open Go.RowKit Go.Shelf Go.WideShapes
structure Lk where
 kind:Int
 from_:Int
 aQ:Int
 size:Int
def Zh(w:World)(A:Option Addr)(L:List Lk):Prop:=∀j x,L[j]? =some x→∃g off,A=some (zc g off)∧w.cell? (zc g (off+j*4))=some (.i x.kind)∧w.cell? (zc g (off+j*4+1))=some (.i x.from_)∧w.cell? (zc g (off+j*4+2))=some (.i x.aQ)∧w.cell? (zc g (off+j*4+3))=some (.i x.size)
def fP(k:Int):Int:=if k=1 then 4 else if k=2 then 8 else 0
def qd(D:List Dv)(x:Lk):Int:=
 if !vU x.from_ 0 ((D.length:Int)-1)|| !vU x.aQ 0 ((D.length:Int)-1)||x.from_==x.aQ|| !vU x.size 1 (fP x.kind)then 1
 else match D[x.from_.toNat]?,D[x.aQ.toNat]? with
  |some a,some b=>if kh a.lv a.ct b.lv b.ct then 0 else 10
  |_,_=>0
def rY(D:List Dv)(L:List Lk):Int:=sY (fun j=>match L[j]? with|some x=>qd D x|none=>0) L.length 0
theorem TK{w:World}{DA:Option Addr}{nd dc:Nat}{sv:Value}{A:Option Addr}{n cap:Nat}{D:List Dv}{L:List Lk}(hdl:D.length=nd)(hd1:1≤nd)(hd8:nd≤8)(hdc:nd≤dc)(hD:rI w DA D)(hl:L.length=n)(hn:n≤1000)(hcap:n≤cap)(hc:Zh w A L):Calls Tryz.prog 53 #[.agg #[.slice DA nd dc,sv,.slice A n cap]] w fun e w'=>e=.returned (.i (rY D L))∧Below w.heap.size w w':=by
 have HC:=I hc;have HD:=I hD;have hds:Hid (rY D L=sY (fun j=>match L[j]? with|some x=>qd D x|none=>0) n 0):=I (by unfold rY;rw[hl]);generalize rY D L=res at*;have hwm:IntKind.i64.wrap ((nd:Int)-1)=(nd:Int)-1:=by rw[IntKind.wrap_i64];omega
 obtain⟨w1,hw1⟩:∃w1,w.alloc (.cells #[.slice DA nd dc,sv,.slice A n cap] 26)=w1:=⟨_,rfl⟩;have hb1:Below w.heap.size w w1:=by rw[←hw1];exact(Below.refl _ _).alloc (zm _) _
 have hz1:w1.heap.size=w.heap.size+1:=by rw[←hw1];simp
 have hbx:Hid (w1.heap[w.heap.size]? =some (.cells #[.slice DA nd dc,sv,.slice A n cap] 26 (0,0))):=I (by rw[←hw1];exact World.alloc_heap_new _ _);have HX:Hid (∀W,Below w1.heap.size w1 W→W.cell? (zc w.heap.size 0)=some (.slice DA nd dc)∧W.cell? (zc w.heap.size 2)=some (.slice A n cap)∧Below w.heap.size w W):=I fun W hW=>by have e:=(hW.block _ (by omega)).trans hbx.out;exact⟨by simp[World.cell?,e],by simp[World.cell?,e],hb1.trans (hW.mono hb1.size)⟩
 obtain⟨x0,x2,-⟩:=HX.out w1 (Below.refl _ _);replace hz1:=I hz1;replace hw1:=I hw1;have x0':(w.alloc (.cells #[.slice DA nd dc,sv,.slice A n cap] 26)).cell? (zc w.heap.size 0)=some (.slice DA nd dc):=by rw[hw1.out];exact x0
 have x2':(w.alloc (.cells #[.slice DA nd dc,sv,.slice A n cap] 26)).cell? (zc w.heap.size 2)=some (.slice A n cap):=by rw[hw1.out];exact x2
 clear hc hD hb1;go_in;go_wp2_with fail;go_loopw [13] (fun i wr=>∃j:Nat,i=.i j∧j≤n∧Below w1.heap.size w1 wr∧∀k,k<j→(match L[k]? with|some x=>qd D x|none=>0)=0) (fun i _=>n-(intOf i).toNat);case atStart=>exact⟨0,rfl,by omega,by rw[hw1.out];exact Below.refl _ _,by omega⟩
 case round=>
  clear x0 x2 x0' x2';obtain⟨j,rfl,hj,hb,hnot⟩:=hrel;obtain⟨x0,x2,hbw⟩:=HX.out wr hb;by_cases hlt:j<n
  ·have dl:decide ((j:Int)<n)=true:=by simpa using hlt
   have hlt':(j:Int)<n:=by omega
   have hx:L[j]? =some L[j]:=zl (by omega);generalize L[j]=x at*;obtain⟨g,off,rfl,c0,c1,c2,c3⟩:=HC.out j x hx;replace c0:=Below.xT hbw c0;replace c1:=Below.xT hbw c1;replace c2:=Below.xT hbw c2;replace c3:=Below.xT hbw c3;have hERR:Hid (∀v,qd D x=v→v≠0→res=v):=I fun v hv h0=>by rw[hds.out,ZO hnot hlt (by rw[hx];show qd D x≠0;rw[hv];exact h0)];simp only[hx,hv]
   have HN:Hid (qd D x=0→∀k,k<j+1→(match L[k]? with|some x=>qd D x|none=>0)=0):=I fun h k hk=>by
    rcases Nat.lt_succ_iff_lt_or_eq.1 hk with h1|rfl
    ·exact hnot k h1
    ·rw[hx];exact h
   obtain⟨kind,fr,to,size⟩:=x;have hxe:Hid (qd D ⟨kind,fr,to,size⟩=if !vU fr 0 ((nd:Int)-1)|| !vU to 0 ((nd:Int)-1)||fr==to|| !vU size 1 (fP kind)then 1 else match D[fr.toNat]?,D[to.toNat]? with|some a,some b=>if kh a.lv a.ct b.lv b.ct then 0 else 10|_,_=>0):=I (by unfold qd;rw[hdl]);simp only at c0 c1 c2 c3;have hmost:∀W,Calls Tryz.prog 74 #[.i kind] W fun e w'=>e=.returned (.i (fP kind))∧W=w':=fun W=>R3 W kind;obtain⟨V,hV⟩:∃V,wr.alloc (.cells #[.i kind,.i fr,.i to,.i size] 60)=V:=⟨_,rfl⟩;have hVo:V.heap[wr.heap.size]? =some (.cells #[.i kind,.i fr,.i to,.i size] 60 (0,0)):=by rw[←hV];exact World.alloc_heap_new _ _
   have hVB:Below w1.heap.size w1 V:=by rw[←hV];exact hb.alloc hb.size _
   obtain⟨y0,y2,hVw⟩:=HX.out V hVB;have b0:V.cell? (zc wr.heap.size 0)=some (.i kind):=by simp[World.cell?,hVo]
   have b1:V.cell? (zc wr.heap.size 1)=some (.i fr):=by simp[World.cell?,hVo]
   have b2:V.cell? (zc wr.heap.size 2)=some (.i to):=by simp[World.cell?,hVo]
   have b3:V.cell? (zc wr.heap.size 3)=some (.i size):=by simp[World.cell?,hVo]
   have HVw:=I hVw;have HVB:=I hVB;replace hV:=I hV;clear hb hnot hbw hx hVo hVB hVw;go_wp2_with fail;rw[hV.out];have HVN:Hid (∀k,Below w.heap.size w (V.drewN k)):=I fun k=>HVw.out.trans (⟨rfl,rfl,rfl,zm _,fun _ _=>rfl⟩:Below w.heap.size V (V.drewN k));cases hq1:vU fr 0 ((nd:Int)-1)with
   |false=> have hr:=hERR.out 1 (by rw[hxe.out];simp[hq1]) (by omega);subst hr;go_quiet (first|(go_at_call 50;first|exact Calls.quiet_of_same ((vF _ _ _ _).mono fun e w' h=>⟨h.1.trans (congrArg (fun b=>Ending.returned (.bool b)) hq1),h.2.symm⟩))|(go_at_call 74;exact Calls.quiet_of_same ((hmost _).mono fun e w' ⟨h1,h2⟩=>⟨h1,h2.symm⟩)));go_wp2_with fail;go_ret;exact⟨rfl,HVN.out _⟩
   |true=>
    cases hq2:vU to 0 ((nd:Int)-1)with
    |false=> have hr:=hERR.out 1 (by rw[hxe.out];simp[hq1,hq2]) (by omega);subst hr;go_quiet (first|(go_at_call 50;first|exact Calls.quiet_of_same ((vF _ _ _ _).mono fun e w' h=>⟨h.1.trans (congrArg (fun b=>Ending.returned (.bool b)) hq1),h.2.symm⟩)|exact Calls.quiet_of_same ((vF _ _ _ _).mono fun e w' h=>⟨h.1.trans (congrArg (fun b=>Ending.returned (.bool b)) hq2),h.2.symm⟩))|(go_at_call 74;exact Calls.quiet_of_same ((hmost _).mono fun e w' ⟨h1,h2⟩=>⟨h1,h2.symm⟩)));go_wp2_with fail;go_ret;exact⟨rfl,HVN.out _⟩
    |true=>
     cases hq3:(fr==to)with
     |true=> have hr:=hERR.out 1 (by rw[hxe.out];simp[hq1,hq2,hq3]) (by omega);subst hr;go_quiet (first|(go_at_call 50;first|exact Calls.quiet_of_same ((vF _ _ _ _).mono fun e w' h=>⟨h.1.trans (congrArg (fun b=>Ending.returned (.bool b)) hq1),h.2.symm⟩)|exact Calls.quiet_of_same ((vF _ _ _ _).mono fun e w' h=>⟨h.1.trans (congrArg (fun b=>Ending.returned (.bool b)) hq2),h.2.symm⟩))|(go_at_call 74;exact Calls.quiet_of_same ((hmost _).mono fun e w' ⟨h1,h2⟩=>⟨h1,h2.symm⟩)));go_wp2_with fail;go_ret;exact⟨rfl,HVN.out _⟩
     |false=>
      cases hq4:vU size 1 (fP kind)with
      |false=> have hr:=hERR.out 1 (by rw[hxe.out];simp[hq1,hq2,hq3,hq4]) (by omega);subst hr;go_quiet (first|(go_at_call 50;first|exact Calls.quiet_of_same ((vF _ _ _ _).mono fun e w' h=>⟨h.1.trans (congrArg (fun b=>Ending.returned (.bool b)) hq1),h.2.symm⟩)|exact Calls.quiet_of_same ((vF _ _ _ _).mono fun e w' h=>⟨h.1.trans (congrArg (fun b=>Ending.returned (.bool b)) hq2),h.2.symm⟩)|exact Calls.quiet_of_same ((vF _ _ _ _).mono fun e w' h=>⟨h.1.trans (congrArg (fun b=>Ending.returned (.bool b)) hq4),h.2.symm⟩))|(go_at_call 74;exact Calls.quiet_of_same ((hmost _).mono fun e w' ⟨h1,h2⟩=>⟨h1,h2.symm⟩)));go_wp2_with fail;go_ret;exact⟨rfl,HVN.out _⟩
      |true=>
       have hf:0≤fr∧fr≤(nd:Int)-1:=by simpa[vU]using hq1
       have ht:0≤to∧to≤(nd:Int)-1:=by simpa[vU]using hq2
       obtain⟨f,rfl⟩:∃f:Nat,fr=f:=⟨fr.toNat,by omega⟩;obtain⟨t,rfl⟩:∃t:Nat,to=t:=⟨to.toNat,by omega⟩;obtain⟨da,hda⟩:∃x,D[f]? =some x:=⟨_,zl (by omega)⟩;obtain⟨db,hdb⟩:∃x,D[t]? =some x:=⟨_,zl (by omega)⟩;obtain⟨gd,od,rfl,hat1⟩:=HD.out f da hda;obtain⟨gd',od',e,hat2⟩:=HD.out t db hdb;cases e;obtain⟨-,p1,p2,-,-,-⟩:=hat1.below HVw.out;obtain⟨-,r1,r2,-,-,-⟩:=hat2.below HVw.out;have hx3:Hid (qd D ⟨kind,f,t,size⟩=if kh da.lv da.ct db.lv db.ct then 0 else 10):=I (by rw[hxe.out];simp[hq1,hq2,hq3,hq4,hda,hdb]);have hft:(f:Int)<nd:=by omega
       have htt:(t:Int)<nd:=by omega
       generalize da.lv=alv at*;generalize da.ct=act at*;generalize db.lv=blv at*;generalize db.ct=bct at*;clear hat1 hat2 hda hdb;go_quiet (first|(go_at_call 50;first|exact Calls.quiet_of_same ((vF _ _ _ _).mono fun e w' h=>⟨h.1.trans (congrArg (fun b=>Ending.returned (.bool b)) hq1),h.2.symm⟩)|exact Calls.quiet_of_same ((vF _ _ _ _).mono fun e w' h=>⟨h.1.trans (congrArg (fun b=>Ending.returned (.bool b)) hq2),h.2.symm⟩)|exact Calls.quiet_of_same ((vF _ _ _ _).mono fun e w' h=>⟨h.1.trans (congrArg (fun b=>Ending.returned (.bool b)) hq4),h.2.symm⟩))|(go_at_call 74;exact Calls.quiet_of_same ((hmost _).mono fun e w' ⟨h1,h2⟩=>⟨h1,h2.symm⟩)));go_wp2_with fail;have hVd:Hid (∀k W,Below (V.drewN k).drew.heap.size (V.drewN k).drew W→Below w1.heap.size w1 W∧Below w.heap.size w W):=I fun k W hW=>by have e:Below V.heap.size V (V.drewN k).drew:=⟨rfl,rfl,rfl,zm _,fun _ _=>rfl⟩;have e2:Below V.heap.size V W:=e.trans hW;exact⟨HVB.out.trans (e2.mono HVB.out.size),HVw.out.trans (e2.mono HVw.out.size)⟩
       refine yP.region [0,1,2,3,4,5,6,7,8,9,10,11,12,13] (.step 14 (.step 15 .done)) (fun W=>W.cell? (zc w.heap.size 0)=some (.slice (some (zc gd od)) nd dc)∧W.cell? (zc wr.heap.size 1)=some (.i f)∧W.cell? (zc wr.heap.size 2)=some (.i t)∧W.cell? (zc gd (od+f*6+1))=some (.i alv)∧W.cell? (zc gd (od+f*6+2))=some (.i act)∧W.cell? (zc gd (od+t*6+1))=some (.i blv)∧W.cell? (zc gd (od+t*6+2))=some (.i bct)) (by kernel_rfl) (by kernel_rfl) (fun _ _ _ _ _ h=>h) ⟨y0,b1,b2,p1,p2,r1,r2⟩ ?_;clear x0 x2 y0 y2 b0 b1 b2 b3 p1 p2 r1 r2 c0 c1 c2 c3;repeat
        refine Perm.xm rfl ?_ (fun w' hS=>?_) ?_;rotate_left
        ·(obtain⟨s0,s1,s2,s3,s4,s5,s6⟩:=hS;go_simp;try with_reducible rfl)
        simp only[pt]
       refine Perm.xt ?_;refine yP.yY rfl (by rfl) ?_;refine yP.xJ rfl 75 _ _ rfl (by kernel_rfl) _ rfl ((Pz alv act blv bct _).mono ?_);rintro e w5 ⟨rfl,hb5⟩;obtain⟨HW1,HW⟩:=hVd.out _ _ hb5;replace HW1:=I HW1;replace HW:=I HW;refine⟨_,rfl,Perm.xx (by kernel_rfl),?_⟩;clear hb5;simp only[pt];cases hq5:kh alv act blv bct with
       |true=>
        rw[hq5]at hx3;have hN:=I (HN.out hx3.out);refine yP.xA rfl (by rfl) ?_ (fun w'=>?_) ?_;rotate_left
        ·(go_simp;try with_reducible rfl)
        simp only[pt];refine yP.xC ?_;go_wp2_with fail;go_roundw;case rel=>exact⟨j+1,rfl,by omega,HW1.out,hN.out⟩
        case measure=>simp[intOf];omega
       |false=>
        rw[hq5]at hx3;have hr:=hERR.out 10 hx3.out (by omega);subst hr;refine yP.xA rfl (by rfl) ?_ (fun w'=>?_) ?_;rotate_left
        ·(go_simp;try with_reducible rfl)
        simp only[pt];refine yP.xC ?_;go_wp2_with fail;go_ret;exact⟨rfl,HW.out⟩
  ·obtain rfl:j=n:=by omega
   have dl:decide ((j:Int)<j)=false:=by simp
   have HR:Hid (res=0):=I (by rw[hds.out];exact ck hnot);have HB:=I hbw;clear hb hnot hbw;go_wp2_with fail;go_ret;exact⟨by rw[HR.out];rfl,HB.out⟩
end
section
open Go.RowKit Go.Shelf Go.WideShapes
def ux(D:List Dv)(S:List (Int×Int))(L:List Lk):Int:=
 if !vU (D.length:Int) 1 8|| !vU (S.length:Int) 1 16||decide (8<(L.length:Int))then 1
 else if uO D≠0 then uO D
 else if vR S D.length≠0 then vR S D.length
 else rY D L
theorem TJ{w:World}{DA SA A:Option Addr}{nd dc ns sc n cap:Nat}{D:List Dv}{S:List (Int×Int)}{L:List Lk}(hdl:D.length=nd)(hdc:nd≤dc)(hD:rI w DA D)(hsl:S.length=ns)(hsc:ns≤sc)(hS:dU w SA S)(hl:L.length=n)(hcap:n≤cap)(hc:Zh w A L):Calls Tryz.prog 41 #[.agg #[.slice DA nd dc,.slice SA ns sc,.slice A n cap]] w fun e w'=>e=.returned (.i (ux D S L))∧Below w.heap.size w w':=by
 obtain⟨w1,hw1⟩:∃w1,w.alloc (.cells #[.slice DA nd dc,.slice SA ns sc,.slice A n cap] 26)=w1:=⟨_,rfl⟩;have hb1:Below w.heap.size w w1:=by rw[←hw1];exact(Below.refl _ _).alloc (zm _) _
 have hz1:w1.heap.size=w.heap.size+1:=by rw[←hw1];simp
 have hbx:w1.heap[w.heap.size]? =some (.cells #[.slice DA nd dc,.slice SA ns sc,.slice A n cap] 26 (0,0)):=by rw[←hw1];exact World.alloc_heap_new _ _
 have HP:Hid (∀W,Below w1.heap.size w1 W→nd≤8→Calls Tryz.prog 51 #[.slice DA nd dc] W fun e w'=>e=.returned (.i (uO D))∧Below w1.heap.size w1 w'):=I fun W hW h8=>(R1 hdl (by omega) hdc ((hD.below hb1).below hW)).mono (by rintro e w' ⟨rfl,h⟩;exact⟨rfl,hW.trans (h.mono hW.size)⟩);have HQ:Hid (∀W,Below w1.heap.size w1 W→1≤nd→nd≤8→ns≤16→Calls Tryz.prog 52 #[.slice SA ns sc,.i nd] W fun e w'=>e=.returned (.i (vR S nd))∧Below w1.heap.size w1 w'):=I fun W hW h1 h8 h16=>(TL hsl (by omega) hsc h1 h8 (fun j x hx=>by obtain⟨g,off,e,c0,c1⟩:=hS j x hx;exact⟨g,off,e,Below.xT hW (Below.xT hb1 c0),Below.xT hW (Below.xT hb1 c1)⟩)).mono (by rintro e w' ⟨rfl,h⟩;exact⟨rfl,hW.trans (h.mono hW.size)⟩);have HR:Hid (∀W,Below w1.heap.size w1 W→1≤nd→nd≤8→n≤8→Calls Tryz.prog 53 #[.agg #[.slice DA nd dc,.slice SA ns sc,.slice A n cap]] W fun e w'=>e=.returned (.i (rY D L))∧Below w1.heap.size w1 w'):=I fun W hW h1 h8 hn8=>(TK hdl h1 h8 hdc ((hD.below hb1).below hW) hl (by omega) hcap (fun j x hx=>by obtain⟨g,off,e,c0,c1,c2,c3⟩:=hc j x hx;exact⟨g,off,e,Below.xT hW (Below.xT hb1 c0),Below.xT hW (Below.xT hb1 c1),Below.xT hW (Below.xT hb1 c2),Below.xT hW (Below.xT hb1 c3)⟩)).mono (by rintro e w' ⟨rfl,h⟩;exact⟨rfl,hW.trans (h.mono hW.size)⟩);have hres:Hid (ux D S L=if !vU (nd:Int) 1 8|| !vU (ns:Int) 1 16||decide (8<(n:Int))then 1 else if uO D≠0 then uO D else if vR S nd≠0 then vR S nd else rY D L):=I (by unfold ux;rw[hdl,hsl,hl]);generalize ux D S L=res at*;have HX:Hid (∀W,Below w1.heap.size w1 W→W.cell? (zc w.heap.size 0)=some (.slice DA nd dc)∧W.cell? (zc w.heap.size 1)=some (.slice SA ns sc)∧W.cell? (zc w.heap.size 2)=some (.slice A n cap)∧Below w.heap.size w W):=I fun W hW=>by have e:=(hW.block _ (by omega)).trans hbx;exact⟨by simp[World.cell?,e],by simp[World.cell?,e],by simp[World.cell?,e],hb1.trans (hW.mono hb1.size)⟩
 obtain⟨x0,x1,x2,-⟩:=HX.out w1 (Below.refl _ _);rw[←hw1]at x0 x1 x2;replace hbx:=I hbx;replace hz1:=I hz1;replace hw1:=I hw1;have hB1:=HX.out w1 (Below.refl _ _) |>.2.2.2;rw[←hw1.out]at hB1;have HB1:=I hB1;clear hD hS hc hb1 hB1;cases hq1:vU (nd:Int) 1 8 with
 |false=>
  have hr:res=1:=by rw[hres.out];simp[hq1]
  subst hr;go_in;go_wp2_with (first|(go_at_call 50;refine(vF _ _ _ _).mono ?_;rintro e w' ⟨rfl,rfl⟩;rw[hq1]));go_ret;exact⟨rfl,HB1.out⟩
 |true=>
  cases hq2:vU (ns:Int) 1 16 with
  |false=>
   have hr:res=1:=by rw[hres.out];simp[hq2]
   subst hr;go_in;go_wp2_with (first|(go_at_call 50;refine(vF _ _ _ _).mono ?_;rintro e w' ⟨rfl,rfl⟩;first|rw[hq1]|rw[hq2]));go_ret;exact⟨rfl,HB1.out⟩
  |true=>
   cases hq3:decide (8<(n:Int))with
   |true=>
    have hr:res=1:=by rw[hres.out];simp[hq3]
    subst hr;go_in;go_wp2_with (first|(go_at_call 50;refine(vF _ _ _ _).mono ?_;rintro e w' ⟨rfl,rfl⟩;first|rw[hq1]|rw[hq2]));go_ret;exact⟨rfl,HB1.out⟩
   |false=>
    have hn1:1≤(nd:Int)∧(nd:Int)≤8:=by simpa[vU]using hq1
    have hs1:1≤(ns:Int)∧(ns:Int)≤16:=by simpa[vU]using hq2
    have hn8:n≤8:=by simp at hq3;omega
    have hr:Hid (res=if uO D≠0 then uO D else if vR S nd≠0 then vR S nd else rY D L):=I (by rw[hres.out,hq1,hq2,hq3];simp);have p1:=HP.out w1 (Below.refl _ _) (by omega);have HQ':Hid (∀W,Below w1.heap.size w1 W→Calls Tryz.prog 52 #[.slice SA ns sc,.i nd] W fun e w'=>e=.returned (.i (vR S nd))∧Below w1.heap.size w1 w'):=I fun W hW=>HQ.out W hW (by omega) (by omega) (by omega);have HR':Hid (∀W,Below w1.heap.size w1 W→Calls Tryz.prog 53 #[.agg #[.slice DA nd dc,.slice SA ns sc,.slice A n cap]] W fun e w'=>e=.returned (.i (rY D L))∧Below w1.heap.size w1 w'):=I fun W hW=>HR.out W hW (by omega) (by omega) hn8;generalize uO D=e1 at*;generalize vR S nd=e2 at*;generalize rY D L=e3 at*;go_in;by_cases h1:e1=0
    ·subst h1;go_wp2_with (first|(go_at_call 50;refine(vF _ _ _ _).mono ?_;rintro e w' ⟨rfl,rfl⟩;first|rw[hq1]|rw[hq2])|(go_at_call 51;rw[hw1.out];refine p1.mono ?_;rintro e w2 ⟨rfl,hb2⟩;clear x0 x1 x2;obtain⟨x0,x1,x2,hb2w⟩:=HX.out w2 hb2;have p2:=HQ'.out w2 hb2;clear hb2 hb2w));by_cases h2:e2=0
     ·subst h2;have hr2:res=e3:=by rw[hr.out];simp
      subst hr2;refine p2.mono ?_;rintro e w3 ⟨rfl,hb3⟩;clear x0 x1 x2 p2;obtain⟨x0,x1,x2,-⟩:=HX.out w3 hb3;have p3:=HR'.out w3 hb3;clear hb3;go_wp2_with fail;refine p3.mono ?_;rintro e w4 ⟨rfl,hb4⟩;obtain⟨-,-,-,hb4w⟩:=HX.out w4 hb4;have HB4:=I hb4w;clear hb4 hb4w x0 x1 x2 p3;go_wp2_with fail;go_ret;exact⟨rfl,HB4.out⟩
     ·have hd:(e2==0)=false:=by simpa using h2
      have hr2:res=e2:=by rw[hr.out];simp[h2]
      subst hr2;refine p2.mono ?_;rintro e w3 ⟨rfl,hb3⟩;obtain⟨-,-,-,hb3w⟩:=HX.out w3 hb3;have HB3:=I hb3w;clear hb3 hb3w x0 x1 x2 p2;go_wp2_with fail;go_ret;exact⟨rfl,HB3.out⟩
    ·have hd:(e1==0)=false:=by simpa using h1
     have hr2:res=e1:=by rw[hr.out,if_pos h1]
     subst hr2;go_wp2_with (first|(go_at_call 50;refine(vF _ _ _ _).mono ?_;rintro e w' ⟨rfl,rfl⟩;first|rw[hq1]|rw[hq2])|(go_at_call 51;rw[hw1.out];refine p1.mono ?_;rintro e w2 ⟨rfl,hb2⟩;clear x0 x1 x2;obtain⟨-,-,-,hb2w⟩:=HX.out w2 hb2;replace hb2w:=I hb2w;clear hb2));go_ret;exact⟨rfl,hb2w.out⟩
end
section
open Go
namespace yP
open Perm
def cK:Nat→List (List Bool)
 |0=>[[]]
 |n+1=>(cK n).flatMap fun b=>[false::b,true::b]
theorem aw:∀(bs:List Bool),bs∈cK bs.length
 |[]=>by simp[cK]
 |b::bs=>by
  simp only[zM,cK,List.mem_flatMap]
  refine⟨bs,aw bs,?_⟩
  cases b<;>simp
def pK:List Nat→List Bool→List Nat
 |k::ks,b::bs=>if b then k::pK ks bs else pK ks bs
 |_,_=>[]
theorem qK(f:Nat→Bool):∀ws:List Nat,pK ws (ws.map f)=ws.filter f
 |[]=>rfl
 |k::ks=>by
  simp only[yK,pK]
  cases h:f k
  ·rw[List.filter_cons_of_neg (by rw[h];decide),qK f ks];rfl
  ·rw[List.filter_cons_of_pos h,qK f ks];rfl
section
variable {P:Program} {ops:Array Oper} {md:Region.Mode} {Q:Exit→Act→World→Prop} {S:World→Prop} {need:Nat→Bool}
def Zq(md:Region.Mode)(ops:Array Oper)(ws:List Nat)(p:yP)(l0:Array Bool)(bs:List Bool):Bool:=
 (((Region.ready md ops (vM (pK ws bs) l0)).all fun k=>(pK ws (bs.map not)).contains k)&& !(Region.ready md ops (vM (pK ws bs) l0)).isEmpty||bs.all id)&&(!bs.all id||ok md ops p (vM (pK ws bs) l0))
def T7(md:Region.Mode)(ops:Array Oper)(ws:List Nat)(p:yP)(l0:Array Bool):Bool:=
 (cK ws.length).all (Zq md ops ws p l0)&&ws.all fun k=>((ops[k]?).map fun o=>o.guard.isNone).getD false
theorem eZ:∀(ks:List Nat) (l:Array Bool),(vM ks l).size=l.size
 |[],_=>rfl
 |k::ks,l=>by rw[vM,eZ ks];simp
theorem fp:∀(ks:List Nat) (l:Array Bool) (j:Nat),(vM ks l)[j]? =if j∈ks∧j<l.size then some true else l[j]?
 |[],l,j=>by simp[vM]
 |k::ks,l,j=>by
  rw[vM,fp ks]
  simp only[Array.size_setIfInBounds,yf,List.mem_cons]
  by_cases h1:j∈ks
  ·by_cases h2:j<l.size
   ·simp[h1,h2]
   ·by_cases h3:k=j
    ·subst h3;simp[h2]
    ·simp[h2,h3]
  ·by_cases h3:k=j
   ·subst h3
    by_cases h2:k<l.size
    ·simp[h1,h2]
    ·simp[h1,h2]
   ·have h4:¬j=k:=fun e=>h3 e.symm
    simp[h1,h3,h4]
theorem Y9(ws:List Nat)(f:Nat→Bool){i:Nat}(hi:i∈ws)(l:Array Bool):vM (ws.filter fun k=>f k||k==i) l=(vM (ws.filter f) l).setIfInBounds i true:=by
 apply Array.ext_getElem?;intro j;rw[fp,yf,fp,eZ];simp only[List.mem_filter,Bool.or_eq_true,beq_iff_eq];by_cases e:i=j
 ·subst e;by_cases h2:i<l.size
  ·simp[hi,h2]
  ·simp[h2]
 ·have e':¬j=i:=fun c=>e c.symm;simp[e,e']
theorem eT(f:Nat→Bool){i:Nat}(hf:f i=false):∀(ws:List Nat),i∈ws→(ws.filter fun k=> !(f k||k==i)).length<(ws.filter fun k=> !f k).length
 |k::ks,hi=>by
  have hle:∀l:List Nat,(l.filter fun k=> !(f k||k==i)).length≤(l.filter fun k=> !f k).length:=fun l=>by
   induction l with
   |nil=>simp
   |cons a l ih=>
    by_cases h1:f a=true
    ·simp[h1];simpa using ih
    ·by_cases h2:a=i
     ·simp[h1,h2,hf];have:=ih;simp at this;omega
     ·simp[h1,h2];simpa using ih
  by_cases e:k=i
  ·subst e
   have:=hle ks
   simp[hf]at this⊢
   omega
  ·have hk:i∈ks:=by
    rcases List.mem_cons.1 hi with h|h
    ·exact absurd h.symm e
    ·exact h
   have ih:=eT f hf ks hk
   by_cases h1:f k=true
   ·simp[h1]at ih⊢;exact ih
   ·simp[h1,e]at ih⊢;omega
theorem SU(hsel:Region.noSelect ops=true)(hQ:∀c (a:Act) d v w,Q (.panic c) (a.put d v) w→Q (.panic c) a w)(ws:List Nat)(p:yP)(l0:Array Bool)(hB:T7 md ops ws p l0=true)(J:(Nat→Bool)→Act→World→Prop)(hstep:∀f i a w,i∈ws→f i=false→J f a w→∀o,ops[i]? =some o→o.wp P a w (fun a' w'=>(need i=true→S w→S w')∧J (fun k=>f k||k==i) a' w') Q)(hdone:∀f a w,(∀i∈ws,f i=true)→J f a w→wp P ops Q S need p a w):∀(N:Nat) (f:Nat→Bool) (a:Act) (w:World),(ws.filter fun k=> !f k).length≤N→uk md ops (vM (ws.filter f) l0)→J f a w→uY P md ops Q S need (N+p.len) (vM (ws.filter f) l0) a w:=by
 simp only[T7,zL,List.all_eq_true]at hB;obtain⟨hB,hG⟩:=hB;have hchk:∀f:Nat→Bool,Zq md ops ws p l0 (ws.map f)=true:=fun f=>hB _ (by have:=aw (ws.map f);rwa[zA]at this);intro N;induction N with
 |zero=>
  intro f a w hN hc hJ;have hall:∀i∈ws,f i=true:=fun i hi=>by
   cases h:f i with
   |true=>rfl
   |false=> have:i∈ws.filter fun k=> !f k:=List.mem_filter.2 ⟨hi,by simp[h]⟩;have:=List.length_pos_of_mem this;omega
  have h1:=hchk f;unfold Zq at h1;have h2:(ws.map f).all id=true:=by simpa using hall
  rw[h2]at h1;simp only[Bool.or_true,Bool.not_true,Bool.false_or,Bool.true_and]at h1;rw[qK]at h1;rw[zy];exact pE hsel hQ p _ a w hc h1 (hdone f a w hall hJ)
 |succ N ih=>
  intro f a w hN hc hJ;by_cases hz:(ws.filter fun k=> !f k).length=0
  ·exact gH (by omega) (ih f a w (by omega) hc hJ)
  have h1:=hchk f;unfold Zq at h1;have h2:(ws.map f).all id=false:=by
   rw[Bool.eq_false_iff];intro h;apply hz;rw[yL,List.filter_eq_nil_iff];intro k hk;have:f k=true:=by have h':=List.all_eq_true.1 h (f k) (yc.2 ⟨k,hk,rfl⟩);exact h'
   simp[this]
  rw[h2]at h1;simp only[Bool.or_false,Bool.not_false,Bool.true_or,Bool.and_true]at h1;have hmm:(ws.map f).map not=ws.map fun k=> !f k:=by simp
  rw[hmm,qK,qK]at h1;rw[zL]at h1;have hr:∀i∈Region.ready md ops (vM (ws.filter f) l0),i∈ws.filter fun k=> !f k:=fun i hi=>by have:=List.all_eq_true.1 h1.1 i hi;simpa using this
  have hr0:Region.ready md ops (vM (ws.filter f) l0)≠[]:=fun e=>by have h2:=h1.2;rw[e]at h2;cases h2
  rw[show N+1+p.len=(N+p.len)+1 by omega];refine⟨fun h1=>?_,fun i hi=>?_⟩
  ·exact absurd h1 hr0
  ·have hi0:=hi;obtain⟨hiw,hfi⟩:=List.mem_filter.1 (hr i hi);have hfi':f i=false:=by simpa using hfi
   have hg:=hG i hiw;unfold wpOp;cases h0:ops[i]? with
   |none=>rw[h0]at hg;cases hg
   |some o=> rw[h0]at hg;simp only[yo,yt]at hg;simp only[uv hg,if_true];refine .inl (Oper.wp_mono (fun a' w' h'=>⟨h'.1,?_⟩) (hstep f i a w hiw hfi' hJ o h0));have hcs:=hc.set hi0;rw[←Y9 ws f hiw]at hcs⊢;exact ih _ a' w' (by have:=eT f hfi' ws hiw;omega) hcs h'.2
def QO(md:Region.Mode)(l:List Oper)(one ws:List Nat)(p:yP):Bool:=
 Region.noSelect l.toArray&&decide (one.length+(ws.length+p.len)=l.length)&&pI md l.toArray one (Array.replicate l.length false)&&T7 md l.toArray ws p (vM one (Array.replicate l.length false))
theorem R8{id:Nat}{a:Act}{w:World}(one ws:List Nat)(p:yP)(S:World→Prop)(J:(Nat→Bool)→Act→World→Prop)(hm:P.follows .mixedOrders=true){l:List Oper}(hB:QO .any l one ws p=true)(hQ':∀c (a:Act) t v w,Q (.panic c) (a.put (some t) v) w→Q (.panic c) a w)(hS:S w.drew)(h:tB P l.toArray S (fun a'=>J (fun _=>false) a' w.drew) one a)(hstep:∀f i a w,i∈ws→f i=false→J f a w→∀o,l.toArray[i]? =some o→o.wp P a w (fun a' w'=>(sZ .any l.toArray one i=true→S w→S w')∧J (fun k=>f k||k==i) a' w') Q)(hdone:∀f a w,(∀i∈ws,f i=true)→J f a w→wp P l.toArray Q S (sZ .any l.toArray one) p a w):(Code.region id l.toArray true).wp P Q a w:=by
 have hQ:∀c (a:Act) d v w,Q (.panic c) (a.put d v) w→Q (.panic c) a w:=fun c a d v w h=>by
  cases d with
  |none=>exact h
  |some t=>exact hQ' c a t v w h
 simp only[QO,zL,decide_eq_true_eq]at hB;obtain⟨⟨⟨hsel,hn⟩,h1⟩,h2⟩:=hB;have hc0:uk .any l.toArray (Array.replicate l.length false):=fun j oj _ hl=>by rw[getD_replicate_false]at hl;cases hl
 refine wp_region_any hm (rK (S:=S) (need:=sZ .any l.toArray one) _ _ _ _ ?_);have hsz:l.toArray.size=l.length:=by simp
 rw[hsz];have hg:=qu (one:=one) (g:=ws.length+p.len) (fun _=>rfl) hsel hQ hS one _ a (fun _ h=>h) hc0 h1 (fun a' hK hc=>by
  have hf:ws.filter (fun _=>false)=[]:=by simp
  have:=SU (S:=S) (need:=sZ .any l.toArray one) hsel hQ ws p _ h2 J hstep hdone ws.length (fun _=>false) a' w.drew (List.length_filter_le _ _) (by rw[hf];exact hc) hK;rw[hf]at this;exact this) h;rw[hn]at hg;exact hg
end
end yP
end
section
open Go.RowKit Go.WideShapes
def Rc.xq(x:Rc):Array Value:=#[.i x.seq,.i x.xI,.i x.clock,.i x.op,.i x.e,.i x.n,.i x.m,.i x.a,.i x.b,.i x.c]
theorem Qs(l m:List Int):wv l++wv m=wv (l++m):=by simp[wv]
theorem S7{w:World}(g n c:Nat)(h:n≤c)(hn:n≤1000):Calls Tryz.prog 268 #[.slice (zb g) n c] w fun e w'=>e=.returned (.slice (zb g) n n)∧w=w':=by
 have h1:(n:Int)≤c:=by omega
 go_in;go_wp2_with fail;go_ret;exact⟨rfl,rfl⟩
theorem SX{w:World}(x:Rc):Calls Tryz.prog 205 #[.agg x.xq] w fun e w'=>∃g l,e=.returned (.slice (zb g) 80 80)∧l.length=80∧(∀(j:Nat) u,(wv l)[j]? =some u→w'.cell? (zc g j)=some u)∧Below w.heap.size w w':=by
 have o1:=(Own.start w).new 1 (.cells x.xq 282);have b1:=yQ (fun _=>none) 1 w.heap.size (.cells x.xq 282);have HC:Hid (∀(j:Nat) u,x.xq[j]? =some u→(w.alloc (.cells x.xq 282)).cell? (zc w.heap.size j)=some u):=I fun j u hj=>o1.cell b1 hj;obtain⟨s,t,cl,op,e,n,m,a,b,c⟩:=x;have r0:=HC.out 0 _ rfl;have r1:=HC.out 1 _ rfl;have r2:=HC.out 2 _ rfl;have r3:=HC.out 3 _ rfl;have r4:=HC.out 4 _ rfl;have r5:=HC.out 5 _ rfl;have r6:=HC.out 6 _ rfl;have r7:=HC.out 7 _ rfl;have r8:=HC.out 8 _ rfl;have r9:=HC.out 9 _ rfl;have o2:=o1.new 2 (.cells (ints [s,t,cl,op,e,n,m,a,b,c]).toArray 3);have b2:=yQ (put (fun _=>none) 1 w.heap.size (.cells (Rc.xq ⟨s,t,cl,op,e,n,m,a,b,c⟩) 282)) 2 (w.alloc (.cells (Rc.xq ⟨s,t,cl,op,e,n,m,a,b,c⟩) 282)).heap.size (.cells (ints [s,t,cl,op,e,n,m,a,b,c]).toArray 3);have hl:[s,t,cl,op,e,n,m,a,b,c].length=10:=rfl;have HO:Hid (∃γ,Own w ((w.alloc (.cells #[.i s,.i t,.i cl,.i op,.i e,.i n,.i m,.i a,.i b,.i c] 282)).alloc (.cells #[.i s,.i t,.i cl,.i op,.i e,.i n,.i m,.i a,.i b,.i c] 3)) γ∧γ 2=some (w.heap.size+1,.cells (ints [s,t,cl,op,e,n,m,a,b,c]).toArray 3 (0,0))):=by exact I ⟨_,o2,b2.trans (by rw[show(w.alloc (.cells (Rc.xq ⟨s,t,cl,op,e,n,m,a,b,c⟩) 282)).heap.size=w.heap.size+1 by simp])⟩
 unfold Rc.xq at r0 r1 r2 r3 r4 r5 r6 r7 r8 r9⊢;generalize [s,t,cl,op,e,n,m,a,b,c]=L at*;clear o1 b1 HC o2 b2;go_in;go_wp2_with fail;generalize(w.alloc (.cells #[.i s,.i t,.i cl,.i op,.i e,.i n,.i m,.i a,.i b,.i c] 282)).alloc (.cells #[.i s,.i t,.i cl,.i op,.i e,.i n,.i m,.i a,.i b,.i c] 3)=W0 at*;clear r0 r1 r2 r3 r4 r5 r6 r7 r8 r9;go_loopw [3,35] (fun v i wr=>∃(a:Nat) (γ:U) (l:List Int),i=.i a∧a≤10∧Own w wr γ∧γ 2=some (w.heap.size+1,.cells (ints L).toArray 3 (0,0))∧yR γ 3 5 1 v (8*a) (wv l)) (fun _ i _=>10-(intOf i).toNat)
 case atStart=>
  obtain⟨γ,o,b2⟩:=HO.out;exact⟨0,fun k=>if k=3 then none else γ k,[],rfl,by omega,o.less fun k x hk=>by
   by_cases e:k=3
   ·simp[e]at hk
   ·simpa[e]using hk,by simpa using b2,yR.nil _ _ _ _⟩
 case round=>
  clear HO;obtain⟨a,γ,l,rfl,ha,o,q2,sl⟩:=hrel;by_cases hl:a<10
  ·have dl:decide ((a:Int)<10)=true:=by simp;omega
   have hx:=o.cell q2 (i:=a) (v:=.i (L.getD a 0)) (by simp[ints,zn,show a<L.length by omega]);have h10:(a:Int)<10:=by omega
   generalize L.getD a 0=xa at*;go_wp2_with fail;go_loopw [3,39] (fun v i wr=>∃(b:Nat) (γ:U) (l:List Int),i=.i b∧b≤8∧Own w wr γ∧γ 2=some (w.heap.size+1,.cells (ints L).toArray 3 (0,0))∧yR γ 3 5 1 v (8*a+b) (wv l)) (fun _ i _=>8-(intOf i).toNat);case atStart=>exact⟨0,γ,l,rfl,by omega,o,q2,sl⟩
   case round=>
    clear o sl q2 hx;obtain⟨b,γ,l,rfl,hb,o,q2,sl⟩:=hrel;by_cases hlb:b<8
    ·have dlb:decide ((b:Int)<8)=true:=by simp;omega
     have HO:Hid (∀x,Own w (wr.alloc (.cells #[.int .u8 x] 5)) γ):=I fun x=>(kS o x).1;have HR:Hid (∀x,Reads (wr.alloc (.cells #[.int .u8 x] 5)) 1 (.slice (zb wr.heap.size) 1 1) 1 (wv [x])):=I fun x=>(kS o x).2;have HS:=I sl;have HQ:=I q2;clear o sl q2;have hsb:(8*(b:Int)<0)=False:=by simp;omega
     go_wp2_with (at_builtin;refine xG rfl (.tmp 42) (.tmp 49) 245 rfl 5 _ 1 1 Tryz.underlying245 Tryz.eF rfl (by decide) (HO.out _) HS.out rfl (HR.out _) rfl ?_ ?_ ?_)
     ·unfold maxLen;omega
     ·omega
     intro A' cap' w5 γ5 hA5 o5 s5 k5;have HF:Hid (∃γ' l',Own w w5 γ'∧γ' 2=some (w.heap.size+1,.cells (ints L).toArray 3 (0,0))∧yR γ' 3 5 1 (.slice A' (8*a+b+1) cap') (8*a+(b+1)) (wv l')):=by rw[Qs]at s5;exact I ⟨γ5,_,o5,(k5 2 (by omega)).trans HQ.out,by rw[←Nat.add_assoc];exact s5⟩
     clear o5 s5 k5 hA5 HO HR HS HQ;go_wp2_with fail;obtain⟨γ7,l7,o7,q7,s7⟩:=HF.out;exact⟨⟨b+1,γ7,l7,by simp,by omega,o7,q7,s7⟩,by simp[intOf];omega⟩
    ·obtain rfl:b=8:=by omega
     have dlb:decide (((8:Nat):Int)<8)=false:=by simp
     have HF:=I o;have HS:=I sl;have HQ:=I q2;clear o sl q2;go_wp2_with fail;exact⟨⟨a+1,γ,l,by simp,by omega,HF.out,HQ.out,by rw[Nat.mul_add];exact HS.out⟩,by simp[intOf];omega⟩
  ·obtain rfl:a=10:=by omega
   have dl:decide (((10:Nat):Int)<10)=false:=by simp
   obtain⟨g5,cap5,cur5,rfl,hg5,hcc,-,-,-,-,hcl⟩:=sl.gJ o (by omega);have hl80:l.length=80:=by have:=sl.1;rw[tG]at this;omega
   have HF:Hid (∃g l,Ending.returned (.slice (zb g5) 80 80)=.returned (.slice (zb g) 80 80)∧l.length=80∧(∀(j:Nat) u,(wv l)[j]? =some u→wr.cell? (zc g j)=some u)∧Below w.heap.size w wr):=I ⟨g5,l,rfl,hl80,fun j u hj=>by have:=hcl j u hj;rwa[Go.WideShapes.add_plain,zy]at this,o.below⟩;clear o sl q2 hg5 hcl;go_wp2_with fail;refine(S7 _ _ _ hcc (by omega)).mono ?_;rintro e w' ⟨rfl,rfl⟩;go_wp2_with fail;go_ret;exact HF.out
end
end Go.Proofs.YtkmamlifgbocgaaGreat
