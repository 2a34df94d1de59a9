/- What the program's code does, as contracts, and what follows of it, part 1: for the law's proof. -/
import Derived.Test.YtkmamlifgbocgaaGreatP00
import Derived.ProofKit
import Derived.Deep.Slices
import Derived.Below
import Derived.Carry
import Derived.Deep.Draws
import Derived.WalkKit
import Derived.Deep.QuietTactic
import Derived.BigQuiet
import Derived.Maps.AppendAt
import Derived.OwnWalk
import Derived.Deep.AppendLies
import Derived.WideShapes
import Derived.Laws.OwnMore
set_option linter.unusedVariables false
set_option linter.unusedSimpArgs false
set_option maxRecDepth 100000
set_option maxHeartbeats 16000000
namespace Go.Proofs.YtkmamlifgbocgaaGreat
section
open Go.RowKit Go.Deep Go.WideShapes
inductive CK where
 |int (k:IntKind)
 |bool
 |str
 |any
def CK.fits:CK→Value→Prop
 | .int k,v=>∃n,v=.int k n∧(Lit.int k n).wf=true
 | .bool,v=>∃b,v=.bool b
 | .str,v=>∃s,v=.string s
 | .any,_=>True
mutual
def flat(P:Program):Nat→TypeId→Option (List CK)
 |0,_=>none
 |f+1,t=>match P.underlying t with
  |some .bool=>some [.bool]
  |some (.int k)=>some [.int k]
  |some .string=>some [.str]
  |some (.struct fs)=>kE P f 0 fs.toList
  |some _=>if P.cellsOf t=1 then some [.any]else none
  |none=>none
def kE(P:Program):Nat→Nat→List Field→Option (List CK)
 |_,_,[]=>some []
 |0,_,_::_=>none
 |f+1,off,fd::rest=>match flat P f fd.type,kE P f (off+P.cellsOf fd.type) rest with
  |some a,some b=>if fd.offset=off∧P.cellsOf fd.type=a.length then some (a++b)else none
  |_,_=>none
end
def Fit(ks:List CK)(cs:List Value):Prop:=∀(j:Nat) k,ks[j]? =some k→∃v,cs[j]? =some v∧k.fits v
section
variable {H:Type} {rV:TypeId×Value→H} {P:Program} {w:World} {base:Nat} {spare:Nat→Bool} {held:Bool}
theorem bJ{k:CK}{v:Value}(h:k.fits v):Fit [k] [v]:=by
 intro j k' hj;cases j with
 |zero=>simp at hj;subst hj;exact⟨v,rfl,h⟩
 |succ j=>simp at hj
theorem Wf{a b:List CK}{cs:List Value}(ha:Fit a (cs.take a.length))(hb:Fit b (cs.drop a.length)):Fit (a++b) cs:=by
 intro j k hj;by_cases h:j<a.length
 ·rw[zF h]at hj;obtain⟨v,hv,hk⟩:=ha j k hj;rw[zG]at hv;rw[if_pos h]at hv;exact⟨v,hv,hk⟩
 ·rw[yu (by omega)]at hj;obtain⟨v,hv,hk⟩:=hb _ k hj;rw[yF]at hv;refine⟨v,?_,hk⟩;rw[←hv];congr 1;omega
theorem U1{t:TypeId}{cs:List Value}{fuel:Nat}{x:DataW H×List MemPlace}(h:DataW.trod rV P w base spare held fuel t cs=some x)(h1:P.cellsOf t=1):∃v,cs[0]? =some v:=by
 cases cs with
 |cons v r=>exact⟨v,rfl⟩
 |nil=>
  exfalso;cases fuel with
  |zero=>simp[DataW.trod]at h
  |succ n=> unfold DataW.trod at h;split at h<;>simp_all
mutual
theorem an(f:Nat)(t:TypeId)(ks:List CK)(cs:List Value)(fuel:Nat)(x:DataW H×List MemPlace)(hf:flat P f t=some ks)(h:DataW.trod rV P w base spare held fuel t cs=some x):Fit ks cs:=by
 match f with
 |0=>simp[flat]at hf
 |f+1=>
  unfold flat at hf;split at hf
  ·rename_i hu;obtain⟨b,rfl,_⟩:=DataW.trod_bool hu h;cases hf;exact bJ ⟨b,rfl⟩
  ·rename_i k hu;obtain⟨n,rfl,_,hw⟩:=DataW.trod_int hu h;cases hf;exact bJ ⟨n,rfl,hw⟩
  ·rename_i hu;obtain⟨s,rfl,_⟩:=DataW.trod_string hu h;cases hf;exact bJ ⟨s,rfl⟩
  ·rename_i fs hu;obtain⟨xs,n,_,_,hl,hlen,hfs⟩:=DataW.trod_struct hu h;exact eW f 0 fs.toList ks cs n hf (fun i fd hi=>by
    have hi':fs[i]? =some fd:=by simpa using hi
    have:=hfs i fd hi';have hx:i<xs.length:=by rw[hlen];exact(zI.1 hi').1
    rw[zl hx]at this;exact⟨_,this⟩)
  ·split at hf
   ·rename_i h1;cases hf;obtain⟨v,hv⟩:=U1 h h1;intro j k hj;cases j with
    |zero=>simp at hj;subst hj;exact⟨v,hv,trivial⟩
    |succ j=>simp at hj
   ·cases hf
  ·cases hf
theorem eW(f off:Nat)(fs:List Field)(ks:List CK)(cs:List Value)(n:Nat)(hf:kE P f off fs=some ks)(h:∀(i:Nat) fd,fs[i]? =some fd→∃x,DataW.trod rV P w base spare held n fd.type ((cs.drop fd.offset).take (P.cellsOf fd.type))=some x):Fit ks (cs.drop off):=by
 match f,fs with
 |0,[]=>simp[kE]at hf;subst hf;intro j k hj;simp at hj
 |f+1,[]=>simp[kE]at hf;subst hf;intro j k hj;simp at hj
 |0,fd::rest=>simp[kE]at hf
 |f+1,fd::rest=>
  unfold kE at hf;split at hf
  ·rename_i a b ha hb;split at hf
   ·rename_i hoff;cases hf;obtain⟨x,hx⟩:=h 0 fd rfl;obtain⟨ho,hla⟩:=hoff;refine Wf ?_ ?_
    ·rw[ho]at hx;rw[←hla];exact an f fd.type a _ n x ha hx
    ·rw[List.drop_drop,←hla];exact eW f _ rest b cs n hb (fun i fd' hi=>h (i+1) fd' hi)
   ·cases hf
  ·cases hf
end
end
def RowsIn(w:World)(A:Option Addr)(len cap:Nat)(ks:List CK):Prop:=
 (len=0∧cap=0)∨
 ∃b off,A=some (zc b off)∧len≤cap∧cap≤maxLen∧∀i,i<cap→∀(j:Nat) k,ks[j]? =some k→∃v,w.cell? (zc b (off+(i*ks.length+j)))=some v∧k.fits v
theorem af{H:Type}{rV:TypeId×Value→H}{P:Program}{w:World}{x:Addr}{e:TypeId}{ks:List CK}{cs:List Value}{n:Nat}{y:DataW H×List MemPlace}(f:Nat)(hfl:flat P f e=some ks)(hn:P.cellsOf e=ks.length)(h1:w.cells? 0 x (P.cellsOf e)=some cs)(h2:DataW.trod rV P w 0 (fun _=>true) true n e cs=some y):∀(j:Nat) k,ks[j]? =some k→∃v,w.cell? (x.add j)=some v∧k.fits v:=by
 intro j k hj;obtain⟨v,hv,hk⟩:=an f e ks cs n y hfl h2 j k hj;obtain⟨_,_,h3⟩:=World.cells?_some h1;have hjl:j<ks.length:=by
  by_cases hlt:j<ks.length
  ·exact hlt
  ·rw[zJ (by omega)]at hj;cases hj
 exact⟨v,by rw[h3 j (by omega),hv],hk⟩
theorem O7{H:Type}{rV:TypeId×Value→H}{P:Program}{w:World}{t e:TypeId}{A:Option Addr}{len cap:Nat}{d:DataW H}{ps:List MemPlace}(f:Nat)(ks:List CK)(ht:P.underlying t=some (.slice e))(hfl:flat P f e=some ks)(hn:P.cellsOf e=ks.length)(h0:0<ks.length)(h:DataW.Trod rV P w 0 (fun _=>true) true t (.slice A len cap) d ps):RowsIn w A len cap ks:=by
 obtain⟨fuel,hf⟩:=h;rcases open_slice ht hf with⟨hcs,_⟩|⟨x,l,c,m,n,D,Pl,hcs,_,hl,hm,hmm,_,hel⟩
 ·simp[Value.cells]at hcs;obtain⟨rfl,rfl,rfl⟩:=hcs;exact .inl ⟨rfl,rfl⟩
 ·simp[Value.cells]at hcs;obtain⟨rfl,rfl,rfl⟩:=hcs;simp only[if_true]at hmm;subst hmm;have hall:∀i,i<m→∀(j:Nat) k,ks[j]? =some k→∃v,w.cell? ((x.add (i*ks.length)).add j)=some v∧k.fits v:=by intro i hi j k hj;obtain⟨cs',h1,h2⟩:=hel i hi;rw[hn]at h1;exact af f hfl hn (by rw[hn];exact h1) h2 j k hj
  obtain⟨b,off,spot⟩:=x;by_cases hz:m=0
  ·subst hz;have hl0:len=0:=by omega
   subst hl0;exact .inl ⟨rfl,rfl⟩
  ·obtain⟨k0,hk0⟩:∃k,ks[0]? =some k:=⟨ks[0],zl h0⟩;obtain⟨v,hv,_⟩:=hall 0 (by omega) 0 k0 hk0;have hspot:spot=none:=by simpa[Addr.add]using World.cell?_spot hv
   subst hspot;refine .inr ⟨b,off,rfl,hl,hm,fun i hi j k hj=>?_⟩;obtain⟨v,hv,hk⟩:=hall i hi j k hj;refine⟨v,?_,hk⟩;rw[add_plain,add_plain]at hv;rw[←hv,Nat.add_assoc]
end
section
open Go.RowKit
def uX(H:Nat→Option Obj)(g:Nat)(o:Obj):Nat→Option Obj:=fun k=>if k=g then some o else H k
theorem pf(H:Nat→Option Obj)(g:Nat)(o:Obj):uX H g o g=some o:=by simp[uX]
theorem aS(H:Nat→Option Obj){g k:Nat}(o:Obj)(h:k≠g):uX H g o k=H k:=by simp[uX,h]
structure Sep (w0 w:World) (H:Nat→Option Obj):Prop where
 below:Below w0.heap.size w0 w
 own:∀g o,H g=some o→w0.heap.size≤g∧w.heap[g]? =some o
theorem Sep.start(w:World):Sep w w (fun _=>none):=⟨Below.refl _ _,fun _ _ h=>by cases h⟩
theorem Sep.lt{w0 w:World}{H:Nat→Option Obj}(h:Sep w0 w H){g:Nat}{o:Obj}(hg:H g=some o):g<w.heap.size:=(zI.1 (h.own g o hg).2).1
theorem Sep.drew{w0 w:World}{H:Nat→Option Obj}(h:Sep w0 w H):Sep w0 w.drew H:=⟨h.below.drew,h.own⟩
theorem Sep.drewN{w0 w:World}{H:Nat→Option Obj}(h:Sep w0 w H)(n:Nat):Sep w0 (w.drewN n) H:=⟨⟨h.below.os,h.below.tape,h.below.output,h.below.size,h.below.block⟩,h.own⟩
theorem Sep.xh{w0 w w':World}{H:Nat→Option Obj}(h:Sep w0 w H)(hb:Below w.heap.size w w'):Sep w0 w' H:=⟨h.below.trans (hb.mono h.below.size),fun g o hg=>⟨(h.own g o hg).1,(hb.block g (h.lt hg)).trans (h.own g o hg).2⟩⟩
theorem Sep.alloc{w0 w:World}{H:Nat→Option Obj}(h:Sep w0 w H)(o:Obj):Sep w0 (w.alloc o) H:=h.xh ((Below.refl _ _).alloc (zm _) _)
theorem Sep.none{w0 w:World}{H:Nat→Option Obj}(h:Sep w0 w H){g:Nat}(hg:w.heap.size≤g):H g=none:=by
 cases hx:H g with
 |none=>rfl
 |some o=>have:=h.lt hx;omega
theorem Sep.new{w0 w:World}{H:Nat→Option Obj}(h:Sep w0 w H)(o:Obj):Sep w0 (w.alloc o) (uX H w.heap.size o):=by
 refine⟨(h.alloc o).below,fun g o' hg=>?_⟩;by_cases e:g=w.heap.size
 ·subst e;rw[pf]at hg;cases hg;exact⟨h.below.size,by show(w.heap.push o)[w.heap.size]? =_;simp⟩
 ·rw[aS _ _ e]at hg;exact(h.alloc o).own g o' hg
theorem heap_setCell_same{w:World}{g:Nat}{t:TypeId}{cs:Array Value}{fr:Nat×Nat}(h:w.heap[g]? =some (.cells cs t fr))(i:Nat)(u:Value):(w.setCell ⟨g,i,Option.none⟩ u).heap[g]? =some (.cells (cs.setIfInBounds i u) t fr):=by simp only[World.setCell,Array.getElem?_modify];simp[h]
theorem Sep.setCell{w0 w:World}{H:Nat→Option Obj}(h:Sep w0 w H){g:Nat}{t:TypeId}{cs:Array Value}{fr:Nat×Nat}(hg:H g=some (.cells cs t fr))(i:Nat)(u:Value):Sep w0 (w.setCell ⟨g,i,Option.none⟩ u) (uX H g (.cells (cs.setIfInBounds i u) t fr)):=by
 have hb:=(h.own g _ hg).1;refine⟨h.below.setCell (p:=⟨g,i,Option.none⟩) hb u,fun k o hk=>?_⟩;by_cases e:k=g
 ·subst e;rw[pf]at hk;cases hk;exact⟨hb,heap_setCell_same (h.own k _ hg).2 i u⟩
 ·rw[aS _ _ e]at hk;exact⟨(h.own k o hk).1,(Below.heap_setCell w _ u k e).trans (h.own k o hk).2⟩
theorem Sep.less{w0 w:World}{H H':Nat→Option Obj}(h:Sep w0 w H)(hs:∀g o,H' g=some o→H g=some o):Sep w0 w H':=⟨h.below,fun g o hg=>h.own g o (hs g o hg)⟩
theorem Sep.congr{w0 w:World}{H H':Nat→Option Obj}(h:Sep w0 w H)(hs:H'=H):Sep w0 w H':=hs ▸ h
theorem NJ(H:Nat→Option Obj)(g:Nat)(o o':Obj):uX (uX H g o) g o'=uX H g o':=by funext k;unfold uX;split<;>rfl
theorem NB(H:Nat→Option Obj){g g':Nat}(o o':Obj)(h:g≠g'):uX (uX H g o) g' o'=uX (uX H g' o') g o:=by funext k;unfold uX;by_cases h1:k=g<;>by_cases h2:k=g'<;>simp_all
theorem Sep.cell{w0 w:World}{H:Nat→Option Obj}(h:Sep w0 w H){g:Nat}{t:TypeId}{cs:Array Value}(hg:H g=some (.cells cs t (0,0))){i:Nat}{v:Value}(hv:cs[i]? =some v):w.cell? ⟨g,i,Option.none⟩=some v:=by simp[World.cell?,(h.own g _ hg).2,hv]
theorem Sep.free{w0 w:World}{H:Nat→Option Obj}(h:Sep w0 w H){g:Nat}{t:TypeId}{cs:Array Value}(hg:H g=some (.cells cs t (0,0)))(i:Nat):w.frozen? ⟨g,i,Option.none⟩=false:=by simp[World.frozen?,(h.own g _ hg).2]
structure qz (p:World→Prop):Type where
 world:World
 ok:p world
theorem tJ{P:Program}(p:World→Prop){id:Nat}{Q:Exit→Act→World→Prop}{a:Act}{w:World}{l:List Oper}(hm:P.follows .mixedOrders=true)(hB:Region.lexB .any l.toArray=true)(h0:p w.drew)(h:wpQuiet P l.toArray (fun w'=>∃x:qz p,w'=x.world) (fun a'=>∀w',(∃x:qz p,w'=x.world)→Q .normal a' w') l a):(Code.region id l.toArray true).wp P Q a w:=wp_region_quiet (C:=fun w'=>∃x:qz p,w'=x.world) hm hB ⟨⟨_,h0⟩,rfl⟩ (by simpa using h)
theorem ph{P:Program}{C:World→Prop}{ops:Array Oper}{Q:Exit→Act→World→Prop}:∀(rest:List Oper) (i:Nat) (a:Act) (w:World),ops.toList.drop i=rest→C w→
 wpQuiet P ops C (fun a'=>∀w',C w'→Q .normal a' w') rest a→wpOps P ops Q (List.range' i rest.length) a w
 |[],i,a,w,_,hC,h=>by
  show Q .normal a w
  exact h w hC
 |o::rest,i,a,w,hd,hC,h=>by
  have hi:ops[i]? =some o:=by
   have:=congrArg (fun l=>l[0]?) hd
   simpa using this
  have hd':ops.toList.drop (i+1)=rest:=by
   have:=congrArg List.tail hd
   simpa using this
  rw[zM,List.range'_succ]
  simp only[wpOps,hi]
  unfold wpQuiet at h
  by_cases hw:Region.wanted o (yielded ops a.tmps)=true
  ·rw[if_pos hw]at h
   rw[if_pos hw]
   exact .inl (Oper.wp_of_quiet hC (fun a' w' hC' hq=>ph rest (i+1) a' w' hd' hC' hq) h)
  ·rw[if_neg hw]at h
   rw[if_neg hw]
   exact ph rest (i+1) _ w hd' hC h
theorem SQ{P:Program}(p:World→Prop){id:Nat}{Q:Exit→Act→World→Prop}{a:Act}{w:World}{l:List Oper}(h0:p w)(h:wpQuiet P l.toArray (fun w'=>∃x:qz p,w'=x.world) (fun a'=>∀w',(∃x:qz p,w'=x.world)→Q .normal a' w') l a):(Code.region id l.toArray false).wp P Q a w:=by refine wp_region ?_;have:=ph (P:=P) (C:=fun w'=>∃x:qz p,w'=x.world) (ops:=l.toArray) (Q:=Q) l 0 a w (by simp) ⟨⟨w,h0⟩,rfl⟩ h;rw[zH,List.range_eq_range'];exact this
theorem ZI{P:Program}{p:World→Prop}{x:qz p}{f:FuncId}{args:Array Value}{v:Value}(h:Calls P f args x.world fun e w'=>e=.returned v∧p w'):Calls P f args x.world fun e w''=>e=.returned v∧∃y:qz p,w''=y.world:=h.mono fun e w' ⟨he,hp⟩=>⟨he,⟨⟨w',hp⟩,rfl⟩⟩
open Go.RowKit
def put(γ:U)(t g:Nat)(o:Obj):U:=fun k=>if k=t then some (g,o)else γ k
theorem yQ(γ:U)(t g:Nat)(o:Obj):put γ t g o t=some (g,o):=by simp[put]
theorem yO(γ:U){t k:Nat}(g:Nat)(o:Obj)(h:k≠t):put γ t g o k=γ k:=by simp[put,h]
structure Own (w0 w:World) (γ:U):Prop where
 below:Below w0.heap.size w0 w
 own:∀t g o,γ t=some (g,o)→w0.heap.size≤g∧w.heap[g]? =some o
 inj:∀t t' g o o',γ t=some (g,o)→γ t'=some (g,o')→t=t'
theorem Own.start(w:World):Own w w (fun _=>Option.none):=⟨Below.refl _ _,fun _ _ _ h=>(nomatch h),fun _ _ _ _ _ h=>(nomatch h)⟩
theorem Own.lt{w0 w:World}{γ:U}(h:Own w0 w γ){t g:Nat}{o:Obj}(hg:γ t=some (g,o)):g<w.heap.size:=(zI.1 (h.own t g o hg).2).1
theorem Own.xh{w0 w w':World}{γ:U}(h:Own w0 w γ)(hb:Below w.heap.size w w'):Own w0 w' γ:=⟨h.below.trans (hb.mono h.below.size),fun t g o hg=>⟨(h.own t g o hg).1,(hb.block g (h.lt hg)).trans (h.own t g o hg).2⟩,h.inj⟩
theorem Own.drew{w0 w:World}{γ:U}(h:Own w0 w γ):Own w0 w.drew γ:=h.xh ((Below.refl _ _).drew)
theorem Own.drewN{w0 w:World}{γ:U}(h:Own w0 w γ)(n:Nat):Own w0 (w.drewN n) γ:=h.xh ⟨rfl,rfl,rfl,zm _,fun _ _=>rfl⟩
theorem Own.new{w0 w:World}{γ:U}(h:Own w0 w γ)(t:Nat)(o:Obj):Own w0 (w.alloc o) (put γ t w.heap.size o):=by
 have hb:=h.xh ((Below.refl w.heap.size w).alloc (zm _) o);refine⟨hb.below,fun k g o' hg=>?_,fun k k' g o1 o2 h1 h2=>?_⟩
 ·by_cases e:k=t
  ·subst e;rw[yQ]at hg;cases hg;exact⟨h.below.size,by show(w.heap.push o)[w.heap.size]? =_;simp⟩
  ·rw[yO _ _ _ e]at hg;exact hb.own k g o' hg
 ·by_cases e:k=t
  ·by_cases e':k'=t
   ·rw[e,e']
   ·subst e;rw[yQ]at h1;rw[yO _ _ _ e']at h2;cases h1;have:=h.lt h2;omega
  ·by_cases e':k'=t
   ·subst e';rw[yQ]at h2;rw[yO _ _ _ e]at h1;cases h2;have:=h.lt h1;omega
   ·rw[yO _ _ _ e]at h1;rw[yO _ _ _ e']at h2;exact h.inj k k' g o1 o2 h1 h2
theorem Own.set{w0 w:World}{γ:U}(h:Own w0 w γ){t g:Nat}{ty:TypeId}{cs:Array Value}{fr:Nat×Nat}(hg:γ t=some (g,.cells cs ty fr))(i:Nat)(u:Value):Own w0 (w.setCell (zc g i) u) (put γ t g (.cells (cs.setIfInBounds i u) ty fr)):=by
 have hb:=(h.own t g _ hg).1;refine⟨h.below.setCell (p:=(zc g i)) hb u,fun k g' o' hk=>?_,fun k k' g' o1 o2 h1 h2=>?_⟩
 ·by_cases e:k=t
  ·subst e;rw[yQ]at hk;cases hk;exact⟨hb,heap_setCell_same (h.own k _ _ hg).2 i u⟩
  ·rw[yO _ _ _ e]at hk;have hne:g'≠g:=fun e2=>by subst e2;exact e (h.inj _ _ _ _ _ hk hg)
   exact⟨(h.own k g' o' hk).1,(Below.heap_setCell w _ u g' hne).trans (h.own k g' o' hk).2⟩
 ·by_cases e:k=t
  ·by_cases e':k'=t
   ·rw[e,e']
   ·subst e;rw[yQ]at h1;rw[yO _ _ _ e']at h2;cases h1;exact(h.inj _ _ _ _ _ h2 hg).symm
  ·by_cases e':k'=t
   ·subst e';rw[yQ]at h2;rw[yO _ _ _ e]at h1;cases h2;exact h.inj _ _ _ _ _ h1 hg
   ·rw[yO _ _ _ e]at h1;rw[yO _ _ _ e']at h2;exact h.inj k k' g' o1 o2 h1 h2
theorem Own.cell{w0 w:World}{γ:U}(h:Own w0 w γ){t g:Nat}{ty:TypeId}{cs:Array Value}(hg:γ t=some (g,.cells cs ty (0,0))){i:Nat}{v:Value}(hv:cs[i]? =some v):w.cell? (zc g i)=some v:=by simp[World.cell?,(h.own t g _ hg).2,hv]
theorem Own.free{w0 w:World}{γ:U}(h:Own w0 w γ){t g:Nat}{ty:TypeId}{cs:Array Value}(hg:γ t=some (g,.cells cs ty (0,0)))(i:Nat):w.frozen? (zc g i)=false:=by simp[World.frozen?,(h.own t g _ hg).2]
theorem Own.less{w0 w:World}{γ γ':U}(h:Own w0 w γ)(hs:∀t x,γ' t=some x→γ t=some x):Own w0 w γ':=⟨h.below,fun t g o hg=>h.own t g o (hs t _ hg),fun t t' g o o' h1 h2=>h.inj t t' g o o' (hs _ _ h1) (hs _ _ h2)⟩
theorem Own.forget{w0 w:World}{γ:U}{t g:Nat}{o:Obj}(h:Own w0 w (put γ t g o))(ht:γ t=Option.none):Own w0 w γ:=
 h.less fun k x hk=>by
  have hne:k≠t:=fun e=>by rw[e,ht]at hk;cases hk
  rw[yO _ _ _ hne];exact hk
theorem gh(γ:U)(t g g':Nat)(o o':Obj):put (put γ t g o) t g' o'=put γ t g' o':=by funext k;unfold put;split<;>rfl
open Go.RowKit
def yR(γ:U)(t:Nat)(e:TypeId)(size:Nat)(v:Value)(n:Nat)(xs:List Value):Prop:=
 xs.length=n*size∧((v=.slice none 0 0∧n=0)∨
  ∃g cap cur,v=.slice (zb g) n cap∧γ t=some (g,.cells cur e (0,0))∧n≤cap∧cap≤maxLen∧cur.size=cap*size∧cur.toList.take (n*size)=xs)
section
variable {w0 w:World} {γ:U} {t:Nat} {e:TypeId} {size n:Nat} {v:Value} {xs:List Value}
theorem yR.nil(γ:U)(t:Nat)(e:TypeId)(size:Nat):yR γ t e size (.slice none 0 0) 0 []:=⟨by simp,.inl ⟨rfl,rfl⟩⟩
theorem yR.owns(hs:yR γ t e size v n xs)(h:Own w0 w γ):w.ownsRow w0.heap.size e size v n xs:=by
 refine⟨hs.1,?_⟩;rcases hs.2 with hn|⟨g,cap,cur,h1,h2,h3,h4,h5,h6⟩
 ·exact .inl hn
 ·exact .inr ⟨g,cap,cur,h1,(h.own _ _ _ h2).1,(h.own _ _ _ h2).2,h3,h4,h5,h6⟩
theorem yR.keep{γ':U}(hs:yR γ t e size v n xs)(hk:γ' t=γ t):yR γ' t e size v n xs:=by
 refine⟨hs.1,?_⟩;rcases hs.2 with hn|⟨g,cap,cur,h1,h2,r⟩
 ·exact .inl hn
 ·exact .inr ⟨g,cap,cur,h1,by rw[hk];exact h2,r⟩
theorem yR.form(hs:yR γ t e size v n xs):∃A cap,v=.slice A n cap∧n≤cap:=by
 rcases hs.2 with⟨rfl,rfl⟩|⟨g,cap,cur,rfl,_,h3,_⟩
 ·exact⟨_,_,rfl,zm _⟩
 ·exact⟨_,_,rfl,h3⟩
theorem yR.at_(hs:yR γ t e 1 v n xs)(h:Own w0 w γ){i:Nat}(hi:i<n):∃g cap,v=.slice (zb g) n cap∧w.cell? (zc g i)=some (xs.getD i undef):=by
 rcases hs.2 with⟨_,h0⟩|⟨g,cap,cur,rfl,h2,h3,h4,h5,h6⟩
 ·omega
 ·refine⟨g,cap,rfl,h.cell h2 ?_⟩;have hlen:i<xs.length:=by rw[hs.1];omega
  have:cur.toList.take (n*1)=xs:=h6;rw[zn,zl hlen,yt];have hx:xs[i]? =some xs[i]:=zl hlen;rw[←hx];have h7:(cur.toList.take (n*1))[i]? =xs[i]? :=by rw[this]
  rw[←h7,zG,if_pos (by omega)];simp
theorem qJ{w':World}{v':Value}{m:Nat}{news:List Value}{base:Nat}(h:Own w0 w γ)(hs:yR γ t e size v n xs)(hb:base=w0.heap.size)(hr:w'.ownsRow base e size v' (n+m) (xs++news))(hg:w.grownBy w' v.ownBlock)(hat:v'.ownBlock=v.ownBlock∨v'.ownBlock=some w.heap.size):∃γ',Own w0 w' γ'∧yR γ' t e size v' (n+m) (xs++news)∧∀k,k≠t→γ' k=γ k:=by
 have hrow:∀k,v.ownBlock=some k→∃o,γ t=some (k,o):=by
  intro k hk;rcases hs.2 with⟨rfl,_⟩|⟨g,cap,cur,rfl,h2,_⟩
  ·simp[Value.ownBlock]at hk
  ·simp[Value.ownBlock]at hk;subst hk;exact⟨_,h2⟩
 have hbelow:Below w0.heap.size w0 w':=h.below.grown hg h.below.size fun k hk=>by obtain⟨o,ho⟩:=hrow k hk;exact(h.own _ _ _ ho).1
 have hother:∀k g o,k≠t→γ k=some (g,o)→w'.heap[g]? =some o:=by intro k g o hk ho;refine(hg.block g (h.lt ho) fun e1=>?_).trans (h.own _ _ _ ho).2;obtain⟨o2,ho2⟩:=hrow g e1.symm;exact hk (h.inj _ _ _ _ _ ho ho2)
 rcases hr.2 with⟨hv,hn⟩|⟨g,cap,cur,hv,hgb,hgg,h3,h4,h5,h6⟩
 ·refine⟨fun k=>if k=t then none else γ k,⟨hbelow,fun k g o hk=>?_,fun k k' g o o' h1 h2=>?_⟩,⟨hr.1,.inl ⟨hv,hn⟩⟩,fun k hk=>if_neg hk⟩
  ·by_cases ek:k=t
   ·simp[ek]at hk
   ·simp only[if_neg ek]at hk;exact⟨(h.own _ _ _ hk).1,hother k g o ek hk⟩
  ·by_cases ek:k=t
   ·simp[ek]at h1
   ·by_cases ek':k'=t
    ·simp[ek']at h2
    ·simp only[if_neg ek]at h1;simp only[if_neg ek']at h2;exact h.inj _ _ _ _ _ h1 h2
 ·have hne:∀k o,k≠t→γ k≠some (g,o):=by
   intro k o hk ho;subst hv;simp only[Value.ownBlock]at hat;rcases hat with hat|hat
   ·obtain⟨o2,ho2⟩:=hrow g hat.symm;exact hk (h.inj _ _ _ _ _ ho ho2)
   ·cases hat;have:=h.lt ho;omega
  refine⟨put γ t g (.cells cur e (0,0)),⟨hbelow,fun k g' o hk=>?_,fun k k' g' o o' h1 h2=>?_⟩,⟨hr.1,.inr ⟨g,cap,cur,hv,yQ _ _ _ _,h3,h4,h5,h6⟩⟩,fun k hk=>yO _ _ _ hk⟩
  ·by_cases ek:k=t
   ·subst ek;rw[yQ]at hk;cases hk;exact⟨hb ▸ hgb,hgg⟩
   ·rw[yO _ _ _ ek]at hk;exact⟨(h.own _ _ _ hk).1,hother k g' o ek hk⟩
  ·by_cases ek:k=t
   ·by_cases ek':k'=t
    ·rw[ek,ek']
    ·subst ek;rw[yQ]at h1;rw[yO _ _ _ ek']at h2;cases h1;exact absurd h2 (hne _ _ ek')
   ·by_cases ek':k'=t
    ·subst ek';rw[yQ]at h2;rw[yO _ _ _ ek]at h1;cases h2;exact absurd h1 (hne _ _ ek)
    ·rw[yO _ _ _ ek]at h1;rw[yO _ _ _ ek']at h2;exact h.inj _ _ _ _ _ h1 h2
end
def ints(l:List Int):List Value:=l.map (Value.int .i64)
theorem us(l:List Int):(ints l).length=l.length:=by simp[ints]
theorem qt(l:List Int)(x:Int):ints l++[.i x]=ints (l++[x]):=by simp[ints]
theorem gU(l:List Int)(i:Nat)(h:i<l.length):(ints l).getD i undef=.i (l.getD i 0):=by simp[ints,zn,h]
open Go.RowKit
section
variable {P:Program} {w0 w:World} {γ:U} {tg:Nat}
theorem Ye(t ty e:TypeId)(z:Value)(size bytes:Nat)(ht:P.underlying t=some (.slice e))(hi:(P.info? e).map (fun i=>(i.zero,i.size,i.bytes))=some (some z,size,bytes))(hzs:z.cells.size=size)(hsz:0<size){v:Value}{n:Nat}{xs:List Value}(hown:Own w0 w γ)(hs:yR γ tg e size v n xs)(ad:Addr)(m c:Nat)(news:List Value)(hl:news.length=m*size)(hnews:∀j u,news[j]? =some u→w.cell? (ad.add j)=some u)(h1:∀u∈news,u.oneCell'=true)(hm:0<m)(h63:n+m≤maxLen)(hbytes:(n+m)*bytes≤140737488355328):∃g cap w' γ',(Builtin.append_ #[t,t] ty #[v,.slice (some ad) m c]).run P w=.ok (.slice (zb g) (n+m) cap) w'∧Own w0 w' γ'∧yR γ' tg e size (.slice (zb g) (n+m) cap) (n+m) (xs++news)∧∀k,k≠tg→γ' k=γ k:=by
 obtain⟨i,h0,hz,hsize,hby⟩:=info_parts hi;obtain⟨g,cap,w',hr,h2,h3,h4,h5⟩:=run_append_lies (P:=P) w t ty w0.heap.size e i z size bytes ht h0 hz hsize hby hzs hsz v n xs (hs.owns hown) ad m c news hl hnews h1 hm h63 hbytes hown.below.size _ rfl;obtain⟨γ',ho,hsl,hk⟩:=qJ hown hs rfl h2 h3 (by
  rcases h4 with h4|h4
  ·exact .inl (by rw[h4];rfl)
  ·exact .inr (by rw[h4];rfl));exact⟨g,cap,w',γ',hr,ho,hsl,hk⟩
theorem dx{o:Oper}{a:Act}{K:Act→World→Prop}{Q:Exit→Act→World→Prop}(s x:Operand)(t:TypeId)(ho:o.op=.call {callee:=.builtin .append,args:=#[s,x],argTypes:=#[t,t]})(e:TypeId)(z:Value)(size bytes:Nat)(ht:P.underlying t=some (.slice e))(hi:(P.info? e).map (fun i=>(i.zero,i.size,i.bytes))=some (some z,size,bytes))(hzs:z.cells.size=size)(hsz:0<size){v:Value}{n:Nat}{xs:List Value}(hown:Own w0 w γ)(hs:yR γ tg e size v n xs)(hev:a.eval s=v)(ad:Addr)(m c:Nat)(news:List Value)(hx:a.eval x=.slice (some ad) m c)(hl:news.length=m*size)(hnews:∀j u,news[j]? =some u→w.cell? (ad.add j)=some u)(h1:∀u∈news,u.oneCell'=true)(hm:0<m)(h63:n+m≤maxLen)(hbytes:(n+m)*bytes≤140737488355328)(h:∀g cap w' γ',Own w0 w' γ'→yR γ' tg e size (.slice (zb g) (n+m) cap) (n+m) (xs++news)→(∀k,k≠tg→γ' k=γ k)→K (a.put o.dst (.slice (zb g) (n+m) cap)) w'):o.wp P a w K Q:=by obtain⟨g,cap,w',γ',hr,h2,h3,h4⟩:=Ye (P:=P) t o.type e z size bytes ht hi hzs hsz hown hs ad m c news hl hnews h1 hm h63 hbytes;unfold Oper.wp execOp;simp only[ho,resolve,invoke,builtin,Sem.run_bind,Sem.run_pure,Result.andThen_ok,List.map_toArray,yK,List.map_nil,hev,hx,hr];exact h g cap w' γ' h2 h3 h4
theorem SP{ops:Array Oper}{rest:List Oper}{o:Oper}{a:Act}{Q:Exit→Act→World→Prop}(hgd:o.guard=none)(s x:Operand)(t:TypeId)(ho:o.op=.call {callee:=.builtin .append,args:=#[s,x],argTypes:=#[t,t]})(e:TypeId)(z:Value)(size bytes:Nat)(ht:P.underlying t=some (.slice e))(hi:(P.info? e).map (fun i=>(i.zero,i.size,i.bytes))=some (some z,size,bytes))(hzs:z.cells.size=size)(hsz:0<size){v:Value}{n:Nat}{xs:List Value}(hown:Own w0 w γ)(hs:yR γ tg e size v n xs)(hev:a.eval s=v)(ad:Addr)(m c:Nat)(news:List Value)(hx:a.eval x=.slice (some ad) m c)(hl:news.length=m*size)(hnews:∀j u,news[j]? =some u→w.cell? (ad.add j)=some u)(h1:∀u∈news,u.oneCell'=true)(hm:0<m)(h63:n+m≤maxLen)(hbytes:(n+m)*bytes≤140737488355328)(h:∀g cap w' γ',Own w0 w' γ'→yR γ' tg e size (.slice (zb g) (n+m) cap) (n+m) (xs++news)→(∀k,k≠tg→γ' k=γ k)→wpList P ops Q rest (a.put o.dst (.slice (zb g) (n+m) cap)) w'):wpList P ops Q (o::rest) a w:=wpList_plain hgd fun _ hK=>dx s x t ho e z size bytes ht hi hzs hsz hown hs hev ad m c news hx hl hnews h1 hm h63 hbytes fun g cap w' γ' h2 h3 h4=>hK _ _ (h g cap w' γ' h2 h3 h4)
theorem fC{ops:Array Oper}{o:Oper}{a:Act}{K:Act→World→Prop}{Q:Exit→Act→World→Prop}{E:Prop}(hgd:o.guard=none)(s x:Operand)(t:TypeId)(ho:o.op=.call {callee:=.builtin .append,args:=#[s,x],argTypes:=#[t,t]})(e:TypeId)(z:Value)(size bytes:Nat)(ht:P.underlying t=some (.slice e))(hi:(P.info? e).map (fun i=>(i.zero,i.size,i.bytes))=some (some z,size,bytes))(hzs:z.cells.size=size)(hsz:0<size){v:Value}{n:Nat}{xs:List Value}(hown:Own w0 w γ)(hs:yR γ tg e size v n xs)(hev:a.eval s=v)(ad:Addr)(m c:Nat)(news:List Value)(hx:a.eval x=.slice (some ad) m c)(hl:news.length=m*size)(hnews:∀j u,news[j]? =some u→w.cell? (ad.add j)=some u)(h1:∀u∈news,u.oneCell'=true)(hm:0<m)(h63:n+m≤maxLen)(hbytes:(n+m)*bytes≤140737488355328)(h:∀g cap w' γ',Own w0 w' γ'→yR γ' tg e size (.slice (zb g) (n+m) cap) (n+m) (xs++news)→(∀k,k≠tg→γ' k=γ k)→K (a.put o.dst (.slice (zb g) (n+m) cap)) w'):if Region.wanted o (yielded ops a.tmps)=true then Oper.wp P o a w K Q else E:=by rw[if_pos (by simp[Region.wanted,hgd])];exact dx s x t ho e z size bytes ht hi hzs hsz hown hs hev ad m c news hx hl hnews h1 hm h63 hbytes h
theorem dM{w:World}{u:Value}{e:TypeId}:∀j x,[u][j]? =some x→(w.alloc (.cells #[u] e)).cell? (((zc w.heap.size 0):Addr).add j)=some x:=by
 intro j x hj;cases j with
 |zero=>
  simp at hj;subst hj;show(w.alloc (.cells #[u] e)).cell? (zc w.heap.size 0)=_;have h:(w.alloc (.cells #[u] e)).heap[w.heap.size]? =some (.cells #[u] e):=by show(w.heap.push _)[w.heap.size]? =_;simp
  simp only[World.cell?,h];rfl
 |succ j=>simp at hj
theorem RX{w:World}{u:Value}{e:TypeId}{H:Nat}(h:w.heap.size=H):∀j x,[u][j]? =some x→(w.alloc (.cells #[u] e)).cell? (((zc H 0):Addr).add j)=some x:=by subst h;exact dM
end
open Go.RowKit
def Reads(w:World)(size:Nat)(sv:Value)(m:Nat)(news:List Value):Prop:=
 (sv=.slice none 0 0∧m=0∧news=[])∨
 ∃ad c,sv=.slice (some ad) m c∧news.length=m*size∧(∀j u,news[j]? =some u→w.cell? (ad.add j)=some u)∧∀u∈news,u.oneCell'=true
theorem Reads.keep{w w':World}{size:Nat}{sv:Value}{m:Nat}{news:List Value}(h:Reads w size sv m news)(hk:∀p u,w.cell? p=some u→w'.cell? p=some u):Reads w' size sv m news:=by
 rcases h with h|⟨ad,c,h1,h2,h3,h4⟩
 ·exact .inl h
 ·exact .inr ⟨ad,c,h1,h2,fun j u hj=>hk _ _ (h3 j u hj),h4⟩
section
variable {P:Program} {w0 w:World} {γ:U} {tg:Nat}
theorem Yf(t ty e:TypeId)(z:Value)(size bytes:Nat)(ht:P.underlying t=some (.slice e))(hi:(P.info? e).map (fun i=>(i.zero,i.size,i.bytes))=some (some z,size,bytes))(hzs:z.cells.size=size)(hsz:0<size){v:Value}{n:Nat}{xs:List Value}(hown:Own w0 w γ)(hs:yR γ tg e size v n xs){sv:Value}{m:Nat}{news:List Value}(hr:Reads w size sv m news)(h63:n+m≤maxLen)(hbytes:(n+m)*bytes≤140737488355328):∃A cap w' γ',(Builtin.append_ #[t,t] ty #[v,sv]).run P w=.ok (.slice A (n+m) cap) w'∧(A=none→n+m=0∧cap=0)∧Own w0 w' γ'∧yR γ' tg e size (.slice A (n+m) cap) (n+m) (xs++news)∧∀k,k≠tg→γ' k=γ k:=by
 obtain⟨i,h0,hz,hsize,hby⟩:=info_parts hi;have hnil:∀{γ':U} {A cap},yR γ' tg e size (.slice A (n+m) cap) (n+m) (xs++news)→A=none→n+m=0∧cap=0:=by
  intro γ' A cap h hA;subst hA;rcases h.2 with⟨h1,h2⟩|⟨g,c,cur,h1,_⟩
  ·simp only[Value.slice.injEq]at h1;exact⟨h2,h1.2.2⟩
  ·cases h1
 rcases hr with⟨rfl,rfl,rfl⟩|⟨ad,c,rfl,hl,hnews,h1⟩
 ·obtain⟨A,cap,rfl,_⟩:=hs.form;have:=run_append_owned_none (P:=P) (w:=w) w0.heap.size t ty e i size ht h0 _ n xs (hs.owns hown);refine⟨A,cap,w,γ,this,fun hA=>hnil (by simpa using hs) hA,hown,by simpa using hs,fun _ _=>rfl⟩
 ·obtain⟨v',w',hr,h2,h3,_,h5⟩:=run_append_own_at (P:=P) w w0.heap.size t ty e i z size bytes ht h0 hz hsize hby hzs hsz v n xs (hs.owns hown) ad m c news hl hnews h1 h63 hbytes hown.below.size;obtain⟨γ',ho,hsl,hk⟩:=qJ hown hs rfl h2 h3 h5;obtain⟨A,cap,rfl,_⟩:=hsl.form;exact⟨A,cap,w',γ',hr,hnil hsl,ho,hsl,hk⟩
theorem tN{o:Oper}{a:Act}{K:Act→World→Prop}{Q:Exit→Act→World→Prop}(s x:Operand)(t:TypeId)(ho:o.op=.call {callee:=.builtin .append,args:=#[s,x],argTypes:=#[t,t]})(e:TypeId)(z:Value)(size bytes:Nat)(ht:P.underlying t=some (.slice e))(hi:(P.info? e).map (fun i=>(i.zero,i.size,i.bytes))=some (some z,size,bytes))(hzs:z.cells.size=size)(hsz:0<size){v:Value}{n:Nat}{xs:List Value}(hown:Own w0 w γ)(hs:yR γ tg e size v n xs)(hev:a.eval s=v){sv:Value}{m:Nat}{news:List Value}(hr:Reads w size sv m news)(hx:a.eval x=sv)(h63:n+m≤maxLen)(hbytes:(n+m)*bytes≤140737488355328)(h:∀A cap w' γ',(A=none→n+m=0∧cap=0)→Own w0 w' γ'→yR γ' tg e size (.slice A (n+m) cap) (n+m) (xs++news)→(∀k,k≠tg→γ' k=γ k)→K (a.put o.dst (.slice A (n+m) cap)) w'):o.wp P a w K Q:=by obtain⟨A,cap,w',γ',hrun,h1,h2,h3,h4⟩:=Yf (P:=P) t o.type e z size bytes ht hi hzs hsz hown hs hr h63 hbytes;unfold Oper.wp execOp;simp only[ho,resolve,invoke,builtin,Sem.run_bind,Sem.run_pure,Result.andThen_ok,List.map_toArray,yK,List.map_nil,hev,hx,hrun];exact h A cap w' γ' h1 h2 h3 h4
theorem xG{ops:Array Oper}{rest:List Oper}{o:Oper}{a:Act}{Q:Exit→Act→World→Prop}(hgd:o.guard=none)(s x:Operand)(t:TypeId)(ho:o.op=.call {callee:=.builtin .append,args:=#[s,x],argTypes:=#[t,t]})(e:TypeId)(z:Value)(size bytes:Nat)(ht:P.underlying t=some (.slice e))(hi:(P.info? e).map (fun i=>(i.zero,i.size,i.bytes))=some (some z,size,bytes))(hzs:z.cells.size=size)(hsz:0<size){v:Value}{n:Nat}{xs:List Value}(hown:Own w0 w γ)(hs:yR γ tg e size v n xs)(hev:a.eval s=v){sv:Value}{m:Nat}{news:List Value}(hr:Reads w size sv m news)(hx:a.eval x=sv)(h63:n+m≤maxLen)(hbytes:(n+m)*bytes≤140737488355328)(h:∀A cap w' γ',(A=none→n+m=0∧cap=0)→Own w0 w' γ'→yR γ' tg e size (.slice A (n+m) cap) (n+m) (xs++news)→(∀k,k≠tg→γ' k=γ k)→wpList P ops Q rest (a.put o.dst (.slice A (n+m) cap)) w'):wpList P ops Q (o::rest) a w:=wpList_plain hgd fun _ hK=>tN s x t ho e z size bytes ht hi hzs hsz hown hs hev hr hx h63 hbytes fun A cap w' γ' h1 h2 h3 h4=>hK _ _ (h A cap w' γ' h1 h2 h3 h4)
theorem yR.reads{e:TypeId}{size n:Nat}{v:Value}{xs:List Value}(hs:yR γ tg e size v n xs)(ho:Own w0 w γ)(h1:∀u∈xs,u.oneCell'=true):Reads w size v n xs:=by
 rcases hs.2 with⟨rfl,rfl⟩|⟨g,cap,cur,rfl,h2,h3,h4,h5,h6⟩
 ·exact .inl ⟨rfl,rfl,List.eq_nil_of_length_eq_zero (by simpa using hs.1)⟩
 ·refine .inr ⟨_,cap,rfl,hs.1,fun j u hj=>?_,h1⟩;have e0:((zc g 0):Addr).add j=(zc g j):=by rw[Go.WideShapes.add_plain,zy]
  rw[e0];refine ho.cell h2 ?_;rw[←h6,zG]at hj;split at hj
  ·simpa using hj
  ·cases hj
theorem yR.part{e:TypeId}{size n:Nat}{g cap:Nat}{xs:List Value}(hs:yR γ tg e size (.slice (zb g) n cap) n xs)(ho:Own w0 w γ)(h1:∀u∈xs,u.oneCell'=true)(i m c off:Nat)(him:i+m≤n)(hoff:m=0∨off=i*size):Reads w size (.slice (some (zc g off)) m c) m ((xs.drop (i*size)).take (m*size)):=by
 refine .inr ⟨_,c,rfl,?_,fun j u hj=>?_,fun u hu=>h1 u (List.mem_of_mem_drop (List.mem_of_mem_take hu))⟩
 ·rw[zE,ya,hs.1];have:(i+m)*size≤n*size:=Nat.mul_le_mul_right _ him;rw[Nat.add_mul]at this;omega
 ·rw[zG]at hj;split at hj
  ·rename_i hlt;rw[yF]at hj;have hm:off=i*size:=by
    rcases hoff with h|h
    ·subst h;simp at hlt
    ·exact h
   subst hm;rcases hs.2 with⟨h0,_⟩|⟨g',cap',cur,h0,h2,h3,h4,h5,h6⟩
   ·cases h0
   ·cases h0;rw[Go.WideShapes.add_plain];refine ho.cell h2 ?_;rw[←h6,zG]at hj;split at hj
    ·simpa using hj
    ·cases hj
  ·cases hj
end
open Go.RowKit
def mv(γ:U)(a b:Nat):U:=fun k=>if k=a then γ b else if k=b then none else γ k
theorem Zm(γ:U)(a b:Nat):mv γ a b a=γ b:=if_pos rfl
theorem tL(γ:U){a b k:Nat}(h1:k≠a)(h2:k≠b):mv γ a b k=γ k:=by unfold mv;rw[if_neg h1,if_neg h2]
theorem Own.mv{w0 w:World}{γ:U}(h:Own w0 w γ){a b:Nat}(hab:a≠b):Own w0 w (mv γ a b):=by
 have key:∀k x,YtkmamlifgbocgaaGreat.mv γ a b k=some x→(k=a∧γ b=some x)∨(k≠a∧k≠b∧γ k=some x):=by
  intro k x hk;unfold YtkmamlifgbocgaaGreat.mv at hk;split at hk
  ·rename_i e;exact .inl ⟨e,hk⟩
  ·split at hk
   ·cases hk
   ·rename_i e1 e2;exact .inr ⟨e1,e2,hk⟩
 refine⟨h.below,fun t g o ht=>?_,fun t t' g o o' h1 h2=>?_⟩
 ·rcases key _ _ ht with⟨_,e⟩|⟨_,_,e⟩<;>exact h.own _ _ _ e
 ·rcases key _ _ h1 with⟨e1,k1⟩|⟨e1,e1',k1⟩<;>rcases key _ _ h2 with⟨e2,k2⟩|⟨e2,e2',k2⟩
  ·rw[e1,e2]
  ·exact absurd (h.inj _ _ _ _ _ k1 k2).symm e2'
  ·exact absurd (h.inj _ _ _ _ _ k1 k2) e1'
  ·exact h.inj _ _ _ _ _ k1 k2
theorem yR.Sx{γ γ':U}{t t':Nat}{e:TypeId}{size n:Nat}{v:Value}{xs:List Value}(hs:yR γ t e size v n xs)(hk:γ' t'=γ t):yR γ' t' e size v n xs:=by
 refine⟨hs.1,?_⟩;rcases hs.2 with hn|⟨g,cap,cur,h1,h2,r⟩
 ·exact .inl hn
 ·exact .inr ⟨g,cap,cur,h1,by rw[hk];exact h2,r⟩
theorem yR.row{w0 w:World}{γ:U}{t e size n:Nat}{v:Value}{xs:List Value}(hs:yR γ t e size v n xs)(h:Own w0 w γ)(hn:0<n):∃g cap,v=.slice (zb g) n cap∧n≤cap∧∀(j:Nat) u,xs[j]? =some u→w.cell? (zc g j)=some u:=by
 rcases hs.2 with⟨_,h0⟩|⟨g,cap,cur,rfl,h2,h3,h4,h5,h6⟩
 ·omega
 ·refine⟨g,cap,rfl,h3,fun j u hj=>h.cell h2 ?_⟩;have hj':=hj;rw[←h6,zG]at hj';split at hj'
  ·simpa using hj'
  ·cases hj'
section
variable {w0 w:World} {γ:U}
theorem yR.jP{t e n:Nat}{v:Value}{xs:List Value}(hsl:yR γ t e 1 v n xs)(h:Own w0 w γ){i:Nat}(hi:i<n):∃g cap,v=.slice (zb g) n cap∧w.cell? (zc g i)=some (xs.getD i undef)∧w.frozen? (zc g i)=false∧∀u,∃γ',Own w0 (w.setCell (zc g i) u) γ'∧yR γ' t e 1 v n (xs.set i u)∧∀k,k≠t→γ' k=γ k:=by
 obtain⟨g0,cap0,hv0,hc0⟩:=hsl.at_ h hi;rcases hsl.2 with⟨_,h0⟩|⟨g,cap,cur,rfl,h2,h3,h4,h5,h6⟩
 ·omega
 ·cases hv0;refine⟨g0,cap0,rfl,hc0,h.free h2 i,fun u=>⟨_,h.set h2 i u,⟨by rw[zq];exact hsl.1,.inr ⟨g0,cap0,_,rfl,yQ _ _ _ _,h3,h4,by rw[Array.size_setIfInBounds];exact h5,?_⟩⟩,fun k hk=>yO _ _ _ hk⟩⟩;rw[←h6,yE,List.take_set]
end
theorem yR.gJ{w0 w:World}{γ:U}{t e n:Nat}{v:Value}{xs:List Value}(hs:yR γ t e 1 v n xs)(h:Own w0 w γ)(h1:1≤n):∃g cap cur,v=.slice (zb g) n cap∧γ t=some (g,.cells cur e (0,0))∧n≤cap∧cap≤maxLen∧cur.size=cap∧cur.toList.take n=xs∧w.heap[g]? =some (.cells cur e (0,0))∧∀(j:Nat) (u:Value),xs[j]? =some u→w.cell? (((zc g 0):Addr).add j)=some u:=by
 rcases hs.2 with⟨_,h0⟩|⟨g,cap,cur,rfl,h2,h3,h4,h5,h6⟩
 ·omega
 ·refine⟨g,cap,cur,rfl,h2,h3,h4,by simpa using h5,by simpa using h6,(h.own _ _ _ h2).2,fun j u hj=>?_⟩;have hjl:j<n:=by have:=(zk.1 hj).1;rw[hs.1]at this;omega
  obtain⟨g2,cap2,hv2,hc2⟩:=hs.at_ h hjl;cases hv2;rw[zn,hj]at hc2;by_cases j0:j=0
  ·subst j0;exact hc2
  ·simpa[Addr.add,j0]using hc2
theorem xU{w:World}{p:Addr}{v:Value}(h:w.cell? p=some v)(o:Obj):(w.alloc o).cell? p=some v:=(((Below.refl w.heap.size w).alloc (zm _) o).cell (World.block_lt_of_cell? _ _ h)).trans h
theorem Ya{γ:U}{t g:Nat}{o:Obj}(h:γ t=some (g,o)):Go.Proofs.YtkmamlifgbocgaaGreat.put γ t g o=γ:=by
 funext k;by_cases e:k=t
 ·subst e;rw[yQ,h]
 ·rw[yO _ _ _ e]
def yW{α:Type}(f:α→List Value)(l:List α):List Value:=(l.map f).flatten
section
variable {α:Type} {f:α→List Value} {m:Nat}
theorem qp:yW f []=[]:=rfl
theorem vC(a:α)(l:List α):yW f (a::l)=f a++yW f l:=by simp[yW]
theorem v8(a b:List α):yW f (a++b)=yW f a++yW f b:=by simp[yW]
theorem sz(a:List α)(x:α):yW f a++f x=yW f (a++[x]):=by rw[v8];simp[yW]
theorem ua(hf:∀x,(f x).length=m)(l:List α):(yW f l).length=l.length*m:=by
 induction l with
 |nil=>simp[yW]
 |cons a l ih=>rw[vC,zr,ih,hf,zM,Nat.add_mul];omega
theorem vf(hf:∀x,(f x).length=m){l:List α}{i:Nat}{x:α}(h:l[i]? =some x)(j:Nat)(hj:j<m):(yW f l)[i*m+j]? =(f x)[j]? :=by
 induction l generalizing i with
 |nil=>simp at h
 |cons a l ih=>
  rw[vC];cases i with
  |zero=> simp at h;subst h;rw[zF (by rw[hf];omega)];simp
  |succ i=> rw[yu (by rw[hf,Nat.add_mul];omega),hf,show(i+1)*m+j-m=i*m+j by rw[Nat.add_mul];omega];exact ih (by simpa using h)
theorem VT(hf:∀x,(f x).length=m){l:List α}{i:Nat}{x y:α}(h:l[i]? =some x)(j:Nat)(hj:j<m){v:Value}(hv:(f x).set j v=f y):(yW f l).set (i*m+j) v=yW f (l.set i y):=by
 induction l generalizing i with
 |nil=>simp at h
 |cons a l ih=>
  rw[vC];cases i with
  |zero=> simp at h;subst h;rw[Nat.zero_mul,zy,List.set_append_left _ _ (by rw[hf];omega),hv,zj,vC]
  |succ i=> rw[List.set_append_right _ _ (by rw[hf,Nat.add_mul];omega),hf,show(i+1)*m+j-m=i*m+j by rw[Nat.add_mul];omega,ih (by simpa using h),zi,vC]
theorem si(h1:∀x,∀u∈f x,u.oneCell'=true)(l:List α):∀u∈yW f l,u.oneCell'=true:=by intro u hu;unfold yW at hu;rw[List.mem_flatten]at hu;obtain⟨q,hq,hu⟩:=hu;rw[yc]at hq;obtain⟨x,_,rfl⟩:=hq;exact h1 x u hu
end
section
variable {w0 w:World} {γ:U} {t e m n:Nat} {v:Value}
theorem yR.elem{α:Type}{f:α→List Value}(hf:∀x,(f x).length=m){l:List α}(hs:yR γ t e m v n (yW f l))(h:Own w0 w γ){i:Nat}{x:α}(hx:l[i]? =some x)(hi:i<n):∃g cap,v=.slice (zb g) n cap∧n≤cap∧(∀(j:Nat) u,(f x)[j]? =some u→w.cell? (zc g (i*m+j))=some u∧w.frozen? (zc g (i*m+j))=false)∧∀(j:Nat) (u:Value) (y:α),j<m→(f x).set j u=f y→∃γ',Own w0 (w.setCell (zc g (i*m+j)) u) γ'∧yR γ' t e m v n (yW f (l.set i y))∧∀k,k≠t→γ' k=γ k:=by
 rcases hs.2 with⟨_,h0⟩|⟨g,cap,cur,rfl,h2,h3,h4,h5,h6⟩
 ·omega
 ·have hlt:∀j,j<m→i*m+j<n*m:=fun j hj=>by have:(i+1)*m≤n*m:=Nat.mul_le_mul_right _ hi;rw[Nat.add_mul]at this;omega
  refine⟨g,cap,rfl,h3,fun j u hj=>⟨h.cell h2 ?_,h.free h2 _⟩,fun j u y hj hy=>⟨_,h.set h2 (i*m+j) u,⟨?_,.inr ⟨g,cap,_,rfl,yQ _ _ _ _,h3,h4,by rw[Array.size_setIfInBounds];exact h5,?_⟩⟩,fun k hk=>yO _ _ _ hk⟩⟩
  ·have hjm:j<m:=by rw[←hf x];exact(zk.1 hj).1
   have:=vf hf hx j hjm;rw[hj,←h6,zG,if_pos (hlt j hjm)]at this;simpa using this
  ·rw[ua hf,zq,←ua hf];exact hs.1
  ·rw[yE,List.take_set,h6];exact VT hf hx j hj hy
def xK(γ:U)(t:Nat)(e:TypeId)(m:Nat)(v:Value)(n:Nat)(xs:List Value):Prop:=
 xs.length=n*m∧((∃c,v=.slice none 0 c∧n=0)∨∃g cap cur,v=.slice (zb g) n cap∧γ t=some (g,.cells cur e (0,0))∧n≤cap∧cap≤maxLen∧cur.toList.take (n*m)=xs)
theorem yR.qN{xs:List Value}(hs:yR γ t e m v n xs):xK γ t e m v n xs:=by
 refine⟨hs.1,?_⟩;rcases hs.2 with⟨rfl,h0⟩|⟨g,cap,cur,rfl,h2,h3,h4,h5,h6⟩
 ·exact .inl ⟨0,rfl,h0⟩
 ·exact .inr ⟨g,cap,cur,rfl,h2,h3,h4,h6⟩
theorem xK.keep{γ':U}{xs:List Value}(hs:xK γ t e m v n xs)(hk:γ' t=γ t):xK γ' t e m v n xs:=by
 refine⟨hs.1,?_⟩;rcases hs.2 with hn|⟨g,cap,cur,h1,h2,r⟩
 ·exact .inl hn
 ·exact .inr ⟨g,cap,cur,h1,by rw[hk];exact h2,r⟩
theorem xK.row{xs:List Value}(hs:xK γ t e m v n xs)(h:Own w0 w γ)(hn:0<n):∃g cap,v=.slice (zb g) n cap∧n≤cap∧∀(j:Nat) u,xs[j]? =some u→w.cell? (zc g j)=some u:=by
 rcases hs.2 with⟨_,_,h0⟩|⟨g,cap,cur,rfl,h2,h3,h4,h6⟩
 ·omega
 ·refine⟨g,cap,rfl,h3,fun j u hj=>h.cell h2 ?_⟩;rw[←h6,zG]at hj;split at hj
  ·simpa using hj
  ·cases hj
theorem xK.form{xs:List Value}(hs:xK γ t e m v n xs):∃A c,v=.slice A n c:=by
 rcases hs.2 with⟨c,rfl,h0⟩|⟨g,cap,cur,rfl,_⟩
 ·exact⟨_,_,by rw[h0]⟩
 ·exact⟨_,_,rfl⟩
end
end
end Go.Proofs.YtkmamlifgbocgaaGreat
