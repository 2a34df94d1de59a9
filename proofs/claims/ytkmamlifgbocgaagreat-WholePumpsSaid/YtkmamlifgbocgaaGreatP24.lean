/- What the program's code does, as contracts, and what follows of it, part 24: for the law's proof. -/
import Derived.Test.YtkmamlifgbocgaaGreatP00
import Derived.Test.YtkmamlifgbocgaaGreatP02
import Derived.DeepKeys4
import Derived.Maps.OwnSet
import Derived.KernelRfl
import Derived.WalkKit
import Derived.Outline
import Derived.BigRegion
import Derived.Deep.QuietTactic
import Derived.BigQuiet
import Derived.WalkLawsBesides
import Derived.Deep.RegionWith
import Derived.Deep.AppendLies
import Derived.Deep.RegionHeld3
import Derived.LoopTactic
set_option linter.unusedVariables false
set_option linter.unusedSimpArgs false
set_option maxRecDepth 100000
set_option maxHeartbeats 16000000
namespace Go.Proofs.YtkmamlifgbocgaaGreat
section
open Go.RowKit Go.WideMaps Go.ChangeMaps
theorem laid:laidOutB Tryz.prog=true:=by kernel_rfl
theorem j5:KeyLaw Tryz.prog 194:=deep_law_laid laid (m:=2) (by omega) (of_decide_eq_true (by kernel_rfl)) (by kernel_rfl) (by kernel_rfl)
def uF(d t:Int):Value:=.agg #[.i d,.i t]
def sG(l s:Int):Value:=.agg #[.i l,.i s]
def Fits(x:Int):Prop:=(Lit.int .i64 x).wf=true
theorem Yt{a b c d:Int}(h:uF a b=uF c d):a=c∧b=d:=by simpa[uF]using h
theorem ZF:Tryz.prog.cellsOf 194=2:=by kernel_rfl
theorem Q2:Tryz.prog.cellsOf 3=1:=by kernel_rfl
theorem sized:∃m,Tryz.prog.types.size=m+1:=⟨Tryz.prog.types.size-1,by have:0<Tryz.prog.types.size:=of_decide_eq_true (by kernel_rfl);omega⟩
theorem Wl:Tryz.prog.keyType 194=true:=by kernel_rfl
theorem fM{d t:Int}(h1:Fits d)(h2:Fits t):∃l,keyOf Tryz.prog 194 (uF d t)=some l:=by
 have h3:∀m,Tryz.prog.keyLits (m+2) 194 [.i d,.i t]=some [.i d,.i t]:=by intro m;unfold Fits at h1 h2;simp[Program.keyLits,Tryz.underlying194,Tryz.underlying3,ZF,Q2,h1,h2]
 have h4:(uF d t).formed Tryz.prog 194=true:=by simp[uF,Value.formed,Tryz.underlying194,ZF]
 obtain⟨m,hm⟩:=sized;refine⟨.string (keyBytes [.i d,.i t]),?_⟩;simp[keyOf,Tryz.underlying194,Wl,h4,hm];exact⟨_,by simpa[uF,Value.cells]using h3 m,rfl⟩
structure vi (es:List MapEntry) (f:Int→Int→Option (Int×Int)):Prop where
 each:∀e∈es,∃d t l s,e.key=uF d t∧Fits d∧Fits t∧e.val=sG l s∧f d t=some (l,s)
 all:∀d t l s,f d t=some (l,s)→∃e∈es,e.key=uF d t∧e.val=sG l s
 apart:es.Pairwise (fun a b=>a.key≠b.key)
def vH(f:Int→Int→Option (Int×Int))(d t:Int):Int→Int→Option (Int×Int):=fun d' t'=>if d'=d∧t'=t then none else f d' t'
def ji(f:Int→Int→Option (Int×Int))(d t l s:Int):Int→Int→Option (Int×Int):=fun d' t'=>if d'=d∧t'=t then some (l,s)else f d' t'
theorem vi.nil:vi [] (fun _ _=>none):=⟨fun _ h=>(nomatch h),fun _ _ _ _ h=>(nomatch h),.nil⟩
theorem vi.keys{es:List MapEntry}{f:Int→Int→Option (Int×Int)}(h:vi es f):∀e∈es,∃l,keyOf Tryz.prog 194 e.key=some l:=fun e he=>by obtain⟨d,t,l,s,hk,h1,h2,_⟩:=h.each e he;rw[hk];exact fM h1 h2
theorem vi.find{es:List MapEntry}{f:Int→Int→Option (Int×Int)}(h:vi es f)(w:World){d t:Int}(h1:Fits d)(h2:Fits t):((Instr.findKey 194 (uF d t) es).run Tryz.prog w=.ok none w∧f d t=none∧∀e∈es,e.key≠uF d t)∨∃(j:Nat) (e:MapEntry) (l s:Int),(Instr.findKey 194 (uF d t) es).run Tryz.prog w=.ok (some (j,sG l s)) w∧es[j]? =some e∧e.key=uF d t∧f d t=some (l,s):=by
 obtain⟨lx,hx⟩:=fM h1 h2;rcases j5.find w hx es h.keys with⟨a,b⟩|⟨j,e,a,b,c⟩
 ·refine .inl ⟨a,?_,b⟩;cases hf:f d t with
  |none=>rfl
  |some x=> obtain⟨e,he,hk,_⟩:=h.all d t x.1 x.2 hf;exact absurd hk (b e he)
 ·obtain⟨d',t',l,s,hk,_,_,hv,hf⟩:=h.each e (zo b);obtain⟨rfl,rfl⟩:=Yt (hk.symm.trans c);exact .inr ⟨j,e,l,s,by rw[a,hv],b,c,hf⟩
theorem vi.del{es:List MapEntry}{f:Int→Int→Option (Int×Int)}(h:vi es f){d t:Int}{j:Nat}{e:MapEntry}(hj:es[j]? =some e)(hk:e.key=uF d t):vi (es.eraseIdx j) (vH f d t):=by
 have hsub:∀x∈es.eraseIdx j,x∈es:=fun x hx=>(List.eraseIdx_sublist es j).subset hx;have hne:∀x∈es.eraseIdx j,x.key≠uF d t:=by
  intro x hx hxk;obtain⟨i,hi,hij⟩:=List.mem_eraseIdx_iff_getElem?.1 hx;have hpw:=List.pairwise_iff_getElem.1 h.apart;have hji:=zk.1 hj;have hii:=zk.1 hij;obtain⟨hjl,hje⟩:=hji;obtain⟨hil,hie⟩:=hii;rcases Nat.lt_or_gt_of_ne hi with hlt|hlt
  ·exact hpw i j hil hjl hlt (by rw[hie,hje,hxk,hk])
  ·exact hpw j i hjl hil hlt (by rw[hie,hje,hxk,hk])
 refine⟨fun x hx=>?_,fun d' t' l s hf=>?_,h.apart.sublist (List.eraseIdx_sublist es j)⟩
 ·obtain⟨d',t',l,s,a,b,c,g,k⟩:=h.each x (hsub x hx);refine⟨d',t',l,s,a,b,c,g,?_⟩;unfold vH;rw[if_neg (fun hh=>hne x hx (by rw[a,hh.1,hh.2]))];exact k
 ·unfold vH at hf;split at hf
  ·cases hf
  ·rename_i hno;obtain⟨x,hx,a,b⟩:=h.all d' t' l s hf;obtain⟨i,hi⟩:=List.mem_iff_getElem?.1 hx;refine⟨x,List.mem_eraseIdx_iff_getElem?.2 ⟨i,fun hij=>?_,hi⟩,a,b⟩;subst hij;rw[hj]at hi;cases hi;exact hno (Yt (a.symm.trans hk))
theorem vi.Tb{es:List MapEntry}{f:Int→Int→Option (Int×Int)}(h:vi es f){d t:Int}(hf:f d t=none):vi es (vH f d t):=by
 have:vH f d t=f:=by
  funext d' t';unfold vH;split
  ·rename_i hh;rw[hh.1,hh.2,hf]
  ·rfl
 rw[this];exact h
theorem vi.R4{es:List MapEntry}{f:Int→Int→Option (Int×Int)}(h:vi es f){d t l s:Int}(h1:Fits d)(h2:Fits t)(hf:∀e∈es,e.key≠uF d t)(b:Nat):vi (es++[{key:=uF d t,val:=sG l s,born:=b}]) (ji f d t l s):=by
 refine⟨fun x hx=>?_,fun d' t' l' s' hg=>?_,?_⟩
 ·rcases zB.1 hx with hx|hx
  ·obtain⟨d',t',l',s',a,b',c,g,k⟩:=h.each x hx;refine⟨d',t',l',s',a,b',c,g,?_⟩;unfold ji;rw[if_neg (fun hh=>hf x hx (by rw[a,hh.1,hh.2]))];exact k
  ·simp at hx;subst hx;exact⟨d,t,l,s,rfl,h1,h2,rfl,by simp[ji]⟩
 ·unfold ji at hg;split at hg
  ·rename_i hh;cases hg;refine⟨{key:=uF d t,val:=sG l s,born:=b},zB.2 (.inr (by simp)),?_,rfl⟩;show uF d t=uF d' t';rw[hh.1,hh.2]
  ·obtain⟨x,hx,a,c⟩:=h.all d' t' l' s' hg;exact⟨x,zB.2 (.inl hx),a,c⟩
 ·rw[List.pairwise_append];refine⟨h.apart,by simp,fun a ha c hc=>?_⟩;simp at hc;subst hc;exact hf a ha
theorem QJ(w:World):(zeroValue 234).run Tryz.prog w=.ok (sG 0 0) w:=by kernel_rfl
section
variable {w:World} {g clock:Nat} {es:Array MapEntry} {f:Int→Int→Option (Int×Int)} {d t:Int}
def found(o:Option (Int×Int)):Value:=match o with
 |some x=>sG x.1 x.2
 |none=>sG 0 0
theorem Zd(hb:w.heap[g]? =some (.map es clock))(h:vi es.toList f)(h1:Fits d)(h2:Fits t):(Instr.lookup 126 (.map (some g)) (uF d t) true).run Tryz.prog w=.ok (.tuple #[found (f d t),.bool (f d t).isSome]) w:=by
 obtain⟨lx,hx⟩:=fM h1 h2;rcases h.find w h1 h2 with⟨hr,hf,_⟩|⟨j,e,l,s,hr,hj,hk,hf⟩
 ·simp[Instr.lookup,run_underlying Tryz.underlying126,MapKept.run_getObj_map hb,j5.check w _ hx,hr,hf,QJ,found,Result.andThen,sG]
 ·simp[Instr.lookup,run_underlying Tryz.underlying126,MapKept.run_getObj_map hb,j5.check w _ hx,hr,hf,found,Result.andThen]
theorem fB(hb:w.heap[g]? =some (.map es clock))(h:vi es.toList f)(h1:Fits d)(h2:Fits t)(ty:TypeId):∃es',(Builtin.delete_ #[126,194] ty #[.map (some g),uF d t]).run Tryz.prog w=.ok (.tuple #[]) (setBlock w g (.map es' clock))∧vi es'.toList (vH f d t):=by
 obtain⟨lx,hx⟩:=fM h1 h2;rcases h.find w h1 h2 with⟨hr,hf,_⟩|⟨j,e,l,s,hr,hj,hk,hf⟩
 ·refine⟨es,?_,h.Tb hf⟩;simp[Builtin.delete_,run_underlying Tryz.underlying126,MapKept.run_getObj_map hb,j5.check w _ hx,hr,Result.andThen,MapKept.run_setObj_map _ hb,setBlock]
 ·refine⟨es.eraseIdxIfInBounds j,?_,?_⟩
  ·simp[Builtin.delete_,run_underlying Tryz.underlying126,MapKept.run_getObj_map hb,j5.check w _ hx,hr,Result.andThen,MapKept.run_setObj_map _ hb,setBlock]
  ·have:=h.del hj hk;rw[Array.toList_eraseIdxIfInBounds];exact this
theorem Ze(hb:w.heap[g]? =some (.map es clock))(h:vi es.toList f)(h1:Fits d)(h2:Fits t)(hn:f d t=none)(l s:Int):∃es' clock',(Instr.mapUpdate 126 (.map (some g)) (uF d t) (sG l s)).run Tryz.prog w=.ok () (setBlock w g (.map es' clock'))∧vi es'.toList (ji f d t l s):=by
 obtain⟨lx,hx⟩:=fM h1 h2;rcases h.find w h1 h2 with⟨hr,hf,hno⟩|⟨j,e,l',s',hr,hj,hk,hf⟩
 ·refine⟨es.push {key:=uF d t,val:=sG l s,born:=clock},clock+1,?_,?_⟩
  ·simp[Instr.mapUpdate,run_underlying Tryz.underlying126,MapKept.run_getObj_map hb,j5.check w _ hx,hr,Result.andThen,MapKept.run_setObj_map _ hb,setBlock]
  ·rw[Array.toList_push];exact h.R4 h1 h2 hno clock
 ·rw[hn]at hf;cases hf
end
end
section
open Go.RowKit
structure CS where
 ws:List Int
 s:Nat
 q:Nat
 t:Int
structure CS.Ok (c:CS):Prop where
 len:c.ws.length=4
 lo:1≤c.s
 hi:c.s≤4
 t0:0≤c.t
 small:c.q<1000
def uM(c:CS):Array Value:=(c.ws.map (Value.int .i64)++[Value.int .i64 c.s,Value.int .i64 c.q,Value.int .i64 c.t]).toArray
def wO(c:CS):Obj:=.cells (uM c) 152 (0,0)
def CS.new(s:Nat):CS:=⟨[0,0,0,0],s,0,0⟩
def CS.xZ(c:CS)(t:Int):Int:=if t<1 then 1 else if c.t=t then 11 else if c.t≠0 then 12 else 0
def CS.begin(c:CS)(t:Int):CS:=if c.xZ t=0 then{c with t:=t,q:=c.q+1}else c
def CS.kQ(c:CS)(t i:Int):Int:=if t<1∨i<0∨c.s≤i then 1 else if c.t≠t then 11 else 0
def CS.put(c:CS)(t i v:Int):CS:=if c.kQ t i=0 then{c with ws:=c.ws.set i.toNat v}else c
def CS.kC(c:CS)(t:Int):Int:=if t<1 then 1 else if c.t≠t then 11 else 0
def CS.end_(c:CS)(t:Int):CS:=if c.kC t=0 then{c with t:=0,q:=c.q+1}else c
def CS.gB(c:CS):Int:=if c.t≠0 then 0 else c.q
def CS.gz(c:CS):Int:=if c.t≠0 then 17 else 0
def CS.eO(c:CS)(i:Int):Int:=if i<0∨c.s≤i then 0 else c.ws.getD i.toNat 0
def CS.uw(c:CS)(i:Int):Int:=if i<0∨c.s≤i then 1 else 0
def CS.eK(c:CS)(seq:Int):Int:=if(c.q:Int)≠seq∨c.t≠0 then 17 else 0
theorem fG{c:CS}(h:c.Ok)(i:Nat)(hi:i<4):(uM c)[i]? =some (.i (c.ws.getD i 0)):=by
 have:i<c.ws.length:=by rw[h.len];exact hi
 simp[uM,this,zF]
theorem tU{c:CS}(h:c.Ok):(uM c)[4]? =some (.i c.s):=by simp[uM,h.len]
theorem sO{c:CS}(h:c.Ok):(uM c)[5]? =some (.i c.q):=by simp[uM,h.len]
theorem um{c:CS}(h:c.Ok):(uM c)[6]? =some (.i c.t):=by simp[uM,h.len]
theorem XQ{c:CS}(h:c.Ok)(i:Nat)(hi:i<4)(v:Int):Obj.cells ((uM c).setIfInBounds i (.i v)) 152 (0,0)=wO {c with ws:=c.ws.set i v}:=by unfold wO uM;congr 1;simp only[zd];congr 1;rw[List.set_append_left _ _ (by simp[h.len];omega)];simp[List.map_set]
theorem ae{c:CS}(h:c.Ok)(t:Int)(q:Int)(q':Nat)(hq:q=q'):Obj.cells (((uM c).setIfInBounds 6 (.i t)).setIfInBounds 5 (.i q)) 152 (0,0)=wO {c with t:=t,q:=q'}:=by subst hq;unfold wO uM;congr 1;simp only[zd];congr 1;rw[List.set_append_right _ _ (by simp[h.len]),List.set_append_right _ _ (by simp[h.len])];simp[h.len]
theorem CS.Ok.begin{c:CS}(h:c.Ok)(t:Int)(hq:c.q<999):(c.begin t).Ok:=by
 unfold CS.begin;split
 ·rename_i he;have:¬t<1:=fun ht=>by unfold CS.xZ at he;rw[if_pos ht]at he;cases he
  exact⟨h.len,h.lo,h.hi,by show 0≤t;omega,by show c.q+1<1000;omega⟩
 ·exact h
theorem CS.Ok.end_{c:CS}(h:c.Ok)(t:Int)(hq:c.q<999):(c.end_ t).Ok:=by
 unfold CS.end_;split
 ·exact⟨h.len,h.lo,h.hi,by show(0:Int)≤0;omega,by show c.q+1<1000;omega⟩
 ·exact h
theorem CS.Ok.put{c:CS}(h:c.Ok)(t i v:Int):(c.put t i v).Ok:=by
 unfold CS.put;split
 ·exact⟨by show(c.ws.set _ _).length=4;rw[zq];exact h.len,h.lo,h.hi,h.t0,h.small⟩
 ·exact h
theorem CS.Ok.new{s:Nat}(h:1≤s∧s≤4):(CS.new s).Ok:=⟨rfl,h.1,h.2,by show(0:Int)≤0;omega,by show 0<1000;omega⟩
theorem CS.SY(c:CS)(t:Int):(c.begin t).q≤c.q+1:=by unfold CS.begin;split<;>simp
theorem CS.Og(c:CS)(t:Int):(c.end_ t).q≤c.q+1:=by unfold CS.end_;split<;>simp
theorem CS.OC(c:CS)(t i v:Int):(c.put t i v).q=c.q:=by unfold CS.put;split<;>rfl
theorem CS.ND(c:CS)(t:Int):(c.begin t).s=c.s:=by unfold CS.begin;split<;>rfl
theorem CS.end_s(c:CS)(t:Int):(c.end_ t).s=c.s:=by unfold CS.end_;split<;>rfl
theorem CS.put_s(c:CS)(t i v:Int):(c.put t i v).s=c.s:=by unfold CS.put;split<;>rfl
def pX(e:Int):Ending:=.returned (.i e)
def br(n e:Int):Ending:=.returned (.tuple #[.i n,.i e])
theorem ky(e:Int):pX e=.returned (.i e):=rfl
theorem bz(n e:Int):br n e=.returned (.tuple #[.i n,.i e]):=rfl
def rS(size:Int):Nat:=if size<1 then 1 else if 4<size then 4 else size.toNat
theorem aZ(size:Int):1≤rS size∧rS size≤4:=by unfold rS;split<;>(try split)<;>omega
theorem YB{w0 w:World}{γ:U}(hs:Own w0 w γ)(tg:Nat)(size:Int):Calls Tryz.prog 55 #[.i size] w fun e w'=>∃g,e=.returned (.p g)∧Own w0 w' (Go.Proofs.YtkmamlifgbocgaaGreat.put γ tg g (wO (CS.new (rS size)))):=by
 have fin:∀k:Nat,rS size=k→(∃g,Ending.returned (.p w.heap.size)=Ending.returned (.p g)∧Own w0 (w.alloc (.cells #[.i 0,.i 0,.i 0,.i 0,.i k,.i 0,.i 0] 152)) (Go.Proofs.YtkmamlifgbocgaaGreat.put γ tg g (wO (CS.new (rS size))))):=by intro k hk;subst hk;exact⟨_,rfl,hs.new _ _⟩
 by_cases a1:size≤1
 ·have hk:=fin 1 (by unfold rS;split<;>(try split)<;>omega);go_in;go_wp2;all_goals go_ret
  all_goals exact hk
 ·by_cases a8:4<size
  ·have hk:=fin 4 (by unfold rS;rw[if_neg (by omega),if_pos (by omega)]);go_in;go_wp2;all_goals go_ret
   all_goals exact hk
  ·obtain⟨k,rfl⟩:∃k:Nat,size=k:=⟨size.toNat,by omega⟩;have hk:=fin k (by unfold rS;rw[if_neg (by omega),if_neg (by omega)];omega);go_in;go_wp2;all_goals go_ret
   all_goals exact hk
section
variable {w0 w:World} {γ:U} {tg g:Nat} {c:CS}
theorem bE(hs:Own w0 w γ)(hg:γ tg=some (g,wO c))(hc:c.Ok):Calls Tryz.prog 95 #[.p g] w fun e w'=>e=pX c.t∧w=w':=by have c4:w.cell? (zc g 4)=some (.i c.s):=hs.cell hg (tU hc);have c5:w.cell? (zc g 5)=some (.i c.q):=hs.cell hg (sO hc);have c6:w.cell? (zc g 6)=some (.i c.t):=hs.cell hg (um hc);have hq:=hc.small;have ht0:=hc.t0;obtain⟨ws,s,q,t⟩:=c;simp only[]at c4 c5 c6 hq ht0;go_in;go_wp2;go_ret;exact⟨rfl,rfl⟩
theorem dW(hs:Own w0 w γ)(hg:γ tg=some (g,wO c))(hc:c.Ok)(i:Int):Calls Tryz.prog 167 #[.p g,.i i] w fun e w'=>e=.returned (.bool (decide (0≤i∧i<c.s)))∧w=w':=by
 have c4:w.cell? (zc g 4)=some (.i c.s):=hs.cell hg (tU hc);have c5:w.cell? (zc g 5)=some (.i c.q):=hs.cell hg (sO hc);have c6:w.cell? (zc g 6)=some (.i c.t):=hs.cell hg (um hc);have hq:=hc.small;have ht0:=hc.t0;obtain⟨ws,s,q,t⟩:=c;simp only[]at c4 c5 c6 hq ht0;by_cases h0:0≤i
 ·have d0:decide (0≤i)=true:=by simpa using h0
  have e1:decide (0≤i∧i<(s:Int))=decide (i<(s:Int)):=by simp[h0]
  rw[e1];go_in;go_wp2;go_ret;exact⟨rfl,rfl⟩
 ·have d0:decide (0≤i)=false:=by simpa using h0
  have e1:decide (0≤i∧i<(s:Int))=false:=by simp[h0]
  rw[e1];go_in;go_wp2;go_ret;exact⟨rfl,rfl⟩
theorem fy(hs:Own w0 w γ)(hg:γ tg=some (g,wO c))(hc:c.Ok):Calls Tryz.prog 126 #[.p g] w fun e w'=>e=br c.gB c.gz∧w=w':=by
 have c4:w.cell? (zc g 4)=some (.i c.s):=hs.cell hg (tU hc);have c5:w.cell? (zc g 5)=some (.i c.q):=hs.cell hg (sO hc);have c6:w.cell? (zc g 6)=some (.i c.t):=hs.cell hg (um hc);have hq:=hc.small;have ht0:=hc.t0;obtain⟨ws,s,q,t⟩:=c;simp only[]at c4 c5 c6 hq ht0;by_cases h:t=0
 ·subst h;show Calls _ _ _ _ (fun e w'=>e=br q 0∧w=w');go_in;go_wp2;go_ret2;exact⟨rfl,rfl⟩
 ·have hb:(t==0)=false:=by simpa using h
  have hb2:(t != 0)=true:=by simpa using h
  rw[show CS.gB ⟨ws,s,q,t⟩=0 from if_pos h,show CS.gz ⟨ws,s,q,t⟩=17 from if_pos h];go_in;go_wp2;go_ret2;exact⟨rfl,rfl⟩
theorem ZD(hs:Own w0 w γ)(hg:γ tg=some (g,wO c))(hc:c.Ok)(n:Int):Calls Tryz.prog 128 #[.p g,.i n] w fun e w'=>e=pX (c.eK n)∧w=w':=by
 have c4:w.cell? (zc g 4)=some (.i c.s):=hs.cell hg (tU hc);have c5:w.cell? (zc g 5)=some (.i c.q):=hs.cell hg (sO hc);have c6:w.cell? (zc g 6)=some (.i c.t):=hs.cell hg (um hc);have hq:=hc.small;have ht0:=hc.t0;obtain⟨ws,s,q,t⟩:=c;simp only[]at c4 c5 c6 hq ht0;by_cases h1:(q:Int)=n
 ·subst h1;by_cases h:t=0
  ·subst h;rw[show CS.eK ⟨ws,s,q,0⟩ q=0 from if_neg (by simp)];go_in;go_wp2;go_ret;exact⟨rfl,rfl⟩
  ·have hb:(t==0)=false:=by simpa using h
   have hb2:(t != 0)=true:=by simpa using h
   rw[show CS.eK ⟨ws,s,q,t⟩ q=17 from if_pos (.inr h)];go_in;go_wp2;go_ret;exact⟨rfl,rfl⟩
 ·have hb:((q:Int)==n)=false:=by simpa using h1
  have hb2:((q:Int) != n)=true:=by simpa using h1
  rw[show CS.eK ⟨ws,s,q,t⟩ n=17 from if_pos (.inl h1)];go_in;go_wp2;go_ret;exact⟨rfl,rfl⟩
theorem ZE(hs:Own w0 w γ)(hg:γ tg=some (g,wO c))(hc:c.Ok)(i:Int):Calls Tryz.prog 127 #[.p g,.i i] w fun e w'=>e=br (c.eO i) (c.uw i)∧w=w':=by
 have hi:=dW hs hg hc i;by_cases h:i<0∨(c.s:Int)≤i
 ·rw[show c.eO i=0 from if_pos h,show c.uw i=1 from if_pos h];rw[show decide (0≤i∧i<(c.s:Int))=false by simp;omega]at hi;go_in;go_wp2_with fail;refine hi.mono ?_;rintro e w1 ⟨rfl,rfl⟩;go_wp2;go_ret2;exact⟨rfl,rfl⟩
 ·rw[show c.eO i=c.ws.getD i.toNat 0 from if_neg h,show c.uw i=0 from if_neg h];rw[show decide (0≤i∧i<(c.s:Int))=true by simp;omega]at hi;have hh:=hc.hi;have i0:0≤i:=by omega
  have i4:i<4:=by omega
  have ci:w.cell? (zc g i.toNat)=some (.i (c.ws.getD i.toNat 0)):=hs.cell hg (fG hc i.toNat (by omega));generalize c.ws.getD i.toNat 0=u at ci⊢;go_in;go_wp2_with fail;refine hi.mono ?_;rintro e w1 ⟨rfl,rfl⟩;clear h hs hg;go_wp2;go_ret2;exact⟨rfl,rfl⟩
theorem aY(hs:Own w0 w γ)(hg:γ tg=some (g,wO c))(hc:c.Ok)(t':Int):Calls Tryz.prog 129 #[.p g,.i t'] w fun e w'=>e=pX (c.xZ t')∧Own w0 w' (Go.Proofs.YtkmamlifgbocgaaGreat.put γ tg g (wO (c.begin t'))):=by
 have same:c.begin t'=c→Own w0 w (Go.Proofs.YtkmamlifgbocgaaGreat.put γ tg g (wO (c.begin t'))):=fun h=>by rw[h,Ya hg];exact hs
 have hnew:c.xZ t'=0→Own w0 ((w.setCell (zc g 6) (.i t')).setCell (zc g 5) (.i ((c.q:Int)+1))) (Go.Proofs.YtkmamlifgbocgaaGreat.put γ tg g (wO (c.begin t'))):=fun h=>by have h2:=(hs.set hg 6 (.i t')).set (yQ _ _ _ _) 5 (.i ((c.q:Int)+1));rw[gh,ae hc t' _ (c.q+1) (by omega)]at h2;rw[show c.begin t'={c with t:=t',q:=c.q+1}from if_pos h];exact h2
 have f6:=hs.free hg 6;have f5:=hs.free hg 5;have hsame:∀{x:Int},c.xZ t'=x→x≠0→c.begin t'=c:=fun h hx=>if_neg (by rw[h];exact hx);have c4:w.cell? (zc g 4)=some (.i c.s):=hs.cell hg (tU hc);have c5:w.cell? (zc g 5)=some (.i c.q):=hs.cell hg (sO hc);have c6:w.cell? (zc g 6)=some (.i c.t):=hs.cell hg (um hc);have hq:=hc.small;have ht0:=hc.t0;obtain⟨ws,s,q,t⟩:=c;simp only[]at c4 c5 c6 hq ht0;by_cases h1:t'<1
 ·have d1:decide (t'<1)=true:=by simpa using h1
  have he:CS.xZ ⟨ws,s,q,t⟩ t'=1:=if_pos h1;have hfin:=same (hsame he (by omega));rw[he];generalize Go.Proofs.YtkmamlifgbocgaaGreat.put γ tg g (wO (CS.begin ⟨ws,s,q,t⟩ t'))=γ' at*;clear hnew same hsame he;go_in;go_wp2;go_ret;exact⟨rfl,hfin⟩
 ·have d1:decide (t'<1)=false:=by simpa using h1
  by_cases h2:t=t'
  ·subst h2;have he:CS.xZ ⟨ws,s,q,t⟩ t=11:=by unfold CS.xZ;rw[if_neg h1,if_pos rfl]
   have hfin:=same (hsame he (by omega));rw[he];generalize Go.Proofs.YtkmamlifgbocgaaGreat.put γ tg g (wO (CS.begin ⟨ws,s,q,t⟩ t))=γ' at*;clear hnew same hsame he;go_in;go_wp2;go_ret;exact⟨rfl,hfin⟩
  ·have d2:(t==t')=false:=by simpa using h2
   by_cases h3:t=0
   ·subst h3;have he:CS.xZ ⟨ws,s,q,0⟩ t'=0:=by unfold CS.xZ;rw[if_neg h1];show(if(0:Int)=t' then(11:Int)else if(0:Int)≠0 then 12 else 0)=0;rw[if_neg h2,if_neg (by simp)]
    have hfin:=hnew he;rw[he];generalize Go.Proofs.YtkmamlifgbocgaaGreat.put γ tg g (wO (CS.begin ⟨ws,s,q,0⟩ t'))=γ' at*;simp only[]at hfin;obtain⟨qi,hqi⟩:∃qi:Int,qi=q:=⟨_,rfl⟩;rw[←hqi]at c5 hfin;have q0:0≤qi:=by omega
    have q1:qi<1000:=by omega
    have dq:decide ((1048576:Int)≤qi)=false:=by simp;omega
    clear hnew same hsame he hqi hq;go_in;go_wp2;go_ret;exact⟨rfl,hfin⟩
   ·have d3:(t==0)=false:=by simpa using h3
    have d4:(t != 0)=true:=by simpa using h3
    have he:CS.xZ ⟨ws,s,q,t⟩ t'=12:=by unfold CS.xZ;rw[if_neg h1];show(if t=t' then(11:Int)else if t≠0 then 12 else 0)=12;rw[if_neg h2,if_pos h3]
    have hfin:=same (hsame he (by omega));rw[he];generalize Go.Proofs.YtkmamlifgbocgaaGreat.put γ tg g (wO (CS.begin ⟨ws,s,q,t⟩ t'))=γ' at*;clear hnew same hsame he;go_in;go_wp2;go_ret;exact⟨rfl,hfin⟩
theorem YA(hs:Own w0 w γ)(hg:γ tg=some (g,wO c))(hc:c.Ok)(t':Int):Calls Tryz.prog 131 #[.p g,.i t'] w fun e w'=>e=pX (c.kC t')∧Own w0 w' (Go.Proofs.YtkmamlifgbocgaaGreat.put γ tg g (wO (c.end_ t'))):=by
 have same:c.end_ t'=c→Own w0 w (Go.Proofs.YtkmamlifgbocgaaGreat.put γ tg g (wO (c.end_ t'))):=fun h=>by rw[h,Ya hg];exact hs
 have hnew:c.kC t'=0→Own w0 ((w.setCell (zc g 6) (.i 0)).setCell (zc g 5) (.i ((c.q:Int)+1))) (Go.Proofs.YtkmamlifgbocgaaGreat.put γ tg g (wO (c.end_ t'))):=fun h=>by have h2:=(hs.set hg 6 (.i 0)).set (yQ _ _ _ _) 5 (.i ((c.q:Int)+1));rw[gh,ae hc 0 _ (c.q+1) (by omega)]at h2;rw[show c.end_ t'={c with t:=0,q:=c.q+1}from if_pos h];exact h2
 have f6:=hs.free hg 6;have f5:=hs.free hg 5;have hsame:∀{x:Int},c.kC t'=x→x≠0→c.end_ t'=c:=fun h hx=>if_neg (by rw[h];exact hx);have c4:w.cell? (zc g 4)=some (.i c.s):=hs.cell hg (tU hc);have c5:w.cell? (zc g 5)=some (.i c.q):=hs.cell hg (sO hc);have c6:w.cell? (zc g 6)=some (.i c.t):=hs.cell hg (um hc);have hq:=hc.small;have ht0:=hc.t0;obtain⟨ws,s,q,t⟩:=c;simp only[]at c4 c5 c6 hq ht0;by_cases h1:t'<1
 ·have d1:decide (t'<1)=true:=by simpa using h1
  have he:CS.kC ⟨ws,s,q,t⟩ t'=1:=if_pos h1;have hfin:=same (hsame he (by omega));rw[he];generalize Go.Proofs.YtkmamlifgbocgaaGreat.put γ tg g (wO (CS.end_ ⟨ws,s,q,t⟩ t'))=γ' at*;clear hnew same hsame he;go_in;go_wp2;go_ret;exact⟨rfl,hfin⟩
 ·have d1:decide (t'<1)=false:=by simpa using h1
  by_cases h2:t=t'
  ·subst h2;have he:CS.kC ⟨ws,s,q,t⟩ t=0:=by unfold CS.kC;rw[if_neg h1];exact if_neg (fun h=>h rfl)
   have hfin:=hnew he;rw[he];generalize Go.Proofs.YtkmamlifgbocgaaGreat.put γ tg g (wO (CS.end_ ⟨ws,s,q,t⟩ t))=γ' at*;simp only[]at hfin;clear hnew same hsame he;go_in;go_wp2;go_ret;exact⟨rfl,hfin⟩
  ·have d2:(t==t')=false:=by simpa using h2
   have d3:(t != t')=true:=by simpa using h2
   have he:CS.kC ⟨ws,s,q,t⟩ t'=11:=by unfold CS.kC;rw[if_neg h1];exact if_pos h2
   have hfin:=same (hsame he (by omega));rw[he];generalize Go.Proofs.YtkmamlifgbocgaaGreat.put γ tg g (wO (CS.end_ ⟨ws,s,q,t⟩ t'))=γ' at*;clear hnew same hsame he;go_in;go_wp2;go_ret;exact⟨rfl,hfin⟩
theorem YC(hs:Own w0 w γ)(hg:γ tg=some (g,wO c))(hc:c.Ok)(t' i v:Int):Calls Tryz.prog 130 #[.p g,.i t',.i i,.i v] w fun e w'=>e=pX (c.kQ t' i)∧Own w0 w' (Go.Proofs.YtkmamlifgbocgaaGreat.put γ tg g (wO (c.put t' i v))):=by
 have same:c.put t' i v=c→Own w0 w (Go.Proofs.YtkmamlifgbocgaaGreat.put γ tg g (wO (c.put t' i v))):=fun h=>by rw[h,Ya hg];exact hs
 have hsame:∀{x:Int},c.kQ t' i=x→x≠0→c.put t' i v=c:=fun h hx=>if_neg (by rw[h];exact hx);have hi:=dW hs hg hc i;have c6:w.cell? (zc g 6)=some (.i c.t):=hs.cell hg (um hc);by_cases h1:t'<1
 ·have d1:decide (t'<1)=true:=by simpa using h1
  have he:c.kQ t' i=1:=if_pos (.inl h1);have hfin:=same (hsame he (by omega));rw[he];generalize Go.Proofs.YtkmamlifgbocgaaGreat.put γ tg g (wO (c.put t' i v))=γ' at*;clear same hsame he hi;go_in;go_wp2;go_ret;exact⟨rfl,hfin⟩
 ·have d1:decide (t'<1)=false:=by simpa using h1
  by_cases h2:i<0∨(c.s:Int)≤i
  ·have he:c.kQ t' i=1:=if_pos (.inr h2);have hfin:=same (hsame he (by omega));rw[he];rw[show decide (0≤i∧i<(c.s:Int))=false by simp;omega]at hi;generalize Go.Proofs.YtkmamlifgbocgaaGreat.put γ tg g (wO (c.put t' i v))=γ' at*;clear same hsame he h2;go_in;go_wp2_with fail;refine hi.mono ?_;rintro e w1 ⟨rfl,rfl⟩;go_wp2;go_ret;exact⟨rfl,hfin⟩
  ·rw[show decide (0≤i∧i<(c.s:Int))=true by simp;omega]at hi;by_cases h3:c.t=t'
   ·have he:c.kQ t' i=0:=by unfold CS.kQ;rw[if_neg (by omega),if_neg (by simpa using h3)]
    have i0:0≤i:=by omega
    have hh:=hc.hi;have i4:i<4:=by omega
    have ci:w.cell? (zc g i.toNat)=some (.i (c.ws.getD i.toNat 0)):=hs.cell hg (fG hc i.toNat (by omega));have fi:=hs.free hg i.toNat;have hfin:=hs.set hg i.toNat (.i v);rw[XQ hc i.toNat (by omega) v]at hfin;rw[show c.put t' i v={c with ws:=c.ws.set i.toNat v}from if_pos he,he];generalize Go.Proofs.YtkmamlifgbocgaaGreat.put γ tg g (wO {c with ws:=c.ws.set i.toNat v})=γ' at*;generalize c.ws.getD i.toNat 0=u at ci;generalize c.t=t at*;subst h3;clear same hsame he h2 hs hg;go_in;go_wp2_with fail;refine hi.mono ?_;rintro e w1 ⟨rfl,rfl⟩;clear hi;go_wp2;go_ret;exact⟨rfl,hfin⟩
   ·have d2:(c.t==t')=false:=by simpa using h3
    have d3:(c.t != t')=true:=by simpa using h3
    have he:c.kQ t' i=11:=by unfold CS.kQ;rw[if_neg (by omega),if_pos h3]
    have hfin:=same (hsame he (by omega));rw[he];generalize Go.Proofs.YtkmamlifgbocgaaGreat.put γ tg g (wO (c.put t' i v))=γ' at*;clear same hsame he h2;go_in;go_wp2_with fail;refine hi.mono ?_;rintro e w1 ⟨rfl,rfl⟩;go_wp2;go_ret;exact⟨rfl,hfin⟩
end
theorem QL(w:World):Calls Tryz.prog 126 #[.pointer none] w fun e w'=>e=br 0 1∧w=w':=by go_in;go_wp2;go_ret2;exact⟨rfl,rfl⟩
theorem QK(a:Int)(w:World):Calls Tryz.prog 129 #[.pointer none,.i a] w fun e w'=>e=pX 1∧w=w':=by go_in;go_wp2;go_ret;exact⟨rfl,rfl⟩
theorem P3(a:Int)(w:World):Calls Tryz.prog 131 #[.pointer none,.i a] w fun e w'=>e=pX 1∧w=w':=by go_in;go_wp2;go_ret;exact⟨rfl,rfl⟩
theorem QZ(a:Int)(w:World):Calls Tryz.prog 128 #[.pointer none,.i a] w fun e w'=>e=pX 1∧w=w':=by go_in;go_wp2;go_ret;exact⟨rfl,rfl⟩
theorem S4(w:World):Calls Tryz.prog 95 #[.pointer none] w fun e w'=>e=pX 0∧w=w':=by go_in;go_wp2;go_ret;exact⟨rfl,rfl⟩
theorem dX(a:Int)(w:World):Calls Tryz.prog 167 #[.pointer none,.i a] w fun e w'=>e=.returned (.bool false)∧w=w':=by go_in;go_wp2;go_ret;exact⟨rfl,rfl⟩
theorem Q0(a:Int)(w:World):Calls Tryz.prog 127 #[.pointer none,.i a] w fun e w'=>e=br 0 1∧w=w':=by go_in;go_wp2_with fail;refine(dX a _).mono ?_;rintro e w1 ⟨rfl,rfl⟩;go_wp2;go_ret2;exact⟨rfl,rfl⟩
theorem P4(t i v:Int)(w:World):Calls Tryz.prog 130 #[.pointer none,.i t,.i i,.i v] w fun e w'=>e=pX 1∧w=w':=by
 by_cases h:t<1
 ·have d:decide (t<1)=true:=by simpa using h
  go_in;go_wp2;go_ret;exact⟨rfl,rfl⟩
 ·have d:decide (t<1)=false:=by simpa using h
  go_in;go_wp2_with fail;refine(dX i _).mono ?_;rintro e w1 ⟨rfl,rfl⟩;go_wp2;go_ret;exact⟨rfl,rfl⟩
end
section
open Go.RowKit
def kW(s:Nat)(all:List Int):List Int:=(all.zipIdx).foldl (fun r x=>r.set (x.2%s) x.1) (List.replicate 8 0)
theorem OF(s:Nat):kW s []=List.replicate 8 0:=rfl
theorem jO(s:Nat)(all:List Int)(v:Int):kW s (all++[v])=(kW s all).set (all.length%s) v:=by unfold kW;rw[List.zipIdx_append,yq];simp
theorem Yl{P:List Int→Prop}(h0:P [])(h1:∀l v,P l→P (l++[v]))(l:List Int):P l:=by
 rw[←List.reverse_reverse l];induction l.reverse with
 |nil=>exact h0
 |cons a t ih=>rw[List.reverse_cons];exact h1 _ _ ih
theorem vO(s:Nat)(all:List Int):(kW s all).length=8:=by
 induction all using Yl with
 |h0=>rfl
 |h1 l v ih=>rw[jO,zq,ih]
theorem Wy(s:Nat)(h1:1≤s)(h8:s≤8)(all:List Int):∀i,i<all.length→all.length≤i+s→(kW s all).getD (i%s) 0=all.getD i 0:=by
 induction all using Yl with
 |h0=>intro i h;simp at h
 |h1 l v ih=>
  intro i hi hs;rw[zr,yh]at hi hs;rw[jO];have hlen:=vO s l;have hm:l.length%s<s:=Nat.mod_lt _ (by omega);by_cases e:i=l.length
  ·subst e;rw[zn,zp (by omega)];simp
  ·have hlt:i<l.length:=by omega
   have hne:l.length%s≠i%s:=by
    intro he;have h2:(l.length-i)%s=0:=Nat.sub_mod_eq_zero_of_mod_eq he;have h3:l.length-i<s:=by omega
    rw[Nat.mod_eq_of_lt h3]at h2;omega
   rw[zn,zt hne,←zn,ih i hlt (by omega)];simp[zn,zF hlt]
def hU(r:List Int)(s t:Int):Obj:=.cells ((r.map (Value.int .i64)++[Value.int .i64 s,Value.int .i64 t]).toArray) 155 (0,0)
def ra(s:Nat)(all:List Int):Obj:=hU (kW s all) s all.length
theorem fU{r:List Int}{s t:Int}(hr:r.length=8)(i:Nat)(hi:i<8):((r.map (Value.int .i64)++[Value.int .i64 s,Value.int .i64 t]).toArray)[i]? =some (.i (r.getD i 0)):=by
 have:i<r.length:=by omega
 simp[this,zF]
theorem Z9{r:List Int}{s t:Int}(hr:r.length=8)(i:Nat)(hi:i<8)(v t':Int):Obj.cells ((((r.map (Value.int .i64)++[Value.int .i64 s,Value.int .i64 t]).toArray).setIfInBounds i (.i v)).setIfInBounds 9 (.i t')) 155 (0,0)=hU (r.set i v) s t':=by unfold hU;congr 1;simp only[zd];congr 1;rw[List.set_append_left _ _ (by simp;omega),List.set_append_right _ _ (by simp;omega)];simp[hr,List.map_set]
theorem T6{w0 w:World}{γ:U}(hs:Own w0 w γ){tg g:Nat}{r:List Int}{s t v:Int}(hg:γ tg=some (g,hU r s t))(hr:r.length=8)(h1:1≤s)(h8:s≤8)(ht0:0≤t)(ht:t<4611686018427387904):Calls Tryz.prog 89 #[.p g,.i v] w fun e w'=>e=.returned (.i 0)∧Own w0 w' (put γ tg g (hU (r.set (t%s).toNat v) s (t+1))):=by
 have c8:w.cell? (zc g 8)=some (.i s):=hs.cell hg (by simp[hr]);have c9:w.cell? (zc g 9)=some (.i t):=hs.cell hg (by simp[hr]);have m0:=Int.emod_nonneg t (show s≠0 by omega);have m1:=Int.emod_lt_of_pos t (show 0<s by omega);have ci:w.cell? (zc g ((t%s).toNat))=some (.i (r.getD (t%s).toNat 0)):=hs.cell hg (fU hr _ (by omega));have fi:=hs.free hg (t%s).toNat;have f9:=hs.free hg 9;go_in;go_wp2;go_region;all_goals go_wp2
 all_goals go_ret
 all_goals exact⟨rfl,by have h:=((hs.set hg (t%s).toNat (.i v)).set (yQ _ _ _ _) 9 (.i (t+1))).drew;rw[gh,Z9 hr _ (by omega)]at h;exact h⟩
theorem T5{w0 w:World}{γ:U}(hs:Own w0 w γ){tg g s:Nat}{all:List Int}{v:Int}(hg:γ tg=some (g,ra s all))(h1:1≤s)(h8:s≤8)(ht:all.length<1000000):Calls Tryz.prog 89 #[.p g,.i v] w fun e w'=>e=.returned (.i 0)∧Own w0 w' (put γ tg g (ra s (all++[v]))):=by
 refine(T6 hs hg (vO _ _) (by omega) (by omega) (by omega) (by omega)).mono fun e w' ⟨he,h⟩=>⟨he,?_⟩;have e1:((all.length:Int)%(s:Int)).toNat=all.length%s:=by rw[←Int.natCast_emod,zu]
 rw[e1]at h;unfold ra;rw[jO,zr,yh];exact h
theorem Nx(w:World)(v:Int):Calls Tryz.prog 89 #[.pointer none,.i v] w fun e w'=>e=.returned (.i 1)∧w=w':=by go_in;go_wp2;go_ret;exact⟨rfl,rfl⟩
def kn(s:Nat)(all:List Int)(next:Int):Int:=if next<0∨(all.length:Int)≤next then 0 else all.getD (max next ((all.length:Int)-s)).toNat 0
def km(s:Nat)(all:List Int)(next:Int):Int:=if next<0∨(all.length:Int)≤next then 0 else max next ((all.length:Int)-s)-next
def kj(s:Nat)(all:List Int)(next:Int):Int:=if next<0∨(all.length:Int)<next then 0 else if next=all.length then next else max next ((all.length:Int)-s)+1
def kl(all:List Int)(next:Int):Int:=if next<0∨(all.length:Int)<next then 1 else if next=all.length then 18 else 0
theorem sb{fn:Func}{t0 t1 t2 t3:Tmp}(h:fn.results=#[.tmp t0,.tmp t1,.tmp t2,.tmp t3])(P:Program)(tmps:Array Value)(w:World):(results fn tmps).run P w=.ok (.tuple #[tmps.getD t0 undef,tmps.getD t1 undef,tmps.getD t2 undef,tmps.getD t3 undef]) w:=by simp[results,h,go_sem]
def ka(a b c d:Int):Ending:=.returned (.tuple #[.i a,.i b,.i c,.i d])
theorem R6(a b c d:Int):ka a b c d=.returned (.tuple #[.i a,.i b,.i c,.i d]):=rfl
theorem Nv(w:World)(v:Int):Calls Tryz.prog 125 #[.pointer none,.i v] w fun e w'=>e=ka 0 0 0 1∧Below w.heap.size w w':=by go_in;go_wp2;(try simp only[Exit.inBlock,Exit.then]);refine bodyPost_ret (sb rfl _ _ _) rfl ?_;exact⟨rfl,Below.refl _ _⟩
theorem TX{w0 w:World}{γ:U}(hs:Own w0 w γ){tg g s:Nat}{all:List Int}{next:Int}(hg:γ tg=some (g,ra s all))(h:next<0):Calls Tryz.prog 125 #[.p g,.i next] w fun e w'=>e=ka 0 0 0 1∧Below w.heap.size w w':=by
 have hd:decide (next<0)=true:=by simpa using h
 go_in;go_wp2;(try simp only[Exit.inBlock,Exit.then]);refine bodyPost_ret (sb rfl _ _ _) rfl ?_;exact⟨rfl,Below.refl _ _⟩
theorem Uu{w0 w:World}{γ:U}(hs:Own w0 w γ){tg g s:Nat}{all:List Int}{next:Int}(hg:γ tg=some (g,ra s all))(h0:0≤next)(h:all.length<next):Calls Tryz.prog 125 #[.p g,.i next] w fun e w'=>e=ka 0 0 0 1∧Below w.heap.size w w':=by
 have hd:decide (next<0)=false:=by simpa using h0
 have c9:w.cell? (zc g 9)=some (.i all.length):=hs.cell hg (by simp[vO]);go_in;go_wp2;(try simp only[Exit.inBlock,Exit.then]);refine bodyPost_ret (sb rfl _ _ _) rfl ?_;exact⟨rfl,Below.refl _ _⟩
theorem TV{w0 w:World}{γ:U}(hs:Own w0 w γ){tg g s:Nat}{all:List Int}{next:Int}(hg:γ tg=some (g,ra s all))(h:next=all.length):Calls Tryz.prog 125 #[.p g,.i next] w fun e w'=>e=ka 0 0 next 18∧Below w.heap.size w w':=by
 have c9:w.cell? (zc g 9)=some (.i all.length):=hs.cell hg (by simp[vO]);subst h;have hd:decide ((all.length:Int)<0)=false:=by simp
 have hd2:decide ((all.length:Int)<(all.length:Int))=false:=by simp
 go_in;go_wp2;(try simp only[Exit.inBlock,Exit.then]);refine bodyPost_ret (sb rfl _ _ _) rfl ?_;exact⟨rfl,Below.refl _ _⟩
theorem aE{w0 w:World}{γ:U}(hs:Own w0 w γ){tg g s:Nat}{all:List Int}(hg:γ tg=some (g,ra s all))(h1:1≤s)(h8:s≤8){m:Int}(hm0:0≤m)(hm1:m<all.length)(hm2:(all.length:Int)≤m+s):w.cell? (zc g ((m%(s:Int)).toNat))=some (.i (all.getD m.toNat 0)):=by
 obtain⟨k,rfl⟩:∃k:Nat,m=k:=⟨m.toNat,by omega⟩;have e1:((k:Int)%(s:Int)).toNat=k%s:=by rw[←Int.natCast_emod,zu]
 rw[e1,zu];refine hs.cell hg (v:=.i (all.getD k 0)) ?_;have hmod:k%s<s:=Nat.mod_lt _ (by omega);rw[fU (vO _ _) _ (by omega),Wy s h1 h8 all k (by omega) (by omega)]
theorem Uv{w0 w:World}{γ:U}(hs:Own w0 w γ){tg g s:Nat}{all:List Int}{next:Int}(hg:γ tg=some (g,ra s all))(h1:1≤s)(h8:s≤8)(hlen:all.length<1000000)(h0:0≤next)(h:next<all.length)(hn:(all.length:Int)-s≤next):Calls Tryz.prog 125 #[.p g,.i next] w fun e w'=>e=ka (all.getD next.toNat 0) 0 (next+1) 0∧Below w.heap.size w w':=by
 have c8:w.cell? (zc g 8)=some (.i s):=hs.cell hg (by simp[vO]);have c9:w.cell? (zc g 9)=some (.i all.length):=hs.cell hg (by simp[vO]);have ci:=aE hs hg h1 h8 h0 h (by omega);have hd:decide (next<0)=false:=by simpa using h0
 have hd2:decide ((all.length:Int)<next)=false:=by simp;omega
 have hd3:(next==(all.length:Int))=false:=by simp;omega
 have q0:=Int.emod_nonneg next (show(s:Int)≠0 by omega)
 have q1:=Int.emod_lt_of_pos next (show 0<(s:Int)by omega)
 generalize all.getD next.toNat 0=u at ci⊢;clear hs hg;go_in;go_wp2;go_region;all_goals go_wp2
 all_goals go_region
 all_goals go_wp2
 all_goals(try simp only[Exit.inBlock,Exit.then])
 all_goals refine bodyPost_ret (sb rfl _ _ _) rfl ?_
 all_goals exact⟨by simp[ka],((Below.refl _ _).drew).drew⟩
theorem TW{w0 w:World}{γ:U}(hs:Own w0 w γ){tg g s:Nat}{all:List Int}{next:Int}(hg:γ tg=some (g,ra s all))(h1:1≤s)(h8:s≤8)(hlen:all.length<1000000)(h0:0≤next)(hn:next<(all.length:Int)-s):Calls Tryz.prog 125 #[.p g,.i next] w fun e w'=>e=ka (all.getD ((all.length:Int)-s).toNat 0) ((all.length:Int)-s-next) ((all.length:Int)-s+1) 0∧Below w.heap.size w w':=by
 have c8:w.cell? (zc g 8)=some (.i s):=hs.cell hg (by simp[vO]);have c9:w.cell? (zc g 9)=some (.i all.length):=hs.cell hg (by simp[vO]);have hz:0≤(all.length:Int)-s:=by omega
 have ci:=aE hs hg h1 h8 hz (by omega) (by omega);have hd:decide (next<0)=false:=by simpa using h0
 have hd2:decide ((all.length:Int)<next)=false:=by simp;omega
 have hd3:(next==(all.length:Int))=false:=by simp;omega
 have q0:=Int.emod_nonneg ((all.length:Int)-s) (show(s:Int)≠0 by omega);have q1:=Int.emod_lt_of_pos ((all.length:Int)-s) (show 0<(s:Int)by omega);generalize all.getD ((all.length:Int)-s).toNat 0=u at ci⊢;have es:((all.length:Int)-s)%s=(all.length:Int)%s:=Int.sub_emod_right _ _;have ci':=ci;have q0':=q0;have q1':=q1;rw[es]at ci' q0' q1';rw[show((all.length:Int)%(s:Int)).toNat=all.length%s by rw[←Int.natCast_emod,zu]]at ci';clear hs hg es;go_in;go_wp2;go_region;all_goals go_wp2
 all_goals go_region
 all_goals go_wp2
 all_goals(try simp only[Exit.inBlock,Exit.then])
 all_goals refine bodyPost_ret (sb rfl _ _ _) rfl ?_
 all_goals exact⟨by simp[ka],((Below.refl _ _).drew).drew⟩
theorem TU{w0 w:World}{γ:U}(hs:Own w0 w γ){tg g s:Nat}{all:List Int}{next:Int}(hg:γ tg=some (g,ra s all))(h1:1≤s)(h8:s≤8)(hlen:all.length<1000000):Calls Tryz.prog 125 #[.p g,.i next] w fun e w'=>e=ka (kn s all next) (km s all next) (kj s all next) (kl all next)∧Own w0 w' γ:=by
 have fin:∀{a b c d:Int},a=kn s all next→b=km s all next→c=kj s all next→d=kl all next→Calls Tryz.prog 125 #[.p g,.i next] w (fun e w'=>e=ka a b c d∧Below w.heap.size w w')→Calls Tryz.prog 125 #[.p g,.i next] w fun e w'=>e=ka (kn s all next) (km s all next) (kj s all next) (kl all next)∧Own w0 w' γ:=by intro a b c d ha hb hc hd hcall;exact hcall.mono fun e w' ⟨he,hw⟩=>⟨by rw[he,ha,hb,hc,hd],hs.xh hw⟩
 unfold kn km kj kl at*;by_cases c1:next<0
 ·refine fin ?_ ?_ ?_ ?_ (TX hs hg c1);all_goals(first|rw[if_pos (by omega)]|skip)
 ·by_cases c2:(all.length:Int)<next
  ·refine fin ?_ ?_ ?_ ?_ (Uu hs hg (by omega) c2);all_goals(first|rw[if_pos (by omega)]|skip)
  ·by_cases c3:next=all.length
   ·refine fin ?_ ?_ ?_ ?_ (TV hs hg c3)
    ·rw[if_pos (by omega)]
    ·rw[if_pos (by omega)]
    ·rw[if_neg (by omega),if_pos c3]
    ·rw[if_neg (by omega),if_pos c3]
   ·by_cases c4:(all.length:Int)-s≤next
    ·have hm:max next ((all.length:Int)-s)=next:=by omega
     refine fin ?_ ?_ ?_ ?_ (Uv hs hg h1 h8 hlen (by omega) (by omega) c4)
     ·rw[if_neg (by omega),hm]
     ·rw[if_neg (by omega),hm];omega
     ·rw[if_neg (by omega),if_neg c3,hm]
     ·rw[if_neg (by omega),if_neg c3]
    ·have hm:max next ((all.length:Int)-s)=(all.length:Int)-s:=by omega
     refine fin ?_ ?_ ?_ ?_ (TW hs hg h1 h8 hlen (by omega) (by omega))
     ·rw[if_neg (by omega),hm]
     ·rw[if_neg (by omega),hm]
     ·rw[if_neg (by omega),if_neg c3,hm]
     ·rw[if_neg (by omega),if_neg c3]
def rT(hi:Nat)(size:Int):Nat:=if size<1 then 1 else if hi<size then hi else size.toNat
theorem fH{hi:Nat}(h:1≤hi)(size:Int):1≤rT hi size∧rT hi size≤hi:=by unfold rT;split<;>(try split)<;>omega
theorem RV{w0 w:World}{γ:U}(hs:Own w0 w γ)(tg:Nat)(size:Int):Calls Tryz.prog 56 #[.i size] w fun e w'=>∃g,e=.returned (.p g)∧Own w0 w' (put γ tg g (ra (rT 8 size) [])):=by
 have hb:=fH (hi:=8) (by omega) size;have fin:∀k:Nat,rT 8 size=k→(∃g,Ending.returned (.p w.heap.size)=Ending.returned (.p g)∧Own w0 (w.alloc (.cells #[.i 0,.i 0,.i 0,.i 0,.i 0,.i 0,.i 0,.i 0,.i k,.i 0] 155)) (put γ tg g (ra (rT 8 size) []))):=by intro k hk;subst hk;exact⟨_,rfl,hs.new _ _⟩
 by_cases a1:size≤1
 ·have hk:=fin 1 (by unfold rT;split<;>(try split)<;>omega);go_in;go_wp2;all_goals go_ret
  all_goals exact hk
 ·by_cases a8:8<size
  ·have hk:=fin 8 (by unfold rT;rw[if_neg (by omega),if_pos (by omega)]);go_in;go_wp2;all_goals go_ret
   all_goals exact hk
  ·obtain⟨k,rfl⟩:∃k:Nat,size=k:=⟨size.toNat,by omega⟩;have hk:=fin k (by unfold rT;rw[if_neg (by omega),if_neg (by omega)];omega);go_in;go_wp2;all_goals go_ret
   all_goals exact hk
end
section
open Go.RowKit Go.ChangeMaps
theorem Own.block{w0 w:World}{γ:U}(h:Own w0 w γ){t g clock:Nat}{es:Array MapEntry}(hg:γ t=some (g,.map es clock))(o:Obj):Own w0 (setBlock w g o) (put γ t g o):=by
 have hb:=(h.own t g _ hg).1;have hh:=(h.own t g _ hg).2;refine⟨?_,fun k g' o' hk=>?_,fun k k' g' o1 o2 h1 h2=>?_⟩
 ·exact h.below.trans ⟨rfl,rfl,rfl,by simp[setBlock],fun k hk=>heap_setBlock_other hh o (by omega)⟩
 ·by_cases e:k=t
  ·subst e;rw[yQ]at hk;cases hk;exact⟨hb,heap_setBlock_same hh _⟩
  ·rw[yO _ _ _ e]at hk;have hne:g'≠g:=fun e2=>by subst e2;exact e (h.inj _ _ _ _ _ hk hg)
   exact⟨(h.own k g' o' hk).1,(heap_setBlock_other hh _ hne).trans (h.own k g' o' hk).2⟩
 ·by_cases e:k=t
  ·by_cases e':k'=t
   ·rw[e,e']
   ·subst e;rw[yQ]at h1;rw[yO _ _ _ e']at h2;cases h1;exact(h.inj _ _ _ _ _ h2 hg).symm
  ·by_cases e':k'=t
   ·subst e';rw[yQ]at h2;rw[yO _ _ _ e]at h1;cases h2;exact h.inj _ _ _ _ _ h1 hg
   ·rw[yO _ _ _ e]at h1;rw[yO _ _ _ e']at h2;exact h.inj k k' g' o1 o2 h1 h2
section
variable {w0 w:World} {γ:U} {gl gm clock:Nat} {lv ev:Value} {es:Array MapEntry} {f:Int→Int→Option (Int×Int)}
def VU(w0:World)(γ:U)(tm gm clock:Nat)(f:Int→Int→Option (Int×Int))(e:Ending)(w':World):Prop:=
 e=.returned (.tuple #[])∧∃es',Own w0 w' (put γ tm gm (.map es' clock))∧vi es'.toList f
theorem Wi{tl tm:Nat}(hs:Own w0 w γ)(hl:γ tl=some (gl,.cells #[lv,ev,.map (some gm)] 128 (0,0)))(hm:γ tm=some (gm,.map es clock))(hf:vi es.toList f){d t:Int}(h1:Fits d)(h2:Fits t):Calls Tryz.prog 69 #[.p gl,.i d,.i t] w (VU w0 γ tm gm clock (vH f d t)):=by have c2:w.cell? (zc gl 2)=some (.map (some gm)):=hs.cell hl (i:=2) rfl;have hrun:=fun ty=>fB (hs.own _ _ _ hm).2 hf h1 h2 ty;obtain⟨es',hr,hf'⟩:=hrun 0;have hfin:VU w0 γ tm gm clock (vH f d t) (.returned (.tuple #[])) (setBlock w gm (.map es' clock)):=⟨rfl,es',hs.block hm _,hf'⟩;unfold uF at hr;clear hrun hf' hf hs hl hm h1 h2;go_in;go_wp2_with fail;go_end0;exact hfin
theorem Oi(d t:Int)(w:World):Calls Tryz.prog 69 #[.pointer none,.i d,.i t] w fun e w'=>e=.returned (.tuple #[])∧w=w':=by go_in;go_wp2_with fail;go_end0;exact⟨rfl,rfl⟩
end
def ey(op:Int):Bool:=op==27||op==28||op==29||op==33
theorem sL(op:Int)(w:World):Calls Tryz.prog 124 #[.i op] w fun e w'=>e=.returned (.bool (ey op))∧w=w':=by
 by_cases h1:op=27
 ·subst h1;go_in;go_wp2_with fail;go_ret;exact⟨rfl,rfl⟩
 ·have b1:(op==27)=false:=by simpa using h1
  by_cases h2:op=28
  ·subst h2;go_in;go_wp2_with fail;go_ret;exact⟨rfl,rfl⟩
  ·have b2:(op==28)=false:=by simpa using h2
   by_cases h3:op=29
   ·subst h3;go_in;go_wp2_with fail;go_ret;exact⟨rfl,rfl⟩
   ·have b3:(op==29)=false:=by simpa using h3
    have e:ey op=(op==33):=by simp[ey,b1,b2,b3]
    rw[e];clear e h1 h2 h3;go_in;go_wp2_with fail;go_ret;exact⟨rfl,rfl⟩
def TT(v l e:Int):Ending:=.returned (.tuple #[.i e,.i v,.i l])
theorem ZZ{w0 w:World}{γ:U}(hs:Own w0 w γ){tt tp g gp s:Nat}{all:List Int}{next:Int}(hne:tt≠tp)(ht:γ tt=some (g,.cells #[.p gp,.i next] 135 (0,0)))(hp:γ tp=some (gp,ra s all))(h1:1≤s)(h8:s≤8)(hlen:all.length<1000000)(l:Value):Calls Tryz.prog 90 #[l,.p g] w fun e w'=>e=TT (kn s all next) (km s all next) (kl all next)∧Own w0 w' (put γ tt g (.cells #[.p gp,.i (kj s all next)] 135 (0,0))):=by
 have c0:w.cell? (zc g 0)=some (.p gp):=hs.cell ht (i:=0) rfl;have c1:w.cell? (zc g 1)=some (.i next):=hs.cell ht (i:=1) rfl;have hrd:=TU hs.drew hp h1 h8 hlen (next:=next);rw[R6]at hrd;unfold TT;generalize kn s all next=x1 at*
 generalize km s all next=x2 at*
 generalize kj s all next=x3 at*
 generalize kl all next=x4 at*
 have hfin:∀w',Own w0 w' γ→Own w0 (w'.setCell (zc g 1) (.i x3)) (put γ tt g (.cells #[.p gp,.i x3] 135 (0,0))):=fun w' ho=>ho.set ht 1 (.i x3);go_in;go_wp2_with fail;go_region_with (first|(go_at_call 125;refine hrd.mono ?_;rintro e w1 ⟨rfl,ho⟩;have f1:=ho.free ht 1;have d1:w1.cell? (zc g 1)=some (.i next):=ho.cell ht (i:=1) rfl;have hf:=hfin _ ho));all_goals go_wp2_with fail
 all_goals(try simp only[Exit.inBlock,Exit.then])
 all_goals refine bodyPost_ret (results_tmp3 rfl _ _ _) rfl ?_
 all_goals exact⟨rfl,hf⟩
def entC(k dm pk op a b c:Int):Array Value:=#[.i k,.i dm,.i pk,.i op,.i a,.i b,.i c]
def CS.wE(c:CS)(op t i:Int):Int:=if op=27 then c.xZ t else if op=28 then c.kQ t i else c.kC t
def CS.wS(c:CS)(op t i v:Int):CS:=if op=27 then c.begin t else if op=28 then c.put t i v else c.end_ t
theorem Zb{w0 w:World}{γ:U}(hs:Own w0 w γ){tg g:Nat}{c:CS}(hg:γ tg=some (g,wO c))(hc:c.Ok)(l:Value)(t k dm pk op a b v:Int):Calls Tryz.prog 92 #[l,.i t,.agg #[.i k,.i dm,.i pk,.i op,.i a,.i b,.i v],.p g] w fun e w'=>e=pX (c.wE op t b)∧Own w0 w' (put γ tg g (wO (c.wS op t b v))):=by
 have hs':=hs.xh ((Below.refl w.heap.size w).alloc (zm _) (Obj.cells #[.i k,.i dm,.i pk,.i op,.i a,.i b,.i v] 38));by_cases h1:op=27
 ·subst h1;rw[show c.wE 27 t b=c.xZ t from if_pos rfl,show c.wS 27 t b v=c.begin t from if_pos rfl];have hb:=aY hs' hg hc t;clear hs hs';go_in;go_wp2_with fail;refine hb.mono ?_;rintro e w1 ⟨rfl,ho⟩;rw[ky];clear hb;go_wp2_with fail;go_ret;exact⟨rfl,ho⟩
 ·have b1:(op==27)=false:=by simpa using h1
  by_cases h2:op=28
  ·subst h2;rw[show c.wE 28 t b=c.kQ t b from rfl,show c.wS 28 t b v=c.put t b v from rfl];have hb:=YC hs' hg hc t b v;clear hs hs';go_in;go_wp2_with fail;refine hb.mono ?_;rintro e w1 ⟨rfl,ho⟩;rw[ky];clear hb;go_wp2_with fail;go_ret;exact⟨rfl,ho⟩
  ·have b2:(op==28)=false:=by simpa using h2
   rw[show c.wE op t b=c.kC t by unfold CS.wE;rw[if_neg h1,if_neg h2],show c.wS op t b v=c.end_ t by unfold CS.wS;rw[if_neg h1,if_neg h2]];have hb:=YA hs' hg hc t;clear hs hs' h1 h2;go_in;go_wp2_with fail;refine hb.mono ?_;rintro e w1 ⟨rfl,ho⟩;rw[ky];clear hb;go_wp2_with fail;go_ret;exact⟨rfl,ho⟩
end
section
open Go.RowKit Go.ChangeMaps
theorem Tryz.V3:(Tryz.prog.info? 60).map (fun i=>(i.zero,i.size,i.bytes))=some (some (.agg #[.i 0,.i 0,.i 0,.i 0]),4,32):=by kernel_rfl
theorem Tn(w:World):(binOp .eql 24 (.slice none 0 0) (.slice none 0 0)).run Tryz.prog w=.ok (.bool true) w:=by kernel_rfl
theorem ak(a:Addr)(n cap:Nat)(w:World):(binOp .eql 24 (.slice (some a) n cap) (.slice none 0 0)).run Tryz.prog w=.ok (.bool false) w:=by kernel_rfl
def jU(w0:World)(γ:U)(t n:Nat)(news:List Value)(e:Ending)(w':World):Prop:=
 ∃v γ',e=.returned v∧Own w0 w' γ'∧yR γ' t 60 4 v n news∧∀k,k≠t→γ' k=γ k
theorem Vg{w0 w:World}{γ:U}(hs:Own w0 w γ)(t:Nat):Calls Tryz.prog 54 #[.slice none 0 0] w (jU w0 γ t 0 []):=by have hbin:=Tn w;have hfin:jU w0 γ t 0 [] (.returned (.slice none 0 0)) w:=⟨_,γ,rfl,hs,yR.nil _ _ _ _,fun _ _=>rfl⟩;go_in;go_wp2_with fail;go_ret;exact hfin
theorem XT{w0 w:World}{γ:U}(hs:Own w0 w γ)(t:Nat){b off n cap:Nat}{news:List Value}(hl:news.length=n*4)(hn:n≤1000)(hread:∀(j:Nat) (u:Value),news[j]? =some u→w.cell? (((zc b off):Addr).add j)=some u)(hone:∀u∈news,u.oneCell'=true):Calls Tryz.prog 54 #[.slice (some (zc b off)) n cap] w (jU w0 γ t n news):=by
 obtain⟨i0,hi,hz0,hz1,hz2⟩:=info_parts Tryz.V3;have ho1:=hs.new t (.cells #[] 60);have hbase:=hs.below.size;have hs1:yR (put γ t w.heap.size (.cells #[] 60)) t 60 4 (.slice (zb w.heap.size) 0 0) 0 []:=⟨rfl,.inr ⟨_,0,_,rfl,yQ _ _ _ _,zm _,by omega,rfl,rfl⟩⟩;have hown:=hs1.owns ho1;have hcc:∀(j:Nat) (u:Value),news[j]? =some u→(w.alloc (.cells #[] 60)).cell? (((zc b off):Addr).add j)=some u:=fun j u hj=>(((Below.refl w.heap.size w).alloc (zm _) (Obj.cells #[] 60)).cell (World.block_lt_of_cell? w _ (hread j u hj))).trans (hread j u hj);have hbin:=ak (zc b off) n cap w;clear hread;go_in;go_wp2_with (at_builtin;refine wpList_append_own_at _ rfl (.tmp 5) (.tmp 6) 24 rfl w0.heap.size 60 i0 (.agg #[.i 0,.i 0,.i 0,.i 0]) 4 32 Tryz.underlying24 hi hz0 hz1 hz2 rfl (by decide) _ _ _ rfl hown (zc b off) n cap news rfl hl hcc hone ?k4 ?k5 ?k6 ?_);case k4=>unfold maxLen;omega
 case k5=>omega
 case k6=>simp;omega
 intro v' w2 hown1 hgrow hnn hat;have hown2:w2.ownsRow w0.heap.size 60 4 v' (0+n) ([]++news):=by rw[zy,zD];exact hown1
 obtain⟨γ1,ho2,hs2,hk2⟩:=qJ ho1 hs1 rfl hown2 hgrow (by simpa using hat);rw[zy,zD]at hs2;have hfin:jU w0 γ t n news (.returned v') w2:=⟨v',γ1,rfl,ho2,hs2,fun k hk=>by rw[hk2 k hk,yO _ _ _ hk]⟩;clear hown1 hown2 hgrow hnn hat hown hs1 hcc ho1 hk2 hs2 ho2;go_wp2_with fail;go_ret;exact hfin
def Nu(w0:World)(γ:U)(t:Nat)(kind size:Int)(e:Ending)(w':World):Prop:=
 ∃g,e=.returned (.agg #[.slice none 0 0,.slice none 0 0,.slice (zb g) 1 1])∧Own w0 w' (put γ t g (.cells #[.i kind,.i 0,.i 1,.i size] 60 (0,0)))
end
section
open Go.RowKit Go.ChangeMaps
inductive so where
 |cell (c:CS)
 |tP (s:Nat) (all:List Int) (next:Int)
structure wy where
 kind:Int
 from_:Int
 to:Int
 size:Int
def wy.yV(l:wy):List Value:=[.i l.kind,.i l.from_,.i l.to,.i l.size]
def vB(ls:List wy):List Value:=(ls.map wy.yV).flatten
theorem qI(ls:List wy):(vB ls).length=ls.length*4:=by
 induction ls with
 |nil=>rfl
 |cons l ls ih=>
  have e:vB (l::ls)=l.yV++vB ls:=by simp[vB]
  rw[e,zr,ih];simp[wy.yV];omega
def tD(γ:U)(t:Nat)(v:Value)(kind:Int):so→Prop
 | .cell c=>kind=1∧∃g,v=.iface 129 (.p g)∧γ t=some (g,wO c)∧c.Ok
 | .tP s all next=>kind≠1∧∃g gp,v=.iface 131 (.p g)∧γ t=some (g,.cells #[.p gp,.i next] 135 (0,0))∧γ (t+1)=some (gp,ra s all)∧1≤s∧s≤8
structure xW (w0:World) (γ:U) (b gl:Nat) (ls:List wy) (en:Nat→so) (f:Int→Int→Option (Int×Int)) (w:World):Prop where
 own:Own w0 w γ
 top:∃lv ev gm es clock vs,γ b=some (gl,.cells #[lv,ev,.map (some gm)] 128 (0,0))∧γ (b+1)=some (gm,.map es clock)∧vi es.toList f∧
  yR γ (b+2) 60 4 lv ls.length (vB ls)∧yR γ (b+3) 20 1 ev ls.length vs∧∀i l,ls[i]? =some l→tD γ (b+10+2*i) (vs.getD i undef) l.kind (en i)
def both(γ γ1:U):U:=fun k=>match γ1 k with
 |some x=>some x
 |none=>γ k
theorem Own.join{w0 w w':World}{γ γ1:U}(h0:Own w0 w γ)(h1:Own w w' γ1):Own w0 w' (both γ γ1):=by
 have hb:=h0.xh h1.below;refine⟨hb.below,fun k g o hk=>?_,fun k k' g o o' a a'=>?_⟩
 ·unfold both at hk;split at hk
  ·rename_i x hx;cases hk;have:=h1.own _ _ _ hx;exact⟨yn h0.below.size this.1,this.2⟩
  ·exact hb.own _ _ _ hk
 ·unfold both at a a';split at a<;>split at a'
  ·rename_i x hx _ y hy;cases a;cases a';exact h1.inj _ _ _ _ _ hx hy
  ·rename_i x hx _ hy;cases a;have e1:=(h1.own _ _ _ hx).1;have e2:=h0.lt a';omega
  ·rename_i hx _ x hy;cases a';have e1:=(h1.own _ _ _ hy).1;have e2:=h0.lt a;omega
  ·exact h0.inj _ _ _ _ _ a a'
end
section
open Go.RowKit Go.ChangeMaps
theorem pd(w:World):(Instr.makeMap 126 none).run Tryz.prog w=.ok (.map (some w.heap.size)) (w.alloc (.map #[] 0)):=by simp[Instr.makeMap]
def Uj(w:World)(b:Nat)(e:Ending)(w':World):Prop:=
 ∃gl γ,e=.returned (.p gl)∧xW w γ b gl [] (fun _=>.tP 1 [] 0) (fun _ _=>none) w'
def Sp(w:World)(b gl:Nat)(i:Value)(wr:World):Prop:=i=.i 0∧∃γ,xW w γ b gl [] (fun _=>.tP 1 [] 0) (fun _ _=>none) wr
theorem YW(b:Nat)(dv sv:Value)(w:World):Calls Tryz.prog 42 #[.agg #[dv,sv,.slice none 0 0]] w (Uj w b):=by
 go_in;go_wp2_with fail;have hs:=(Own.start w).new (b+4) (.cells #[dv,sv,.slice none 0 0] 26);refine(Vg hs (b+2)).mono ?_;rintro e w1 ⟨v,γ1,rfl,ho,hsl,hk⟩;obtain⟨A1,cap1,rfl,hcap1⟩:=hsl.form;have ho2:=(ho.new (b+1) (.map #[] 0)).new b (.cells #[.slice A1 0 cap1,.slice none 0 0,.map (some w1.heap.size)] 128);have e2:(w1.alloc (.map #[] 0)).heap.size=w1.heap.size+1:=by simp
 rw[e2]at ho2;have hL:xW w (put (put γ1 (b+1) w1.heap.size (.map #[] 0)) b (w1.heap.size+1) (.cells #[.slice A1 0 cap1,.slice none 0 0,.map (some w1.heap.size)] 128)) b (w1.heap.size+1) [] (fun _=>.tP 1 [] 0) (fun _ _=>none) ((w1.alloc (.map #[] 0)).alloc (.cells #[.slice A1 0 cap1,.slice none 0 0,.map (some w1.heap.size)] 128)):=by
  refine⟨ho2,.slice A1 0 cap1,.slice none 0 0,w1.heap.size,#[],0,[],yQ _ _ _ _,?_,vi.nil,?_,yR.nil _ _ _ _,fun i l h=>by simp at h⟩
  ·rw[yO _ _ _ (by omega),yQ]
  ·exact hsl.keep (by rw[yO _ _ _ (by omega),yO _ _ _ (by omega)])
 have hbx:(put γ1 (b+1) w1.heap.size (.map #[] 0)) (b+4)=some (w.heap.size,.cells #[dv,sv,.slice none 0 0] 26 (0,0)):=by rw[yO _ _ _ (by omega),hk _ (by omega),yQ]
 have hc2:=(ho.new (b+1) (.map #[] 0)).cell hbx (i:=2) (v:=.slice none 0 0) rfl;have hc3:=ho2.cell ((yO _ _ _ (by omega)).trans hbx) (i:=2) (v:=.slice none 0 0) rfl;generalize put (put γ1 (b+1) w1.heap.size (.map #[] 0)) b (w1.heap.size+1) (.cells #[.slice A1 0 cap1,.slice none 0 0,.map (some w1.heap.size)] 128)=γ2 at*;have hmk:=pd w1;clear hs ho hsl hk ho2 hbx;go_wp2_with fail;go_loopw [15] (fun i wr=>Sp w b (w1.heap.size+1) i wr) (fun i _=>0);case atStart=>exact⟨rfl,_,hL⟩
 case round=> obtain⟨rfl,γ3,hL3⟩:=hrel;go_wp2_with fail;go_ret;exact⟨_,γ3,rfl,hL3⟩
end
end Go.Proofs.YtkmamlifgbocgaaGreat
