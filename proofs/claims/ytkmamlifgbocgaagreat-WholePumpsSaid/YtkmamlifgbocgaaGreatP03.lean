/- What the program's code does, as contracts, and what follows of it, part 3: for the law's proof. -/
import Derived.Test.YtkmamlifgbocgaaGreatP00
import Derived.Test.YtkmamlifgbocgaaGreatP02
import Derived.RangeFuncNested
import Derived.RangeFuncBound
import Derived.RangeFuncCalls
import Derived.RangeFuncLeaves
import Derived.RangeFuncBox
import Derived.Shelf.Abstract
import Derived.WalkKit
import Derived.OwnWalkIn
import Derived.TacticsInMore
import Derived.LoopNIn
import Derived.LoopIn
import Derived.Maps.AppendAt
set_option linter.unusedVariables false
set_option linter.unusedSimpArgs false
set_option maxRecDepth 100000
set_option maxHeartbeats 16000000
namespace Go.Proofs.YtkmamlifgbocgaaGreat
section
open Go.RowKit Go.WideShapes
def wY(w0:World)(γ:U)(tb g:Nat)(ty:TypeId)(cs:Array Value)(j ts tq:Nat)(xs:List Int)(r:Value)(e:Ending)(w':World):Prop:=
 e=.returned r∧∃v γ',Own w0 w' γ'∧γ' tb=some (g,.cells (cs.setIfInBounds j v) ty (0,0))∧yR γ' ts 3 1 v xs.length (ints xs)∧∀k,k≠tb→k≠ts→k≠tq→γ' k=γ k
theorem kY{cs:Array Value}{j:Nat}{v:Value}(h:cs[j]? =some v):cs.setIfInBounds j v=cs:=by
 apply Array.ext_getElem?;intro i;by_cases e:j=i
 ·subst e;obtain⟨hlt,-⟩:=zI.1 h;rw[Array.getElem?_setIfInBounds_self_of_lt hlt,h]
 ·rw[zX e]
theorem pH{xs:List Int}{x:Int}(h:x∈xs):xs.idxOf x<xs.length∧xs.eraseIdx (xs.idxOf x)=xs.erase x:=by
 refine⟨List.idxOf_lt_length_iff.2 h,?_⟩;induction xs with
 |nil=>cases h
 |cons a l ih=>
  by_cases e:a=x
  ·subst e;simp
  ·have hm:x∈l:=by cases h;exact absurd rfl e;assumption
   rw[List.idxOf_cons,show(a==x)=false by simpa using e,cond_false,List.eraseIdx_cons_succ,ih hm,List.erase_cons_tail (by simpa using e)]
section
variable {w0 w:World} {γ:U} {tb g ts tq:Nat} {ty:TypeId} {cs:Array Value} {v:Value} {xs:List Int}
theorem Rm(hb:γ tb=some (g,.cells cs ty (0,0)))(hj:cs[1]? =some v)(hs:yR γ ts 3 1 v xs.length (ints xs))(ho:Own w0 w γ)(hne:tb≠ts)(hl:xs.length≤100)(x:Int):Calls Tryz.prog 113 #[.p g,.i x] w (wY w0 γ tb g ty cs 1 ts tq (xs.erase x) (.bool (decide (x∈xs)))):=by
 have c0:=ho.cell hb hj;have f0:=ho.free hb 1;have hi:=kI hs ho (by omega) x;by_cases hx:x∈xs
 ·obtain⟨hlt,he⟩:=pH hx;have hq:sB xs x=(xs.idxOf x:Int):=if_pos hx;have hd:=sh hs ho (by omega) hlt;have hl':(xs.erase x).length=xs.length-1:=yH hx;rw[he]at hd;rw[hq]at hi;rw[show decide (x∈xs)=true by simpa using hx];obtain⟨A,cap,rfl,-⟩:=hs.form;have d1:decide (0≤(xs.idxOf x:Int))=true:=by simp
  have HB:=I hb;have HL:=I hl';generalize xs.idxOf x=i at*;generalize xs.erase x=ys at*;generalize xs.length=k at*;clear hs ho hx he hq hl' hb;go_in;go_wp2_with fail;refine hi.mono ?_;rintro e w' ⟨rfl,rfl⟩;go_wp2_with fail;refine hd.mono ?_;rintro e w3 ⟨v3,γ3,rfl,o3,s3,k3⟩;have g3:=(k3 tb hne).trans HB.out;obtain⟨A3,cap3,rfl,-⟩:=s3.form;have c3:=o3.cell g3 hj;have f3:=o3.free g3 1;have HF:Hid (wY w0 γ tb g ty cs 1 ts tq ys (.bool true) (.returned (.bool true)) (w3.setCell (zc g 1) (.slice A3 (k-1) cap3))):=I ⟨rfl,_,_,o3.set g3 1 (.slice A3 (k-1) cap3),yQ _ _ _ _,by rw[HL.out];exact s3.keep (yO _ _ _ (Ne.symm hne)),fun k h1 h2 _=>(yO _ _ _ h1).trans (k3 k h2)⟩;clear o3 s3 k3 g3 hd;go_wp2_with fail;go_ret;exact HF.out
 ·have hq:sB xs x= -1:=if_neg hx;rw[hq]at hi;rw[show decide (x∈xs)=false by simpa using hx];have HF:Hid (wY w0 γ tb g ty cs 1 ts tq (xs.erase x) (.bool false) (.returned (.bool false)) w):=I ⟨rfl,v,γ,ho,by rw[kY hj];exact hb,by rw[zS hx];exact hs,fun _ _ _ _=>rfl⟩;obtain⟨A,cap,rfl,-⟩:=hs.form;generalize xs.erase x=ys at*;generalize xs.length=k at*;clear hs ho hx hq hb;go_in;go_wp2_with fail;refine hi.mono ?_;rintro e w' ⟨rfl,rfl⟩;go_wp2_with fail;go_ret;exact HF.out
theorem Rp(hb:γ tb=some (g,.cells cs ty (0,0)))(hj:cs[0]? =some v)(hs:yR γ ts 3 1 v xs.length (ints xs))(ho:Own w0 w γ)(hne:tb≠ts)(hl:xs.length≤100)(x:Int):Calls Tryz.prog 118 #[.p g,.i x] w (wY w0 γ tb g ty cs 0 ts tq (xs.erase x) (.bool (decide (x∈xs)))):=by
 have c0:=ho.cell hb hj;have f0:=ho.free hb 0;have hi:=kI hs ho (by omega) x;by_cases hx:x∈xs
 ·obtain⟨hlt,he⟩:=pH hx;have hq:sB xs x=(xs.idxOf x:Int):=if_pos hx;have hd:=sh hs ho (by omega) hlt;have hl':(xs.erase x).length=xs.length-1:=yH hx;rw[he]at hd;rw[hq]at hi;rw[show decide (x∈xs)=true by simpa using hx];obtain⟨A,cap,rfl,-⟩:=hs.form;have d1:decide (0≤(xs.idxOf x:Int))=true:=by simp
  have HB:=I hb;have HL:=I hl';generalize xs.idxOf x=i at*;generalize xs.erase x=ys at*;generalize xs.length=k at*;clear hs ho hx he hq hl' hb;go_in;go_wp2_with fail;refine hi.mono ?_;rintro e w' ⟨rfl,rfl⟩;go_wp2_with fail;refine hd.mono ?_;rintro e w3 ⟨v3,γ3,rfl,o3,s3,k3⟩;have g3:=(k3 tb hne).trans HB.out;obtain⟨A3,cap3,rfl,-⟩:=s3.form;have c3:=o3.cell g3 hj;have f3:=o3.free g3 0;have HF:Hid (wY w0 γ tb g ty cs 0 ts tq ys (.bool true) (.returned (.bool true)) (w3.setCell (zc g 0) (.slice A3 (k-1) cap3))):=I ⟨rfl,_,_,o3.set g3 0 (.slice A3 (k-1) cap3),yQ _ _ _ _,by rw[HL.out];exact s3.keep (yO _ _ _ (Ne.symm hne)),fun k h1 h2 _=>(yO _ _ _ h1).trans (k3 k h2)⟩;clear o3 s3 k3 g3 hd;go_wp2_with fail;go_ret;exact HF.out
 ·have hq:sB xs x= -1:=if_neg hx;rw[hq]at hi;rw[show decide (x∈xs)=false by simpa using hx];have HF:Hid (wY w0 γ tb g ty cs 0 ts tq (xs.erase x) (.bool false) (.returned (.bool false)) w):=I ⟨rfl,v,γ,ho,by rw[kY hj];exact hb,by rw[zS hx];exact hs,fun _ _ _ _=>rfl⟩;obtain⟨A,cap,rfl,-⟩:=hs.form;generalize xs.erase x=ys at*;generalize xs.length=k at*;clear hs ho hx hq hb;go_in;go_wp2_with fail;refine hi.mono ?_;rintro e w' ⟨rfl,rfl⟩;go_wp2_with fail;go_ret;exact HF.out
theorem Rn(hb:γ tb=some (g,.cells cs ty (0,0)))(hj:cs[2]? =some v)(hs:yR γ ts 3 1 v xs.length (ints xs))(ho:Own w0 w γ)(hne:tb≠ts)(hl:xs.length≤100)(x:Int):Calls Tryz.prog 116 #[.p g,.i x] w (wY w0 γ tb g ty cs 2 ts tq (xs.erase x) (.bool (decide (x∈xs)))):=by
 have c0:=ho.cell hb hj;have f0:=ho.free hb 2;have hi:=kI hs ho (by omega) x;by_cases hx:x∈xs
 ·obtain⟨hlt,he⟩:=pH hx;have hq:sB xs x=(xs.idxOf x:Int):=if_pos hx;have hd:=sh hs ho (by omega) hlt;have hl':(xs.erase x).length=xs.length-1:=yH hx;rw[he]at hd;rw[hq]at hi;rw[show decide (x∈xs)=true by simpa using hx];obtain⟨A,cap,rfl,-⟩:=hs.form;have d1:decide (0≤(xs.idxOf x:Int))=true:=by simp
  have HB:=I hb;have HL:=I hl';generalize xs.idxOf x=i at*;generalize xs.erase x=ys at*;generalize xs.length=k at*;clear hs ho hx he hq hl' hb;go_in;go_wp2_with fail;refine hi.mono ?_;rintro e w' ⟨rfl,rfl⟩;go_wp2_with fail;refine hd.mono ?_;rintro e w3 ⟨v3,γ3,rfl,o3,s3,k3⟩;have g3:=(k3 tb hne).trans HB.out;obtain⟨A3,cap3,rfl,-⟩:=s3.form;have c3:=o3.cell g3 hj;have f3:=o3.free g3 2;have HF:Hid (wY w0 γ tb g ty cs 2 ts tq ys (.bool true) (.returned (.bool true)) (w3.setCell (zc g 2) (.slice A3 (k-1) cap3))):=I ⟨rfl,_,_,o3.set g3 2 (.slice A3 (k-1) cap3),yQ _ _ _ _,by rw[HL.out];exact s3.keep (yO _ _ _ (Ne.symm hne)),fun k h1 h2 _=>(yO _ _ _ h1).trans (k3 k h2)⟩;clear o3 s3 k3 g3 hd;go_wp2_with fail;go_ret;exact HF.out
 ·have hq:sB xs x= -1:=if_neg hx;rw[hq]at hi;rw[show decide (x∈xs)=false by simpa using hx];have HF:Hid (wY w0 γ tb g ty cs 2 ts tq (xs.erase x) (.bool false) (.returned (.bool false)) w):=I ⟨rfl,v,γ,ho,by rw[kY hj];exact hb,by rw[zS hx];exact hs,fun _ _ _ _=>rfl⟩;obtain⟨A,cap,rfl,-⟩:=hs.form;generalize xs.erase x=ys at*;generalize xs.length=k at*;clear hs ho hx hq hb;go_in;go_wp2_with fail;refine hi.mono ?_;rintro e w' ⟨rfl,rfl⟩;go_wp2_with fail;go_ret;exact HF.out
theorem Ro(hb:γ tb=some (g,.cells cs ty (0,0)))(hj:cs[1]? =some v)(hs:yR γ ts 3 1 v xs.length (ints xs))(ho:Own w0 w γ)(hne:tb≠ts)(hl:xs.length≤100)(x:Int):Calls Tryz.prog 117 #[.p g,.i x] w (wY w0 γ tb g ty cs 1 ts tq (xs.erase x) (.bool (decide (x∈xs)))):=by
 have c0:=ho.cell hb hj;have f0:=ho.free hb 1;have hi:=kI hs ho (by omega) x;by_cases hx:x∈xs
 ·obtain⟨hlt,he⟩:=pH hx;have hq:sB xs x=(xs.idxOf x:Int):=if_pos hx;have hd:=sh hs ho (by omega) hlt;have hl':(xs.erase x).length=xs.length-1:=yH hx;rw[he]at hd;rw[hq]at hi;rw[show decide (x∈xs)=true by simpa using hx];obtain⟨A,cap,rfl,-⟩:=hs.form;have d1:decide (0≤(xs.idxOf x:Int))=true:=by simp
  have HB:=I hb;have HL:=I hl';generalize xs.idxOf x=i at*;generalize xs.erase x=ys at*;generalize xs.length=k at*;clear hs ho hx he hq hl' hb;go_in;go_wp2_with fail;refine hi.mono ?_;rintro e w' ⟨rfl,rfl⟩;go_wp2_with fail;refine hd.mono ?_;rintro e w3 ⟨v3,γ3,rfl,o3,s3,k3⟩;have g3:=(k3 tb hne).trans HB.out;obtain⟨A3,cap3,rfl,-⟩:=s3.form;have c3:=o3.cell g3 hj;have f3:=o3.free g3 1;have HF:Hid (wY w0 γ tb g ty cs 1 ts tq ys (.bool true) (.returned (.bool true)) (w3.setCell (zc g 1) (.slice A3 (k-1) cap3))):=I ⟨rfl,_,_,o3.set g3 1 (.slice A3 (k-1) cap3),yQ _ _ _ _,by rw[HL.out];exact s3.keep (yO _ _ _ (Ne.symm hne)),fun k h1 h2 _=>(yO _ _ _ h1).trans (k3 k h2)⟩;clear o3 s3 k3 g3 hd;go_wp2_with fail;go_ret;exact HF.out
 ·have hq:sB xs x= -1:=if_neg hx;rw[hq]at hi;rw[show decide (x∈xs)=false by simpa using hx];have HF:Hid (wY w0 γ tb g ty cs 1 ts tq (xs.erase x) (.bool false) (.returned (.bool false)) w):=I ⟨rfl,v,γ,ho,by rw[kY hj];exact hb,by rw[zS hx];exact hs,fun _ _ _ _=>rfl⟩;obtain⟨A,cap,rfl,-⟩:=hs.form;generalize xs.erase x=ys at*;generalize xs.length=k at*;clear hs ho hx hq hb;go_in;go_wp2_with fail;refine hi.mono ?_;rintro e w' ⟨rfl,rfl⟩;go_wp2_with fail;go_ret;exact HF.out
theorem eE{j:Nat}(hb:γ tb=some (g,.cells cs ty (0,0)))(hj:cs[j]? =some v)(hs:yR γ ts 3 1 v xs.length (ints xs))(ho:Own w0 w γ)(hne:tb≠ts)(hl:xs.length≤100)(x:Int):Calls Tryz.prog 156 #[.pointer (some (zc g j)),.i x] w (wY w0 γ tb g ty cs j ts tq (xs.erase x) (.bool (decide (x∈xs)))):=by
 have c0:=ho.cell hb hj;have f0:=ho.free hb j;have hi:=kI hs ho (by omega) x;by_cases hx:x∈xs
 ·obtain⟨hlt,he⟩:=pH hx;have hq:sB xs x=(xs.idxOf x:Int):=if_pos hx;have hd:=sh hs ho (by omega) hlt;have hl':(xs.erase x).length=xs.length-1:=yH hx;rw[he]at hd;rw[hq]at hi;rw[show decide (x∈xs)=true by simpa using hx];obtain⟨A,cap,rfl,-⟩:=hs.form;have d1:decide (0≤(xs.idxOf x:Int))=true:=by simp
  have HB:=I hb;have HL:=I hl';generalize xs.idxOf x=i at*;generalize xs.erase x=ys at*;generalize xs.length=k at*;clear hs ho hx he hq hl' hb;go_in;go_wp2_with fail;refine hi.mono ?_;rintro e w' ⟨rfl,rfl⟩;go_wp2_with fail;refine hd.mono ?_;rintro e w3 ⟨v3,γ3,rfl,o3,s3,k3⟩;have g3:=(k3 tb hne).trans HB.out;obtain⟨A3,cap3,rfl,-⟩:=s3.form;have c3:=o3.cell g3 hj;have f3:=o3.free g3 j;have HF:Hid (wY w0 γ tb g ty cs j ts tq ys (.bool true) (.returned (.bool true)) (w3.setCell (zc g j) (.slice A3 (k-1) cap3))):=I ⟨rfl,_,_,o3.set g3 j (.slice A3 (k-1) cap3),yQ _ _ _ _,by rw[HL.out];exact s3.keep (yO _ _ _ (Ne.symm hne)),fun k h1 h2 _=>(yO _ _ _ h1).trans (k3 k h2)⟩;clear o3 s3 k3 g3 hd;go_wp2_with fail;go_ret;exact HF.out
 ·have hq:sB xs x= -1:=if_neg hx;rw[hq]at hi;rw[show decide (x∈xs)=false by simpa using hx];have HF:Hid (wY w0 γ tb g ty cs j ts tq (xs.erase x) (.bool false) (.returned (.bool false)) w):=I ⟨rfl,v,γ,ho,by rw[kY hj];exact hb,by rw[zS hx];exact hs,fun _ _ _ _=>rfl⟩;obtain⟨A,cap,rfl,-⟩:=hs.form;generalize xs.erase x=ys at*;generalize xs.length=k at*;clear hs ho hx hq hb;go_in;go_wp2_with fail;refine hi.mono ?_;rintro e w' ⟨rfl,rfl⟩;go_wp2_with fail;go_ret;exact HF.out
theorem qn{j k cap:Nat}{A:Option Addr}(hb:γ tb=some (g,.cells cs ty (0,0)))(hj:cs[j]? =some (.slice A k cap))(hs:yR γ ts 3 1 (.slice A k cap) k (ints xs))(ho:Own w0 w γ)(h1:tb≠ts)(h2:tb≠tq)(h3:ts≠tq)(hl:xs.length=k)(x:Int):Hid (Own w0 (w.alloc (.cells #[.i x] 3)) (put γ tq w.heap.size (.cells #[.i x] 3)))∧Hid (yR (put γ tq w.heap.size (.cells #[.i x] 3)) ts 3 1 (.slice A k cap) k (ints xs))∧Hid (Reads (w.alloc (.cells #[.i x] 3)) 1 (.slice (zb w.heap.size) 1 1) 1 [.i x])∧Hid (∀A' cap' w2 γ3,Own w0 w2 γ3→yR γ3 ts 3 1 (.slice A' (k+1) cap') (k+1) (ints xs++[.i x])→(∀k',k'≠ts→γ3 k'=put γ tq w.heap.size (.cells #[.i x] 3) k')→w2.cell? (zc g j)=some (.slice A k cap)∧w2.frozen? (zc g j)=false∧Hid (∀r,wY w0 γ tb g ty cs j ts tq (xs++[x]) r (.returned r) (w2.setCell (zc g j) (.slice A' (k+1) cap')))):=by
 obtain⟨o2,r2⟩:=qv ho tq x;refine⟨I o2,I (hs.keep (yO _ _ _ h3)),I r2,I fun A' cap' w2 γ3 o3 s3 k3=>?_⟩;have g3:=(k3 tb h1).trans ((yO _ _ _ h2).trans hb);rw[qt]at s3;have hlen:(xs++[x]).length=k+1:=by simp[hl]
 exact⟨o3.cell g3 hj,o3.free g3 j,I fun r=>⟨rfl,_,_,o3.set g3 j _,yQ _ _ _ _,by rw[hlen];exact s3.keep (yO _ _ _ (Ne.symm h1)),fun k' e1 e2 e3=>(yO _ _ _ e1).trans ((k3 k' e2).trans (yO _ _ _ e3))⟩⟩
end
end
section
open Go.RowKit Go.WideShapes
structure Qu where
 first:Int
 last:Int
 size:Int
structure Nd where
 queue:Int
 ahead:Int
 behind:Int
def Qu.yV(x:Qu):List Value:=[.i x.first,.i x.last,.i x.size]
def Nd.yV(x:Nd):List Value:=[.i x.queue,.i x.ahead,.i x.behind]
theorem Qu.len(x:Qu):x.yV.length=3:=rfl
theorem Nd.len(x:Nd):x.yV.length=3:=rfl
structure Fi where
 qs:List Qu
 ns:List Nd
def uR(γ:U)(b g gq cq gn cn:Nat)(f:Fi):Prop:=
 γ b=some (g,.cells #[.slice (zb gq) f.qs.length cq,.slice (zb gn) f.ns.length cn] 212 (0,0))∧
  yR γ (b+1) 206 3 (.slice (zb gq) f.qs.length cq) f.qs.length (yW Qu.yV f.qs)∧yR γ (b+2) 210 3 (.slice (zb gn) f.ns.length cn) f.ns.length (yW Nd.yV f.ns)∧f.qs.length≤32∧f.ns.length≤32
def rj(γ:U)(b g:Nat)(f:Fi):Prop:=∃gq cq gn cn,uR γ b g gq cq gn cn f
theorem uR.keep{γ γ':U}{b g gq cq gn cn:Nat}{f:Fi}(h:uR γ b g gq cq gn cn f)(hk:∀k,b≤k→k<b+3→γ' k=γ k):uR γ' b g gq cq gn cn f:=⟨by rw[hk _ (by omega) (by omega)];exact h.1,h.2.1.keep (hk _ (by omega) (by omega)),h.2.2.1.keep (hk _ (by omega) (by omega)),h.2.2.2⟩
theorem rj.keep{γ γ':U}{b g:Nat}{f:Fi}(h:rj γ b g f)(hk:∀k,b≤k→k<b+3→γ' k=γ k):rj γ' b g f:=by obtain⟨gq,cq,gn,cn,h⟩:=h;exact⟨gq,cq,gn,cn,h.keep hk⟩
def Fi.vX(f:Fi)(i:Nat):Int:=match f.ns[i]? with
 |some x=>x.queue
 |none=> -1
def Fi.push(f:Fi)(n i:Nat):Fi:=match f.qs[n]? with
 |some x=>if x.last= -1 then⟨f.qs.set n ⟨i,i,x.size+1⟩,f.ns.set i ⟨n,x.last,-1⟩⟩
  else match f.ns[x.last.toNat]? with
   |some y=>⟨f.qs.set n ⟨x.first,i,x.size+1⟩,(f.ns.set i ⟨n,x.last,-1⟩).set x.last.toNat {y with behind:=i}⟩
   |none=>f
 |none=>f
section
variable {w0 w:World} {γ:U} {b g gq cq gn cn:Nat} {f:Fi}
theorem uR.ne(h:uR γ b g gq cq gn cn f)(ho:Own w0 w γ):g≠gq∧g≠gn∧gq≠gn:=by
 obtain⟨h0,h1,h2,_⟩:=h;rcases h1.2 with⟨x,_⟩|⟨_,_,_,x,y,_⟩
 ·cases x
 ·cases x;rcases h2.2 with⟨x,_⟩|⟨_,_,_,x,z,_⟩
  ·cases x
  ·cases x;refine⟨fun e=>?_,fun e=>?_,fun e=>?_⟩
   ·subst e;have:=ho.inj _ _ _ _ _ h0 y;omega
   ·subst e;have:=ho.inj _ _ _ _ _ h0 z;omega
   ·subst e;have:=ho.inj _ _ _ _ _ y z;omega
theorem uR.cells(h:uR γ b g gq cq gn cn f)(ho:Own w0 w γ):w.cell? ⟨g,0,none⟩=some (.slice (zb gq) f.qs.length cq)∧w.cell? ⟨g,1,none⟩=some (.slice (zb gn) f.ns.length cn):=⟨ho.cell h.1 (i:=0) rfl,ho.cell h.1 (i:=1) rfl⟩
theorem uR.q(h:uR γ b g gq cq gn cn f)(ho:Own w0 w γ){n:Nat}{x:Qu}(hx:f.qs[n]? =some x):w.cell? ⟨gq,n*3,none⟩=some (.i x.first)∧w.cell? ⟨gq,n*3+1,none⟩=some (.i x.last)∧w.cell? ⟨gq,n*3+2,none⟩=some (.i x.size)∧w.frozen? ⟨gq,n*3,none⟩=false∧w.frozen? ⟨gq,n*3+1,none⟩=false∧w.frozen? ⟨gq,n*3+2,none⟩=false:=by obtain⟨_,_,hv,_,hr,_⟩:=h.2.1.elem Qu.len ho hx (zk.1 hx).1;cases hv;exact⟨(hr 0 _ rfl).1,(hr 1 _ rfl).1,(hr 2 _ rfl).1,(hr 0 _ rfl).2,(hr 1 _ rfl).2,(hr 2 _ rfl).2⟩
theorem uR.n(h:uR γ b g gq cq gn cn f)(ho:Own w0 w γ){n:Nat}{x:Nd}(hx:f.ns[n]? =some x):w.cell? ⟨gn,n*3,none⟩=some (.i x.queue)∧w.cell? ⟨gn,n*3+1,none⟩=some (.i x.ahead)∧w.cell? ⟨gn,n*3+2,none⟩=some (.i x.behind)∧w.frozen? ⟨gn,n*3,none⟩=false∧w.frozen? ⟨gn,n*3+1,none⟩=false∧w.frozen? ⟨gn,n*3+2,none⟩=false:=by obtain⟨_,_,hv,_,hr,_⟩:=h.2.2.1.elem Nd.len ho hx (zk.1 hx).1;cases hv;exact⟨(hr 0 _ rfl).1,(hr 1 _ rfl).1,(hr 2 _ rfl).1,(hr 0 _ rfl).2,(hr 1 _ rfl).2,(hr 2 _ rfl).2⟩
theorem uR.pa(h:uR γ b g gq cq gn cn f)(ho:Own w0 w γ){n:Nat}{x:Qu}(hx:f.qs[n]? =some x)(j:Nat)(u:Value)(y:Qu)(hj:j<3)(hy:x.yV.set j u=y.yV):∃γ',Own w0 (w.setCell ⟨gq,n*3+j,none⟩ u) γ'∧uR γ' b g gq cq gn cn ⟨f.qs.set n y,f.ns⟩∧∀k,k≠b+1→γ' k=γ k:=by
 obtain⟨_,_,hv,_,_,hset⟩:=h.2.1.elem Qu.len ho hx (zk.1 hx).1;cases hv;obtain⟨γ',ho',hs',hk⟩:=hset j u y hj hy;refine⟨γ',ho',⟨?_,?_,h.2.2.1.keep (hk _ (by omega)),?_⟩,hk⟩
 ·show γ' b=some (g,.cells #[.slice (zb gq) (f.qs.set n y).length cq,.slice (zb gn) f.ns.length cn] 212 (0,0));rw[zq];exact(hk b (by omega)).trans h.1
 ·show yR γ' (b+1) 206 3 (.slice (zb gq) (f.qs.set n y).length cq) (f.qs.set n y).length (yW Qu.yV (f.qs.set n y));rw[zq];exact hs'
 ·show(f.qs.set n y).length≤32∧_;rw[zq];exact h.2.2.2
theorem uR.fV(h:uR γ b g gq cq gn cn f)(ho:Own w0 w γ){n:Nat}{x:Nd}(hx:f.ns[n]? =some x)(j:Nat)(u:Value)(y:Nd)(hj:j<3)(hy:x.yV.set j u=y.yV):∃γ',Own w0 (w.setCell ⟨gn,n*3+j,none⟩ u) γ'∧uR γ' b g gq cq gn cn ⟨f.qs,f.ns.set n y⟩∧∀k,k≠b+2→γ' k=γ k:=by
 obtain⟨_,_,hv,_,_,hset⟩:=h.2.2.1.elem Nd.len ho hx (zk.1 hx).1;cases hv;obtain⟨γ',ho',hs',hk⟩:=hset j u y hj hy;refine⟨γ',ho',⟨?_,h.2.1.keep (hk _ (by omega)),?_,?_⟩,hk⟩
 ·show γ' b=some (g,.cells #[.slice (zb gq) f.qs.length cq,.slice (zb gn) (f.ns.set n y).length cn] 212 (0,0));rw[zq];exact(hk b (by omega)).trans h.1
 ·show yR γ' (b+2) 210 3 (.slice (zb gn) (f.ns.set n y).length cn) (f.ns.set n y).length (yW Nd.yV (f.ns.set n y));rw[zq];exact hs'
 ·show _∧(f.ns.set n y).length≤32;rw[zq];exact h.2.2.2
theorem uR.cS(h:uR γ b g gq cq gn cn f)(ho:Own w0 w γ){n:Nat}(hn:n<f.ns.length)(y:Nd):∃γ',Own w0 (((w.setCell ⟨gn,n*3,none⟩ (.i y.queue)).setCell ⟨gn,n*3+1,none⟩ (.i y.ahead)).setCell ⟨gn,n*3+2,none⟩ (.i y.behind)) γ'∧uR γ' b g gq cq gn cn ⟨f.qs,f.ns.set n y⟩∧∀k,k≠b+2→γ' k=γ k:=by obtain⟨x,hx⟩:∃x,f.ns[n]? =some x:=⟨_,zl hn⟩;obtain⟨γ1,o1,h1,k1⟩:=h.fV ho hx 0 (.i y.queue) ⟨y.queue,x.ahead,x.behind⟩ (by omega) rfl;obtain⟨γ2,o2,h2,k2⟩:=h1.fV o1 (n:=n) (x:=⟨y.queue,x.ahead,x.behind⟩) (zp hn) 1 (.i y.ahead) ⟨y.queue,y.ahead,x.behind⟩ (by omega) rfl;simp only[ye]at h2;obtain⟨γ3,o3,h3,k3⟩:=h2.fV o2 (n:=n) (x:=⟨y.queue,y.ahead,x.behind⟩) (zp hn) 2 (.i y.behind) ⟨y.queue,y.ahead,y.behind⟩ (by omega) rfl;simp only[ye]at h3;exact⟨γ3,o3,h3,fun k hk=>(k3 k hk).trans ((k2 k hk).trans (k1 k hk))⟩
theorem Tq(h:rj γ b g f)(ho:Own w0 w γ){n:Nat}(hn:n<f.qs.length):Calls Tryz.prog 147 #[.p g,.i n] w fun e w'=>e=.returned (.bool true)∧w=w':=by
 obtain⟨gq,cq,gn,cn,h⟩:=h;obtain⟨c0,_⟩:=h.cells ho;have h32:=h.2.2.2.1;have d1:decide ((n:Int)<f.qs.length)=true:=by simpa using hn
 have d0:decide ((0:Int)≤n)=true:=by simp
 generalize f.qs.length=m at*;clear h ho;go_in;go_wp2_with fail;go_ret;exact⟨rfl,rfl⟩
theorem qU(h:rj γ b g f)(ho:Own w0 w γ){i:Nat}(hi:i<f.ns.length):Calls Tryz.prog 150 #[.p g,.i i] w fun e w'=>e=.returned (.i (f.vX i))∧w=w':=by
 obtain⟨gq,cq,gn,cn,h⟩:=h;obtain⟨_,c1⟩:=h.cells ho;obtain⟨x,hx⟩:∃x,f.ns[i]? =some x:=⟨_,zl hi⟩;obtain⟨q0,_⟩:=h.n ho hx;have hw:f.vX i=x.queue:=by unfold Fi.vX;rw[hx]
 rw[hw];have h32:=h.2.2.2.2;have hin:(i:Int)<f.ns.length:=by omega
 have d1:decide ((f.ns.length:Int)≤i)=false:=by simp;omega
 have d0:decide ((i:Int)<0)=false:=by simp
 generalize f.ns.length=m at*;clear h ho hx hw;go_in;go_wp2_with fail;go_ret;exact⟨rfl,rfl⟩
def uG(w0:World)(γ:U)(b g:Nat)(f:Fi)(v:Value)(e:Ending)(w':World):Prop:=
 e=.returned v∧∃γ',Own w0 w' γ'∧rj γ' b g f∧∀k,(k<b∨b+4≤k)→γ' k=γ k
theorem VQ(h:rj γ b g f)(ho:Own w0 w γ){n i:Nat}(hn:n<f.qs.length)(hi:i<f.ns.length)(hw:f.vX i≠ -1):Calls Tryz.prog 122 #[.p g,.i n,.i i] w (uG w0 γ b g f (.bool false)):=by
 have his:=Tq h ho hn;have hwh:=qU h ho hi;have HF:Hid (uG w0 γ b g f (.bool false) (.returned (.bool false)) w):=I ⟨rfl,γ,ho,h,fun _ _=>rfl⟩;obtain⟨gq,cq,gn,cn,h⟩:=h;obtain⟨_,c1⟩:=h.cells ho;have h32:=h.2.2.2.2;have d1:decide ((f.ns.length:Int)≤i)=false:=by simp;omega
 have d0:decide ((i:Int)<0)=false:=by simp
 have dw:(f.vX i != -1)=true:=by simpa using hw
 generalize f.vX i=x at*;generalize f.ns.length=m at*;clear h ho hw;go_in;go_wp2_with fail;refine his.mono ?_;rintro e w' ⟨rfl,rfl⟩;go_wp2_with fail;refine hwh.mono ?_;rintro e w' ⟨rfl,rfl⟩;go_wp2_with fail;go_ret;exact HF.out
theorem Pm(h:rj γ b g f)(ho:Own w0 w γ){n i:Nat}{x:Qu}(hx:f.qs[n]? =some x)(hi:i<f.ns.length)(hw:f.vX i= -1)(hl:x.last= -1∨∃j:Nat,x.last=j∧j<f.ns.length∧j≠i)(hsz:0≤x.size∧x.size≤1000):Calls Tryz.prog 122 #[.p g,.i n,.i i] w (uG w0 γ b g (f.push n i) (.bool true)):=by
 have hn:n<f.qs.length:=(zk.1 hx).1;have his:=Tq h ho hn;have hwh:=qU h ho hi;rw[hw]at hwh;obtain⟨gq,cq,gn,cn,h⟩:=h;obtain⟨c0,c1⟩:=h.cells ho;obtain⟨n1,n2,n3⟩:=h.ne ho;obtain⟨q0,q1,q2,r0,r1,r2⟩:=h.q ho hx;obtain⟨y,hy⟩:∃y,f.ns[i]? =some y:=⟨_,zl hi⟩;obtain⟨p0,p1,p2,s0,s1,s2⟩:=h.n ho hy;have h32:=h.2.2.2;have d1:decide ((f.ns.length:Int)≤i)=false:=by simp;omega
 have d0:decide ((i:Int)<0)=false:=by simp
 have hin:(i:Int)<f.ns.length:=by omega
 have hnn:(n:Int)<f.qs.length:=by omega
 obtain⟨γ1,o1,h1,k1⟩:=h.cS ho hi ⟨n,x.last,-1⟩;rcases hl with hl|⟨j,hl,hj,hji⟩
 ·have hpush:f.push n i=⟨f.qs.set n ⟨i,i,x.size+1⟩,f.ns.set i ⟨n,x.last,-1⟩⟩:=by unfold Fi.push;rw[hx];exact if_pos hl
  obtain⟨γ2,o2,h2,k2⟩:=h1.pa o1.drew hx 0 (.i i) ⟨i,x.last,x.size⟩ (by omega) rfl;obtain⟨γ3,o3,h3,k3⟩:=h2.pa o2 (n:=n) (x:=⟨i,x.last,x.size⟩) (zp hn) 1 (.i i) ⟨i,i,x.size⟩ (by omega) rfl;simp only[ye]at h3;obtain⟨γ4,o4,h4,k4⟩:=h3.pa o3 (n:=n) (x:=⟨i,i,x.size⟩) (zp hn) 2 (.i (x.size+1)) ⟨i,i,x.size+1⟩ (by omega) rfl;simp only[ye]at h4;have hfin:uG w0 γ b g (f.push n i) (.bool true) (.returned (.bool true)) _:=⟨rfl,γ4,o4,by rw[hpush];exact⟨gq,cq,gn,cn,h4⟩,fun k hk=>(k4 k (by omega)).trans ((k3 k (by omega)).trans ((k2 k (by omega)).trans (k1 k (by omega))))⟩;simp only[yv,World.setCell_drew]at hfin;have HF:=I hfin;generalize f.push n i=f2 at*;generalize f.ns.length=m at*;generalize f.qs.length=m2 at*;obtain⟨xf,xl,xs⟩:=x;dsimp only at*;subst hl;clear h h1 h2 h3 h4 ho o1 o2 o3 o4 k1 k2 k3 k4 hfin hx hy hw hpush;go_in;go_wp2_with fail;refine his.mono ?_;rintro e w' ⟨rfl,rfl⟩;go_wp2_with fail;refine hwh.mono ?_;rintro e w' ⟨rfl,rfl⟩;go_wp2_with fail;refine yP.region [0,1,2,3,4,5,6,7,8,9,10,11] (.step 12 .done) (fun w'=>w'.cell? ⟨g,1,none⟩=some (.slice (zb gn) m cn)∧w'.cell? ⟨gq,n*3+1,none⟩=some (.i (-1))) (by kernel_rfl) (by kernel_rfl) (fun _ _ _ _ _ h=>h) (by refine⟨?_,?_⟩<;>(go_simp;try first|done|assumption)) ?_;repeat
   refine Perm.xm rfl ?_ (fun w' hS=>?_) ?_;rotate_left
   ·(obtain⟨s0,s1⟩:=hS;go_simp;try with_reducible rfl)
   simp only[pt]
  refine Perm.xt ?_;refine yP.yY rfl (by rfl) ?_;refine yP.xy rfl .skip undef (.inr ⟨rfl,rfl⟩) (w':=?_) ?_ (Perm.xx (by kernel_rfl)) ?_;rotate_left
  ·(go_simp;try with_reducible rfl)
  simp only[pt];refine yP.xC ?_;go_wp2_with fail;go_ret;exact HF.out
 ·obtain⟨z,hz⟩:∃z,f.ns[j]? =some z:=⟨_,zl hj⟩;obtain⟨z0,z1,z2,t0,t1,t2⟩:=h.n ho hz;have hz1:(f.ns.set i ⟨n,x.last,-1⟩)[j]? =some z:=by rw[zt (Ne.symm hji)];exact hz
  have hpush:f.push n i=⟨f.qs.set n ⟨x.first,i,x.size+1⟩,(f.ns.set i ⟨n,x.last,-1⟩).set j {z with behind:=i}⟩:=by unfold Fi.push;rw[hx];dsimp only;rw[if_neg (by rw[hl];omega),hl,zu,hz]
  have hxl:(x.last== -1)=false:=by rw[hl,beq_eq_false_iff_ne];omega
  have hjn:(j:Int)<f.ns.length:=by omega
  have e0:j*3+2≠i*3:=by omega
  have e1:j*3+2≠i*3+1:=by omega
  have e2:j*3+2≠i*3+2:=by omega
  obtain⟨γ2,o2,h2,k2⟩:=h1.fV o1.drew.drew hz1 2 (.i i) {z with behind:=i} (by omega) rfl;obtain⟨γ3,o3,h3,k3⟩:=h2.pa o2 hx 1 (.i i) ⟨x.first,i,x.size⟩ (by omega) rfl;obtain⟨γ4,o4,h4,k4⟩:=h3.pa o3 (n:=n) (x:=⟨x.first,i,x.size⟩) (zp hn) 2 (.i (x.size+1)) ⟨x.first,i,x.size+1⟩ (by omega) rfl;simp only[ye]at h4;have hfin:uG w0 γ b g (f.push n i) (.bool true) (.returned (.bool true)) _:=⟨rfl,γ4,o4,by rw[hpush];exact⟨gq,cq,gn,cn,h4⟩,fun k hk=>(k4 k (by omega)).trans ((k3 k (by omega)).trans ((k2 k (by omega)).trans (k1 k (by omega))))⟩;simp only[World.setCell_drew]at hfin;have HF:=I hfin;generalize f.push n i=f2 at*;generalize f.ns.length=m at*;generalize f.qs.length=m2 at*;obtain⟨xf,xl,xs⟩:=x;dsimp only at*;subst hl;clear h h1 h2 h3 h4 ho o1 o2 o3 o4 k1 k2 k3 k4 hfin hx hy hw hpush hz hz1;have hji':=hji;go_in;go_wp2_with fail;refine his.mono ?_;rintro e w' ⟨rfl,rfl⟩;go_wp2_with fail;refine hwh.mono ?_;rintro e w' ⟨rfl,rfl⟩;go_wp2_with fail;refine yP.region [0,1,2,3,4,5,6,7,8,9,10,11] (.step 12 .done) (fun w'=>w'.cell? ⟨g,1,none⟩=some (.slice (zb gn) m cn)∧w'.cell? ⟨gq,n*3+1,none⟩=some (.i j)) (by kernel_rfl) (by kernel_rfl) (fun _ _ _ _ _ h=>h) (by refine⟨?_,?_⟩<;>(go_simp;try first|done|assumption)) ?_;repeat
   refine Perm.xm rfl ?_ (fun w' hS=>?_) ?_;rotate_left
   ·(obtain⟨s0,s1⟩:=hS;go_simp;try with_reducible rfl)
   simp only[pt]
  refine Perm.xt ?_;refine yP.yY rfl (by rfl) ?_;refine yP.xy rfl .skip undef (.inr ⟨rfl,rfl⟩) (w':=?_) ?_ (Perm.xx (by kernel_rfl)) ?_;rotate_left
  ·(go_simp;try with_reducible rfl)
  simp only[pt];refine yP.xC ?_;go_wp2_with fail;refine yP.region [0,1,2,3,4,5,6,7,8,9,10] (.step 11 .done) (fun w'=>w'.cell? ⟨g,1,none⟩=some (.slice (zb gn) m cn)∧w'.cell? ⟨gq,n*3+1,none⟩=some (.i j)) (by kernel_rfl) (by kernel_rfl) (fun _ _ _ _ _ h=>h) (by refine⟨?_,?_⟩<;>(go_simp;try first|done|assumption)) ?_;repeat
   refine Perm.xm rfl ?_ (fun w' hS=>?_) ?_;rotate_left
   ·(obtain⟨s0,s1⟩:=hS;go_simp;try with_reducible rfl)
   simp only[pt]
  refine Perm.xt ?_;refine yP.yY rfl (by rfl) ?_;refine yP.xy rfl .skip undef (.inr ⟨rfl,rfl⟩) (w':=?_) ?_ (Perm.xx (by kernel_rfl)) ?_;rotate_left
  ·(go_simp;try with_reducible rfl)
  simp only[pt];refine yP.xC ?_;go_wp2_with fail;go_ret;exact HF.out
end
end
section
open Go.RowKit Go.Shelf Go.WideShapes
attribute [local go_sem] Oper.semAt_some
theorem Own.P5{w0 w w':World}{γ:U}{e:TypeId}{size k:Nat}{v:Value}{xs:List Value}(h:Own w0 w γ)(hb:Below w.heap.size w w')(hr:w'.ownsRow w.heap.size e size v k xs)(t:Nat):∃γ',Own w0 w' γ'∧yR γ' t e size v k xs∧∀j,j≠t→γ' j=γ j:=by
 have h':=h.xh hb;rcases hr.2 with hn|⟨g,cap,cur,h1,h2,h3,h4,h5,h6,h7⟩
 ·exact⟨γ,h',⟨hr.1,.inl hn⟩,fun _ _=>rfl⟩
 ·refine⟨Go.Proofs.YtkmamlifgbocgaaGreat.put γ t g (.cells cur e (0,0)),⟨h'.below,fun j g' o hj=>?_,fun j j' g' o o' hj hj'=>?_⟩,⟨hr.1,.inr ⟨g,cap,cur,h1,yQ _ _ _ _,h4,h5,h6,h7⟩⟩,fun j hj=>yO _ _ _ hj⟩
  ·by_cases ej:j=t
   ·subst ej;rw[yQ]at hj;cases hj;exact⟨yn h.below.size h2,h3⟩
   ·rw[yO _ _ _ ej]at hj;exact h'.own j g' o hj
  ·by_cases ej:j=t
   ·by_cases ej':j'=t
    ·rw[ej,ej']
    ·subst ej;rw[yQ]at hj;rw[yO _ _ _ ej']at hj';cases hj;have:=h.lt hj';omega
   ·by_cases ej':j'=t
    ·subst ej';rw[yQ]at hj';rw[yO _ _ _ ej]at hj;cases hj';have:=h.lt hj;omega
    ·rw[yO _ _ _ ej]at hj;rw[yO _ _ _ ej']at hj';exact h'.inj j j' g' o o' hj hj'
theorem WY(n gf:Nat)(lb:Array Value)(hgf:∀args w,(callFunc gf args).run Tryz.prog w=.ok (.enter gf args) w)(hn:3≤n)(xs:List Int)(hlen:xs.length≤1000)(w:World)(hseq:SeqStopsK Fence.wide (n-1) Tryz.prog gf lb (fun x:Int=>#[Value.int .i64 x]) (Below w.heap.size) (fun ys=>ys=xs) (fun pre=>pre<+:xs) xs.length w):CallsIn Fence.wide n Tryz.prog 186 #[.slice none 0 0,.func (.func gf) #[] lb] w fun e W'=>∃v,e=.returned v∧W'.ownsRow w.heap.size 3 1 v xs.length (ints xs)∧Below w.heap.size w W':=by
 have h1:1≤n:=by omega
 have hro:Fence.wide.round=none:=rfl;obtain⟨i0,hi,hz0,hz1,hz2⟩:=info_parts Tryz.tF;refine callsIn_of_wp_marks Tryz.func186 rfl trivial ?_ hro;simp only[Tryz.ntmps186,zH,zM,zY,Nat.reduceAdd,Nat.reduceSub,zV,zW,yj,zZ,zD,zT];gi_wp2;have bO:=Boxed.new w 61 (.slice none 0 0);have hB0:Below w.heap.size w (w.alloc (.cells #[.slice none 0 0] 61)):=((Below.refl _ w).alloc (zm _) _);refine wpIn_rangeFunc_ownG hro h1 (gf:=gf) (lb:=lb) rfl trivial hgf hseq belowK_t (belowK_b (by simp)) hB0 (fun _=>rfl) (fun pre W=>(∃v,Boxed W w.heap.size 61 v∧W.ownsRow w.heap.size 3 1 v pre.length (pre.map (Value.int .i64))∧(v=.slice none 0 0↔pre=[]))∧Below w.heap.size w W) (fun _ _ _=>False) (OwnFrom.and (Own.from (holdsRow_own w.heap.size w.heap.size 61 3 1 (fun pre=>pre.length) (fun pre=>pre.map (Value.int .i64)) (fun pre v=>v=.slice none 0 0↔pre=[])) _) (ownFrom_below (zm _) (by simp))) (fun _ _ _ _ _ hs _ _=>hs) ⟨⟨_,bO,World.ownsRow_nil _ _ _ _,by simp⟩,hB0⟩ (fun x=>{tmps:=#[.slice none 0 0,.func (.func gf) #[] lb,.p w.heap.size,undef,.slice none 0 0,.i x,.func (.func gf) #[] lb,.i x,undef,undef,undef,undef,undef],defers:=[]}) ?assign ?body ?done ?stop
 case assign=> intro l x W K hK;gi_wp2;exact hK
 case body=> rintro l pre x W ⟨⟨v,hv,hrow,hnil⟩,hB⟩ hlt;have hc:=hv.cell;gi_wp2_with (gi_at_builtin;refine wpListIn_append_own _ rfl _ _ 61 rfl w.heap.size 3 i0 (.i 0) 1 8 Tryz.underlying61 hi hz0 hz1 hz2 rfl (by decide) _ _ _ rfl (hrow.alloc _) (zc W.heap.size 0) 1 1 [.i x] rfl rfl (cell_one_new _ _ _) (by simp[Value.oneCell']) (by simp[maxLen];omega) (by omega) (by have:=hB.size;simp;omega) ?_;intro v' w1 hown' hgrow _;obtain⟨g',cap',rfl⟩:=ownsRow_succ hown';obtain⟨hv1,hv2,hr2,hk2,hb2⟩:=hv.appended (by decide) hrow hB.size (zm _) hown' hgrow;have hc1:=hv1.cell;have hf1:=hv1.frozen);exact⟨hk2.from _,hb2,⟨_,hv2,by simpa using hr2,by simp⟩,hB.trans hb2⟩
 case done=> rintro D ys W hD rfl ⟨⟨v,hv,hrow,hnil⟩,hB⟩ hK;have hc:=hv.cell;gi_wp2;refine⟨by simp,.inl ⟨_,_,rfl,run_takeDeferred hK,?_⟩⟩;exact⟨_,results_tmp rfl _ _ _,v,rfl,ownsRow_putObj hrow _ hK rfl,hB.trans (belowK_b (w:=w) (zm _) W D _ _ (by simp at hD;omega) hK rfl rfl)⟩
 case stop=> rintro D c pre W _ _ h _;exact h.elim
def Ch(ns:List Nd):Int→List Nat→Prop
 |q,[]=>q= -1
 |q,i::r=>q=i∧∃x,ns[i]? =some x∧Ch ns x.behind r
theorem Ch.unique{ns:List Nd}:∀{q:Int} {xs ys:List Nat},Ch ns q xs→Ch ns q ys→xs=ys
 |_,[],[],_,_=>rfl
 |_,[],_::_,h,⟨h',_⟩=>by simp only[Ch]at h;omega
 |_,_::_,[],⟨h',_⟩,h=>by simp only[Ch]at h;omega
 |_,a::_,b::_,⟨h1,x,hx,h2⟩,⟨k1,y,hy,k2⟩=>by
  obtain rfl:a=b:=by omega
  rw[hx]at hy
  cases hy
  rw[Ch.unique h2 k2]
open Classical in
noncomputable def ZG (ns:List Nd) (v:Value):Nat:=
 if h:∃r:Int×List Nat,v=.i r.1∧Ch ns r.1 r.2 then(Classical.choose h).2.length else 0
theorem ah{ns:List Nd}{q:Int}{xs:List Nat}(h:Ch ns q xs):ZG ns (.i q)=xs.length:=by
 have hex:∃r:Int×List Nat,Value.int .i64 q=.i r.1∧Ch ns r.1 r.2:=⟨(q,xs),rfl,h⟩;unfold ZG;rw[dif_pos hex];obtain⟨e,hl⟩:=Classical.choose_spec hex;have e':q=(Classical.choose hex).1:=by simpa using e
 rw[←e']at hl;rw[Ch.unique hl h]
def wo(l:List Nat):List Int:=l.map Int.ofNat
theorem Sf{w0 w:World}{γ:U}{b g:Nat}{f:Fi}(h:rj γ b g f)(ho:Own w0 w γ){q:Nat}{x:Qu}(hx:f.qs[q]? =some x){xs:List Nat}(hch:Ch f.ns x.first xs)(n:Nat)(hn:1≤n)(l Bq Bn:Nat)(J Jx:List Int→World→Prop)(hY:∀pre y W,J pre W→pre.length<xs.length→YieldAt Fence.wide (n-1) Tryz.prog l #[.i y] W fun e W'=>(e=.returned (.bool true)∧J (pre++[y]) W'∧Below w.heap.size W W')∨(e=.returned (.bool false)∧Jx (pre++[y]) W'))(W:World)(hW:Below w.heap.size w W)(hJ:AbidesFrom W.heap.size J)(hq:∀W',Below w.heap.size W W'→W'.cell? (zc Bq 0)=some (.p g)∧W'.cell? (zc Bn 0)=some (.i q))(h0:J [] W):CallsIn Fence.wide n Tryz.prog 187 #[.func (.yield l) #[] #[],.p Bq,.p Bn] W fun e W'=>(∃v,e=.returned v)∧((∃ys,ys=wo xs∧J ys W')∨(∃pre,pre<+:wo xs∧Jx pre W')):=by
 obtain⟨gq,cq,gn,cn,h⟩:=h;have hro:Fence.wide.round=none:=rfl;have hb:=ho.xh hW;obtain⟨c0,c1⟩:=h.cells hb;obtain⟨q0,_⟩:=h.q hb hx;obtain⟨b0,b1⟩:=hq W (Below.refl _ _);have hnn:(q:Int)<f.qs.length:=by have:=(zk.1 hx).1;omega
 have h32:=h.2.2.2;refine callsIn_of_wp Tryz.func187 rfl trivial ?_ hro;simp only[Tryz.ntmps187,zH,zM,zY,Nat.reduceAdd,Nat.reduceSub,zV,zW,yj,zZ,zD,zT];gi_wp2_with fail;refine wpIn_wide.2 ?_;go_quiet (fail);gi_wp2_with fail;gi_loopw [4] (fun p wr=>∃(pre rest:List Nat) (q:Int),p=.i q∧xs=pre++rest∧Ch f.ns q rest∧J (wo pre) wr∧Below w.heap.size W wr) (fun p wr=>ZG f.ns p);case atStart=>exact⟨[],xs,_,rfl,rfl,hch,hJ [] W _ none h0 ⟨rfl,rfl,rfl,zm _,fun _ _ _=>rfl⟩ (fun r e=>by cases e),below_drewN (Below.refl _ _) _⟩
 case round=>
  obtain⟨pre,rest,q',rfl,hxs,hl,hJs,hbw⟩:=hrel;cases rest with
  |nil=> obtain rfl:q'= -1:=hl;gi_wp2;refine⟨fun _ h=>(by cases h),?_⟩;gi_wp2;go_end0;exact⟨⟨_,rfl⟩,.inl ⟨wo pre,by simp[hxs],hJs⟩⟩
  |cons i rest=>
   have hl':=hl;obtain⟨rfl,y,hy,hl2⟩:=hl;have hne:((i:Int) != -1)=true:=by rw[bne_iff_ne];omega
   have hne2:((i:Int)== -1)=false:=by rw[beq_eq_false_iff_ne];omega
   obtain⟨fn,tmps,assign,body,hyy,hR⟩:=hY (wo pre) i wr hJs (by rw[hxs];simp[wo]);gi_wp2;refine hR.mono ?_;rintro e W3 (⟨rfl,hJ3,hk3⟩|⟨rfl,hJx3⟩)
   ·have hb3:=ho.xh (hW.trans (hbw.trans hk3));obtain⟨d0,d1⟩:=h.cells hb3;obtain⟨_,_,y2,_⟩:=h.n hb3 hy;obtain⟨d2,d3⟩:=hq W3 (hbw.trans hk3);have hnn3:(i:Int)<f.ns.length:=by have:=(zk.1 hy).1;omega
    gi_wp2;go_roundw;case rel=>exact⟨pre++[i],rest,_,rfl,by simp[hxs],hl2,by simpa[wo]using hJ3,hbw.trans hk3⟩
    case measure=>rw[ah hl2,ah hl'];simp
   ·gi_wp2;go_end0;exact⟨⟨_,rfl⟩,.inr ⟨wo pre++[(i:Int)],⟨wo rest,by simp[hxs,wo]⟩,hJx3⟩⟩
theorem Qy(n:Nat)(v:Value)(q:Int)(hv:v.oneCell'=true)(w:World):CallsIn Fence.wide n Tryz.prog 149 #[v,.i q] w fun e w'=>e=.returned (.func (.func 187) #[] #[.p w.heap.size,.p (w.heap.size+1)])∧w'=(w.alloc (.cells #[v] 156)).alloc (.cells #[.i q] 3):=by have hro:Fence.wide.round=none:=rfl;refine callsIn_of_wp Tryz.func149 rfl trivial ?_ hro;simp only[Tryz.ntmps149,zH,zM,zY,Nat.reduceAdd,Nat.reduceSub,zV,zW,yj,zZ,zD,zT];gi_wp2;go_ret;exact⟨rfl,rfl⟩
theorem collect(n gf:Nat)(lb:Array Value)(hgf:∀args w,(callFunc gf args).run Tryz.prog w=.ok (.enter gf args) w)(hn:4≤n)(xs:List Int)(hlen:xs.length≤1000)(w:World)(hseq:SeqStopsK Fence.wide (n-2) Tryz.prog gf lb (fun x:Int=>#[Value.int .i64 x]) (Below w.heap.size) (fun ys=>ys=xs) (fun pre=>pre<+:xs) xs.length w):CallsIn Fence.wide n Tryz.prog 148 #[.func (.func gf) #[] lb] w fun e W'=>∃v,e=.returned v∧W'.ownsRow w.heap.size 3 1 v xs.length (ints xs)∧Below w.heap.size w W':=by
 have hro:Fence.wide.round=none:=rfl;have h1:1≤n:=by omega
 refine callsIn_of_wp Tryz.func148 rfl trivial ?_ hro;simp only[Tryz.ntmps148,zH,zM,zY,Nat.reduceAdd,Nat.reduceSub,zV,zW,yj,zZ,zD,zT];gi_wp2_with (refine⟨trivial,?_⟩;gi_at_call 186;refine(WY (n-1) gf lb hgf (by omega) xs hlen _ hseq).mono ?_;rintro e w' ⟨v,rfl,hv⟩);go_ret;exact⟨v,rfl,hv⟩
theorem dG(w:World)(c:Nat):Calls Tryz.prog 111 #[.slice none 0 c] w fun e w'=>e=.returned (.slice none 0 0)∧w=w':=by go_in;go_wp2_with fail;go_ret;exact⟨rfl,rfl⟩
theorem fI(w:World)(g n c:Nat)(h:n≤c)(hn:n≤1000):Calls Tryz.prog 111 #[.slice (zb g) n c] w fun e w'=>e=.returned (.slice (zb g) n n)∧w=w':=by
 have h1:(n:Int)≤c:=by omega
 go_in;go_wp2_with fail;go_ret;exact⟨rfl,rfl⟩
end
section
open Go.RowKit Go.Shelf Go.WideShapes
theorem kN(l:List Nat):(wo l).length=l.length:=by simp[wo]
theorem yR.clip{γ:U}{t e n c g:Nat}{xs:List Value}(h:yR γ t e 1 (.slice (zb g) n c) n xs):xK γ t e 1 (.slice (zb g) n n) n xs:=by
 refine⟨h.1,?_⟩;rcases h.2 with⟨h,_⟩|⟨g',cap,cur,h1,h2,h3,h4,h5,h6⟩
 ·cases h
 ·cases h1;exact .inr ⟨g,n,cur,rfl,h2,zm _,by omega,h6⟩
section
variable {w0 w:World} {γ:U} {b g:Nat} {f:Fi}
theorem WS(h:rj γ b g f)(ho:Own w0 w γ){q:Nat}{x:Qu}(hx:f.qs[q]? =some x){xs:List Nat}(hch:Ch f.ns x.first xs)(n:Nat)(hn:1≤n):SeqStopsK Fence.wide n Tryz.prog 187 #[.p w.heap.size,.p (w.heap.size+1)] (fun x:Int=>#[Value.int .i64 x]) (Below ((w.alloc (.cells #[.p g] 156)).alloc (.cells #[.i q] 3)).heap.size) (fun ys=>ys=wo xs) (fun pre=>pre<+:wo xs) (wo xs).length ((w.alloc (.cells #[.p g] 156)).alloc (.cells #[.i q] 3)):=by
 obtain⟨w2,hw2⟩:∃w2,(w.alloc (.cells #[.p g] 156)).alloc (.cells #[.i q] 3)=w2:=⟨_,rfl⟩;have hb:Below w.heap.size w w2:=by rw[←hw2];exact((Below.refl _ w).alloc (zm _) _).alloc (by simp) _
 have hz:w2.heap.size=w.heap.size+2:=by rw[←hw2];simp
 have c0:=Boxed.new w 156 (.p g);have c1:=Boxed.new (w.alloc (.cells #[.p g] 156)) 3 (.i q);have c0':=(c0.alloc (.cells #[.i q] 3)).cell;have c1':=c1.cell;rw[hw2]at c0' c1'⊢;rw[World.size_alloc]at c1';intro l J Jx W hW hJ hJx hY h0;rw[kN]at hY;exact Sf h (ho.xh hb) hx hch n hn l w.heap.size (w.heap.size+1) J Jx hY W hW hJ (fun W' hW'=>⟨((hW.trans hW').cell (p:=(zc w.heap.size 0)) (by show w.heap.size<_;omega)).trans c0',((hW.trans hW').cell (p:=(zc (w.heap.size+1) 0)) (by show w.heap.size+1<_;omega)).trans c1'⟩) h0
theorem Oh(h:rj γ b g f)(ho:Own w0 w γ){q:Nat}{x:Qu}(hx:f.qs[q]? =some x){xs:List Nat}(hch:Ch f.ns x.first xs)(hlen:xs.length≤1000)(t:Nat)(ht:γ t=none):Calls Tryz.prog 107 #[.p g,.i q] w fun e w'=>∃v γ',e=.returned v∧Own w0 w' γ'∧xK γ' t 3 1 v xs.length (ints (wo xs))∧∀k,k≠t→γ' k=γ k:=by
 have his:=Tq h ho (zk.1 hx).1;have hst:=WS h ho hx hch 8 (by omega);have hwa:=callsIn_wide.1 (Qy 10 (.p g) q rfl w);have hco:=callsIn_wide.1 (collect 10 187 _ (enters_of Tryz.func187 (by kernel_rfl) rfl) (by omega) (wo xs) (by rw[kN];exact hlen) _ hst);have hb:Below w.heap.size w ((w.alloc (.cells #[.p g] 156)).alloc (.cells #[.i q] 3)):=((Below.refl _ w).alloc (zm _) _).alloc (by simp) _;have ho2:=ho.xh hb;rw[kN]at hco;clear hst hx hch h ho;go_in;go_wp2_with fail;refine his.mono ?_;rintro e w' ⟨rfl,rfl⟩;go_wp2_with fail;refine hwa.mono ?_;rintro e w' ⟨rfl,rfl⟩;go_wp2_with fail;refine hco.mono ?_;rintro e w' ⟨v,rfl,hrow,hbb⟩;obtain⟨γ',ho3,hs,hk⟩:=ho2.P5 hbb hrow t;rcases hs.2 with⟨rfl,h0⟩|⟨g',cap,cur,rfl,_,hcap,_⟩
 ·have HF:Hid (∃v γ',Ending.returned (.slice none 0 0)=.returned v∧Own w0 w' γ'∧xK γ' t 3 1 v xs.length (ints (wo xs))∧∀k,k≠t→γ' k=γ k):=I ⟨_,γ',rfl,ho3,hs.qN,hk⟩;clear hs hrow ho3 ho2 hbb hb;go_wp2_with fail;refine(dG _ _).mono ?_;rintro e w' ⟨rfl,rfl⟩;go_wp2_with fail;go_ret;exact HF.out
 ·have HF:Hid (∃v γ',Ending.returned (.slice (zb g') xs.length xs.length)=.returned v∧Own w0 w' γ'∧xK γ' t 3 1 v xs.length (ints (wo xs))∧∀k,k≠t→γ' k=γ k):=I ⟨_,γ',rfl,ho3,hs.clip,hk⟩;clear hs hrow ho3 ho2 hbb hb;go_wp2_with fail;refine(fI _ _ _ _ hcap hlen).mono ?_;rintro e w' ⟨rfl,rfl⟩;go_wp2_with fail;go_ret;exact HF.out
end
end
section
open Go.RowKit Go.WideShapes
theorem Tm(c:Nat)(w:World):(binOp .eql 61 (.slice none 0 c) (.slice none 0 0)).run Tryz.prog w=.ok (.bool true) w:=by kernel_rfl
theorem VM(a:Addr)(n cap:Nat)(w:World):(binOp .eql 61 (.slice (some a) n cap) (.slice none 0 0)).run Tryz.prog w=.ok (.bool false) w:=by kernel_rfl
def wg(P:(U)→Prop)(w0:World)(γ:U)(b:Nat)(r:Value)(e:Ending)(w':World):Prop:=
 e=.returned r∧∃γ',Own w0 w' γ'∧P γ'∧∀k,(k<b∨b+7≤k)→γ' k=γ k
def xY(P:(U)→Prop)(w0:World)(γ:U)(b q:Nat)(mk:Value→Value)(got:List Int)(e:Ending)(w':World):Prop:=
 ∃v γ',e=.returned (mk v)∧Own w0 w' γ'∧P γ'∧xK γ' q 3 1 v got.length (ints got)∧∀k,(k<b∨b+7≤k)→k≠q→γ' k=γ k
section
variable {w0 w:World} {γ:U} {ts t n:Nat} {v:Value} {l:List Int}
theorem ZH(hs:yR γ ts 3 1 v n (ints l))(ho:Own w0 w γ)(hn:n≤1000)(t:Nat)(ht:t≠ts):Calls Tryz.prog 270 #[v] w fun e w'=>∃v' γ',e=.returned v'∧Own w0 w' γ'∧yR γ' t 3 1 v' n (ints l)∧∀k,k≠t→γ' k=γ k:=by
 rcases hs.2 with⟨rfl,rfl⟩|⟨g,cap,cur,rfl,-⟩
 ·have hl:l=[]:=yL.1 (by have:=hs.1;simpa[ints]using this);subst hl;have HF:Hid (∃v' γ',Ending.returned (.slice none 0 0)=.returned v'∧Own w0 w γ'∧yR γ' t 3 1 v' 0 (ints [])∧∀k,k≠t→γ' k=γ k):=by
   refine I ⟨_,fun k=>if k=t then none else γ k,rfl,ho.less fun k x hx=>?_,yR.nil _ _ _ _,fun k hk=>if_neg hk⟩;by_cases e:k=t
   ·simp[e]at hx
   ·simpa[e]using hx
  have hb:=Tm 0 w;clear hs ho;go_in;go_wp2_with fail;go_ret;exact HF.out
 ·have h1:=ho.new t (.cells #[] 3);have hb:=VM (zc g 0) n cap w;have HO:=I h1;have HR:Hid (Reads (w.alloc (.cells #[] 3)) 1 (.slice (zb g) n cap) n (ints l)):=I ((hs.reads ho (by intro u hu;obtain⟨x,_,rfl⟩:=yc.1 hu;rfl)).keep fun p u hp=>xU hp _);have HS:Hid (yR (put γ t w.heap.size (.cells #[] 3)) t 3 1 (.slice (zb w.heap.size) 0 0) 0 []):=I ⟨rfl,.inr ⟨_,0,_,rfl,yQ _ _ _ _,zm _,by unfold maxLen;omega,rfl,rfl⟩⟩;clear hs ho h1;go_in;go_wp2_with (at_builtin;refine xG rfl (.tmp 5) (.tmp 6) 61 rfl 3 _ 1 8 Tryz.underlying61 Tryz.tF rfl (by decide) HO.out HS.out rfl HR.out rfl ?_ ?_ ?_)
  ·unfold maxLen;omega
  ·omega
  intro A' cap' w2 γ3 hA2 ho4 hs4 hk4;have HF:Hid (∃v' γ',Ending.returned (.slice A' n cap')=.returned v'∧Own w0 w2 γ'∧yR γ' t 3 1 v' n (ints l)∧∀k,k≠t→γ' k=γ k):=I ⟨_,γ3,rfl,ho4,hs4,fun k hk=>(hk4 k hk).trans (yO _ _ _ hk)⟩;clear hs4 ho4 hk4 hA2;go_wp2_with fail;go_ret;exact HF.out
theorem tV(hs:yR γ t 3 1 v n (ints l))(hn:n≤1000):Calls Tryz.prog 111 #[v] w fun e w'=>∃v',e=.returned v'∧xK γ t 3 1 v' n (ints l)∧w=w':=by
 rcases hs.2 with⟨rfl,h0⟩|⟨g',cap,cur,rfl,_,hcap,_⟩
 ·exact(dG _ _).mono fun e w' ⟨h1,h2⟩=>⟨_,h1,hs.qN,h2⟩
 ·exact(fI _ _ _ _ hcap hn).mono fun e w' ⟨h1,h2⟩=>⟨_,h1,hs.clip,h2⟩
end
end
section
open Go.RowKit Go.WideShapes
theorem Zf(cs:Array Value)(h:0<cs.size):(Builtin.zeroCells cs 1).toList=cs.toList:=by
 apply List.ext_getElem
 ·simp[Builtin.zeroCells]
 ·intro i h1 h2;have hi:i<cs.size:=by simpa using h2
  simp[Builtin.zeroCells,Nat.mod_eq_of_lt hi,hi]
theorem fA{P:Program}(w:World)(t e ty:TypeId)(z:Value)(ht:P.underlying t=some (.slice e))(hv:∀w,(zeroValue e).run P w=.ok z w)(h0:0<z.cells.size)(h1:∀v∈z.cells.toList,v.oneCell'=true)(b o c:Nat)(hc:∀j,j<z.cells.size→(w.cell? (zc b (o+j))).isSome=true)(hf:∀j,j<z.cells.size→w.frozen? (zc b (o+j))=false):(Builtin.clear_ #[t] ty #[.slice (some (zc b o)) 1 c]).run P w=.ok (.tuple #[]) (w.setCells b o z.cells.toList):=by have hst:=run_storeCells_cells (P:=P) b o z.cells.toList 0 w (by simpa using hc) (by simpa using hf) h1;simp only[yv]at hst;simp[Builtin.clear_,run_underlying ht,hv,Zf _ h0,hst]
theorem ZW(m:Nat):∀v∈List.replicate m (Value.int .i64 0),v.oneCell'=true:=fun v hv=>by rw[List.eq_of_mem_replicate hv];rfl
theorem Tryz.Xp:(Tryz.prog.info? 270).map (fun i=>(i.zero,i.size,i.bytes))=some (some (.agg #[.i 0,.i 0]),2,16):=by kernel_rfl
theorem aj{w0 w:World}{γ:U}{t n i:Nat}{v:Value}{xs:List Value}(hs:yR γ t 270 2 v n xs)(ho:Own w0 w γ)(hn:n≤1000)(hi:i<n)(h1:∀u∈xs,u.oneCell'=true):Calls Tryz.prog 159 #[v,.i i,.i ((i:Int)+1)] w fun e w'=>∃v' γ',e=.returned v'∧Own w0 w' γ'∧yR γ' t 270 2 v' (n-1) (xs.take (i*2)++xs.drop ((i+1)*2))∧∀k,k≠t→γ' k=γ k:=by
 have hll:=hs.1;obtain⟨g,cap,cur,rfl,hg,hcap,hmax,hsz,htk⟩:∃g cap cur,v=.slice (zb g) n cap∧γ t=some (g,.cells cur 270 (0,0))∧n≤cap∧cap≤maxLen∧cur.size=cap*2∧cur.toList.take (n*2)=xs:=by
  rcases hs.2 with⟨_,h0⟩|h
  ·omega
  ·exact h
 have hcl:∀j u,xs[j]? =some u→w.cell? (zc g j)=some u:=fun j u hj=>by
  refine ho.cell hg ?_;rw[←htk,zG]at hj;split at hj
  ·simpa using hj
  ·cases hj
 obtain⟨news,hnews⟩:∃news,news=xs.drop ((i+1)*2):=⟨_,rfl⟩;have hlen:news.length=(n-(i+1))*2:=by rw[hnews,ya,hll];omega
 obtain⟨cs1,z1,z2,γ1,o1,h1',k1⟩:=Own.setCells news (i*2) w.drew γ cur ho.drew hg (by rw[hlen];omega);obtain⟨cs2,y1,y2,γ2,o2,h2,k2⟩:=Own.setCells (List.replicate 2 (.i 0)) ((n-1)*2) _ γ1 cs1 o1 h1' (by simp;omega);have hfin:∃v' γ',Ending.returned (.slice (zb g) (n-1) cap)=.returned v'∧Own w0 (((w.drew).setCells g (i*2) news).setCells g ((n-1)*2) (List.replicate 2 (.i 0))) γ'∧yR γ' t 270 2 v' (n-1) (xs.take (i*2)++xs.drop ((i+1)*2))∧∀k,k≠t→γ' k=γ k:=by
  refine⟨_,γ2,rfl,o2,⟨by rw[zr,zE,ya];omega,.inr ⟨g,cap,cs2,rfl,h2,by omega,hmax,by omega,?_⟩⟩,fun k hk=>(k2 k hk).trans (k1 k hk)⟩;have hti:cur.toList.take (i*2)=xs.take (i*2):=by rw[←htk,List.take_take,Nat.min_eq_left (by omega)]
  have hl1:(cur.toList.take (i*2)++news).length=(n-1)*2:=by rw[hti,zr,zE,hlen];omega
  have e1:cs1.toList.take ((n-1)*2)=cur.toList.take (i*2)++news:=by rw[z2];exact yz hl1
  have hl2:(cs1.toList.take ((n-1)*2)).length=(n-1)*2:=by rw[e1];exact hl1
  rw[y2,zU,yz hl2,e1,hti,hnews]
 obtain⟨i0,hi0,hz0,hz1,hz2⟩:=info_parts Tryz.Xp;have hone:∀u∈news,u.oneCell'=true:=fun u hu=>h1 u (by rw[hnews]at hu;exact List.mem_of_mem_drop hu);obtain⟨A,hA,hsrc⟩:∃A:Addr,(if cap=i+1 then some ((zc g 0):Addr)else some (zc g ((i+1)*2)))=some A∧Hid (∀(j:Nat) u,news[j]? =some u→w.drew.cell? (A.add j)=some u):=by
  by_cases h:cap=i+1
  ·refine⟨_,if_pos h,I fun j u hu=>?_⟩;have:=(zk.1 hu).1;rw[hlen]at this;omega
  ·refine⟨_,if_neg h,I fun j u hu=>?_⟩;rw[hnews,yF]at hu;rw[add_plain];exact hcl _ u hu
 have hspare:Hid (∀j,j<news.length→(w.drew.cell? (zc g (0+i*2+j))).isSome=true∧w.drew.frozen? (zc g (0+i*2+j))=false):=I fun j hj=>by have hx:∃x,cur[i*2+j]? =some x:=⟨_,zv (by omega)⟩;obtain⟨x,hx⟩:=hx;rw[show 0+i*2+j=i*2+j by omega];exact⟨by rw[ho.drew.cell hg hx];rfl,ho.drew.free hg _⟩
 have hz0':∀j,j<2→((w.drew.setCells g (i*2) news).cell? (zc g ((n-1)*2+j))).isSome=true:=fun j hj=>by have hcz:∃x,cs1[(n-1)*2+j]? =some x:=⟨_,zv (by omega)⟩;obtain⟨xz,hxz⟩:=hcz;rw[o1.cell h1' hxz];rfl
 have hclr:=fun ty=>fA (P:=Tryz.prog) (w.drew.setCells g (i*2) news) 267 270 ty (.agg #[.i 0,.i 0]) Tryz.underlying267 (by intro w;go_simp) (by decide) (ZW 2) g ((n-1)*2) (cap-(n-1)) hz0' (fun j _=>o1.free h1' _);have HF:=I hfin;have s1:Hid (news.length=(n-(i+1))*2):=I hlen;have s2:=I hone;have s4:Hid (0+i*2=i*2):=I (by omega);have s5:Hid (i+(n-(i+1))=n-1):=I (by omega);obtain⟨W1,hW1⟩:∃W1,W1=w.drew.setCells g (i*2) news:=⟨_,rfl⟩;rw[←hW1]at hclr HF;have hW:=I hW1;have hclr':(Builtin.clear_ #[267] 0 #[.slice (some (zc g ((n-1)*2))) (n-(n-1)) (cap-(n-1))]).run Tryz.prog W1=.ok (.tuple #[]) (W1.setCells g ((n-1)*2) (List.replicate 2 (.i 0))):=by rw[show n-(n-1)=1 by omega];exact hclr 0
 generalize W1.setCells g ((n-1)*2) (List.replicate 2 (.i 0))=W2 at*;have hin:(i:Int)≤(i:Int)+1:=by omega
 have hic:i≤cap:=by omega
 have hi1:(i:Int)+1≤n:=by omega
 have hi2:(0:Int)≤(i:Int)+1:=by omega
 have hjc:i+1≤cap:=by omega
 clear hfin hone hz0' k2 h2 o2 y2 y1 k1 h1' o1 z2 z1 hcl htk hsz hg hs ho hnews hlen hW1 hll h1 hclr;go_in;go_wp2_with fail;go_region_law (refine step_append_room rfl (.tmp 22) (.tmp 25) 267 rfl 270 i0 2 Tryz.underlying267 hi0 hz1 g 0 i cap (by simp[Act.eval,Act.put]) A (n-(i+1)) (cap-(i+1)) news (by simp[Act.eval,Act.put,hA]) s1.out hsrc.out s2.out (by omega) hspare.out ?_;rw[s4.out,s5.out,←hW.out]);go_wp2_with fail;go_ret;exact HF.out
theorem Tryz.Xq:(Tryz.prog.info? 282).map (fun i=>(i.zero,i.size,i.bytes))=some (some (.agg #[.i 0,.i 0,.i 0,.i 0,.i 0,.i 0,.i 0,.i 0,.i 0,.i 0]),10,80):=by kernel_rfl
theorem Vh{w0 w:World}{γ:U}{t n i:Nat}{v:Value}{xs:List Value}(hs:yR γ t 282 10 v n xs)(ho:Own w0 w γ)(hn:n≤1000)(hi:i<n)(h1:∀u∈xs,u.oneCell'=true):Calls Tryz.prog 166 #[v,.i i,.i ((i:Int)+1)] w fun e w'=>∃v' γ',e=.returned v'∧Own w0 w' γ'∧yR γ' t 282 10 v' (n-1) (xs.take (i*10)++xs.drop ((i+1)*10))∧∀k,k≠t→γ' k=γ k:=by
 have hll:=hs.1;obtain⟨g,cap,cur,rfl,hg,hcap,hmax,hsz,htk⟩:∃g cap cur,v=.slice (zb g) n cap∧γ t=some (g,.cells cur 282 (0,0))∧n≤cap∧cap≤maxLen∧cur.size=cap*10∧cur.toList.take (n*10)=xs:=by
  rcases hs.2 with⟨_,h0⟩|h
  ·omega
  ·exact h
 have hcl:∀j u,xs[j]? =some u→w.cell? (zc g j)=some u:=fun j u hj=>by
  refine ho.cell hg ?_;rw[←htk,zG]at hj;split at hj
  ·simpa using hj
  ·cases hj
 obtain⟨news,hnews⟩:∃news,news=xs.drop ((i+1)*10):=⟨_,rfl⟩;have hlen:news.length=(n-(i+1))*10:=by rw[hnews,ya,hll];omega
 obtain⟨cs1,z1,z2,γ1,o1,h1',k1⟩:=Own.setCells news (i*10) w.drew γ cur ho.drew hg (by rw[hlen];omega);obtain⟨cs2,y1,y2,γ2,o2,h2,k2⟩:=Own.setCells (List.replicate 10 (.i 0)) ((n-1)*10) _ γ1 cs1 o1 h1' (by simp;omega);have hfin:∃v' γ',Ending.returned (.slice (zb g) (n-1) cap)=.returned v'∧Own w0 (((w.drew).setCells g (i*10) news).setCells g ((n-1)*10) (List.replicate 10 (.i 0))) γ'∧yR γ' t 282 10 v' (n-1) (xs.take (i*10)++xs.drop ((i+1)*10))∧∀k,k≠t→γ' k=γ k:=by
  refine⟨_,γ2,rfl,o2,⟨by rw[zr,zE,ya];omega,.inr ⟨g,cap,cs2,rfl,h2,by omega,hmax,by omega,?_⟩⟩,fun k hk=>(k2 k hk).trans (k1 k hk)⟩;have hti:cur.toList.take (i*10)=xs.take (i*10):=by rw[←htk,List.take_take,Nat.min_eq_left (by omega)]
  have hl1:(cur.toList.take (i*10)++news).length=(n-1)*10:=by rw[hti,zr,zE,hlen];omega
  have e1:cs1.toList.take ((n-1)*10)=cur.toList.take (i*10)++news:=by rw[z2];exact yz hl1
  have hl2:(cs1.toList.take ((n-1)*10)).length=(n-1)*10:=by rw[e1];exact hl1
  rw[y2,zU,yz hl2,e1,hti,hnews]
 obtain⟨i0,hi0,hz0,hz1,hz2⟩:=info_parts Tryz.Xq;have hone:∀u∈news,u.oneCell'=true:=fun u hu=>h1 u (by rw[hnews]at hu;exact List.mem_of_mem_drop hu);obtain⟨A,hA,hsrc⟩:∃A:Addr,(if cap=i+1 then some ((zc g 0):Addr)else some (zc g ((i+1)*10)))=some A∧Hid (∀(j:Nat) u,news[j]? =some u→w.drew.cell? (A.add j)=some u):=by
  by_cases h:cap=i+1
  ·refine⟨_,if_pos h,I fun j u hu=>?_⟩;have:=(zk.1 hu).1;rw[hlen]at this;omega
  ·refine⟨_,if_neg h,I fun j u hu=>?_⟩;rw[hnews,yF]at hu;rw[add_plain];exact hcl _ u hu
 have hspare:Hid (∀j,j<news.length→(w.drew.cell? (zc g (0+i*10+j))).isSome=true∧w.drew.frozen? (zc g (0+i*10+j))=false):=I fun j hj=>by have hx:∃x,cur[i*10+j]? =some x:=⟨_,zv (by omega)⟩;obtain⟨x,hx⟩:=hx;rw[show 0+i*10+j=i*10+j by omega];exact⟨by rw[ho.drew.cell hg hx];rfl,ho.drew.free hg _⟩
 have hz0':∀j,j<10→((w.drew.setCells g (i*10) news).cell? (zc g ((n-1)*10+j))).isSome=true:=fun j hj=>by have hcz:∃x,cs1[(n-1)*10+j]? =some x:=⟨_,zv (by omega)⟩;obtain⟨xz,hxz⟩:=hcz;rw[o1.cell h1' hxz];rfl
 have hclr:=fun ty=>fA (P:=Tryz.prog) (w.drew.setCells g (i*10) news) 174 282 ty (.agg #[.i 0,.i 0,.i 0,.i 0,.i 0,.i 0,.i 0,.i 0,.i 0,.i 0]) Tryz.underlying174 (by intro w;go_simp) (by decide) (ZW 10) g ((n-1)*10) (cap-(n-1)) hz0' (fun j _=>o1.free h1' _);have HF:=I hfin;have s1:Hid (news.length=(n-(i+1))*10):=I hlen;have s2:=I hone;have s4:Hid (0+i*10=i*10):=I (by omega);have s5:Hid (i+(n-(i+1))=n-1):=I (by omega);obtain⟨W1,hW1⟩:∃W1,W1=w.drew.setCells g (i*10) news:=⟨_,rfl⟩;rw[←hW1]at hclr HF;have hW:=I hW1;have hclr':(Builtin.clear_ #[174] 0 #[.slice (some (zc g ((n-1)*10))) (n-(n-1)) (cap-(n-1))]).run Tryz.prog W1=.ok (.tuple #[]) (W1.setCells g ((n-1)*10) (List.replicate 10 (.i 0))):=by rw[show n-(n-1)=1 by omega];exact hclr 0
 generalize W1.setCells g ((n-1)*10) (List.replicate 10 (.i 0))=W2 at*;have hin:(i:Int)≤(i:Int)+1:=by omega
 have hic:i≤cap:=by omega
 have hi1:(i:Int)+1≤n:=by omega
 have hi2:(0:Int)≤(i:Int)+1:=by omega
 have hjc:i+1≤cap:=by omega
 clear hfin hone hz0' k2 h2 o2 y2 y1 k1 h1' o1 z2 z1 hcl htk hsz hg hs ho hnews hlen hW1 hll h1 hclr;go_in;go_wp2_with fail;go_region_law (refine step_append_room rfl (.tmp 22) (.tmp 25) 174 rfl 282 i0 10 Tryz.underlying174 hi0 hz1 g 0 i cap (by simp[Act.eval,Act.put]) A (n-(i+1)) (cap-(i+1)) news (by simp[Act.eval,Act.put,hA]) s1.out hsrc.out s2.out (by omega) hspare.out ?_;rw[s4.out,s5.out,←hW.out]);go_wp2_with fail;go_ret;exact HF.out
end
end Go.Proofs.YtkmamlifgbocgaaGreat
