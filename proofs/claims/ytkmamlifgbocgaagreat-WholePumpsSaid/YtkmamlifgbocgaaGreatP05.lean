/- What the program's code does, as contracts, and what follows of it, part 5: for the law's proof. -/
import Derived.Test.YtkmamlifgbocgaaGreatP00
import Derived.Test.YtkmamlifgbocgaaGreatP03
set_option linter.unusedVariables false
set_option linter.unusedSimpArgs false
set_option maxRecDepth 100000
set_option maxHeartbeats 16000000
namespace Go.Proofs.YtkmamlifgbocgaaGreat
section
open Go.RowKit Go.WideShapes
structure Gp where
 n:Int
 ws:List Int
def tK(γ:U)(b g:Nat)(m:Gp):Prop:=∃v,γ b=some (g,.cells #[.i m.n,v] 276 (0,0))∧yR γ (b+1) 3 1 v m.ws.length (ints m.ws)∧m.ws.length≤100
theorem tK.keep{γ γ':U}{b g:Nat}{m:Gp}(h:tK γ b g m)(hk:∀k,b≤k→k<b+2→γ' k=γ k):tK γ' b g m:=by obtain⟨v,h1,h2,h3⟩:=h;exact⟨v,by rw[hk _ (by omega) (by omega)];exact h1,h2.keep (hk _ (by omega) (by omega)),h3⟩
def Gp.uj(m:Gp)(x:Int):Int:=if x<1 then 1 else if x∈m.ws then 11 else if m.n=0 then 0 else 14
def Gp.pW(m:Gp)(x:Int):Int:=if x< -m.n then 11 else if 1048576-m.n<x then 13 else 0
def Gp.add(m:Gp)(x:Int):Gp:=if m.pW x=0 then(if 0<m.n+x then{m with n:=m.n+x}else⟨m.n+x,[]⟩)else m
def Gp.tv(m:Gp)(x:Int):List Int:=if m.pW x=0 then(if 0<m.n+x then []else m.ws)else []
section
variable {w0 w:World} {γ:U} {b g:Nat} {m:Gp}
theorem Pp{γ0:U}{n:Int}{v:Value}{xs:List Int}{r:Value}{e:Ending}{w':World}(h:wY w0 γ b g 276 #[.i n,v] 1 (b+1) (b+2) xs r e w')(hl:xs.length≤100):wg (fun γ'=>tK γ' b g ⟨n,xs⟩) w0 γ b r e w':=by obtain⟨rfl,v',γ',h1,h2,h3,h4⟩:=h;exact⟨rfl,γ',h1,⟨v',h2,h3,hl⟩,fun k hk=>h4 k (by omega) (by omega) (by omega)⟩
theorem Ol(ho:Own w0 w γ)(b:Nat):Calls Tryz.prog 218 #[] w fun e w'=>∃g γ',e=.returned (.p g)∧Own w0 w' γ'∧tK γ' b g ⟨0,[]⟩∧∀k,k≠b→γ' k=γ k:=by have HF:Hid (∃g γ',Ending.returned (.p w.heap.size)=.returned (.p g)∧Own w0 (w.alloc (.cells #[.i 0,.slice none 0 0] 276)) γ'∧tK γ' b g ⟨0,[]⟩∧∀k,k≠b→γ' k=γ k):=I ⟨_,_,rfl,ho.new b _,⟨_,yQ _ _ _ _,yR.nil _ _ _ _,by simp⟩,fun k hk=>yO _ _ _ hk⟩;clear ho;go_in;go_wp2_with fail;go_ret;exact HF.out
theorem Rs(h:tK γ b g m)(ho:Own w0 w γ):Calls Tryz.prog 224 #[.p g] w fun e w'=>e=.returned (.i m.n)∧w=w':=by obtain⟨v,h1,-⟩:=h;have c0:=ho.cell h1 (i:=0) (v:=.i m.n) rfl;clear h1 ho;go_in;go_wp2_with fail;go_ret;exact⟨rfl,rfl⟩
theorem Pq(h:tK γ b g m)(ho:Own w0 w γ)(x:Int)(hlt:m.ws.length<100):Calls Tryz.prog 243 #[.p g,.i x] w (wg (fun γ'=>tK γ' b g (if m.uj x=14 then{m with ws:=m.ws++[x]}else m)) w0 γ b (.i (m.uj x))):=by
 have hsame:Hid (∀r,wg (fun γ'=>tK γ' b g m) w0 γ b r (.returned r) w):=I fun r=>⟨rfl,γ,ho,h,fun _ _=>rfl⟩;obtain⟨v,h1,h2,h3⟩:=h;have c0:=ho.cell h1 (i:=0) (v:=.i m.n) rfl;have c1:=ho.cell h1 (i:=1) (v:=v) rfl;have hc:=st h2 ho (by omega) x;obtain⟨A,cap,rfl,-⟩:=h2.form;by_cases hx:x<1
 ·have d1:decide (x<1)=true:=by simpa using hx
  have e1:m.uj x=1:=if_pos hx;rw[e1,if_neg (by decide)];generalize m.ws.length=k at*;clear h1 h2 ho hx e1 hc;go_in;go_wp2_with fail;go_ret;exact hsame.out _
 ·have d1:decide (x<1)=false:=by simpa using hx
  by_cases hm:x∈m.ws
  ·have e1:m.uj x=11:=by unfold Gp.uj;rw[if_neg hx,if_pos hm]
   rw[e1,if_neg (by decide)];rw[show decide (x∈m.ws)=true by simpa using hm]at hc;generalize m.ws.length=k at*;clear h1 h2 ho hx e1 hm;go_in;go_wp2_with fail;refine hc.mono ?_;rintro e w' ⟨rfl,rfl⟩;go_wp2_with fail;go_ret;exact hsame.out _
  ·rw[show decide (x∈m.ws)=false by simpa using hm]at hc;by_cases hn:m.n=0
   ·have e1:m.uj x=0:=by unfold Gp.uj;rw[if_neg hx,if_neg hm,if_pos hn]
    rw[e1,if_neg (by decide)];rw[hn]at c0;generalize m.ws.length=k at*;clear h1 h2 ho hx e1 hm hn;go_in;go_wp2_with fail;refine hc.mono ?_;rintro e w' ⟨rfl,rfl⟩;go_wp2_with fail;go_ret;exact hsame.out _
   ·have d2:(m.n==0)=false:=by simpa using hn
    have e1:m.uj x=14:=by unfold Gp.uj;rw[if_neg hx,if_neg hm,if_neg hn]
    rw[e1,if_pos rfl];have hl:m.ws.length=m.ws.length:=rfl;obtain⟨HO,HS,HR,HF⟩:=qn (tq:=b+2) h1 (j:=1) rfl h2 ho (by omega) (by omega) (by omega) hl x;have HL:Hid ((m.ws++[x]).length≤100):=I (by simp;omega);generalize m.ws.length=k at*;clear h1 h2 ho hx e1 hm hl hn;go_in;go_wp2_with fail;refine hc.mono ?_;rintro e w' ⟨rfl,rfl⟩;go_wp2_with (at_builtin;refine xG rfl (.tmp 29) (.tmp 31) 61 rfl 3 _ 1 8 Tryz.underlying61 Tryz.tF rfl (by decide) HO.out HS.out rfl HR.out rfl ?_ ?_ ?_)
    ·unfold maxLen;omega
    ·omega
    intro A' cap' w2 γ3 hA2 ho4 hs4 hk4;obtain⟨c1',f1',HG⟩:=HF.out _ _ _ _ ho4 hs4 hk4;clear ho4 hs4 hk4 hA2 HF c0 c1;go_wp2_with fail;go_ret;exact Pp (γ0:=γ) (HG.out _) HL.out
theorem Po(h:tK γ b g m)(ho:Own w0 w γ)(x:Int):Calls Tryz.prog 117 #[.p g,.i x] w (wg (fun γ'=>tK γ' b g {m with ws:=m.ws.erase x}) w0 γ b (.bool (decide (x∈m.ws)))):=by obtain⟨v,h1,h2,h3⟩:=h;exact(Ro (tq:=b+2) h1 rfl h2 ho (by omega) h3 x).mono fun e w' hp=>Pp (γ0:=γ) hp (yn (yl) h3)
theorem Oj(h:tK γ b g m)(ho:Own w0 w γ)(x:Int)(hn:0≤m.n∧m.n≤1048576)(q:Nat)(hq:q<b∨b+8≤q):Calls Tryz.prog 254 #[.p g,.i x] w (xY (fun γ'=>tK γ' b g (m.add x)) w0 γ b q (fun v=>.tuple #[v,.i (m.pW x)]) (m.tv x)):=by
 have hsame:Hid (∀r,xY (fun γ'=>tK γ' b g m) w0 γ b q (fun v=>.tuple #[v,.i r]) [] (.returned (.tuple #[.slice none 0 0,.i r])) w):=I fun r=>⟨_,γ,rfl,ho,h,⟨by simp[ints],.inl ⟨0,rfl,rfl⟩⟩,fun _ _ _=>rfl⟩;obtain⟨v,h1,h2,h3⟩:=h;have c0:=ho.cell h1 (i:=0) (v:=.i m.n) rfl;have f0:=ho.free h1 0;by_cases hx:x< -m.n
 ·have d1:decide (x< -m.n)=true:=by simpa using hx
  have e1:m.pW x=11:=if_pos hx;have e2:m.add x=m:=if_neg (by rw[e1];decide);have e3:m.tv x=[]:=if_neg (by rw[e1];decide);rw[e1,e2,e3];generalize m.n=y at*;clear h1 h2 ho e1 e2 e3;go_in;go_wp2_with fail;go_ret2;exact hsame.out _
 ·have d1:decide (x< -m.n)=false:=by simpa using hx
  by_cases hy:1048576-m.n<x
  ·have d2:decide (1048576-m.n<x)=true:=by simpa using hy
   have e1:m.pW x=13:=by unfold Gp.pW;rw[if_neg hx,if_pos hy]
   have e2:m.add x=m:=if_neg (by rw[e1];decide);have e3:m.tv x=[]:=if_neg (by rw[e1];decide);rw[e1,e2,e3];generalize m.n=y at*;clear h1 h2 ho e1 e2 e3;go_in;go_wp2_with fail;go_ret2;exact hsame.out _
  ·have d2:decide (1048576-m.n<x)=false:=by simpa using hy
   have e1:m.pW x=0:=by unfold Gp.pW;rw[if_neg hx,if_neg hy]
   have o1:=ho.set h1 0 (.i (m.n+x));have g1:=yQ γ b g (.cells (#[Value.int .i64 m.n,v].setIfInBounds 0 (.i (m.n+x))) 276 (0,0));have s1:=h2.keep (γ':=put γ b g (.cells (#[Value.int .i64 m.n,v].setIfInBounds 0 (.i (m.n+x))) 276 (0,0))) (yO _ _ _ (by omega));by_cases hz:0<m.n+x
   ·have d3:decide (0<m.n+x)=true:=by simpa using hz
    have e2:m.add x={m with n:=m.n+x}:=by unfold Gp.add;rw[if_pos e1,if_pos hz]
    have e3:m.tv x=[]:=by unfold Gp.tv;rw[if_pos e1,if_pos hz]
    rw[e1,e2,e3];have HF:Hid (xY (fun γ'=>tK γ' b g {m with n:=m.n+x}) w0 γ b q (fun v=>.tuple #[v,.i 0]) [] (.returned (.tuple #[.slice none 0 0,.i 0])) (w.setCell (zc g 0) (.i (m.n+x)))):=I ⟨_,_,rfl,o1,⟨v,g1,s1,h3⟩,⟨by simp[ints],.inl ⟨0,rfl,rfl⟩⟩,fun k hk _=>yO _ _ _ (by omega)⟩;generalize m.n=y at*;clear h1 h2 ho e1 e2 e3 o1 g1 s1;go_in;go_wp2_with fail;go_ret2;exact HF.out
   ·have d3:decide (0<m.n+x)=false:=by simpa using hz
    have e2:m.add x=⟨m.n+x,[]⟩:=by unfold Gp.add;rw[if_pos e1,if_neg hz]
    have e3:m.tv x=m.ws:=by unfold Gp.tv;rw[if_pos e1,if_neg hz]
    rw[e1,e2,e3];have c1:=ho.cell h1 (i:=1) (v:=v) rfl;have f1:=ho.free h1 1;have o2:=o1.set g1 1 (.slice none 0 0);have hcl:=tV (w:=(w.setCell (zc g 0) (.i (m.n+x))).setCell (zc g 1) (.slice none 0 0)) h2 (by omega);have HF:Hid (∀v',xK γ (b+1) 3 1 v' m.ws.length (ints m.ws)→xY (fun γ'=>tK γ' b g ⟨m.n+x,[]⟩) w0 γ b q (fun v=>.tuple #[v,.i 0]) m.ws (.returned (.tuple #[v',.i 0])) ((w.setCell (zc g 0) (.i (m.n+x))).setCell (zc g 1) (.slice none 0 0))):=I fun v' hp=>⟨v',_,rfl,o2.mv (a:=q) (b:=b+1) (by omega),⟨_,(tL _ (by omega) (by omega)).trans (yQ _ _ _ _),yR.nil _ _ _ _,by simp⟩,by obtain⟨hp1,hp2⟩:=hp;refine⟨hp1,hp2.imp id ?_⟩;rintro⟨g',c',cur,e1,e2,e3⟩;exact⟨g',c',cur,e1,by rw[Zm,yO _ _ _ (by omega),yO _ _ _ (by omega)];exact e2,e3⟩,fun k hk hkq=>(tL _ hkq (by omega)).trans ((yO _ _ _ (by omega)).trans (yO _ _ _ (by omega)))⟩;obtain⟨A,cap,rfl,-⟩:=h2.form;generalize m.ws.length=n at*;generalize m.n=y at*;clear h1 h2 ho o1 e1 e2 e3 g1 s1 o2;go_in;go_wp2_with fail;refine hcl.mono ?_;rintro e w' ⟨v',rfl,hp,rfl⟩;obtain⟨A1,c1,rfl⟩:=hp.form;go_wp2_with fail;go_ret2;exact HF.out _ hp
end
end
section
open Go.RowKit Go.WideShapes
structure On where
 d:Int
 dO:Bool
 ws:List Int
def tR(γ:U)(b g:Nat)(m:On):Prop:=∃v,γ b=some (g,.cells #[.i m.d,.bool m.dO,v] 274 (0,0))∧yR γ (b+1) 3 1 v m.ws.length (ints m.ws)∧m.ws.length≤100
theorem tR.keep{γ γ':U}{b g:Nat}{m:On}(h:tR γ b g m)(hk:∀k,b≤k→k<b+2→γ' k=γ k):tR γ' b g m:=by obtain⟨v,h1,h2,h3⟩:=h;exact⟨v,by rw[hk _ (by omega) (by omega)];exact h1,h2.keep (hk _ (by omega) (by omega)),h3⟩
def On.xZ(m:On)(x:Int):Int:=if x<1 then 1 else if m.dO=true then 0 else if m.d=x∨x∈m.ws then 11 else if m.d=0 then 0 else 14
def On.first(m:On)(x:Int):Bool:= !decide (x<1)&& !m.dO&& !decide (m.d=x∨x∈m.ws)&&decide (m.d=0)
def On.vh(m:On)(x:Int):On:=if m.first x=true then{m with d:=x}else if m.xZ x=14 then{m with ws:=m.ws++[x]}else m
def On.qF(m:On)(x:Int):Int:=if x<1 then 1 else if m.d≠x then 11 else 0
def On.done(m:On)(x:Int):On:=if m.qF x=0 then⟨0,true,[]⟩else m
def On.su(m:On)(x:Int):List Int:=if m.qF x=0 then m.ws else []
section
variable {w0 w:World} {γ:U} {b g:Nat} {m:On}
theorem PI{γ0:U}{d:Int}{o:Bool}{v:Value}{xs:List Int}{r:Value}{e:Ending}{w':World}(h:wY w0 γ b g 274 #[.i d,.bool o,v] 2 (b+1) (b+2) xs r e w')(hl:xs.length≤100):wg (fun γ'=>tR γ' b g ⟨d,o,xs⟩) w0 γ b r e w':=by obtain⟨rfl,v',γ',h1,h2,h3,h4⟩:=h;exact⟨rfl,γ',h1,⟨v',h2,h3,hl⟩,fun k hk=>h4 k (by omega) (by omega) (by omega)⟩
theorem Oz(ho:Own w0 w γ)(b:Nat):Calls Tryz.prog 217 #[] w fun e w'=>∃g γ',e=.returned (.p g)∧Own w0 w' γ'∧tR γ' b g ⟨0,false,[]⟩∧∀k,k≠b→γ' k=γ k:=by have HF:Hid (∃g γ',Ending.returned (.p w.heap.size)=.returned (.p g)∧Own w0 (w.alloc (.cells #[.i 0,.bool false,.slice none 0 0] 274)) γ'∧tR γ' b g ⟨0,false,[]⟩∧∀k,k≠b→γ' k=γ k):=I ⟨_,_,rfl,ho.new b _,⟨_,yQ _ _ _ _,yR.nil _ _ _ _,by simp⟩,fun k hk=>yO _ _ _ hk⟩;clear ho;go_in;go_wp2_with fail;go_ret;exact HF.out
theorem Ul(h:tR γ b g m)(ho:Own w0 w γ):Calls Tryz.prog 211 #[.p g] w fun e w'=>e=.returned (.i m.d)∧w=w':=by obtain⟨v,h1,-⟩:=h;have c0:=ho.cell h1 (i:=0) (v:=.i m.d) rfl;clear h1 ho;go_in;go_wp2_with fail;go_ret;exact⟨rfl,rfl⟩
theorem PH(h:tR γ b g m)(ho:Own w0 w γ)(x:Int):Calls Tryz.prog 116 #[.p g,.i x] w (wg (fun γ'=>tR γ' b g {m with ws:=m.ws.erase x}) w0 γ b (.bool (decide (x∈m.ws)))):=by obtain⟨v,h1,h2,h3⟩:=h;exact(Rn (tq:=b+2) h1 rfl h2 ho (by omega) h3 x).mono fun e w' hp=>PI (γ0:=γ) hp (yn (yl) h3)
theorem RY(h:tR γ b g m)(ho:Own w0 w γ)(x:Int)(hlt:m.ws.length<100):Calls Tryz.prog 253 #[.p g,.i x] w (wg (fun γ'=>tR γ' b g (m.vh x)) w0 γ b (.tuple #[.bool (m.first x),.i (m.xZ x)])):=by
 have hsame:Hid (∀r,wg (fun γ'=>tR γ' b g m) w0 γ b r (.returned r) w):=I fun r=>⟨rfl,γ,ho,h,fun _ _=>rfl⟩;obtain⟨v,h1,h2,h3⟩:=h;have c0:=ho.cell h1 (i:=0) (v:=.i m.d) rfl;have f0:=ho.free h1 0;have c1:=ho.cell h1 (i:=1) (v:=.bool m.dO) rfl;have c2:=ho.cell h1 (i:=2) (v:=v) rfl;have hc:=st h2 ho (by omega) x;obtain⟨A,cap,rfl,-⟩:=h2.form;by_cases hx:x<1
 ·have d1:decide (x<1)=true:=by simpa using hx
  have e1:m.xZ x=1:=if_pos hx;have e2:m.first x=false:=by simp[On.first,hx]
  have e3:m.vh x=m:=by unfold On.vh;rw[e1,e2];rfl
  rw[e1,e2,e3];generalize m.ws.length=k at*;generalize m.d=y at*;clear h1 h2 ho hx e1 e2 e3 hc;go_in;go_wp2_with fail;go_ret2;exact hsame.out _
 ·have d1:decide (x<1)=false:=by simpa using hx
  cases hov:m.dO with
  |true=>
   have e1:m.xZ x=0:=by unfold On.xZ;rw[if_neg hx,if_pos hov]
   have e2:m.first x=false:=by simp[On.first,hov]
   have e3:m.vh x=m:=by unfold On.vh;rw[e1,e2];rfl
   rw[e1,e2,e3];rw[hov]at c1;generalize m.ws.length=k at*;generalize m.d=y at*;clear h1 h2 ho hx e1 e2 e3 hc hov;go_in;go_wp2_with fail;go_ret2;exact hsame.out _
  |false=>
   rw[hov]at c1;by_cases hd:m.d=x
   ·have d2:(m.d==x)=true:=by simpa using hd
    have e1:m.xZ x=11:=by unfold On.xZ;rw[if_neg hx,if_neg (by simp[hov]),if_pos (.inl hd)]
    have e2:m.first x=false:=by simp[On.first,hd]
    have e3:m.vh x=m:=by unfold On.vh;rw[e1,e2];rfl
    rw[e1,e2,e3];generalize m.ws.length=k at*;generalize m.d=y at*;clear h1 h2 ho hx e1 e2 e3 hc hov hd;go_in;go_wp2_with fail;go_ret2;exact hsame.out _
   ·have d2:(m.d==x)=false:=by simpa using hd
    by_cases hm:x∈m.ws
    ·have e1:m.xZ x=11:=by unfold On.xZ;rw[if_neg hx,if_neg (by simp[hov]),if_pos (.inr hm)]
     have e2:m.first x=false:=by simp[On.first,hm]
     have e3:m.vh x=m:=by unfold On.vh;rw[e1,e2];rfl
     rw[e1,e2,e3];rw[show decide (x∈m.ws)=true by simpa using hm]at hc;generalize m.ws.length=k at*;generalize m.d=y at*;clear h1 h2 ho hx e1 e2 e3 hov hd hm;go_in;go_wp2_with fail;refine hc.mono ?_;rintro e w' ⟨rfl,rfl⟩;go_wp2_with fail;go_ret2;exact hsame.out _
    ·rw[show decide (x∈m.ws)=false by simpa using hm]at hc;by_cases hz:m.d=0
     ·have e1:m.xZ x=0:=by unfold On.xZ;rw[if_neg hx,if_neg (by simp[hov]),if_neg (fun h=>h.elim hd hm),if_pos hz]
      have e2:m.first x=true:=by
       have h1:decide (m.d=x∨x∈m.ws)=false:=decide_eq_false (fun h=>h.elim hd hm);have h2:decide (m.d=0)=true:=by simpa using hz
       unfold On.first;rw[d1,hov,h1,h2];rfl
      have e3:m.vh x={m with d:=x}:=by unfold On.vh;rw[if_pos e2]
      rw[e1,e2,e3];rw[hz]at c0 d2;have HF:Hid (wg (fun γ'=>tR γ' b g {m with d:=x}) w0 γ b (.tuple #[.bool true,.i 0]) (.returned (.tuple #[.bool true,.i 0])) (w.setCell (zc g 0) (.i x))):=I ⟨rfl,_,ho.set h1 0 (.i x),⟨_,yQ _ _ _ _,h2.keep (yO _ _ _ (by omega)),h3⟩,fun k hk=>yO _ _ _ (by omega)⟩;generalize m.ws.length=k at*;clear h1 h2 ho hx e1 e2 e3 hov hd hm hz;go_in;go_wp2_with fail;refine hc.mono ?_;rintro e w' ⟨rfl,rfl⟩;go_wp2_with fail;go_ret2;exact HF.out
     ·have d3:(m.d==0)=false:=by simpa using hz
      have e1:m.xZ x=14:=by unfold On.xZ;rw[if_neg hx,if_neg (by simp[hov]),if_neg (fun h=>h.elim hd hm),if_neg hz]
      have e2:m.first x=false:=by simp[On.first,hz]
      have e3:m.vh x={m with ws:=m.ws++[x]}:=by unfold On.vh;rw[e1,e2];rfl
      rw[e1,e2,e3];have hl:m.ws.length=m.ws.length:=rfl;obtain⟨HO,HS,HR,HF⟩:=qn (tq:=b+2) h1 (j:=2) rfl h2 ho (by omega) (by omega) (by omega) hl x;have HL:Hid ((m.ws++[x]).length≤100):=I (by simp;omega);generalize m.ws.length=k at*;generalize m.d=y at*;generalize m.dO=ov at*;clear h1 h2 ho hx e1 e2 e3 hov hm hl hd hz;go_in;go_wp2_with fail;refine hc.mono ?_;rintro e w' ⟨rfl,rfl⟩;go_wp2_with (at_builtin;refine xG rfl (.tmp 47) (.tmp 49) 61 rfl 3 _ 1 8 Tryz.underlying61 Tryz.tF rfl (by decide) HO.out HS.out rfl HR.out rfl ?_ ?_ ?_)
      ·unfold maxLen;omega
      ·omega
      intro A' cap' w2 γ3 hA2 ho4 hs4 hk4;obtain⟨c1',f1',HG⟩:=HF.out _ _ _ _ ho4 hs4 hk4;clear ho4 hs4 hk4 hA2 HF c0 c1 c2;go_wp2_with fail;go_ret2;exact PI (γ0:=γ) (HG.out _) HL.out
theorem PG(h:tR γ b g m)(ho:Own w0 w γ)(x:Int)(q:Nat)(hq:q<b∨b+8≤q):Calls Tryz.prog 251 #[.p g,.i x] w (xY (fun γ'=>tR γ' b g (m.done x)) w0 γ b q (fun v=>.tuple #[v,.i (m.qF x)]) (m.su x)):=by
 have hsame:Hid (∀r,xY (fun γ'=>tR γ' b g m) w0 γ b q (fun v=>.tuple #[v,.i r]) [] (.returned (.tuple #[.slice none 0 0,.i r])) w):=I fun r=>⟨_,γ,rfl,ho,h,⟨by simp[ints],.inl ⟨0,rfl,rfl⟩⟩,fun _ _ _=>rfl⟩;obtain⟨v,h1,h2,h3⟩:=h;have c0:=ho.cell h1 (i:=0) (v:=.i m.d) rfl;by_cases hx:x<1
 ·have d1:decide (x<1)=true:=by simpa using hx
  have e1:m.qF x=1:=if_pos hx;have e2:m.done x=m:=if_neg (by rw[e1];decide);have e3:m.su x=[]:=if_neg (by rw[e1];decide);rw[e1,e2,e3];generalize m.d=y at*;clear h1 h2 ho e1 e2 e3 hx;go_in;go_wp2_with fail;go_ret2;exact hsame.out _
 ·have d1:decide (x<1)=false:=by simpa using hx
  by_cases hd:m.d=x
  ·have e1:m.qF x=0:=by unfold On.qF;rw[if_neg hx,if_neg (by simpa using hd)]
   have e2:m.done x=⟨0,true,[]⟩:=if_pos e1;have e3:m.su x=m.ws:=if_pos e1;have d2:(x != x)=false:=by simp
   rw[e1,e2,e3];rw[hd]at c0;have c1:=ho.cell h1 (i:=1) (v:=.bool m.dO) rfl;have c2:=ho.cell h1 (i:=2) (v:=v) rfl;have f0:=ho.free h1 0;have f1:=ho.free h1 1;have f2:=ho.free h1 2;obtain⟨cs',z1,z2,γ1,o1,g1,k1⟩:=Own.setCells [.i 0,.bool true,.slice none 0 0] 0 w γ _ ho h1 (by simp);have ecs:cs'=#[.i 0,.bool true,.slice none 0 0]:=by apply Array.toList_inj.1;rw[z2];rfl
   subst ecs;have hcl:=tV (w:=w.setCells g 0 [.i 0,.bool true,.slice none 0 0]) h2 (by omega);have HF:Hid (∀v',xK γ (b+1) 3 1 v' m.ws.length (ints m.ws)→xY (fun γ'=>tR γ' b g ⟨0,true,[]⟩) w0 γ b q (fun v=>.tuple #[v,.i 0]) m.ws (.returned (.tuple #[v',.i 0])) (w.setCells g 0 [.i 0,.bool true,.slice none 0 0])):=I fun v' hp=>⟨v',_,rfl,o1.mv (a:=q) (b:=b+1) (by omega),⟨_,(tL _ (by omega) (by omega)).trans g1,yR.nil _ _ _ _,by simp⟩,by obtain⟨hp1,hp2⟩:=hp;refine⟨hp1,hp2.imp id ?_⟩;rintro⟨g',c',cur,e1,e2,e3⟩;exact⟨g',c',cur,e1,by rw[Zm,k1 _ (by omega)];exact e2,e3⟩,fun k hk hkq=>(tL _ hkq (by omega)).trans (k1 _ (by omega))⟩;obtain⟨A,cap,rfl,-⟩:=h2.form;generalize m.ws.length=n at*;clear h1 h2 ho o1 e1 e2 e3 g1 k1 hx hd z1 z2;go_in;go_wp2_with fail;refine hcl.mono ?_;rintro e w' ⟨v',rfl,hp,rfl⟩;obtain⟨A1,c1,rfl⟩:=hp.form;go_wp2_with fail;go_ret2;exact HF.out _ hp
  ·have d2:(m.d != x)=true:=by simpa using hd
   have e1:m.qF x=11:=by unfold On.qF;rw[if_neg hx,if_pos hd]
   have e2:m.done x=m:=if_neg (by rw[e1];decide);have e3:m.su x=[]:=if_neg (by rw[e1];decide);rw[e1,e2,e3];generalize m.d=y at*;clear h1 h2 ho e1 e2 e3 hx hd;go_in;go_wp2_with fail;go_ret2;exact hsame.out _
end
end
section
open Go.RowKit Go.WideShapes
structure Rw where
 w:Int
 rs:List Int
 ws:List Int
 rd:List Int
def XJ(γ:U)(b g:Nat)(v1 v2 v3:Value)(m:Rw):Prop:=
 γ b=some (g,.cells #[.i m.w,v1,v2,v3] 266 (0,0))∧yR γ (b+1) 3 1 v1 m.rs.length (ints m.rs)∧yR γ (b+2) 3 1 v2 m.ws.length (ints m.ws)∧yR γ (b+3) 3 1 v3 m.rd.length (ints m.rd)∧m.rs.length+m.ws.length+m.rd.length≤100
def wZ(γ:U)(b g:Nat)(m:Rw):Prop:=∃v1 v2 v3,XJ γ b g v1 v2 v3 m
theorem wZ.keep{γ γ':U}{b g:Nat}{m:Rw}(h:wZ γ b g m)(hk:∀k,b≤k→k<b+4→γ' k=γ k):wZ γ' b g m:=by obtain⟨v1,v2,v3,h1,h2,h3,h4,h5⟩:=h;exact⟨v1,v2,v3,by rw[hk _ (by omega) (by omega)];exact h1,h2.keep (hk _ (by omega) (by omega)),h3.keep (hk _ (by omega) (by omega)),h4.keep (hk _ (by omega) (by omega)),h5⟩
def Rw.bad(m:Rw)(x:Int):Bool:=m.w==x||(decide (x∈m.rs)||(decide (x∈m.ws)||decide (x∈m.rd)))
def Rw.xV(m:Rw)(x:Int):Int:=if x<1 then 1 else if m.bad x=true then 11 else 0
def Rw.ui(m:Rw)(x:Int):Int:=if m.xV x≠0 then m.xV x else if m.w≠0∨m.ws≠[]then 12 else 0
def Rw.ql(m:Rw)(x:Int):Rw:=if m.ui x=0 then{m with rs:=m.rs++[x]}else m
def Rw.se(m:Rw)(x:Int):Int:=if m.ui x=12 then 14 else m.ui x
def Rw.rf(m:Rw)(x:Int):Rw:=if m.ui x=12 then{m with rd:=m.rd++[x]}else m.ql x
def Rw.xP(m:Rw)(x:Int):Int:=if m.xV x≠0 then m.xV x else if m.w≠0∨m.rs≠[]then 12 else 0
def Rw.wi(m:Rw)(x:Int):Rw:=if m.xP x=0 then{m with w:=x}else m
def Rw.wL(m:Rw)(x:Int):Int:=if m.xP x=12 then 14 else m.xP x
def Rw.lock(m:Rw)(x:Int):Rw:=if m.xP x=12 then{m with ws:=m.ws++[x]}else m.wi x
def Rw.hand(m:Rw):Rw×List Int:=
 if m.w≠0 then(m,[])else if m.ws=[]then({m with rs:=m.rs++m.rd,rd:=[]},m.rd)else if m.rs≠[]then(m,[])else({m with w:=m.ws.headD 0,ws:=m.ws.tail},[m.ws.headD 0])
section
variable {w0 w:World} {γ:U} {b g:Nat} {m:Rw}
theorem WC{v1 v2 v3:Value}{xs:List Int}{r:Value}{e:Ending}{w':World}(hi:XJ γ b g v1 v2 v3 m)(h:wY w0 γ b g 266 #[.i m.w,v1,v2,v3] 1 (b+1) (b+4) xs r e w')(hl:xs.length+m.ws.length+m.rd.length≤100):wg (fun γ'=>wZ γ' b g {m with rs:=xs}) w0 γ b r e w':=by obtain⟨rfl,v',γ',h1,h2,h3,h4⟩:=h;obtain⟨i1,i2,i3,i4,i5⟩:=hi;exact⟨rfl,γ',h1,⟨v',v2,v3,h2,h3,i3.keep (h4 _ (by omega) (by omega) (by omega)),i4.keep (h4 _ (by omega) (by omega) (by omega)),hl⟩,fun k hk=>h4 k (by omega) (by omega) (by omega)⟩
theorem Zp{v1 v2 v3:Value}{xs:List Int}{r:Value}{e:Ending}{w':World}(hi:XJ γ b g v1 v2 v3 m)(h:wY w0 γ b g 266 #[.i m.w,v1,v2,v3] 2 (b+2) (b+4) xs r e w')(hl:m.rs.length+xs.length+m.rd.length≤100):wg (fun γ'=>wZ γ' b g {m with ws:=xs}) w0 γ b r e w':=by obtain⟨rfl,v',γ',h1,h2,h3,h4⟩:=h;obtain⟨i1,i2,i3,i4,i5⟩:=hi;exact⟨rfl,γ',h1,⟨v1,v',v3,h2,i2.keep (h4 _ (by omega) (by omega) (by omega)),h3,i4.keep (h4 _ (by omega) (by omega) (by omega)),hl⟩,fun k hk=>h4 k (by omega) (by omega) (by omega)⟩
theorem WE{v1 v2 v3:Value}{xs:List Int}{r:Value}{e:Ending}{w':World}(hi:XJ γ b g v1 v2 v3 m)(h:wY w0 γ b g 266 #[.i m.w,v1,v2,v3] 3 (b+3) (b+4) xs r e w')(hl:m.rs.length+m.ws.length+xs.length≤100):wg (fun γ'=>wZ γ' b g {m with rd:=xs}) w0 γ b r e w':=by obtain⟨rfl,v',γ',h1,h2,h3,h4⟩:=h;obtain⟨i1,i2,i3,i4,i5⟩:=hi;exact⟨rfl,γ',h1,⟨v1,v2,v',h2,i2.keep (h4 _ (by omega) (by omega) (by omega)),i3.keep (h4 _ (by omega) (by omega) (by omega)),h3,hl⟩,fun k hk=>h4 k (by omega) (by omega) (by omega)⟩
theorem OG(ho:Own w0 w γ)(b:Nat):Calls Tryz.prog 213 #[] w fun e w'=>∃g γ',e=.returned (.p g)∧Own w0 w' γ'∧wZ γ' b g ⟨0,[],[],[]⟩∧∀k,k≠b→γ' k=γ k:=by have HF:Hid (∃g γ',Ending.returned (.p w.heap.size)=.returned (.p g)∧Own w0 (w.alloc (.cells #[.i 0,.slice none 0 0,.slice none 0 0,.slice none 0 0] 266)) γ'∧wZ γ' b g ⟨0,[],[],[]⟩∧∀k,k≠b→γ' k=γ k):=I ⟨_,_,rfl,ho.new b _,⟨_,_,_,yQ _ _ _ _,yR.nil _ _ _ _,yR.nil _ _ _ _,yR.nil _ _ _ _,by simp⟩,fun k hk=>yO _ _ _ hk⟩;clear ho;go_in;go_wp2_with fail;go_ret;exact HF.out
theorem fo(h:wZ γ b g m)(ho:Own w0 w γ):Calls Tryz.prog 209 #[.p g] w fun e w'=>e=.returned (.i m.w)∧w=w':=by obtain⟨v1,v2,v3,h1,-⟩:=h;have c0:=ho.cell h1 (i:=0) (v:=.i m.w) rfl;clear h1 ho;go_in;go_wp2_with fail;go_ret;exact⟨rfl,rfl⟩
theorem aF(h:wZ γ b g m)(ho:Own w0 w γ)(q:Nat)(hq:q<b∨b+8≤q):Calls Tryz.prog 210 #[.p g] w (xY (fun γ'=>wZ γ' b g m) w0 γ b q id m.rs):=by
 have HK:Hid (∀γ',(∀k,k≠q→γ' k=γ k)→wZ γ' b g m):=I fun γ' hk=>h.keep fun k h1 h2=>hk k (by omega);obtain⟨v,v2,v3,h1,h2,-,-,h3⟩:=h;have c0:=ho.cell h1 (i:=1) (v:=v) rfl;have h3':m.rs.length≤1000:=by omega
 have hcl:=ZH h2 ho h3' q (by omega);obtain⟨A,cap,rfl,-⟩:=h2.form;generalize hn:m.rs.length=n at*;clear h1 h2 ho h3;go_in;go_wp2_with fail;refine hcl.mono ?_;rintro e w1 ⟨v1,γ1,rfl,o1,s1,k1⟩;have HN:=I hn;clear hn;have hc2:=tV (w:=w1) s1 h3';have HO:=I o1;obtain⟨A1,c1,rfl,-⟩:=s1.form;clear s1 o1;go_wp2_with fail;refine hc2.mono ?_;rintro e w' ⟨v',rfl,hp,rfl⟩;obtain⟨A2,c2,rfl⟩:=hp.form;go_wp2_with fail;go_ret;exact⟨_,_,rfl,HO.out,HK.out _ k1,by rw[HN.out];exact hp,fun k _ hk=>k1 k hk⟩
theorem Xz(h:wZ γ b g m)(ho:Own w0 w γ)(x:Int):Calls Tryz.prog 275 #[.p g,.i x] w fun e w'=>e=.returned (.i (m.xV x))∧w=w':=by
 obtain⟨v1,v2,v3,h1,h2,h3,h4,h5⟩:=h;have c0:=ho.cell h1 (i:=0) (v:=.i m.w) rfl;have c1:=ho.cell h1 (i:=1) (v:=v1) rfl;have c2:=ho.cell h1 (i:=2) (v:=v2) rfl;have c3:=ho.cell h1 (i:=3) (v:=v3) rfl;have q1:=st h2 ho (by omega) x;have q2:=st h3 ho (by omega) x;have q3:=st h4 ho (by omega) x;obtain⟨A1,cap1,rfl,-⟩:=h2.form;obtain⟨A2,cap2,rfl,-⟩:=h3.form;obtain⟨A3,cap3,rfl,-⟩:=h4.form;have hr:m.xV x=if decide (x<1)=true then 1 else if(m.w==x||(decide (x∈m.rs)||(decide (x∈m.ws)||decide (x∈m.rd))))=true then 11 else 0:=by unfold Rw.xV Rw.bad;by_cases hx:x<1<;>simp[hx]
 generalize hd1:decide (x<1)=d1 at*;generalize hd2:(m.w==x)=d2 at*;generalize decide (x∈m.rs)=e1 at*;generalize decide (x∈m.ws)=e2 at*;generalize decide (x∈m.rd)=e3 at*;generalize m.xV x=r at*;generalize m.w=y at*;generalize m.rs.length=k1 at*;generalize m.ws.length=k2 at*;generalize m.rd.length=k3 at*;have HR:=I hr;clear h1 h2 h3 h4 h5 ho hr;cases d1
 ·cases d2
  ·cases e1
   ·cases e2
    ·cases e3;all_goals go_in;go_wp2_with fail;refine q1.mono ?_;rintro e w' ⟨rfl,rfl⟩;go_wp2_with fail;refine q2.mono ?_;rintro e w' ⟨rfl,rfl⟩;go_wp2_with fail;refine q3.mono ?_;rintro e w' ⟨rfl,rfl⟩;go_wp2_with fail;go_ret;exact⟨by rw[HR.out];rfl,rfl⟩
    ·go_in;go_wp2_with fail;refine q1.mono ?_;rintro e w' ⟨rfl,rfl⟩;go_wp2_with fail;refine q2.mono ?_;rintro e w' ⟨rfl,rfl⟩;go_wp2_with fail;go_ret;exact⟨by rw[HR.out];rfl,rfl⟩
   ·go_in;go_wp2_with fail;refine q1.mono ?_;rintro e w' ⟨rfl,rfl⟩;go_wp2_with fail;go_ret;exact⟨by rw[HR.out];rfl,rfl⟩
  ·go_in;go_wp2_with fail;go_ret;exact⟨by rw[HR.out];rfl,rfl⟩
 ·go_in;go_wp2_with fail;go_ret;exact⟨by rw[HR.out];rfl,rfl⟩
def kX(w0:World)(γ:U)(b g:Nat)(m:Rw)(r:Value)(e:Ending)(w':World):Prop:=wg (fun γ'=>wZ γ' b g m) w0 γ b r e w'
theorem gi(h:wZ γ b g m)(ho:Own w0 w γ)(x:Int)(hlt:m.rs.length+m.ws.length+m.rd.length<100):Calls Tryz.prog 232 #[.p g,.i x] w (kX w0 γ b g (m.ql x) (.i (m.ui x))):=by
 have hwr:=Xz h ho x;have hsame:Hid (∀r,kX w0 γ b g m r (.returned r) w):=I fun r=>⟨rfl,γ,ho,h,fun _ _=>rfl⟩;obtain⟨v1,v2,v3,hin⟩:=h;have hin':=hin;obtain⟨h1,h2,h3,h4,h5⟩:=hin;have c0:=ho.cell h1 (i:=0) (v:=.i m.w) rfl;have c1:=ho.cell h1 (i:=1) (v:=v1) rfl;have c2:=ho.cell h1 (i:=2) (v:=v2) rfl;by_cases hw:m.xV x=0
 ·rw[hw]at hwr;by_cases hh:m.w=0
  ·have d2:(m.w != 0)=false:=by simpa using hh
   by_cases hws:m.ws=[]
   ·have e1:m.ui x=0:=by unfold Rw.ui;rw[if_neg (by simpa using hw),if_neg (by simp[hh,hws])]
    have e2:m.ql x={m with rs:=m.rs++[x]}:=if_pos e1;rw[e1,e2];have hz:m.ws.length=0:=by rw[hws];rfl
    obtain⟨A2,cap2,rfl,-⟩:=h3.form;obtain⟨A,cap,rfl,-⟩:=h2.form;have hl:m.rs.length=m.rs.length:=rfl;obtain⟨HO,HS,HR,HF⟩:=qn (tq:=b+4) h1 (j:=1) rfl h2 ho (by omega) (by omega) (by omega) hl x;have HI:=I hin';have HL:Hid ((m.rs++[x]).length+m.ws.length+m.rd.length≤100):=I (by simp;omega);rw[hz]at c2;generalize m.rs.length=k at*;clear h1 h2 h3 h4 hin' ho e1 e2 hws hl hz hh hw;go_in;go_wp2_with fail;refine hwr.mono ?_;rintro e w' ⟨rfl,rfl⟩;go_wp2_with (at_builtin;refine xG rfl (.tmp 29) (.tmp 31) 61 rfl 3 _ 1 8 Tryz.underlying61 Tryz.tF rfl (by decide) HO.out HS.out rfl HR.out rfl ?_ ?_ ?_)
    ·unfold maxLen;omega
    ·omega
    intro A' cap' w2 γ3 hA2 ho4 hs4 hk4;obtain⟨c1',f1',HG⟩:=HF.out _ _ _ _ ho4 hs4 hk4;clear ho4 hs4 hk4 hA2 HF c0 c1 c2;go_wp2_with fail;go_ret;exact WC HI.out (HG.out _) HL.out
   ·have e1:m.ui x=12:=by unfold Rw.ui;rw[if_neg (by simpa using hw),if_pos (.inr hws)]
    have e2:m.ql x=m:=if_neg (by rw[e1];decide);rw[e1,e2];have hz:(0:Int)<m.ws.length:=by have:=yg.2 hws;omega
    have hz':decide ((0:Int)<m.ws.length)=true:=by simpa using yg.2 hws
    obtain⟨A2,cap2,rfl,-⟩:=h3.form;generalize m.ws.length=k at*;generalize m.w=y at*;clear h1 h2 h3 h4 hin' ho e1 e2 hws hw hh;go_in;go_wp2_with fail;refine hwr.mono ?_;rintro e w' ⟨rfl,rfl⟩;go_wp2_with fail;go_ret;exact hsame.out _
  ·have d2:(m.w != 0)=true:=by simpa using hh
   have e1:m.ui x=12:=by unfold Rw.ui;rw[if_neg (by simpa using hw),if_pos (.inl hh)]
   have e2:m.ql x=m:=if_neg (by rw[e1];decide);rw[e1,e2];generalize m.w=y at*;clear h1 h2 h3 h4 hin' ho e1 e2 hw hh;go_in;go_wp2_with fail;refine hwr.mono ?_;rintro e w' ⟨rfl,rfl⟩;go_wp2_with fail;go_ret;exact hsame.out _
 ·have e1:m.ui x=m.xV x:=if_pos hw;have e2:m.ql x=m:=if_neg (by rw[e1];exact hw);have d2:(m.xV x != 0)=true:=by simpa using hw
  rw[e1,e2];generalize m.xV x=y at*;clear h1 h2 h3 h4 hin' ho e1 e2 hw;go_in;go_wp2_with fail;refine hwr.mono ?_;rintro e w' ⟨rfl,rfl⟩;go_wp2_with fail;go_ret;exact hsame.out _
theorem eJ(h:wZ γ b g m)(ho:Own w0 w γ)(x:Int):Calls Tryz.prog 227 #[.p g,.i x] w (kX w0 γ b g (m.wi x) (.i (m.xP x))):=by
 have hwr:=Xz h ho x;have hsame:Hid (∀r,kX w0 γ b g m r (.returned r) w):=I fun r=>⟨rfl,γ,ho,h,fun _ _=>rfl⟩;obtain⟨v1,v2,v3,h1,h2,h3,h4,h5⟩:=h;have c0:=ho.cell h1 (i:=0) (v:=.i m.w) rfl;have f0:=ho.free h1 0;have c1:=ho.cell h1 (i:=1) (v:=v1) rfl;by_cases hw:m.xV x=0
 ·rw[hw]at hwr;by_cases hh:m.w=0
  ·have d2:(m.w != 0)=false:=by simpa using hh
   by_cases hws:m.rs=[]
   ·have e1:m.xP x=0:=by unfold Rw.xP;rw[if_neg (by simpa using hw),if_neg (by simp[hh,hws])]
    have e2:m.wi x={m with w:=x}:=if_pos e1;rw[e1,e2];have hz:m.rs.length=0:=by rw[hws];rfl
    have HF:Hid (kX w0 γ b g {m with w:=x} (.i 0) (.returned (.i 0)) (w.setCell (zc g 0) (.i x))):=I ⟨rfl,_,ho.set h1 0 (.i x),⟨v1,v2,v3,yQ _ _ _ _,h2.keep (yO _ _ _ (by omega)),h3.keep (yO _ _ _ (by omega)),h4.keep (yO _ _ _ (by omega)),h5⟩,fun k hk=>yO _ _ _ (by omega)⟩;obtain⟨A,cap,rfl,-⟩:=h2.form;rw[hz]at c1;generalize m.w=y at*;clear h1 h2 h3 h4 ho e1 e2 hws hz hh hw h5;go_in;go_wp2_with fail;refine hwr.mono ?_;rintro e w' ⟨rfl,rfl⟩;go_wp2_with fail;go_ret;exact HF.out
   ·have e1:m.xP x=12:=by unfold Rw.xP;rw[if_neg (by simpa using hw),if_pos (.inr hws)]
    have e2:m.wi x=m:=if_neg (by rw[e1];decide);rw[e1,e2];have hz':decide ((0:Int)<m.rs.length)=true:=by simpa using yg.2 hws
    have hz:(0:Int)<m.rs.length:=by have:=yg.2 hws;omega
    obtain⟨A2,cap2,rfl,-⟩:=h2.form;generalize m.rs.length=k at*;generalize m.w=y at*;clear h1 h2 h3 h4 ho e1 e2 hws hw hh h5;go_in;go_wp2_with fail;refine hwr.mono ?_;rintro e w' ⟨rfl,rfl⟩;go_wp2_with fail;go_ret;exact hsame.out _
  ·have d2:(m.w != 0)=true:=by simpa using hh
   have e1:m.xP x=12:=by unfold Rw.xP;rw[if_neg (by simpa using hw),if_pos (.inl hh)]
   have e2:m.wi x=m:=if_neg (by rw[e1];decide);rw[e1,e2];generalize m.w=y at*;clear h1 h2 h3 h4 ho e1 e2 hw hh h5;go_in;go_wp2_with fail;refine hwr.mono ?_;rintro e w' ⟨rfl,rfl⟩;go_wp2_with fail;go_ret;exact hsame.out _
 ·have e1:m.xP x=m.xV x:=if_pos hw;have e2:m.wi x=m:=if_neg (by rw[e1];exact hw);have d2:(m.xV x != 0)=true:=by simpa using hw
  rw[e1,e2];generalize m.xV x=y at*;clear h1 h2 h3 h4 ho e1 e2 hw h5;go_in;go_wp2_with fail;refine hwr.mono ?_;rintro e w' ⟨rfl,rfl⟩;go_wp2_with fail;go_ret;exact hsame.out _
end
end
section
open Go.RowKit Go.WideShapes
section
variable {w0 w:World} {γ:U} {b g:Nat} {m:Rw}
theorem R9(h:wZ γ b g m)(ho:Own w0 w γ)(x:Int)(hlt:m.rs.length+m.ws.length+m.rd.length<100):Calls Tryz.prog 235 #[.p g,.i x] w (kX w0 γ b g (m.rf x) (.i (m.se x))):=by
 have htr:=gi h ho x hlt;by_cases h12:m.ui x=12
 ·have e1:m.se x=14:=if_pos h12;have e2:m.rf x={m with rd:=m.rd++[x]}:=if_pos h12;have e3:m.ql x=m:=if_neg (by rw[h12];decide);rw[e1,e2];rw[h12,e3]at htr;clear e1 e2 e3 h12 h ho;go_in;go_wp2_with fail;refine htr.mono ?_;rintro e w1 ⟨rfl,γ1,ho1,⟨v1,v2,v3,hin⟩,hk1⟩;have HI:=I hin;obtain⟨h1,h2,h3,h4,-⟩:=hin;have c1:=ho1.cell h1 (i:=3) (v:=v3) rfl;obtain⟨A,cap,rfl,-⟩:=h4.form;have hl:m.rd.length=m.rd.length:=rfl;obtain⟨HO,HS,HR,HF⟩:=qn (tq:=b+4) h1 (j:=3) rfl h4 ho1 (by omega) (by omega) (by omega) hl x;have HL:Hid (m.rs.length+m.ws.length+(m.rd++[x]).length≤100):=I (by simp;omega);have HK:=I hk1;generalize m.rd.length=k at*;clear h1 h2 h3 h4 ho1 hk1 htr hl;go_wp2_with (at_builtin;refine xG rfl (.tmp 16) (.tmp 18) 61 rfl 3 _ 1 8 Tryz.underlying61 Tryz.tF rfl (by decide) HO.out HS.out rfl HR.out rfl ?_ ?_ ?_)
  ·unfold maxLen;omega
  ·omega
  intro A' cap' w2 γ3 hA2 ho4 hs4 hk4;obtain⟨c1',f1',HG⟩:=HF.out _ _ _ _ ho4 hs4 hk4;clear ho4 hs4 hk4 hA2 HF c1;go_wp2_with fail;go_ret;obtain⟨-,γ5,p1,p2,p3⟩:=WE HI.out (HG.out (.i 14)) HL.out;exact⟨rfl,γ5,p1,p2,fun j hj=>(p3 j hj).trans (HK.out j hj)⟩
 ·have e1:m.se x=m.ui x:=if_neg h12;have e2:m.rf x=m.ql x:=if_neg h12;have d1:(m.ui x != 12)=true:=by simpa using h12
  rw[e1,e2];generalize m.ui x=y at*;generalize m.ql x=m2 at*;clear e1 e2 h12 h ho;go_in;go_wp2_with fail;refine htr.mono ?_;rintro e w1 he;have he':=he;obtain⟨rfl,-⟩:=he;go_wp2_with fail;go_ret;exact he'
theorem PM(h:wZ γ b g m)(ho:Own w0 w γ)(x:Int)(hlt:m.rs.length+m.ws.length+m.rd.length<100):Calls Tryz.prog 231 #[.p g,.i x] w (kX w0 γ b g (m.lock x) (.i (m.wL x))):=by
 have htr:=eJ h ho x;by_cases h12:m.xP x=12
 ·have e1:m.wL x=14:=if_pos h12;have e2:m.lock x={m with ws:=m.ws++[x]}:=if_pos h12;have e3:m.wi x=m:=if_neg (by rw[h12];decide);rw[e1,e2];rw[h12,e3]at htr;clear e1 e2 e3 h12 h ho;go_in;go_wp2_with fail;refine htr.mono ?_;rintro e w1 ⟨rfl,γ1,ho1,⟨v1,v2,v3,hin⟩,hk1⟩;have HI:=I hin;obtain⟨h1,h2,h3,h4,-⟩:=hin;have c1:=ho1.cell h1 (i:=2) (v:=v2) rfl;obtain⟨A,cap,rfl,-⟩:=h3.form;have hl:m.ws.length=m.ws.length:=rfl;obtain⟨HO,HS,HR,HF⟩:=qn (tq:=b+4) h1 (j:=2) rfl h3 ho1 (by omega) (by omega) (by omega) hl x;have HL:Hid (m.rs.length+(m.ws++[x]).length+m.rd.length≤100):=I (by simp;omega);have HK:=I hk1;generalize m.ws.length=k at*;clear h1 h2 h3 h4 ho1 hk1 htr hl;go_wp2_with (at_builtin;refine xG rfl (.tmp 16) (.tmp 18) 61 rfl 3 _ 1 8 Tryz.underlying61 Tryz.tF rfl (by decide) HO.out HS.out rfl HR.out rfl ?_ ?_ ?_)
  ·unfold maxLen;omega
  ·omega
  intro A' cap' w2 γ3 hA2 ho4 hs4 hk4;obtain⟨c1',f1',HG⟩:=HF.out _ _ _ _ ho4 hs4 hk4;clear ho4 hs4 hk4 hA2 HF c1;go_wp2_with fail;go_ret;obtain⟨-,γ5,p1,p2,p3⟩:=Zp HI.out (HG.out (.i 14)) HL.out;exact⟨rfl,γ5,p1,p2,fun j hj=>(p3 j hj).trans (HK.out j hj)⟩
 ·have e1:m.wL x=m.xP x:=if_neg h12;have e2:m.lock x=m.wi x:=if_neg h12;have d1:(m.xP x != 12)=true:=by simpa using h12
  rw[e1,e2];generalize m.xP x=y at*;generalize m.wi x=m2 at*;clear e1 e2 h12 h ho;go_in;go_wp2_with fail;refine htr.mono ?_;rintro e w1 he;have he':=he;obtain⟨rfl,-⟩:=he;go_wp2_with fail;go_ret;exact he'
theorem cW(h:wZ γ b g m)(ho:Own w0 w γ)(q:Nat)(hq:q<b∨b+8≤q):Calls Tryz.prog 157 #[.p g] w (xY (fun γ'=>wZ γ' b g m.hand.1) w0 γ b q id m.hand.2):=by
 have hsame:Hid (xY (fun γ'=>wZ γ' b g m) w0 γ b q id [] (.returned (.slice none 0 0)) w):=I ⟨_,γ,rfl,ho,h,⟨by simp[ints],.inl ⟨0,rfl,rfl⟩⟩,fun _ _ _=>rfl⟩;obtain⟨v1,v2,v3,h1,h2,h3,h4,h5⟩:=h;have c0:=ho.cell h1 (i:=0) (v:=.i m.w) rfl;have c1:=ho.cell h1 (i:=1) (v:=v1) rfl;have c2:=ho.cell h1 (i:=2) (v:=v2) rfl;have c3:=ho.cell h1 (i:=3) (v:=v3) rfl;have f0:=ho.free h1 0;have f1:=ho.free h1 1;have f2:=ho.free h1 2;have f3:=ho.free h1 3;by_cases hw:m.w=0
 ·have d1:(m.w != 0)=false:=by simpa using hw
  by_cases hws:m.ws=[]
  ·have e1:m.hand=({m with rs:=m.rs++m.rd,rd:=[]},m.rd):=by unfold Rw.hand;rw[if_neg (by simpa using hw),if_pos hws]
   rw[e1];have hz:m.ws.length=0:=by rw[hws];rfl
   obtain⟨A2,cap2,rfl,-⟩:=h3.form;obtain⟨A1,cap1,rfl,-⟩:=h2.form;have HR:Hid (Reads w 1 v3 m.rd.length (ints m.rd)):=I (h4.reads ho (by intro u hu;obtain⟨x,_,rfl⟩:=yc.1 hu;rfl));have HO:=I ho;have HS:=I h2;have HC:Hid (∀w',Calls Tryz.prog 111 #[v3] w' fun e w''=>∃v',e=.returned v'∧xK γ (b+3) 3 1 v' m.rd.length (ints m.rd)∧w'=w''):=I fun w'=>tV (w:=w') h4 (by omega);have HF:Hid (∀A' cap' w2 γ3,Own w0 w2 γ3→yR γ3 (b+1) 3 1 (.slice A' (m.rs.length+m.rd.length) cap') (m.rs.length+m.rd.length) (ints m.rs++ints m.rd)→(∀k',k'≠b+1→γ3 k'=γ k')→w2.cell? (zc g 1)=some (.slice A1 m.rs.length cap1)∧w2.frozen? (zc g 1)=false∧w2.cell? (zc g 3)=some v3∧w2.frozen? (zc g 3)=false∧Hid (∀v',xK γ (b+3) 3 1 v' m.rd.length (ints m.rd)→xY (fun γ'=>wZ γ' b g {m with rs:=m.rs++m.rd,rd:=[]}) w0 γ b q id m.rd (.returned v') ((w2.setCell (zc g 1) (.slice A' (m.rs.length+m.rd.length) cap')).setCell (zc g 3) (.slice none 0 0)))):=by
    refine I fun A' cap' w2 γ3 o3 s3 k3=>?_;have g3:=(k3 b (by omega)).trans h1;have o4:=o3.set g3 1 (.slice A' (m.rs.length+m.rd.length) cap');have g4:=yQ γ3 b g (.cells (#[Value.int .i64 m.w,.slice A1 m.rs.length cap1,.slice A2 m.ws.length cap2,v3].setIfInBounds 1 (.slice A' (m.rs.length+m.rd.length) cap')) 266 (0,0));have o5:=o4.set g4 3 (.slice none 0 0);refine⟨o3.cell g3 rfl,o3.free g3 1,o3.cell g3 rfl,o3.free g3 3,I fun v' hp=>⟨v',_,rfl,o5.mv (a:=q) (b:=b+3) (by omega),⟨_,_,_,(tL _ (by omega) (by omega)).trans (yQ _ _ _ _),?_,?_,yR.nil _ _ _ _,by simp;omega⟩,?_,fun k hk hkq=>(tL _ hkq (by omega)).trans ((yO _ _ _ (by omega)).trans ((yO _ _ _ (by omega)).trans (k3 k (by omega))))⟩⟩
    ·have e:(m.rs++m.rd).length=m.rs.length+m.rd.length:=by simp
     rw[e,show ints (m.rs++m.rd)=ints m.rs++ints m.rd by simp[ints]];exact s3.keep ((tL _ (by omega) (by omega)).trans ((yO _ _ _ (by omega)).trans (yO _ _ _ (by omega))))
    ·exact h3.keep ((tL _ (by omega) (by omega)).trans ((yO _ _ _ (by omega)).trans ((yO _ _ _ (by omega)).trans (k3 _ (by omega)))))
    ·obtain⟨hp1,hp2⟩:=hp;refine⟨hp1,hp2.imp id ?_⟩;rintro⟨g',c',cur,e1,e2,e3⟩;exact⟨g',c',cur,e1,by rw[Zm,yO _ _ _ (by omega),yO _ _ _ (by omega),k3 _ (by omega)];exact e2,e3⟩
   have hle:m.rs.length+m.rd.length≤100:=by omega
   obtain⟨A3,cap3,rfl,-⟩:=h4.form;rw[hz]at c2;generalize m.rs.length=k1 at*;generalize m.rd.length=k3 at*;generalize m.w=y at*;clear h1 h2 h3 h4 ho e1 hws hz hsame h5;go_in;go_wp2_with (at_builtin;refine xG rfl (.tmp 26) (.tmp 27) 61 rfl 3 _ 1 8 Tryz.underlying61 Tryz.tF rfl (by decide) HO.out HS.out rfl HR.out rfl ?_ ?_ ?_)
   ·unfold maxLen;omega
   ·omega
   intro A' cap' w2 γ3 hA2 ho4 hs4 hk4;obtain⟨d1',d2',d3',d4',HG⟩:=HF.out _ _ _ _ ho4 hs4 hk4;clear ho4 hs4 hk4 hA2 HF c0 c1 c2 c3;go_wp2_with fail;refine(HC.out _).mono ?_;rintro e w' ⟨v',rfl,hp,rfl⟩;obtain⟨A5,c5,rfl⟩:=hp.form;go_wp2_with fail;go_ret;exact HG.out _ hp
  ·have hz:(0:Int)<m.ws.length:=by have:=yg.2 hws;omega
   have hz':(((m.ws.length:Nat):Int)==0)=false:=by simp;omega
   by_cases hrs:m.rs=[]
   ·have e1:m.hand=({m with w:=m.ws.headD 0,ws:=m.ws.tail},[m.ws.headD 0]):=by unfold Rw.hand;rw[if_neg (by simpa using hw),if_neg hws,if_neg (by simpa using hrs)]
    rw[e1];have hr0:m.rs.length=0:=by rw[hrs];rfl
    obtain⟨A1,cap1,rfl,-⟩:=h2.form;cases hwq:m.ws with
    |nil=>exact absurd hwq hws
    |cons y r=>
     rw[hwq]at h3 hz hz' h5;obtain⟨gw,cap,hv,cw⟩:=h3.at_ ho (i:=0) (by simp);subst hv;replace cw:w.cell? (zc gw 0)=some (.i y):=cw;have o1:=ho.set h1 0 (.i y);have g1:=yQ γ b g (.cells (#[Value.int .i64 m.w,.slice A1 m.rs.length cap1,.slice (zb gw) (y::r).length cap,v3].setIfInBounds 0 (.i y)) 266 (0,0));have hk1:∀k,k≠b→put γ b g (.cells (#[Value.int .i64 m.w,.slice A1 m.rs.length cap1,.slice (zb gw) (y::r).length cap,v3].setIfInBounds 0 (.i y)) 266 (0,0)) k=γ k:=fun k hk=>yO _ _ _ hk;generalize put γ b g (.cells (#[Value.int .i64 m.w,.slice A1 m.rs.length cap1,.slice (zb gw) (y::r).length cap,v3].setIfInBounds 0 (.i y)) 266 (0,0))=γ1 at*;have hdel:=sh (h3.keep (hk1 _ (by omega))) o1 (by omega) (i:=0) (by simp);rw[show(y::r).eraseIdx 0=r from rfl,show(y::r).length - 1=r.length from rfl]at hdel;have hlen:(y::r).length=r.length+1:=rfl;have HF:Hid (∀w3 γ3 A3 cap3,Own w0 w3 γ3→yR γ3 (b+2) 3 1 (.slice A3 r.length cap3) r.length (ints r)→(∀k,k≠b+2→γ3 k=γ1 k)→w3.cell? (zc g 2)=some (.slice (zb gw) (y::r).length cap)∧w3.frozen? (zc g 2)=false∧w3.cell? (zc g 0)=some (.i y)∧Hid (xY (fun γ'=>wZ γ' b g ⟨y,m.rs,r,m.rd⟩) w0 γ b q id [y] (.returned (.slice (zb ((w3.setCell (zc g 2) (.slice A3 r.length cap3)).heap.size)) 1 1)) ((w3.setCell (zc g 2) (.slice A3 r.length cap3)).alloc (.cells #[.i y] 3)))):=by
      refine I fun w3 γ3 A3 cap3 o3 s3 k3=>?_;have g3:=(k3 b (by omega)).trans g1;have o4:=o3.set g3 2 (.slice A3 r.length cap3);have o5:=o4.new q (.cells #[.i y] 3);refine⟨o3.cell g3 rfl,o3.free g3 2,o3.cell g3 rfl,I ⟨_,_,rfl,o5,⟨_,_,_,(yO _ _ _ (by omega)).trans (yQ _ _ _ _),?_,?_,?_,by simp at h5⊢;omega⟩,⟨rfl,.inr ⟨_,1,_,rfl,yQ _ _ _ _,zm _,by unfold maxLen;omega,rfl⟩⟩,fun k hk hkq=>(yO _ _ _ hkq).trans ((yO _ _ _ (by omega)).trans ((k3 k (by omega)).trans (hk1 k (by omega))))⟩⟩
      ·exact h2.keep ((yO _ _ _ (by omega)).trans ((yO _ _ _ (by omega)).trans ((k3 _ (by omega)).trans (hk1 _ (by omega)))))
      ·exact s3.keep ((yO _ _ _ (by omega)).trans (yO _ _ _ (by omega)))
      ·exact h4.keep ((yO _ _ _ (by omega)).trans ((yO _ _ _ (by omega)).trans ((k3 _ (by omega)).trans (hk1 _ (by omega)))))
     have hne:g≠gw:=by
      rintro rfl;rcases h3.2 with⟨e,_⟩|⟨g',c',cur,e,hg',_⟩
      ·cases e
      ·cases e;have:=ho.inj _ _ _ _ _ h1 hg';omega
     show Calls _ _ _ _ (xY (fun γ'=>wZ γ' b g ⟨y,m.rs,r,m.rd⟩) w0 γ b q id [y]);rw[hr0]at c1;generalize(y::r).length=k at*;generalize m.w=yy at*;clear h1 h2 h3 h4 ho e1 hws hsame h5 o1 g1 hk1;go_in;go_wp2_with fail;subst hlen;refine Calls.mono (show Calls Tryz.prog 155 #[.slice (zb gw) (r.length+1) cap,.i 0,.i 1] _ _ from hdel) ?_;rintro e w3 ⟨v3',γ3,rfl,o3,s3,k3⟩;obtain⟨A3,cap3,rfl,-⟩:=s3.form;obtain⟨d1',d2',d3',HG⟩:=HF.out _ _ _ _ o3 s3 k3;rw[show(w3.setCell (zc g 2) (.slice A3 r.length cap3)).heap.size=w3.heap.size by simp]at HG;clear o3 s3 k3 hdel HF;go_wp2_with fail;go_ret;exact HG.out
   ·have e1:m.hand=(m,[]):=by unfold Rw.hand;rw[if_neg (by simpa using hw),if_neg hws,if_pos hrs]
    rw[e1];have hy:(0:Int)<m.rs.length:=by have:=yg.2 hrs;omega
    obtain⟨A2,cap2,rfl,-⟩:=h3.form;obtain⟨A1,cap1,rfl,-⟩:=h2.form;generalize m.ws.length=k at*;generalize m.rs.length=k1 at*;generalize m.w=y at*;clear h1 h2 h3 h4 ho e1 hws h5;go_in;go_wp2_with fail;go_ret;exact hsame.out
 ·have d1:(m.w != 0)=true:=by simpa using hw
  have e1:m.hand=(m,[]):=if_pos hw;rw[e1];generalize m.w=y at*;clear h1 h2 h3 h4 ho e1 h5;go_in;go_wp2_with fail;go_ret;exact hsame.out
end
end
section
open Go.RowKit Go.WideShapes
theorem xY.of{P:(U)→Prop}{w0:World}{γ γ1:U}{b q:Nat}{mk:Value→Value}{got:List Int}{e:Ending}{w':World}(h:xY P w0 γ1 b q mk got e w')(hk:∀k,(k<b∨b+7≤k)→γ1 k=γ k):xY P w0 γ b q mk got e w':=by obtain⟨v,γ',h1,h2,h3,h4,h5⟩:=h;exact⟨v,γ',h1,h2,h3,h4,fun k h6 h7=>(h5 k h6 h7).trans (hk k h6)⟩
def Rw.sH(m:Rw)(x:Int):Int:=if x<1 then 1 else if x∈m.rs then 0 else 11
def Rw.vI(m:Rw)(x:Int):Rw×List Int:=if m.sH x=0 then Rw.hand {m with rs:=m.rs.erase x}else(m,[])
def Rw.wB(m:Rw)(x:Int):Int:=if x<1 then 1 else if m.w≠x then 11 else 0
def Rw.unlock(m:Rw)(x:Int):Rw×List Int:=if m.wB x=0 then Rw.hand {m with w:=0}else(m,[])
def Rw.drop(m:Rw)(x:Int):Rw×List Int:=if x∈m.ws then Rw.hand {m with ws:=m.ws.erase x}else if x∈m.rd then Rw.hand {m with rd:=m.rd.erase x}else(m,[])
def Rw.waits(m:Rw)(x:Int):Bool:=decide (x∈m.ws)||decide (x∈m.rd)
section
variable {w0 w:World} {γ:U} {b g:Nat} {m:Rw}
theorem Ux(h:wZ γ b g m)(ho:Own w0 w γ)(x:Int)(q:Nat)(hq:q<b∨b+8≤q):Calls Tryz.prog 233 #[.p g,.i x] w (xY (fun γ'=>wZ γ' b g (m.vI x).1) w0 γ b q (fun v=>.tuple #[v,.i (m.sH x)]) (m.vI x).2):=by
 have hsame:Hid (∀r,xY (fun γ'=>wZ γ' b g m) w0 γ b q (fun v=>.tuple #[v,.i r]) [] (.returned (.tuple #[.slice none 0 0,.i r])) w):=I fun r=>⟨_,γ,rfl,ho,h,⟨by simp[ints],.inl ⟨0,rfl,rfl⟩⟩,fun _ _ _=>rfl⟩;obtain⟨v1,v2,v3,hin⟩:=h;have hin':=hin;obtain⟨h1,h2,h3,h4,h5⟩:=hin;have hd:=eE (tq:=b+4) h1 (j:=1) rfl h2 ho (by omega) (by omega) x;by_cases hx:x<1
 ·have d1:decide (x<1)=true:=by simpa using hx
  have e1:m.sH x=1:=if_pos hx;have e2:m.vI x=(m,[]):=if_neg (by rw[e1];decide);rw[e1,e2];clear h1 h2 h3 h4 h5 hin' ho e1 e2 hx hd;go_in;go_wp2_with fail;go_ret2;exact hsame.out _
 ·have d1:decide (x<1)=false:=by simpa using hx
  by_cases hm:x∈m.rs
  ·have e1:m.sH x=0:=by unfold Rw.sH;rw[if_neg hx,if_pos hm]
   have e2:m.vI x=Rw.hand {m with rs:=m.rs.erase x}:=if_pos e1;rw[e1,e2];rw[show decide (x∈m.rs)=true by simpa using hm]at hd;have HI:=I hin';have HL:Hid ((m.rs.erase x).length+m.ws.length+m.rd.length≤100):=I (by have:=yl (a:=x) (l:=m.rs);omega);clear h1 h2 h3 h4 h5 hin' ho e1 e2 hx hm;go_in;go_wp2_with fail;refine hd.mono ?_;rintro e w1 hp;obtain⟨rfl,γ1,o1,r1,k1⟩:=WC HI.out hp HL.out;have hh:=cW r1 o1 q hq;have HK:=I k1;clear o1 r1 k1 hp hsame hd;go_wp2_with fail;refine hh.mono ?_;rintro e w2 hg;have HG:=I (hg.of HK.out);obtain⟨v,γ2,rfl,-,-,hpv,-⟩:=hg;obtain⟨A,c,rfl⟩:=hpv.form;clear hpv hh;go_wp2_with fail;go_ret2;obtain⟨v',γ3,p1,p2⟩:=HG.out;cases p1;exact⟨_,γ3,rfl,p2⟩
  ·have e1:m.sH x=11:=by unfold Rw.sH;rw[if_neg hx,if_neg hm]
   have e2:m.vI x=(m,[]):=if_neg (by rw[e1];decide);rw[e1,e2];rw[show decide (x∈m.rs)=false by simpa using hm,zS hm]at hd;have HI:=I hin';have HL:=I h5;clear h1 h2 h3 h4 h5 hin' ho e1 e2 hx hm;go_in;go_wp2_with fail;refine hd.mono ?_;rintro e w1 hp;obtain⟨rfl,γ1,o1,r1,k1⟩:=WC HI.out hp HL.out;have HF:Hid (xY (fun γ'=>wZ γ' b g m) w0 γ b q (fun v=>.tuple #[v,.i 11]) [] (.returned (.tuple #[.slice none 0 0,.i 11])) w1):=I ⟨_,γ1,rfl,o1,r1,⟨by simp[ints],.inl ⟨0,rfl,rfl⟩⟩,fun k hk _=>k1 k hk⟩;clear o1 r1 k1 hp hsame hd;go_wp2_with fail;go_ret2;exact HF.out
theorem T0(h:wZ γ b g m)(ho:Own w0 w γ)(x:Int)(q:Nat)(hq:q<b∨b+8≤q):Calls Tryz.prog 228 #[.p g,.i x] w (xY (fun γ'=>wZ γ' b g (m.unlock x).1) w0 γ b q (fun v=>.tuple #[v,.i (m.wB x)]) (m.unlock x).2):=by
 have hsame:Hid (∀r,xY (fun γ'=>wZ γ' b g m) w0 γ b q (fun v=>.tuple #[v,.i r]) [] (.returned (.tuple #[.slice none 0 0,.i r])) w):=I fun r=>⟨_,γ,rfl,ho,h,⟨by simp[ints],.inl ⟨0,rfl,rfl⟩⟩,fun _ _ _=>rfl⟩;obtain⟨v1,v2,v3,h1,h2,h3,h4,h5⟩:=h;have c0:=ho.cell h1 (i:=0) (v:=.i m.w) rfl;have f0:=ho.free h1 0;by_cases hx:x<1
 ·have d1:decide (x<1)=true:=by simpa using hx
  have e1:m.wB x=1:=if_pos hx;have e2:m.unlock x=(m,[]):=if_neg (by rw[e1];decide);rw[e1,e2];generalize m.w=y at*;clear h1 h2 h3 h4 h5 ho e1 e2 hx;go_in;go_wp2_with fail;go_ret2;exact hsame.out _
 ·have d1:decide (x<1)=false:=by simpa using hx
  by_cases hm:m.w=x
  ·have e1:m.wB x=0:=by unfold Rw.wB;rw[if_neg hx,if_neg (by simpa using hm)]
   have e2:m.unlock x=Rw.hand {m with w:=0}:=if_pos e1;have d2:(x != x)=false:=by simp
   rw[e1,e2];have o1:=ho.set h1 0 (.i 0);have r1:wZ (put γ b g (.cells (#[Value.int .i64 m.w,v1,v2,v3].setIfInBounds 0 (.i 0)) 266 (0,0))) b g {m with w:=0}:=⟨v1,v2,v3,yQ _ _ _ _,h2.keep (yO _ _ _ (by omega)),h3.keep (yO _ _ _ (by omega)),h4.keep (yO _ _ _ (by omega)),h5⟩;have hh:=cW r1 o1 q hq;have HK:Hid (∀k,(k<b∨b+7≤k)→put γ b g (.cells (#[Value.int .i64 m.w,v1,v2,v3].setIfInBounds 0 (.i 0)) 266 (0,0)) k=γ k):=I fun k hk=>yO _ _ _ (by omega);generalize put γ b g (.cells (#[Value.int .i64 m.w,v1,v2,v3].setIfInBounds 0 (.i 0)) 266 (0,0))=γ1 at*;rw[hm]at c0;clear h1 h2 h3 h4 h5 ho e1 e2 hx hm o1 r1 hsame;go_in;go_wp2_with fail;refine hh.mono ?_;rintro e w2 hg;have HG:=I (hg.of HK.out);obtain⟨v,γ2,rfl,-,-,hpv,-⟩:=hg;obtain⟨A,c,rfl⟩:=hpv.form;clear hpv hh;go_wp2_with fail;go_ret2;obtain⟨v',γ3,p1,p2⟩:=HG.out;cases p1;exact⟨_,γ3,rfl,p2⟩
  ·have e1:m.wB x=11:=by unfold Rw.wB;rw[if_neg hx,if_pos hm]
   have e2:m.unlock x=(m,[]):=if_neg (by rw[e1];decide);have d2:(m.w != x)=true:=by simpa using hm
   rw[e1,e2];generalize m.w=y at*;clear h1 h2 h3 h4 h5 ho e1 e2 hx hm;go_in;go_wp2_with fail;go_ret2;exact hsame.out _
theorem PL(h:wZ γ b g m)(ho:Own w0 w γ)(x:Int)(q:Nat)(hq:q<b∨b+8≤q):Calls Tryz.prog 114 #[.p g,.i x] w (xY (fun γ'=>wZ γ' b g (m.drop x).1) w0 γ b q (fun v=>.tuple #[v,.bool (m.waits x)]) (m.drop x).2):=by
 obtain⟨v1,v2,v3,hin⟩:=h;have hin':=hin;obtain⟨h1,h2,h3,h4,h5⟩:=hin;have hd:=eE (tq:=b+4) h1 (j:=2) rfl h3 ho (by omega) (by omega) x;by_cases hm:x∈m.ws
 ·have e1:m.waits x=true:=by simp[Rw.waits,hm]
  have e2:m.drop x=Rw.hand {m with ws:=m.ws.erase x}:=if_pos hm;rw[e1,e2];rw[show decide (x∈m.ws)=true by simpa using hm]at hd;have HI:=I hin';have HL:Hid (m.rs.length+(m.ws.erase x).length+m.rd.length≤100):=I (by have:=yl (a:=x) (l:=m.ws);omega);clear h1 h2 h3 h4 h5 hin' ho e1 e2 hm;go_in;go_wp2_with fail;refine hd.mono ?_;rintro e w1 hp;obtain⟨rfl,γ1,o1,r1,k1⟩:=Zp HI.out hp HL.out;have hh:=cW r1 o1 q hq;have HK:=I k1;clear o1 r1 k1 hp hd;go_wp2_with fail;refine hh.mono ?_;rintro e w2 hg;have HG:=I (hg.of HK.out);obtain⟨v,γ2,rfl,-,-,hpv,-⟩:=hg;obtain⟨A,c,rfl⟩:=hpv.form;clear hpv hh;go_wp2_with fail;go_ret2;obtain⟨v',γ3,p1,p2⟩:=HG.out;cases p1;exact⟨_,γ3,rfl,p2⟩
 ·rw[show decide (x∈m.ws)=false by simpa using hm,zS hm]at hd;have HI:=I hin';have HL:=I h5;have hw1:m.waits x=decide (x∈m.rd):=by simp[Rw.waits,hm]
  have hd1:m.drop x=if x∈m.rd then Rw.hand {m with rd:=m.rd.erase x}else(m,[]):=if_neg hm;rw[hw1,hd1];by_cases hm2:x∈m.rd
  ·rw[show decide (x∈m.rd)=true by simpa using hm2,if_pos hm2];have HL2:Hid (m.rs.length+m.ws.length+(m.rd.erase x).length≤100):=I (by have:=yl (a:=x) (l:=m.rd);omega);clear h1 h2 h3 h4 h5 hin' ho hm hw1 hd1;go_in;go_wp2_with fail;refine hd.mono ?_;rintro e w1 hp;obtain⟨rfl,γ1,o1,⟨u1,u2,u3,hin1⟩,k1⟩:=Zp HI.out hp HL.out;have HI1:=I hin1;obtain⟨h1,h2,h3,h4,h5⟩:=hin1;have hd2:=eE (tq:=b+4) h1 (j:=3) rfl h4 o1 (by omega) (show m.rd.length≤100 by have:=HL.out;omega) x;replace hd2:Calls Tryz.prog 156 #[.pointer (some (zc g 3)),.i x] w1 (wY w0 γ1 b g 266 #[.i m.w,u1,u2,u3] 3 (b+3) (b+4) (m.rd.erase x) (.bool (decide (x∈m.rd)))):=hd2;have HK:=I k1;rw[show decide (x∈m.rd)=true by simpa using hm2]at hd2;clear h1 h2 h3 h4 h5 o1 k1 hp hd hm2;go_wp2_with fail;refine hd2.mono ?_;rintro e w2 hp;obtain⟨rfl,γ2,o2,r2,k2⟩:=WE HI1.out hp HL2.out;have hh:=cW r2 o2 q hq;have HK2:=I k2;clear o2 r2 k2 hp hd2;go_wp2_with fail;refine hh.mono ?_;rintro e w3 hg;have HG:=I ((hg.of HK2.out).of HK.out);obtain⟨v,γ3,rfl,-,-,hpv,-⟩:=hg;obtain⟨A,c,rfl⟩:=hpv.form;clear hpv hh;go_wp2_with fail;go_ret2;obtain⟨v',γ4,p1,p2⟩:=HG.out;cases p1;exact⟨_,γ4,rfl,p2⟩
  ·rw[show decide (x∈m.rd)=false by simpa using hm2,if_neg hm2];clear h1 h2 h3 h4 h5 hin' ho hm hw1 hd1;go_in;go_wp2_with fail;refine hd.mono ?_;rintro e w1 hp;obtain⟨rfl,γ1,o1,⟨u1,u2,u3,hin1⟩,k1⟩:=Zp HI.out hp HL.out;have HI1:=I hin1;obtain⟨h1,h2,h3,h4,h5⟩:=hin1;have hd2:=eE (tq:=b+4) h1 (j:=3) rfl h4 o1 (by omega) (show m.rd.length≤100 by have:=HL.out;omega) x;replace hd2:Calls Tryz.prog 156 #[.pointer (some (zc g 3)),.i x] w1 (wY w0 γ1 b g 266 #[.i m.w,u1,u2,u3] 3 (b+3) (b+4) (m.rd.erase x) (.bool (decide (x∈m.rd)))):=hd2;have HK:=I k1;rw[show decide (x∈m.rd)=false by simpa using hm2,zS hm2]at hd2;clear h1 h2 h3 h4 h5 o1 k1 hp hd hm2;go_wp2_with fail;refine hd2.mono ?_;rintro e w2 hp;obtain⟨rfl,γ2,o2,r2,k2⟩:=WE HI1.out hp HL.out;have HF:Hid (xY (fun γ'=>wZ γ' b g m) w0 γ b q (fun v=>.tuple #[v,.bool false]) [] (.returned (.tuple #[.slice none 0 0,.bool false])) w2):=I ⟨_,γ2,rfl,o2,r2,⟨by simp[ints],.inl ⟨0,rfl,rfl⟩⟩,fun k hk _=>(k2 k hk).trans (HK.out k hk)⟩;clear o2 r2 k2 hp hd2;go_wp2_with fail;go_ret2;exact HF.out
end
end
end Go.Proofs.YtkmamlifgbocgaaGreat
