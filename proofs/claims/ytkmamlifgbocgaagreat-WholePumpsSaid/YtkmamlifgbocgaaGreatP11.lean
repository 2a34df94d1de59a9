/- What the program's code does, as contracts, and what follows of it, part 11: for the law's proof. -/
import Derived.Test.YtkmamlifgbocgaaGreatP00
import Derived.Test.YtkmamlifgbocgaaGreatP10
set_option linter.unusedVariables false
set_option linter.unusedSimpArgs false
set_option maxRecDepth 100000
set_option maxHeartbeats 16000000
namespace Go.Proofs.YtkmamlifgbocgaaGreat
section
open Go.RowKit Go.WideShapes
structure En where
 kind:Int
 xr:Int
 pick:Int
 op:Int
 a:Int
 b:Int
 c:Int
def En.xq(x:En):Array Value:=#[.i x.kind,.i x.xr,.i x.pick,.i x.op,.i x.a,.i x.b,.i x.c]
def En.val(x:En):Value:=.agg x.xq
def En.has(x:En):Bool:=x.op==10||(x.op==14||(x.op==20||x.op==18))
def En.uA(x:En):Int:=if x.op=10∨x.op=14∨x.op=20 then x.b else if x.op=18 then x.c else 0
def En.xM(x:En)(clock:Int):Int×Int:=
 if x.has=false then(-1,0)else if x.uA<0∨1048576<x.uA then(0,1)else if 4611686018427387904-x.uA<clock then(0,13)else(clock+x.uA,0)
def yU(n B k:Nat):Prop:=k<B∨B+200≤k∨(B+60+n≤k∧k<B+100)
theorem yU.out{n B k:Nat}(h:yU n B k):Out B k:=by unfold yU at h;unfold Out;omega
def xj(n:Nat)(w0:World)(γ:U)(B g:Nat)(p:vG)(D:Dm)(r:Value)(e:Ending)(w':World):Prop:=
 e=.returned r∧∃γ',Own w0 w' γ'∧yT γ' B g p D∧∀k,yU n B k→γ' k=γ k
section
variable {w0 w:World} {γ:U} {B g:Nat} {p:vG} {D:Dm}
theorem vD{w:World}(x:En):∀(j:Nat) v,x.xq[j]? =some v→(w.alloc (.cells x.xq 38)).cell? (zc w.heap.size j)=some v:=fun j v hj=>by rw[World.cell?_alloc_at _ _ _ _ rfl];exact hj
theorem T9(w:World)(x:En):Calls Tryz.prog 284 #[x.val] w fun e w'=>e=.returned (.tuple #[.i x.uA,.bool x.has])∧w'=w.alloc (.cells x.xq 38):=by
 have hb:=vD (w:=w) x;have c3:=hb 3 _ rfl;have c5:=hb 5 _ rfl;have c6:=hb 6 _ rfl;have hd:x.uA=if(x.op==10)=true then x.b else if(x.op==14)=true then x.b else if(x.op==20)=true then x.b else if(x.op==18)=true then x.c else 0:=by
  unfold En.uA;simp only[beq_iff_eq];by_cases h1:x.op=10
  ·simp[h1]
  ·by_cases h2:x.op=14
   ·simp[h2]
   ·by_cases h3:x.op=20
    ·simp[h3]
    ·simp[h1,h2,h3]
 have hh:x.has=((x.op==10)||((x.op==14)||((x.op==20)||(x.op==18)))):=rfl;obtain⟨k,d,pk,op,a,b,c⟩:=x;unfold En.val;unfold En.xq at c3 c5 c6⊢;simp only at hd hh c3 c5 c6⊢;generalize({kind:=k,xr:=d,pick:=pk,op:=op,a:=a,b:=b,c:=c}:En).uA=dl at*;generalize({kind:=k,xr:=d,pick:=pk,op:=op,a:=a,b:=b,c:=c}:En).has=hs at*;generalize hb1:(op==10)=b1 at*;generalize hb2:(op==14)=b2 at*;generalize hb3:(op==20)=b3 at*;generalize hb4:(op==18)=b4 at*;have HD:=I hd;have HH:=I hh;clear hd hh hb;cases b1
 ·cases b2
  ·cases b3
   ·cases b4;all_goals go_in;go_wp2_with fail;go_ret2;exact⟨by rw[HD.out,HH.out];rfl,rfl⟩
   ·go_in;go_wp2_with fail;go_ret2;exact⟨by rw[HD.out,HH.out];rfl,rfl⟩
  ·go_in;go_wp2_with fail;go_ret2;exact⟨by rw[HD.out,HH.out];rfl,rfl⟩
 ·go_in;go_wp2_with fail;go_ret2;exact⟨by rw[HD.out,HH.out];rfl,rfl⟩
theorem VB(h:yT γ B g p D)(ho:Own w0 w γ)(x:En)(hc:0≤D.clock∧D.clock≤4611686018427387904):Calls Tryz.prog 276 #[.p g,x.val] w fun e w'=>e=.returned (.tuple #[.i (x.xM D.clock).1,.i (x.xM D.clock).2])∧Below w.heap.size w w':=by
 have hti:=T9 (w.alloc (.cells x.xq 38)) x;have hb1:Below w.heap.size w (w.alloc (.cells x.xq 38)):=(Below.refl _ w).alloc (zm _) _;have hb2:Below w.heap.size w ((w.alloc (.cells x.xq 38)).alloc (.cells x.xq 38)):=hb1.alloc (by simp) _;have c8:=(ho.xh hb2).cell h.xw (i:=8) (v:=.i D.clock) rfl;have hbx:=vD (w:=w) x;have q0:=hbx 0 _ rfl;have q1:=hbx 1 _ rfl;have q2:=hbx 2 _ rfl;have q3:=hbx 3 _ rfl;have q4:=hbx 4 _ rfl;have q5:=hbx 5 _ rfl;have q6:=hbx 6 _ rfl;have HB:=I hb2;have ht:x.xM D.clock=if x.has=false then(-1,0)else if x.uA<0∨1048576<x.uA then(0,1)else if 4611686018427387904-x.uA<D.clock then(0,13)else(D.clock+x.uA,0):=rfl;generalize x.xM D.clock=tl at*;generalize hcl:D.clock=cl at*;have hval:x.val=.agg x.xq:=rfl;rw[hval]at hti⊢;generalize hdl:x.uA=dl at*;generalize hhs:x.has=hs at*;obtain⟨k,d,pk,op,a,b,c⟩:=x;unfold En.xq at*;simp only at q0 q1 q2 q3 q4 q5 q6;generalize((w.alloc (.cells #[.i k,.i d,.i pk,.i op,.i a,.i b,.i c] 38)).alloc (.cells #[.i k,.i d,.i pk,.i op,.i a,.i b,.i c] 38))=W2 at*;clear h ho hb1 hb2 hbx hval hdl hhs;cases hs with
 |false=> rw[if_pos rfl]at ht;subst ht;go_in;go_wp2_with fail;refine hti.mono ?_;rintro e w' ⟨rfl,rfl⟩;clear hti;go_wp2_with fail;go_ret2;exact⟨rfl,HB.out⟩
 |true=>
  rw[if_neg (by simp)]at ht;by_cases h1:dl<0
  ·have d1:decide (dl<0)=true:=by simpa using h1
   rw[if_pos (.inl h1)]at ht;subst ht;go_in;go_wp2_with fail;refine hti.mono ?_;rintro e w' ⟨rfl,rfl⟩;clear hti;go_wp2_with fail;go_ret2;exact⟨rfl,HB.out⟩
  ·have d1:decide (dl<0)=false:=by simpa using h1
   by_cases h2:1048576<dl
   ·have d2:decide (1048576<dl)=true:=by simpa using h2
    rw[if_pos (.inr h2)]at ht;subst ht;go_in;go_wp2_with fail;refine hti.mono ?_;rintro e w' ⟨rfl,rfl⟩;clear hti;go_wp2_with fail;go_ret2;exact⟨rfl,HB.out⟩
   ·have d2:decide (1048576<dl)=false:=by simpa using h2
    rw[if_neg (by omega)]at ht;have hc1:=hc.1;have hc2:=hc.2;by_cases h3:4611686018427387904-dl<cl
    ·have d3:decide (4611686018427387904-dl<cl)=true:=by simpa using h3
     rw[if_pos h3]at ht;subst ht;go_in;go_wp2_with fail;refine hti.mono ?_;rintro e w' ⟨rfl,rfl⟩;clear hti;go_wp2_with fail;go_ret2;exact⟨rfl,HB.out⟩
    ·have d3:decide (4611686018427387904-dl<cl)=false:=by simpa using h3
     rw[if_neg h3]at ht;subst ht;go_in;go_wp2_with fail;refine hti.mono ?_;rintro e w' ⟨rfl,rfl⟩;clear hti;go_wp2_with fail;go_ret2;exact⟨rfl,HB.out⟩
end
end
section
open Go.RowKit Go.WideShapes
def En.vL(x:En)(clock E:Int):Int:=if(x.xM clock).2=0 then E else(x.xM clock).2
def Dm.xO(D:Dm)(t:Int)(x:En)(E:Int)(D1:Dm):Dm:=if(x.xM D.clock).2=0 then(if E=14 then D1.block t x.a (x.xM D.clock).1 else D1)else D
theorem En.XG(x:En)(clock:Int):(x.xM clock).2=0→(x.xM clock).1≤4611686018427387904:=by
 unfold En.xM;by_cases h1:x.has=false
 ·rw[if_pos h1];intro _;decide
 ·rw[if_neg h1];by_cases h2:x.uA<0∨1048576<x.uA
  ·rw[if_pos h2];intro h;cases h
  ·rw[if_neg h2];by_cases h3:4611686018427387904-x.uA<clock
   ·rw[if_pos h3];intro h;cases h
   ·rw[if_neg h3];intro _;show clock+x.uA≤_;omega
theorem En.UX(x:En)(clock:Int):(x.xM clock).2=0∨(x.xM clock).2=1∨(x.xM clock).2=13:=by
 unfold En.xM;by_cases h1:x.has=false
 ·rw[if_pos h1];exact .inl rfl
 ·rw[if_neg h1];by_cases h2:x.uA<0∨1048576<x.uA
  ·rw[if_pos h2];exact .inr (.inl rfl)
  ·rw[if_neg h2];by_cases h3:4611686018427387904-x.uA<clock
   ·rw[if_pos h3];exact .inr (.inr rfl)
   ·rw[if_neg h3];exact .inl rfl
section
variable {w0 w:World} {γ:U} {B g:Nat} {p:vG} {D:Dm}
theorem yT.on(h:yT γ B g p D){t gb:Nat}{o:Obj}(ht:¬xi B t):yT (put γ t gb o) B g p D:=h.wK fun k hk=>yO _ _ _ (fun e=>ht (e ▸ hk))
def kx(w0:World)(γ:U)(B g:Nat)(p:vG)(D:Dm)(gf:Nat)(lb:Array Value)(E:Int)(D1:Dm):Prop:=
 ∀W γ',Own w0 W γ'→yT γ' B g p D→(∀k,yU 5 B k→γ' k=γ k)→Calls Tryz.prog gf lb W (xj 1 w0 γ' B g p D1 (.i E))
theorem ku(h:yT γ B g p D)(ho:Own w0 w γ)(t:Int)(x:En)(hx:t≤9223372036854775807)(hc:0≤D.clock∧D.clock≤4611686018427387904)(gf:Nat)(lb:Array Value)(eg:∀args w,(callFunc gf args).run Tryz.prog w=.ok (.enter gf args) w)(E:Int)(D1:Dm)(hp:E=14→D1.sv.ar.place t≠ -1)(want:kx w0 γ B g p D gf lb E D1):Calls Tryz.prog 229 #[.p g,.i t,x.val,.func (.func gf) #[] lb] w (xj 5 w0 γ B g p (D.xO t x E D1) (.i (x.vL D.clock E))):=by
 have o0:=ho.new (B+62) (.cells x.xq 38);have h0:yT (put γ (B+62) w.heap.size (.cells x.xq 38)) B g p D:=h.on (by unfold xi;omega);have g0:=yQ γ (B+62) w.heap.size (.cells x.xq 38);have k0:∀k,k≠B+62→put γ (B+62) w.heap.size (.cells x.xq 38) k=γ k:=fun k hk=>yO _ _ _ hk;generalize put γ (B+62) w.heap.size (.cells x.xq 38)=γ0 at*;have hti:=VB h0 o0 x hc;have q0:=o0.cell g0 (i:=0) (v:=.i x.kind) rfl;have q1:=o0.cell g0 (i:=1) (v:=.i x.xr) rfl;have q2:=o0.cell g0 (i:=2) (v:=.i x.pick) rfl;have q3:=o0.cell g0 (i:=3) (v:=.i x.op) rfl;have q4:=o0.cell g0 (i:=4) (v:=.i x.a) rfl;have q5:=o0.cell g0 (i:=5) (v:=.i x.b) rfl;have q6:=o0.cell g0 (i:=6) (v:=.i x.c) rfl;have hle:=x.XG D.clock;have hte:=x.UX D.clock;have hW:=want;have hent:∀r,D.xO t x E D1=r↔(if(x.xM D.clock).2=0 then(if E=14 then D1.block t x.a (x.xM D.clock).1 else D1)else D)=r:=fun r=>Iff.rfl;have heE:x.vL D.clock E=if(x.xM D.clock).2=0 then E else(x.xM D.clock).2:=rfl;have hen:D.xO t x E D1=if(x.xM D.clock).2=0 then(if E=14 then D1.block t x.a (x.xM D.clock).1 else D1)else D:=rfl;rw[heE,hen];generalize(x.xM D.clock).2=te at*;generalize(x.xM D.clock).1=tl at*;have hval:x.val=.agg x.xq:=rfl;have harr:x.xq=#[.i x.kind,.i x.xr,.i x.pick,.i x.op,.i x.a,.i x.b,.i x.c]:=rfl;rw[hval]at hti⊢;rw[harr]at hti o0 q0 q1 q2 q3 q4 q5 q6 g0⊢;have HO:=I o0;have H0:=I h0;have G0:=I g0;have K0:=I k0;have HWant:=I want;have HP:=I hp;clear h ho o0 h0 g0 k0 hW want hent heE hen hval harr hp;by_cases hz:te=0
 ·subst hz;rw[if_pos rfl,if_pos rfl];have htl:=hle rfl;by_cases h14:E=14
  ·subst h14;rw[if_pos rfl];go_in;go_wp2_with fail;refine hti.mono ?_;rintro e w1 ⟨rfl,hb⟩;have o1:=HO.out.xh hb;have hwa:=HWant.out w1 _ o1 H0.out (fun k hk=>K0.out k (by unfold yU at hk;omega));clear hti hb q0 q1 q2 q3 q4 q5 q6;go_wp2_with fail;refine hwa.mono ?_;rintro e w2 ⟨rfl,γ2,o2,h2,k2⟩;have ga:=o2.cell ((k2 (B+62) (by unfold yU;omega)).trans G0.out) (i:=4) (v:=.i x.a) rfl;have hbl:=Xi h2 o2 t hx (HP.out (by trivial)) x.a tl htl;have HK2:Hid (∀k,yU 5 B k→γ2 k=γ k):=I fun k hk=>(k2 k (by unfold yU at hk⊢;omega)).trans (K0.out k (by unfold yU at hk;omega));clear hwa o1 o2 h2 k2;go_wp2_with fail;refine hbl.mono ?_;rintro e w3 ⟨⟨r,rfl,-⟩,γ3,o3,h3,k3⟩;have HF:Hid (∃γ',Own w0 w3 γ'∧yT γ' B g p (D1.block t x.a tl)∧∀k,yU 5 B k→γ' k=γ k):=I ⟨γ3,o3,h3,fun k hk=>(k3 k hk.out).trans (HK2.out k hk)⟩;clear o3 h3 k3 hbl;go_wp2_with fail;go_ret;exact⟨rfl,HF.out⟩
  ·rw[if_neg h14];have d14:(E==14)=false:=by simpa using h14
   go_in;go_wp2_with fail;refine hti.mono ?_;rintro e w1 ⟨rfl,hb⟩;have o1:=HO.out.xh hb;have hwa:=HWant.out w1 _ o1 H0.out (fun k hk=>K0.out k (by unfold yU at hk;omega));clear hti hb q0 q1 q2 q3 q4 q5 q6;go_wp2_with fail;refine hwa.mono ?_;rintro e w2 ⟨rfl,γ2,o2,h2,k2⟩;have HF:Hid (∃γ',Own w0 w2 γ'∧yT γ' B g p D1∧∀k,yU 5 B k→γ' k=γ k):=I ⟨γ2,o2,h2,fun k hk=>(k2 k (by unfold yU at hk⊢;omega)).trans (K0.out k (by unfold yU at hk;omega))⟩;clear hwa o1 o2 h2 k2;go_wp2_with fail;go_ret;exact⟨rfl,HF.out⟩
 ·rw[if_neg hz,if_neg hz];have hz0:(te==0)=false:=by simpa using hz
  have hz14:(te==14)=false:=by rcases hte with rfl|rfl|rfl<;>simp_all
  go_in;go_wp2_with fail;refine hti.mono ?_;rintro e w1 ⟨rfl,hb⟩;have HZ:Hid (∃γ',Own w0 w1 γ'∧yT γ' B g p D∧∀k,yU 5 B k→γ' k=γ k):=I ⟨γ0,HO.out.xh hb,H0.out,fun k hk=>K0.out k (by unfold yU at hk;omega)⟩;clear hti hb q0 q1 q2 q3 q4 q5 q6 hle hte;go_wp2_with fail;go_ret;exact⟨rfl,HZ.out⟩
end
end
section
open Go.RowKit Go.WideShapes
def Dm.at_(D:Dm)(h:Int):Nat:=(D.av.place h).toNat
def Dm.ob(D:Dm)(h:Int):Option Ob:=D.yX.getD (D.at_ h) none
theorem jx(W:World):(Instr.typeAssert .nilIface 20 217 true).run Tryz.prog W=.ok (.tuple #[.pointer none,.bool false]) W:=by kernel_rfl
theorem qx(q:Addr)(W:World):(Instr.typeAssert (.iface 217 (.pointer (some q))) 20 217 true).run Tryz.prog W=.ok (.tuple #[.pointer (some q),.bool true]) W:=by kernel_rfl
theorem qw(q:Addr)(W:World):(Instr.typeAssert (.iface 218 (.pointer (some q))) 20 217 true).run Tryz.prog W=.ok (.tuple #[.pointer none,.bool false]) W:=by kernel_rfl
theorem pP(q:Addr)(W:World):(Instr.typeAssert (.iface 221 (.pointer (some q))) 20 217 true).run Tryz.prog W=.ok (.tuple #[.pointer none,.bool false]) W:=by kernel_rfl
theorem ju(q:Addr)(W:World):(Instr.typeAssert (.iface 223 (.pointer (some q))) 20 217 true).run Tryz.prog W=.ok (.tuple #[.pointer none,.bool false]) W:=by kernel_rfl
theorem jw(q:Addr)(W:World):(Instr.typeAssert (.iface 224 (.pointer (some q))) 20 217 true).run Tryz.prog W=.ok (.tuple #[.pointer none,.bool false]) W:=by kernel_rfl
theorem jt(q:Addr)(W:World):(Instr.typeAssert (.iface 222 (.pointer (some q))) 20 217 true).run Tryz.prog W=.ok (.tuple #[.pointer none,.bool false]) W:=by kernel_rfl
theorem jB(W:World):(Instr.typeAssert .nilIface 20 218 true).run Tryz.prog W=.ok (.tuple #[.pointer none,.bool false]) W:=by kernel_rfl
theorem UJ(q:Addr)(W:World):(Instr.typeAssert (.iface 217 (.pointer (some q))) 20 218 true).run Tryz.prog W=.ok (.tuple #[.pointer none,.bool false]) W:=by kernel_rfl
theorem rH(q:Addr)(W:World):(Instr.typeAssert (.iface 218 (.pointer (some q))) 20 218 true).run Tryz.prog W=.ok (.tuple #[.pointer (some q),.bool true]) W:=by kernel_rfl
theorem pQ(q:Addr)(W:World):(Instr.typeAssert (.iface 221 (.pointer (some q))) 20 218 true).run Tryz.prog W=.ok (.tuple #[.pointer none,.bool false]) W:=by kernel_rfl
theorem jz(q:Addr)(W:World):(Instr.typeAssert (.iface 223 (.pointer (some q))) 20 218 true).run Tryz.prog W=.ok (.tuple #[.pointer none,.bool false]) W:=by kernel_rfl
theorem jA(q:Addr)(W:World):(Instr.typeAssert (.iface 224 (.pointer (some q))) 20 218 true).run Tryz.prog W=.ok (.tuple #[.pointer none,.bool false]) W:=by kernel_rfl
theorem jy(q:Addr)(W:World):(Instr.typeAssert (.iface 222 (.pointer (some q))) 20 218 true).run Tryz.prog W=.ok (.tuple #[.pointer none,.bool false]) W:=by kernel_rfl
theorem eh(W:World):(Instr.typeAssert .nilIface 20 221 true).run Tryz.prog W=.ok (.tuple #[.pointer none,.bool false]) W:=by kernel_rfl
theorem UK(q:Addr)(W:World):(Instr.typeAssert (.iface 217 (.pointer (some q))) 20 221 true).run Tryz.prog W=.ok (.tuple #[.pointer none,.bool false]) W:=by kernel_rfl
theorem UL(q:Addr)(W:World):(Instr.typeAssert (.iface 218 (.pointer (some q))) 20 221 true).run Tryz.prog W=.ok (.tuple #[.pointer none,.bool false]) W:=by kernel_rfl
theorem jC(q:Addr)(W:World):(Instr.typeAssert (.iface 221 (.pointer (some q))) 20 221 true).run Tryz.prog W=.ok (.tuple #[.pointer (some q),.bool true]) W:=by kernel_rfl
theorem ed(q:Addr)(W:World):(Instr.typeAssert (.iface 223 (.pointer (some q))) 20 221 true).run Tryz.prog W=.ok (.tuple #[.pointer none,.bool false]) W:=by kernel_rfl
theorem ef(q:Addr)(W:World):(Instr.typeAssert (.iface 224 (.pointer (some q))) 20 221 true).run Tryz.prog W=.ok (.tuple #[.pointer none,.bool false]) W:=by kernel_rfl
theorem ec(q:Addr)(W:World):(Instr.typeAssert (.iface 222 (.pointer (some q))) 20 221 true).run Tryz.prog W=.ok (.tuple #[.pointer none,.bool false]) W:=by kernel_rfl
theorem eo(W:World):(Instr.typeAssert .nilIface 20 223 true).run Tryz.prog W=.ok (.tuple #[.pointer none,.bool false]) W:=by kernel_rfl
theorem UO(q:Addr)(W:World):(Instr.typeAssert (.iface 217 (.pointer (some q))) 20 223 true).run Tryz.prog W=.ok (.tuple #[.pointer none,.bool false]) W:=by kernel_rfl
theorem UP(q:Addr)(W:World):(Instr.typeAssert (.iface 218 (.pointer (some q))) 20 223 true).run Tryz.prog W=.ok (.tuple #[.pointer none,.bool false]) W:=by kernel_rfl
theorem UQ(q:Addr)(W:World):(Instr.typeAssert (.iface 221 (.pointer (some q))) 20 223 true).run Tryz.prog W=.ok (.tuple #[.pointer none,.bool false]) W:=by kernel_rfl
theorem jG(q:Addr)(W:World):(Instr.typeAssert (.iface 223 (.pointer (some q))) 20 223 true).run Tryz.prog W=.ok (.tuple #[.pointer (some q),.bool true]) W:=by kernel_rfl
theorem aM(q:Addr)(W:World):(Instr.typeAssert (.iface 224 (.pointer (some q))) 20 223 true).run Tryz.prog W=.ok (.tuple #[.pointer none,.bool false]) W:=by kernel_rfl
theorem UR(q:Addr)(W:World):(Instr.typeAssert (.iface 222 (.pointer (some q))) 20 223 true).run Tryz.prog W=.ok (.tuple #[.pointer none,.bool false]) W:=by kernel_rfl
theorem ep(W:World):(Instr.typeAssert .nilIface 20 224 true).run Tryz.prog W=.ok (.tuple #[.pointer none,.bool false]) W:=by kernel_rfl
theorem US(q:Addr)(W:World):(Instr.typeAssert (.iface 217 (.pointer (some q))) 20 224 true).run Tryz.prog W=.ok (.tuple #[.pointer none,.bool false]) W:=by kernel_rfl
theorem UT(q:Addr)(W:World):(Instr.typeAssert (.iface 218 (.pointer (some q))) 20 224 true).run Tryz.prog W=.ok (.tuple #[.pointer none,.bool false]) W:=by kernel_rfl
theorem UU(q:Addr)(W:World):(Instr.typeAssert (.iface 221 (.pointer (some q))) 20 224 true).run Tryz.prog W=.ok (.tuple #[.pointer none,.bool false]) W:=by kernel_rfl
theorem aO(q:Addr)(W:World):(Instr.typeAssert (.iface 223 (.pointer (some q))) 20 224 true).run Tryz.prog W=.ok (.tuple #[.pointer none,.bool false]) W:=by kernel_rfl
theorem pR(q:Addr)(W:World):(Instr.typeAssert (.iface 224 (.pointer (some q))) 20 224 true).run Tryz.prog W=.ok (.tuple #[.pointer (some q),.bool true]) W:=by kernel_rfl
theorem aN(q:Addr)(W:World):(Instr.typeAssert (.iface 222 (.pointer (some q))) 20 224 true).run Tryz.prog W=.ok (.tuple #[.pointer none,.bool false]) W:=by kernel_rfl
theorem jF(W:World):(Instr.typeAssert .nilIface 20 222 true).run Tryz.prog W=.ok (.tuple #[.pointer none,.bool false]) W:=by kernel_rfl
theorem UM(q:Addr)(W:World):(Instr.typeAssert (.iface 217 (.pointer (some q))) 20 222 true).run Tryz.prog W=.ok (.tuple #[.pointer none,.bool false]) W:=by kernel_rfl
theorem UN(q:Addr)(W:World):(Instr.typeAssert (.iface 218 (.pointer (some q))) 20 222 true).run Tryz.prog W=.ok (.tuple #[.pointer none,.bool false]) W:=by kernel_rfl
theorem aL(q:Addr)(W:World):(Instr.typeAssert (.iface 221 (.pointer (some q))) 20 222 true).run Tryz.prog W=.ok (.tuple #[.pointer none,.bool false]) W:=by kernel_rfl
theorem jD(q:Addr)(W:World):(Instr.typeAssert (.iface 223 (.pointer (some q))) 20 222 true).run Tryz.prog W=.ok (.tuple #[.pointer none,.bool false]) W:=by kernel_rfl
theorem ei(q:Addr)(W:World):(Instr.typeAssert (.iface 224 (.pointer (some q))) 20 222 true).run Tryz.prog W=.ok (.tuple #[.pointer none,.bool false]) W:=by kernel_rfl
theorem jE(q:Addr)(W:World):(Instr.typeAssert (.iface 222 (.pointer (some q))) 20 222 true).run Tryz.prog W=.ok (.tuple #[.pointer (some q),.bool true]) W:=by kernel_rfl
theorem WK(q:Addr)(W:World):(Instr.typeAssert (.iface 217 (.pointer (some q))) 20 217 false).run Tryz.prog W=.ok (.pointer (some q)) W:=by kernel_rfl
section
variable {w0 w:World} {γ:U} {B g:Nat} {p:vG} {D:Dm}
theorem wH(h:yT γ B g p D)(ho:Own w0 w γ){i:Nat}(hi:i<8):∃go c,p.vo=.slice (zb go) 8 c∧w.cell? (zc go i)=some (p.os.getD i undef)∧tr γ (B+100+8*i) (p.os.getD i undef) (D.yX.getD i none):=by obtain⟨go,c,hv,hc⟩:=h.yX.at_ ho hi;exact⟨go,c,hv,hc,h.each i hi⟩
theorem xv(h:yT γ B g p D)(x:Int)(hx:D.av.place x≠ -1):D.av.place x=(D.at_ x:Nat)∧D.at_ x<8:=by have h1:=AV.wI h.places.wV x;have h2:=h.al;unfold Dm.at_;omega
theorem rW(h:yT γ B g p D)(ho:Own w0 w γ)(x:Int)(hx:x≤9223372036854775807)(hp:D.av.place x≠ -1){u:Value}(ok:Bool){v:Value}(hv:p.os.getD (D.at_ x) undef=v)(hta:∀W:World,(Instr.typeAssert v 20 217 true).run Tryz.prog W=.ok (.tuple #[u,.bool ok]) W)(hu:ok=false→u=.pointer none):Calls Tryz.prog 215 #[.p g,.i x] w fun e w'=>e=.returned (.tuple #[u,.i (if ok=true then 0 else 8)])∧w=w':=by
 have hplc:=xS h.places ho x hx;obtain⟨hpl,hpl8⟩:=xv h x hp;generalize D.at_ x=pl at*;rw[hpl]at hplc;have c1:=ho.cell h.xw (i:=1) (v:=.p p.gp) rfl;have c2:=ho.cell h.xw (i:=2) (v:=p.vo) rfl;obtain⟨go,c,hvo,hc,-⟩:=wH h ho hpl8;rw[hv]at hc;rw[hvo]at c2;have hpl8':(pl:Int)<8:=by omega
 clear h ho hpl hv hvo hp;cases ok
 ·rw[hu rfl]at*;clear hu;go_in;go_wp2_with fail;refine hplc.mono ?_;rintro e w' ⟨rfl,rfl⟩;go_wp2_with fail;go_ret2;exact⟨rfl,rfl⟩
 ·clear hu;go_in;go_wp2_with fail;refine hplc.mono ?_;rintro e w' ⟨rfl,rfl⟩;go_wp2_with fail;go_ret2;exact⟨rfl,rfl⟩
theorem cm(h:yT γ B g p D)(ho:Own w0 w γ)(x:Int)(hx:x≤9223372036854775807)(hp:D.av.place x= -1):Calls Tryz.prog 215 #[.p g,.i x] w fun e w'=>e=.returned (.tuple #[.pointer none,.i 7])∧w=w':=by have hplc:=xS h.places ho x hx;rw[hp]at hplc;have c1:=ho.cell h.xw (i:=1) (v:=.p p.gp) rfl;clear h ho hp;go_in;go_wp2_with fail;refine hplc.mono ?_;rintro e w' ⟨rfl,rfl⟩;go_wp2_with fail;go_ret2;exact⟨rfl,rfl⟩
theorem pr(h:yT γ B g p D)(ho:Own w0 w γ)(x:Int)(hx:x≤9223372036854775807)(hp:D.av.place x≠ -1){u:Value}(ok:Bool){v:Value}(hv:p.os.getD (D.at_ x) undef=v)(hta:∀W:World,(Instr.typeAssert v 20 218 true).run Tryz.prog W=.ok (.tuple #[u,.bool ok]) W)(hu:ok=false→u=.pointer none):Calls Tryz.prog 226 #[.p g,.i x] w fun e w'=>e=.returned (.tuple #[u,.i (if ok=true then 0 else 8)])∧w=w':=by
 have hplc:=xS h.places ho x hx;obtain⟨hpl,hpl8⟩:=xv h x hp;generalize D.at_ x=pl at*;rw[hpl]at hplc;have c1:=ho.cell h.xw (i:=1) (v:=.p p.gp) rfl;have c2:=ho.cell h.xw (i:=2) (v:=p.vo) rfl;obtain⟨go,c,hvo,hc,-⟩:=wH h ho hpl8;rw[hv]at hc;rw[hvo]at c2;have hpl8':(pl:Int)<8:=by omega
 clear h ho hpl hv hvo hp;cases ok
 ·rw[hu rfl]at*;clear hu;go_in;go_wp2_with fail;refine hplc.mono ?_;rintro e w' ⟨rfl,rfl⟩;go_wp2_with fail;go_ret2;exact⟨rfl,rfl⟩
 ·clear hu;go_in;go_wp2_with fail;refine hplc.mono ?_;rintro e w' ⟨rfl,rfl⟩;go_wp2_with fail;go_ret2;exact⟨rfl,rfl⟩
theorem Wc(h:yT γ B g p D)(ho:Own w0 w γ)(x:Int)(hx:x≤9223372036854775807)(hp:D.av.place x= -1):Calls Tryz.prog 226 #[.p g,.i x] w fun e w'=>e=.returned (.tuple #[.pointer none,.i 7])∧w=w':=by have hplc:=xS h.places ho x hx;rw[hp]at hplc;have c1:=ho.cell h.xw (i:=1) (v:=.p p.gp) rfl;clear h ho hp;go_in;go_wp2_with fail;refine hplc.mono ?_;rintro e w' ⟨rfl,rfl⟩;go_wp2_with fail;go_ret2;exact⟨rfl,rfl⟩
theorem eU(h:yT γ B g p D)(ho:Own w0 w γ)(x:Int)(hx:x≤9223372036854775807)(hp:D.av.place x≠ -1){u:Value}(ok:Bool){v:Value}(hv:p.os.getD (D.at_ x) undef=v)(hta:∀W:World,(Instr.typeAssert v 20 221 true).run Tryz.prog W=.ok (.tuple #[u,.bool ok]) W)(hu:ok=false→u=.pointer none):Calls Tryz.prog 236 #[.p g,.i x] w fun e w'=>e=.returned (.tuple #[u,.i (if ok=true then 0 else 8)])∧w=w':=by
 have hplc:=xS h.places ho x hx;obtain⟨hpl,hpl8⟩:=xv h x hp;generalize D.at_ x=pl at*;rw[hpl]at hplc;have c1:=ho.cell h.xw (i:=1) (v:=.p p.gp) rfl;have c2:=ho.cell h.xw (i:=2) (v:=p.vo) rfl;obtain⟨go,c,hvo,hc,-⟩:=wH h ho hpl8;rw[hv]at hc;rw[hvo]at c2;have hpl8':(pl:Int)<8:=by omega
 clear h ho hpl hv hvo hp;cases ok
 ·rw[hu rfl]at*;clear hu;go_in;go_wp2_with fail;refine hplc.mono ?_;rintro e w' ⟨rfl,rfl⟩;go_wp2_with fail;go_ret2;exact⟨rfl,rfl⟩
 ·clear hu;go_in;go_wp2_with fail;refine hplc.mono ?_;rintro e w' ⟨rfl,rfl⟩;go_wp2_with fail;go_ret2;exact⟨rfl,rfl⟩
theorem Wd(h:yT γ B g p D)(ho:Own w0 w γ)(x:Int)(hx:x≤9223372036854775807)(hp:D.av.place x= -1):Calls Tryz.prog 236 #[.p g,.i x] w fun e w'=>e=.returned (.tuple #[.pointer none,.i 7])∧w=w':=by have hplc:=xS h.places ho x hx;rw[hp]at hplc;have c1:=ho.cell h.xw (i:=1) (v:=.p p.gp) rfl;clear h ho hp;go_in;go_wp2_with fail;refine hplc.mono ?_;rintro e w' ⟨rfl,rfl⟩;go_wp2_with fail;go_ret2;exact⟨rfl,rfl⟩
theorem rX(h:yT γ B g p D)(ho:Own w0 w γ)(x:Int)(hx:x≤9223372036854775807)(hp:D.av.place x≠ -1){u:Value}(ok:Bool){v:Value}(hv:p.os.getD (D.at_ x) undef=v)(hta:∀W:World,(Instr.typeAssert v 20 223 true).run Tryz.prog W=.ok (.tuple #[u,.bool ok]) W)(hu:ok=false→u=.pointer none):Calls Tryz.prog 241 #[.p g,.i x] w fun e w'=>e=.returned (.tuple #[u,.i (if ok=true then 0 else 8)])∧w=w':=by
 have hplc:=xS h.places ho x hx;obtain⟨hpl,hpl8⟩:=xv h x hp;generalize D.at_ x=pl at*;rw[hpl]at hplc;have c1:=ho.cell h.xw (i:=1) (v:=.p p.gp) rfl;have c2:=ho.cell h.xw (i:=2) (v:=p.vo) rfl;obtain⟨go,c,hvo,hc,-⟩:=wH h ho hpl8;rw[hv]at hc;rw[hvo]at c2;have hpl8':(pl:Int)<8:=by omega
 clear h ho hpl hv hvo hp;cases ok
 ·rw[hu rfl]at*;clear hu;go_in;go_wp2_with fail;refine hplc.mono ?_;rintro e w' ⟨rfl,rfl⟩;go_wp2_with fail;go_ret2;exact⟨rfl,rfl⟩
 ·clear hu;go_in;go_wp2_with fail;refine hplc.mono ?_;rintro e w' ⟨rfl,rfl⟩;go_wp2_with fail;go_ret2;exact⟨rfl,rfl⟩
theorem cr(h:yT γ B g p D)(ho:Own w0 w γ)(x:Int)(hx:x≤9223372036854775807)(hp:D.av.place x= -1):Calls Tryz.prog 241 #[.p g,.i x] w fun e w'=>e=.returned (.tuple #[.pointer none,.i 7])∧w=w':=by have hplc:=xS h.places ho x hx;rw[hp]at hplc;have c1:=ho.cell h.xw (i:=1) (v:=.p p.gp) rfl;clear h ho hp;go_in;go_wp2_with fail;refine hplc.mono ?_;rintro e w' ⟨rfl,rfl⟩;go_wp2_with fail;go_ret2;exact⟨rfl,rfl⟩
theorem sP(h:yT γ B g p D)(ho:Own w0 w γ)(x:Int)(hx:x≤9223372036854775807)(hp:D.av.place x≠ -1){u:Value}(ok:Bool){v:Value}(hv:p.os.getD (D.at_ x) undef=v)(hta:∀W:World,(Instr.typeAssert v 20 224 true).run Tryz.prog W=.ok (.tuple #[u,.bool ok]) W)(hu:ok=false→u=.pointer none):Calls Tryz.prog 244 #[.p g,.i x] w fun e w'=>e=.returned (.tuple #[u,.i (if ok=true then 0 else 8)])∧w=w':=by
 have hplc:=xS h.places ho x hx;obtain⟨hpl,hpl8⟩:=xv h x hp;generalize D.at_ x=pl at*;rw[hpl]at hplc;have c1:=ho.cell h.xw (i:=1) (v:=.p p.gp) rfl;have c2:=ho.cell h.xw (i:=2) (v:=p.vo) rfl;obtain⟨go,c,hvo,hc,-⟩:=wH h ho hpl8;rw[hv]at hc;rw[hvo]at c2;have hpl8':(pl:Int)<8:=by omega
 clear h ho hpl hv hvo hp;cases ok
 ·rw[hu rfl]at*;clear hu;go_in;go_wp2_with fail;refine hplc.mono ?_;rintro e w' ⟨rfl,rfl⟩;go_wp2_with fail;go_ret2;exact⟨rfl,rfl⟩
 ·clear hu;go_in;go_wp2_with fail;refine hplc.mono ?_;rintro e w' ⟨rfl,rfl⟩;go_wp2_with fail;go_ret2;exact⟨rfl,rfl⟩
theorem cB(h:yT γ B g p D)(ho:Own w0 w γ)(x:Int)(hx:x≤9223372036854775807)(hp:D.av.place x= -1):Calls Tryz.prog 244 #[.p g,.i x] w fun e w'=>e=.returned (.tuple #[.pointer none,.i 7])∧w=w':=by have hplc:=xS h.places ho x hx;rw[hp]at hplc;have c1:=ho.cell h.xw (i:=1) (v:=.p p.gp) rfl;clear h ho hp;go_in;go_wp2_with fail;refine hplc.mono ?_;rintro e w' ⟨rfl,rfl⟩;go_wp2_with fail;go_ret2;exact⟨rfl,rfl⟩
theorem eV(h:yT γ B g p D)(ho:Own w0 w γ)(x:Int)(hx:x≤9223372036854775807)(hp:D.av.place x≠ -1){u:Value}(ok:Bool){v:Value}(hv:p.os.getD (D.at_ x) undef=v)(hta:∀W:World,(Instr.typeAssert v 20 222 true).run Tryz.prog W=.ok (.tuple #[u,.bool ok]) W)(hu:ok=false→u=.pointer none):Calls Tryz.prog 250 #[.p g,.i x] w fun e w'=>e=.returned (.tuple #[u,.i (if ok=true then 0 else 8)])∧w=w':=by
 have hplc:=xS h.places ho x hx;obtain⟨hpl,hpl8⟩:=xv h x hp;generalize D.at_ x=pl at*;rw[hpl]at hplc;have c1:=ho.cell h.xw (i:=1) (v:=.p p.gp) rfl;have c2:=ho.cell h.xw (i:=2) (v:=p.vo) rfl;obtain⟨go,c,hvo,hc,-⟩:=wH h ho hpl8;rw[hv]at hc;rw[hvo]at c2;have hpl8':(pl:Int)<8:=by omega
 clear h ho hpl hv hvo hp;cases ok
 ·rw[hu rfl]at*;clear hu;go_in;go_wp2_with fail;refine hplc.mono ?_;rintro e w' ⟨rfl,rfl⟩;go_wp2_with fail;go_ret2;exact⟨rfl,rfl⟩
 ·clear hu;go_in;go_wp2_with fail;refine hplc.mono ?_;rintro e w' ⟨rfl,rfl⟩;go_wp2_with fail;go_ret2;exact⟨rfl,rfl⟩
theorem We(h:yT γ B g p D)(ho:Own w0 w γ)(x:Int)(hx:x≤9223372036854775807)(hp:D.av.place x= -1):Calls Tryz.prog 250 #[.p g,.i x] w fun e w'=>e=.returned (.tuple #[.pointer none,.i 7])∧w=w':=by have hplc:=xS h.places ho x hx;rw[hp]at hplc;have c1:=ho.cell h.xw (i:=1) (v:=.p p.gp) rfl;clear h ho hp;go_in;go_wp2_with fail;refine hplc.mono ?_;rintro e w' ⟨rfl,rfl⟩;go_wp2_with fail;go_ret2;exact⟨rfl,rfl⟩
theorem bH(h:yT γ B g p D)(ho:Own w0 w γ){gw gm:Nat}{mh:Int}(hc:w.cell? (zc gw 1)=some (.i mh))(hx:mh≤9223372036854775807)(hp:D.av.place mh≠ -1)(hv:p.os.getD (D.at_ mh) undef=.iface 217 (.p gm)):Calls Tryz.prog 162 #[.p g,.p gw] w fun e w'=>e=.returned (.p gm)∧∃n,w'=w.drewN n:=by
 have hplc:=fun W (hW:Own w0 W γ)=>xS (w:=W) h.places hW mh hx;obtain⟨hpl,hpl8⟩:=xv h mh hp;generalize D.at_ mh=pl at*;rw[hpl]at hplc;have c1:=ho.cell h.xw (i:=1) (v:=.p p.gp) rfl;have c2:=ho.cell h.xw (i:=2) (v:=p.vo) rfl;obtain⟨go,c,hvo,hcc,-⟩:=wH h ho hpl8;rw[hv]at hcc;rw[hvo]at c2;have hpl8':(pl:Int)<8:=by omega
 have hta:∀W:World,(Instr.typeAssert (.iface 217 (.p gm)) 20 217 false).run Tryz.prog W=.ok (.p gm) W:=fun W=>WK _ W;have HO:=I ho;clear h ho hpl hv hvo hp;go_in;go_wp2_with fail;go_quiet ((go_at_call 112;exact Calls.quiet_of_same ((hplc _ (HO.out.drewN _)).mono fun e w' ⟨h1,h2⟩=>⟨h1,h2.symm⟩)));go_wp2_with fail;go_ret;exact⟨rfl,_,rfl⟩
end
end
section
open Go.RowKit Go.WideShapes
def Dm.xg(D:Dm)(h:Int)(o:Ob):Dm:={D with yX:=D.yX.set (D.at_ h) (some o)}
def Dm.again(D:Dm)(t mh:Int):Dm:=
 match({D with wh:=D.wh.stop (D.pl t)}:Dm).ob mh with
 |some (.mu m)=>
  if m.wL t=0 then(({D with wh:=D.wh.stop (D.pl t)}:Dm).xg mh (.mu (m.lock t))).wN t
  else{(({D with wh:=D.wh.stop (D.pl t)}:Dm).xg mh (.mu (m.lock t)))with waits:=D.waits.set (D.pl t) {(D.waits.getD (D.pl t) Wt.zero)with obj:=mh,again:=true}}
 |_=>{D with wh:=D.wh.stop (D.pl t)}
section
variable {w0 w:World} {γ:U} {B g:Nat} {p:vG} {D:Dm}
theorem SD(h:yT γ B g p D){x:Int}(hp:D.av.place x≠ -1){m:Mu}(ho:D.ob x=some (.mu m)):∃gm,p.os.getD (D.at_ x) undef=.iface 217 (.p gm)∧tj γ (B+100+8*D.at_ x) gm m:=by have h1:=h.each _ (xv h x hp).2;unfold Dm.ob at ho;rw[ho]at h1;exact h1
theorem bF(h:yT γ B g p D)(ho:Own w0 w γ)(t:Int)(hx:t≤9223372036854775807)(hp:D.sv.ar.place t≠ -1){iw gw gc:Nat}{mh:Int}(hiw:iw<8)(hgw:γ (B+100+8*iw+7)=some (gw,.cells #[.p gc,.i mh] 227 (0,0)))(hmx:mh≤9223372036854775807)(hmp:D.av.place mh≠ -1){m:Mu}(hm:D.ob mh=some (.mu m))(hml:m.ws.length<100)(hne:D.at_ mh≠iw):Calls Tryz.prog 119 #[.p g,.i t,.p gw] w (sJ w0 γ B g p (D.again t mh) (fun _=>True)):=by
 have hplc:=ur h.xD ho t hx;have hplt:=AV.wI h.xD.wV t;have hsl:=h.sl;obtain⟨pl,hpl⟩:∃pl:Nat,D.sv.ar.place t=pl:=⟨(D.sv.ar.place t).toNat,by omega⟩;have hpl8:pl<8:=by omega
 have hpe:D.pl t=pl:=by unfold Dm.pl;rw[hpl];rfl
 rw[hpl]at hplc;have hag:D.again t mh=if m.wL t=0 then(({D with wh:=D.wh.stop pl}:Dm).xg mh (.mu (m.lock t))).wN t else{(({D with wh:=D.wh.stop pl}:Dm).xg mh (.mu (m.lock t)))with waits:=D.waits.set pl {(D.waits.getD pl Wt.zero)with obj:=mh,again:=true}}:=by unfold Dm.again;rw[hpe,show({D with wh:=D.wh.stop pl}:Dm).ob mh=some (.mu m)from hm]
 rw[hag];clear hag;have c0:=ho.cell h.xw (i:=0) (v:=.p p.gt) rfl;have c3:=ho.cell h.xw (i:=3) (v:=.p p.gw) rfl;have hst:=U3 h.timers ho pl (by rw[h.w8];exact hpl8);have H:=I h;have HG:=I hgw;have HPT:Hid (D.sv.ar.place t≠ -1):=I hp;obtain⟨him,him8⟩:=xv h mh hmp;clear h ho hp hplt hpl hpe hgw;have stage:Hid (∀w1,(∃γ1,Own w0 w1 γ1∧uS γ1 (B+30) p.gw (D.wh.stop pl)∧∀k,(k<B+30∨B+30+7≤k)→γ1 k=γ k)→∃γ1 gm,Own w0 w1 γ1∧yT γ1 B g p {D with wh:=D.wh.stop pl}∧(∀k,Out B k→γ1 k=γ k)∧w1.cell? (zc gw 1)=some (.i mh)∧γ1 (B+100+8*iw+7)=some (gw,.cells #[.p gc,.i mh] 227 (0,0))∧p.os.getD (D.at_ mh) undef=.iface 217 (.p gm)∧tj γ1 (B+100+8*D.at_ mh) gm m):=I fun w1 ⟨γ1,o1,r1,k1⟩=>by have h1:yT γ1 B g p {D with wh:=D.wh.stop pl}:=H.out.jr r1 (by unfold Wh.stop;exact H.out.w8) (fun k hk _=>k1 k (by omega));have hgw1:=(k1 (B+100+8*iw+7) (by omega)).trans HG.out;obtain⟨gm,e1,e2⟩:=SD h1 (D:={D with wh:=D.wh.stop pl}) hmp hm;exact⟨γ1,gm,o1,h1,fun k hk=>k1 k (by unfold Out at hk;omega),o1.cell hgw1 rfl,hgw1,e1,e2⟩
 have stage2:Hid (∀w2 γ1 γ2 gm,p.os.getD (D.at_ mh) undef=.iface 217 (.p gm)→yT γ1 B g p {D with wh:=D.wh.stop pl}→tj γ2 (B+100+8*D.at_ mh) gm (m.lock t)→Own w0 w2 γ2→(∀k,(k<B+100+8*D.at_ mh∨B+100+8*D.at_ mh+4≤k)→γ2 k=γ1 k)→(∀k,Out B k→γ1 k=γ k)→yT γ2 B g p (({D with wh:=D.wh.stop pl}:Dm).xg mh (.mu (m.lock t)))∧∀k,Out B k→γ2 k=γ k):=I fun w2 γ1 γ2 gm he h1 hmu o2 k2 hk1=>by refine⟨h1.setObj him8 (o:=some (.mu (m.lock t))) ⟨gm,he,hmu⟩ (fun k hk _=>k2 k (by omega)),fun k hk=>(k2 k (by unfold Out at hk;omega)).trans (hk1 k hk)⟩
 by_cases hlk:m.wL t=0
 ·rw[if_pos hlk];go_in;go_wp2_with fail;refine hplc.mono ?_;rintro e w' ⟨rfl,rfl⟩;go_wp2_with fail;refine hst.mono ?_;rintro e w1 ⟨rfl,hst1⟩;obtain⟨γ1,gm,o1,h1,hk1,hcw,hgw1,hos,hmu⟩:=stage.out _ hst1;have hmx1:=bH h1 o1 (D:={D with wh:=D.wh.stop pl}) hcw hmx hmp hos;clear hst1 hst c3;go_wp2_with fail;refine hmx1.mono ?_;rintro e w' ⟨rfl,nq,rfl⟩;have hl:=Z2 hmu (o1.drewN nq) t hml;rw[hlk]at hl;clear hmx1;go_wp2_with fail;refine hl.mono ?_;rintro e w2 ⟨rfl,γ2,o2,hmu2,k2⟩;obtain⟨h2,hk2⟩:=stage2.out w2 γ1 γ2 gm hos h1 hmu2 o2 k2 hk1;have hwk:=qD h2 o2 t hx HPT.out;have HK2:=I hk2;clear hl h1 hk1 hmu hmu2 k2 h2 hk2 o1 o2 hgw1 hos hcw;go_wp2_with fail;refine hwk.mono ?_;rintro e w3 ⟨⟨r,rfl,-⟩,γ3,o3,h3,k3⟩;have HF:Hid (∃γ',Own w0 w3 γ'∧yT γ' B g p ((({D with wh:=D.wh.stop pl}:Dm).xg mh (.mu (m.lock t))).wN t)∧∀k,Out B k→γ' k=γ k):=I ⟨γ3,o3,h3,fun k hk=>(k3 k hk).trans (HK2.out k hk)⟩;clear o3 h3 k3 hwk;go_wp2_with fail;first|go_end0|refine bodyPost_ret (results_none rfl _ _ _) rfl ?_
  exact⟨⟨_,rfl,trivial⟩,HF.out⟩
 ·rw[if_neg hlk];have dk:(m.wL t==0)=false:=by simpa using hlk
  generalize hle:m.wL t=le at*;go_in;go_wp2_with fail;refine hplc.mono ?_;rintro e w' ⟨rfl,rfl⟩;go_wp2_with fail;refine hst.mono ?_;rintro e w1 ⟨rfl,hst1⟩;obtain⟨γ1,gm,o1,h1,hk1,hcw,hgw1,hos,hmu⟩:=stage.out _ hst1;have hmx1:=bH h1 o1 (D:={D with wh:=D.wh.stop pl}) hcw hmx hmp hos;clear hst1 hst c3;go_wp2_with fail;refine hmx1.mono ?_;rintro e w' ⟨rfl,nq,rfl⟩;have hl:=Z2 hmu (o1.drewN nq) t hml;rw[hle]at hl;clear hmx1;go_wp2_with fail;refine hl.mono ?_;rintro e w2 ⟨rfl,γ2,o2,hmu2,k2⟩;obtain⟨h2,hk2⟩:=stage2.out w2 γ1 γ2 gm hos h1 hmu2 o2 k2 hk1;have hgw2:=(k2 (B+100+8*iw+7) (by omega)).trans hgw1;obtain⟨gv,cw,hvw,-⟩:=wM h2.waits o2 h2.wl hpl8;have HC:Hid (∀W,Own w0 W γ2→W.cell? (zc g 6)=some (.slice (zb gv) 8 cw)∧W.cell? (zc gw 1)=some (.i mh)):=I fun W hW=>⟨by rw[←hvw];exact hW.cell h2.xw rfl,hW.cell hgw2 rfl⟩;obtain⟨gv',cw',hv',⟨e0,e1,e2,e3⟩,f0,f1,f2,f3⟩:=wM h2.waits o2.drew h2.wl hpl8;rw[hvw]at hv';cases hv';obtain⟨γ3,o3,s3,k3⟩:=vW hvw h2.waits o2.drew h2.wl hpl8 1 (by omega) (.i mh) {(D.waits.getD pl Wt.zero)with obj:=mh} rfl;obtain⟨γ4,o4,s4,k4⟩:=vW hvw s3 o3 (by rw[zq];exact h2.wl) hpl8 3 (by omega) (.bool true) {(D.waits.getD pl Wt.zero)with obj:=mh,again:=true} (by rw[wq (by rw[h2.wl];exact hpl8)];rfl);rw[ye]at s4;have HF:Hid (∃γ',Own w0 ((w2.drew.setCell (zc gv (pl*4+1)) (.i mh)).setCell (zc gv (pl*4+3)) (.bool true)) γ'∧yT γ' B g p {(({D with wh:=D.wh.stop pl}:Dm).xg mh (.mu (m.lock t)))with waits:=D.waits.set pl {(D.waits.getD pl Wt.zero)with obj:=mh,again:=true}}∧∀k,Out B k→γ' k=γ k):=I ⟨γ4,o4,h2.uW s4 (by rw[zq];exact h2.wl) (fun k hk=>(k4 k hk).trans (k3 k hk)),fun k hk=>(k4 k (by unfold Out at hk;omega)).trans ((k3 k (by unfold Out at hk;omega)).trans (hk2 k hk))⟩;have HO:=I o2.drew;have hpl8':(pl:Int)<8:=by omega
  clear hl h1 hk1 hmu hmu2 k2 h2 hk2 o1 o2 hgw1 hos hcw hgw2 hvw o3 s3 k3 o4 s4 k4;go_wp2_with fail;refine yP.region [0,1,2,3,4,5,6,7,8,10,11,12,13,14,15] (.step 9 (.step 16 (.step 17 (.step 18 (.step 19 .done))))) (fun w'=>Own w0 w' γ2) (by kernel_rfl) (by kernel_rfl) (fun _ _ _ _ _ h=>h) HO.out ?_;repeat
   refine Perm.xm rfl ?_ (fun w' hS=>?_) ?_;rotate_left
   ·(obtain⟨q1,q2⟩:=HC.out _ hS;clear hS;go_simp;try with_reducible rfl)
   simp only[pt]
  refine Perm.xt ?_;generalize w2.drew=wd at*;repeat
   refine yP.xA rfl (by rfl) ?_ (fun w'=>?_) ?_;rotate_left
   ·(go_simp;try with_reducible rfl)
   simp only[pt]
  refine yP.yY rfl (by rfl) ?_;refine yP.xy rfl .skip undef (.inr ⟨rfl,rfl⟩) (w':=wd.setCell (zc gv (pl*4+1)) (.i mh)) (by go_simp;try with_reducible rfl) (Perm.xx (by kernel_rfl)) ?_;simp only[pt];refine yP.yY rfl (by rfl) ?_;refine yP.rP rfl (.pointer (some (zc gv (pl*4)))) (by go_simp;try with_reducible rfl) ?_;simp only[pt];repeat
   refine yP.xA rfl (by rfl) ?_ (fun w'=>?_) ?_;rotate_left
   ·(go_simp;try with_reducible rfl)
   simp only[pt]
  refine yP.yY rfl (by rfl) ?_;refine yP.xy rfl .skip undef (.inr ⟨rfl,rfl⟩) (w':=(wd.setCell (zc gv (pl*4+1)) (.i mh)).setCell (zc gv (pl*4+3)) (.bool true)) (by go_simp;try with_reducible rfl) (Perm.xx (by kernel_rfl)) ?_;simp only[pt];refine yP.xC ?_;clear e0 e1 e2 e3 f0 f1 f2 f3 HC HO;go_wp2_with fail;first|go_end0|refine bodyPost_ret (results_none rfl _ _ _) rfl ?_
  exact⟨⟨_,rfl,trivial⟩,HF.out⟩
end
end
end Go.Proofs.YtkmamlifgbocgaaGreat
