/- What the program's code does, as contracts, and what follows of it, part 25: for the law's proof. -/
import Derived.Test.YtkmamlifgbocgaaGreatP00
import Derived.Test.YtkmamlifgbocgaaGreatP24
import Derived.Deep.CutBlock
import Derived.Deep.DeepCutAuto
import Derived.Deep.RegionWith
import Derived.Deep.RegionLaw
import Derived.Lib.Hide
import Derived.Deep.QuietTactic
import Derived.BigQuiet
import Derived.BigGuardPart
import Derived.RegionTactic
import Derived.Deep.RegionHeld3
set_option linter.unusedVariables false
set_option linter.unusedSimpArgs false
set_option maxRecDepth 100000
set_option maxHeartbeats 16000000
namespace Go.Proofs.YtkmamlifgbocgaaGreat
section
open Go.RowKit Go.ChangeMaps
def sR(l:wy):so:=if l.kind=1 then .cell (CS.new (rS l.size))else .tP (rT 8 l.size) [] 0
def dS(w:World)(b gl gb:Nat)(box:Obj)(ls:List wy)(i:Value)(wr:World):Prop:=
 ∃(k:Nat) (γ:U) (lv ev:Value) (gm:Nat) (vs:List Value),i=.i k∧k≤ls.length∧Own w wr γ∧γ (b+4)=some (gb,box)∧
  γ b=some (gl,.cells #[lv,ev,.map (some gm)] 128 (0,0))∧γ (b+1)=some (gm,.map #[] 0)∧yR γ (b+2) 60 4 lv ls.length (vB ls)∧yR γ (b+3) 20 1 ev k vs∧
  ∀(j:Nat) l,j<k→ls[j]? =some l→tD γ (b+10+2*j) (vs.getD j undef) l.kind (sR l)
theorem tD.keep{γ γ':U}{t:Nat}{v:Value}{kind:Int}{e:so}(h:tD γ t v kind e)(h1:γ' t=γ t)(h2:γ' (t+1)=γ (t+1)):tD γ' t v kind e:=by
 cases e with
 |cell c=> obtain⟨a,g,b,c',d⟩:=h;exact⟨a,g,b,by rw[h1];exact c',d⟩
 |tP s all next=> obtain⟨a,g,gp,b,c',d,e⟩:=h;exact⟨a,g,gp,b,by rw[h1];exact c',by rw[h2];exact d,e⟩
theorem cN{w w':World}{b gl gb:Nat}{box:Obj}{ls:List wy}{k:Nat}{γ γ3:U}{lv v v0:Value}{gm:Nat}{vs:List Value}{u:Value}{l:wy}(hl:ls[k]? =some l)(hb4:γ (b+4)=some (gb,box))(hb0:γ b=some (gl,.cells #[lv,v0,.map (some gm)] 128 (0,0)))(hb1:γ (b+1)=some (gm,.map #[] 0))(hsl:yR γ (b+2) 60 4 lv ls.length (vB ls))(hvs:vs.length=k)(hea:∀(j:Nat) l,j<k→ls[j]? =some l→tD γ (b+10+2*j) (vs.getD j undef) l.kind (sR l))(ho3:Own w w' γ3)(hk3:∀t,t≠b+3→t≠b+5→t≠b+10+2*k→t≠b+11+2*k→γ3 t=γ t)(hse3:yR γ3 (b+3) 20 1 v (k+1) (vs++[u]))(hend:tD γ3 (b+10+2*k) u l.kind (sR l)):dS w b gl gb box ls (.i (↑(k+1):Int)) (w'.setCell (zc gl 1) v):=by
 have hlt:k<ls.length:=(zk.1 hl).1;have h0:=(hk3 b (by omega) (by omega) (by omega) (by omega)).trans hb0;have hset:=ho3.set h0 1 v;refine⟨k+1,_,lv,v,gm,vs++[u],rfl,by omega,hset,?_,yQ _ _ _ _,?_,?_,?_,fun j l' hj hlj=>?_⟩
 ·rw[yO _ _ _ (by omega),hk3 _ (by omega) (by omega) (by omega) (by omega)];exact hb4
 ·rw[yO _ _ _ (by omega),hk3 _ (by omega) (by omega) (by omega) (by omega)];exact hb1
 ·exact hsl.keep (by rw[yO _ _ _ (by omega),hk3 _ (by omega) (by omega) (by omega) (by omega)])
 ·exact hse3.keep (yO _ _ _ (by omega))
 ·by_cases e:j=k
  ·subst e;rw[hl]at hlj;cases hlj;have hg:(vs++[u]).getD j undef=u:=by rw[zn,yu (by omega)];simp[hvs]
   rw[hg];exact hend.keep (yO _ _ _ (by omega)) (yO _ _ _ (by omega))
  ·have hg:(vs++[u]).getD j undef=vs.getD j undef:=by rw[zn,zn,zF (by omega)]
   rw[hg];exact(hea j l' (by omega) hlj).keep (by rw[yO _ _ _ (by omega),hk3 _ (by omega) (by omega) (by omega) (by omega)]) (by rw[yO _ _ _ (by omega),hk3 _ (by omega) (by omega) (by omega) (by omega)])
def Xt(w:World)(b:Nat)(ls:List wy)(e:Ending)(w':World):Prop:=
 ∃gl γ en,e=.returned (.p gl)∧xW w γ b gl ls en (fun _ _=>none) w'∧∀(j:Nat) l,ls[j]? =some l→en j=sR l
theorem Tl:enters Tryz.prog 55=true:=by kernel_rfl
theorem Tk:enters Tryz.prog 56=true:=by kernel_rfl
theorem tY{ls:List wy}{k:Nat}{l:wy}(h:ls[k]? =some l)(j:Nat)(hj:j<4):(vB ls)[k*4+j]? =l.yV[j]? :=by
 induction ls generalizing k with
 |nil=>simp at h
 |cons a rest ih=>
  have e:vB (a::rest)=a.yV++vB rest:=by simp[vB]
  have hl:a.yV.length=4:=rfl;rw[e];cases k with
  |zero=> simp at h;subst h;rw[zF (by rw[hl];omega)];simp
  |succ k=> rw[yu (by rw[hl];omega),hl,show(k+1)*4+j-4=k*4+j by omega];exact ih (by simpa using h)
theorem Tryz.cE:(Tryz.prog.info? 20).map (fun i=>(i.zero,i.size,i.bytes))=some (some .nilIface,1,16):=by kernel_rfl
theorem YV(b pb off cap0:Nat)(dv sv:Value)(ls:List wy)(h10:ls.length≤10)(w:World)(hcap:ls.length≤cap0)(hread:∀(j:Nat) (u:Value),(vB ls)[j]? =some u→w.cell? (((zc pb off):Addr).add j)=some u)(hone:∀u∈vB ls,u.oneCell'=true):Calls Tryz.prog 42 #[.agg #[dv,sv,.slice (some (zc pb off)) ls.length cap0]] w (Xt w b ls):=by
 go_in;go_wp2_with fail;have hs:=(Own.start w).new (b+4) (.cells #[dv,sv,.slice (some (zc pb off)) ls.length cap0] 26);have hread1:∀(j:Nat) (u:Value),(vB ls)[j]? =some u→(w.alloc (.cells #[dv,sv,.slice (some (zc pb off)) ls.length cap0] 26)).cell? (((zc pb off):Addr).add j)=some u:=fun j u hj=>(((Below.refl w.heap.size w).alloc (zm _) _).cell (World.block_lt_of_cell? w _ (hread j u hj))).trans (hread j u hj);refine(XT hs (b+2) (qI ls) (by omega) hread1 hone).mono ?_;rintro e w1 ⟨v,γ1,rfl,ho,hsl,hk⟩;obtain⟨A1,cap1,rfl,hcap1⟩:=hsl.form;have ho2:=(ho.new (b+1) (.map #[] 0)).new b (.cells #[.slice A1 ls.length cap1,.slice none 0 0,.map (some w1.heap.size)] 128);have e2:(w1.alloc (.map #[] 0)).heap.size=w1.heap.size+1:=by simp
 rw[e2]at ho2;have hbx:(put γ1 (b+1) w1.heap.size (.map #[] 0)) (b+4)=some (w.heap.size,.cells #[dv,sv,.slice (some (zc pb off)) ls.length cap0] 26 (0,0)):=by rw[yO _ _ _ (by omega),hk _ (by omega),yQ]
 have hbx2:=(yO (put γ1 (b+1) w1.heap.size (.map #[] 0)) (t:=b) (k:=b+4) (w1.heap.size+1) (.cells #[.slice A1 ls.length cap1,.slice none 0 0,.map (some w1.heap.size)] 128) (by omega)).trans hbx;have hc2:=(ho.new (b+1) (.map #[] 0)).cell hbx (i:=2) (v:=.slice (some (zc pb off)) ls.length cap0) rfl;have hc3:=ho2.cell hbx2 (i:=2) (v:=.slice (some (zc pb off)) ls.length cap0) rfl;have hmk:=pd w1;have hN:dS w b (w1.heap.size+1) w.heap.size (.cells #[dv,sv,.slice (some (zc pb off)) ls.length cap0] 26) ls (.i 0) ((w1.alloc (.map #[] 0)).alloc (.cells #[.slice A1 ls.length cap1,.slice none 0 0,.map (some w1.heap.size)] 128)):=by refine⟨0,_,.slice A1 ls.length cap1,.slice none 0 0,w1.heap.size,[],rfl,by omega,ho2,hbx2,yQ _ _ _ _,by rw[yO _ _ _ (by omega),yQ],?_,yR.nil _ _ _ _,fun j l hj=>by omega⟩;exact hsl.keep (by rw[yO _ _ _ (by omega),yO _ _ _ (by omega)])
 clear hs ho hsl hk ho2 hbx hbx2 hread1;have hlen:=qI ls;go_wp2_with fail;go_loopw [15] (fun i wr=>dS w b (w1.heap.size+1) w.heap.size (.cells #[dv,sv,.slice (some (zc pb off)) ls.length cap0] 26) ls i wr) (fun i _=>ls.length-(intOf i).toNat);case atStart=>exact hN
 case round=>
  clear hN hmk hc2 hc3;obtain⟨k,γ,lv,ev,gm,vs,rfl,hk,ho,hb4,hb0,hb1,hsl,hse,hea⟩:=hrel;by_cases hlt:k<ls.length
  ·obtain⟨l,hl⟩:∃l,ls[k]? =some l:=⟨ls[k],zl hlt⟩;have q:∀(j:Nat) (u:Value),l.yV[j]? =some u→wr.cell? (zc pb (off+(k*4+j)))=some u:=by intro j u hj;have hj4:j<4:=(zk.1 hj).1;have h1:=hread (k*4+j) u ((tY hl j hj4).trans hj);rw[WideShapes.add_plain]at h1;exact(ho.below.cell (World.block_lt_of_cell? w _ h1)).trans h1
   have q0:wr.cell? (zc pb (off+k*4))=some (.i l.kind):=q 0 _ rfl;have q1:wr.cell? (zc pb (off+k*4+1))=some (.i l.from_):=q 1 _ rfl;have q2:wr.cell? (zc pb (off+k*4+2))=some (.i l.to):=q 2 _ rfl;have q3:wr.cell? (zc pb (off+k*4+3))=some (.i l.size):=q 3 _ rfl;clear q hread;obtain⟨A2,cap2,rfl,hcap2⟩:=hse.form;obtain⟨kind,fr,tow,size⟩:=l;dsimp only at q0 q1 q2 q3;have ho1:=ho.new (b+5) (.cells #[.i kind,.i fr,.i tow,.i size] 60);have k1:∀t,t≠b+5→put γ (b+5) wr.heap.size (.cells #[.i kind,.i fr,.i tow,.i size] 60) t=γ t:=fun t ht=>yO _ _ _ ht;have h5:put γ (b+5) wr.heap.size (.cells #[.i kind,.i fr,.i tow,.i size] 60) (b+5)=some (wr.heap.size,(.cells #[.i kind,.i fr,.i tow,.i size] 60)):=yQ _ _ _ _;generalize put γ (b+5) wr.heap.size (.cells #[.i kind,.i fr,.i tow,.i size] 60)=γ2 at*;have hb0':=(k1 b (by omega)).trans hb0;have hse':=hse.keep (k1 (b+3) (by omega));have c1:=ho1.cell hb0' (i:=1) (v:=.slice A2 k cap2) rfl;have c53:=ho1.cell h5 (i:=3) (v:=.i size) rfl;have HH0:Hid (γ b=some (w1.heap.size+1,.cells #[lv,.slice A2 k cap2,.map (some gm)] 128)):=hb0;have HH:Hid (γ2 b=some (w1.heap.size+1,.cells #[lv,.slice A2 k cap2,.map (some gm)] 128)):=hb0';by_cases hkind:kind=1
   ·subst hkind;go_wp2_with fail;clear q0 q1 q2 q3 hb0 hb0' h5;generalize wr.alloc _=W at*
    go_region_law ((first
     |(refine aK rfl 55 _ _ rfl Tl #[.i size] (by rfl) ((YB (by first|exact ho1.drew|exact ho1) (b+10+2*k) size).mono ?_);rintro e w2 ⟨g2,rfl,ho2⟩;refine⟨_,rfl,?_⟩;have d1:=ho2.cell ((yO _ _ _ (by omega)).trans HH.out) (i:=1) (v:=.slice A2 k cap2) rfl;have l1:=ho2.lt ((yO _ _ _ (by omega)).trans HH.out);have d2:=fun o=>((Below.refl w2.heap.size w2).alloc (zm _) o).cell (p:=(zc (w1.heap.size+1) 1)) l1;simp only[d1]at d2)
     |(refine fC rfl (.tmp 26) (.tmp 31) 115 rfl 20 .nilIface 1 16 Tryz.underlying115 Tryz.cE rfl (by decide) (ho2.xh ((Below.refl _ _).alloc (zm _) _)) (hse'.keep (yO _ _ _ (by omega))) (by rfl) (zc _ 0) 1 1 [.iface 129 (.p g2)] (by rfl) rfl dM (by simp[Value.oneCell']) (by omega) (by unfold maxLen;omega) (by omega) ?_;intro g cap w3 γ3 ho3 hse3 hk3;have hb3:=(hk3 b (by omega)).trans ((yO _ _ _ (by omega)).trans HH.out);have f3:=ho3.free hb3 1;have d3:=ho3.cell hb3 (i:=1) (v:=.slice A2 k cap2) rfl)))
    all_goals
     have hfin:dS w b (w1.heap.size+1) w.heap.size (.cells #[dv,sv,.slice (some (zc pb off)) ls.length cap0] 26) ls (.i (↑(k+1):Int)) (w3.setCell (zc (w1.heap.size+1) 1) (.slice (zb g) (k+1) cap)):=by refine cN hl hb4 HH0.out hb1 hsl (by simpa using hse.1) hea ho3 (fun t t1 t2 t3 t4=>by rw[hk3 t t1,yO _ _ _ t3,k1 t t2]) hse3 ?_;unfold sR;rw[if_pos rfl];exact⟨rfl,g2,rfl,by rw[hk3 _ (by omega)];exact yQ _ _ _ _,CS.Ok.new (aZ _)⟩
     have HF:=I hfin;clear hfin hl hb4 hb1 hsl hse hea ho3 hk3 hse3 ho2 hb3 ho1 ho;go_wp2_with fail;go_roundw;case rel=>exact HF.out
     case measure=>simp[intOf];omega
   ·have hkb:(kind==1)=false:=by simpa using hkind
    go_wp2_with fail;clear q0 q1 q2 q3 hb0 hb0' h5;generalize wr.alloc _=W at*
    go_region_law ((first
     |(refine aK rfl 56 _ _ rfl Tk #[.i size] (by rfl) ((RV ho1.drew (b+11+2*k) size).mono ?_);rintro e w2 ⟨g2,rfl,ho2⟩;refine⟨_,rfl,?_⟩;have d1:=ho2.cell ((yO _ _ _ (by omega)).trans HH.out) (i:=1) (v:=.slice A2 k cap2) rfl;have l1:=ho2.lt ((yO _ _ _ (by omega)).trans HH.out);have d2:=fun o=>((Below.refl w2.heap.size w2).alloc (zm _) o).cell (p:=(zc (w1.heap.size+1) 1)) l1;have d3:=fun o o2=>(((Below.refl w2.heap.size w2).alloc (zm _) o).alloc (by simp) o2).cell (p:=(zc (w1.heap.size+1) 1)) l1;simp only[d1]at d2 d3)
     |(have ho2':=ho2.new (b+10+2*k) (.cells #[.p g2,.i 0] 135);refine fC rfl (.tmp 39) (.tmp 46) 115 rfl 20 .nilIface 1 16 Tryz.underlying115 Tryz.cE rfl (by decide) (ho2'.xh ((Below.refl _ _).alloc (zm _) _)) (hse'.keep (by rw[yO _ _ _ (by omega),yO _ _ _ (by omega)])) (by rfl) (zc (w2.heap.size+1) 0) 1 1 [.iface 131 (.p w2.heap.size)] (by rfl) rfl (RX (by simp)) (by simp[Value.oneCell']) (by omega) (by unfold maxLen;omega) (by omega) ?_;intro g cap w3 γ3 ho3 hse3 hk3;have hb3:=(hk3 b (by omega)).trans ((yO _ _ _ (by omega)).trans ((yO _ _ _ (by omega)).trans HH.out));have f3:=ho3.free hb3 1;have d3:=ho3.cell hb3 (i:=1) (v:=.slice A2 k cap2) rfl)))
    all_goals
     have hfin:dS w b (w1.heap.size+1) w.heap.size (.cells #[dv,sv,.slice (some (zc pb off)) ls.length cap0] 26) ls (.i (↑(k+1):Int)) (w3.setCell (zc (w1.heap.size+1) 1) (.slice (zb g) (k+1) cap)):=by refine cN hl hb4 HH0.out hb1 hsl (by simpa using hse.1) hea ho3 (fun t t1 t2 t3 t4=>by rw[hk3 t t1,yO _ _ _ t3,yO _ _ _ t4,k1 t t2]) hse3 ?_;unfold sR;rw[if_neg hkind];have hcb:=fH (hi:=8) (by omega) size;exact⟨hkind,w2.heap.size,g2,rfl,by rw[hk3 _ (by omega)];exact yQ _ _ _ _,by rw[hk3 _ (by omega),yO _ _ _ (by omega),show b+10+2*k+1=b+11+2*k by omega];exact yQ _ _ _ _,hcb.1,hcb.2⟩
     have HF:=I hfin;clear hfin hl hb4 hb1 hsl hse hea ho3 hk3 hse3 ho2 ho2' hb3 ho1 ho hkind d2 d3 d1 l1;go_wp2_with fail;go_roundw;case rel=>exact HF.out
     case measure=>simp[intOf];omega
  ·obtain rfl:k=ls.length:=by omega
   have hfin:Xt w b ls (.returned (.p (w1.heap.size+1))) wr:=by refine⟨w1.heap.size+1,γ,fun j=>match ls[j]? with|some l=>sR l|none=>.tP 1 [] 0,rfl,⟨ho,lv,ev,gm,#[],0,vs,hb0,hb1,vi.nil,hsl,hse,fun i l hi=>?_⟩,fun j l hj=>by simp only[hj]⟩;have:=hea i l (zk.1 hi).1 hi;simp only[hi];exact this
   have HF:=I hfin;clear hfin hread hone ho hb4 hb0 hb1 hsl hse hea;go_wp2_with fail;go_ret;exact HF.out
end
section
open Go.RowKit Go.ChangeMaps
theorem SJ(v:Value)(w:World):(Instr.typeAssert (.iface 129 v) 20 129 true).run Tryz.prog w=.ok (.tuple #[v,.bool true]) w:=by kernel_rfl
theorem SK(v:Value)(w:World):(Instr.typeAssert (.iface 131 v) 20 129 true).run Tryz.prog w=.ok (.tuple #[.pointer none,.bool false]) w:=by kernel_rfl
theorem PT(v:Value)(w:World):(Instr.typeAssert (.iface 129 v) 20 129 false).run Tryz.prog w=.ok v w:=by kernel_rfl
theorem PU(v:Value)(w:World):(Instr.typeAssert (.iface 131 v) 20 131 false).run Tryz.prog w=.ok v w:=by kernel_rfl
def rB(ls:List wy)(d op a:Int):Int:=
 if a<0∨(ls.length:Int)≤a then 7 else
 match ls[a.toNat]? with
 |none=>7
 |some l=>if(l.kind=1)≠(op≤32)then 8 else if d≠(if ey op then l.from_ else l.to)then 10 else 0
def entV(k dm pk op a b c:Int):Value:=.agg #[.i k,.i dm,.i pk,.i op,.i a,.i b,.i c]
def wQ(k dm pk op a b c:Int):Obj:=.cells #[.i k,.i dm,.i pk,.i op,.i a,.i b,.i c] 38
def rJ(w:World)(x:Int)(e:Ending)(w':World):Prop:=e=.returned (.i x)∧Below w.heap.size w w'
section
variable {w0 w:World} {γ:U} {b gl:Nat} {ls:List wy} {en:Nat→so} {f:Int→Int→Option (Int×Int)}
structure Zs (w:World) (gl n:Nat) (k:Nat) (l:wy) (u:Value):Prop where
 ex:∃g cap g2 cap2,w.cell? (zc gl 0)=some (.slice (zb g) n cap)∧w.cell? (zc gl 1)=some (.slice (zb g2) n cap2)∧
  w.cell? (zc g (k*4))=some (.i l.kind)∧w.cell? (zc g (k*4+1))=some (.i l.from_)∧w.cell? (zc g (k*4+2))=some (.i l.to)∧w.cell? (zc g (k*4+3))=some (.i l.size)∧
  w.cell? (zc g2 k)=some u
theorem xW.at_(h:xW w0 γ b gl ls en f w){k:Nat}{l:wy}(hl:ls[k]? =some l):∃u,Zs w gl ls.length k l u∧tD γ (b+10+2*k) u l.kind (en k):=by
 obtain⟨ho,lv,ev,gm,es,clock,vs,h0,h1,h2,h3,h4,h5⟩:=h;have hk:k<ls.length:=(zk.1 hl).1;obtain⟨g,cap,rfl,_,c1⟩:=h3.row ho (by omega);obtain⟨g2,cap2,rfl,_,c2⟩:=h4.row ho (by omega);have hv:vs[k]? =some (vs.getD k undef):=by
  have:k<vs.length:=by rw[h4.1];omega
  rw[zn,zl this];rfl
 refine⟨_,⟨g,cap,g2,cap2,ho.cell h0 (i:=0) rfl,ho.cell h0 (i:=1) rfl,?_,?_,?_,?_,c2 k _ hv⟩,h5 k l hl⟩
 ·exact c1 (k*4+0) _ (tY hl 0 (by omega))
 ·exact c1 (k*4+1) _ (tY hl 1 (by omega))
 ·exact c1 (k*4+2) _ (tY hl 2 (by omega))
 ·exact c1 (k*4+3) _ (tY hl 3 (by omega))
theorem xW.len(h:xW w0 γ b gl ls en f w):∃A cap,w.cell? (zc gl 0)=some (.slice A ls.length cap):=by obtain⟨ho,lv,ev,gm,es,clock,vs,h0,h1,h2,h3,h4,h5⟩:=h;obtain⟨A,cap,rfl,_⟩:=h3.form;exact⟨A,cap,ho.cell h0 (i:=0) rfl⟩
theorem tD.Pv{t:Nat}{u:Value}{kind:Int}{e:so}(h:tD γ t u kind e):(kind=1∧∃g,u=.iface 129 (.p g))∨(kind≠1∧∃g,u=.iface 131 (.p g)):=by
 cases e with
 |cell c=>obtain⟨a,g,b,_⟩:=h;exact .inl ⟨a,g,b⟩
 |tP s all next=>obtain⟨a,g,_,b,_⟩:=h;exact .inr ⟨a,g,b⟩
theorem RP(h:xW w0 γ b gl ls en f w)(k dm pk op a b' c d:Int)(ha:a<0):Calls Tryz.prog 88 #[.p gl,.i d,.agg #[.i k,.i dm,.i pk,.i op,.i a,.i b',.i c]] w (rJ w 7):=by obtain⟨A,cap,c0⟩:=h.len;have hb:=(Below.refl w.heap.size w).alloc (zm _) (wQ k dm pk op a b' c);unfold wQ at hb;have hfin:∀n,rJ w 7 (.returned (.i 7)) ((w.alloc (.cells #[.i k,.i dm,.i pk,.i op,.i a,.i b',.i c] 38)).drewN n):=fun n=>⟨rfl,hb.trans ⟨rfl,rfl,rfl,zm _,fun _ _=>rfl⟩⟩;clear hb h;go_in;go_wp2_with fail;go_quiet (fail);go_wp2_with fail;go_ret;exact hfin _
theorem TA(h:xW w0 γ b gl ls en f w)(k dm pk op a b' c d:Int)(ha:0≤a)(ha2:(ls.length:Int)≤a):Calls Tryz.prog 88 #[.p gl,.i d,.agg #[.i k,.i dm,.i pk,.i op,.i a,.i b',.i c]] w (rJ w 7):=by obtain⟨A,cap,c0⟩:=h.len;have hlt:=(h.own.lt h.top.choose_spec.choose_spec.choose_spec.choose_spec.choose_spec.choose_spec.1);have hb:=(Below.refl w.heap.size w).alloc (zm _) (wQ k dm pk op a b' c);unfold wQ at hb;have hfin:∀n,rJ w 7 (.returned (.i 7)) ((w.alloc (.cells #[.i k,.i dm,.i pk,.i op,.i a,.i b',.i c] 38)).drewN n):=fun n=>⟨rfl,hb.trans ⟨rfl,rfl,rfl,zm _,fun _ _=>rfl⟩⟩;clear hb h;go_in;go_wp2_with fail;go_quiet (fail);go_wp2_with fail;go_ret;exact hfin _
theorem Tz{n j:Nat}{l:wy}{gx:Nat}(h:Zs w gl n j l (.iface 129 (.p gx)))(hj:j<n)(hn:n≤10)(k dm pk op b' c d:Int)(x:Int)(hx:x=if ¬op≤32 then 8 else if d≠(if ey op then l.from_ else l.to)then 10 else 0):Calls Tryz.prog 88 #[.p gl,.i d,.agg #[.i k,.i dm,.i pk,.i op,.i j,.i b',.i c]] w (rJ w x):=by
 obtain⟨g,cap,g2,cap2,c0,c1,q0,q1,q2,q3,cu⟩:=h;have l1:=World.block_lt_of_cell? w _ c0;have l2:=World.block_lt_of_cell? w _ q0;have l3:=World.block_lt_of_cell? w _ cu;dsimp only at l1 l2 l3;obtain⟨kind,fr,tow,size⟩:=l;dsimp only at q0 q1 q2 q3 hx;have hb:=(Below.refl w.heap.size w).alloc (zm _) (wQ k dm pk op j b' c);unfold wQ at hb;have hfin:∀n2,rJ w x (.returned (.i x)) ((w.alloc (.cells #[.i k,.i dm,.i pk,.i op,.i j,.i b',.i c] 38)).drewN n2):=fun _=>⟨rfl,hb.trans ⟨rfl,rfl,rfl,zm _,fun _ _=>rfl⟩⟩;have hjn:(j:Int)<n:=by omega
 clear hb;have hta:=SJ (.p gx);by_cases hup:ey op=true
 ·rw[hup]at hx;replace hx:x=if ¬op≤32 then 8 else if d≠fr then 10 else 0:=hx;by_cases ho:¬op≤32
  ·rw[if_pos ho]at hx;subst hx;have ho':(32:Int)<op:=by omega
   have hb32:decide (op≤32)=false:=by simpa using ho'
   clear ho;have HU:=I hup;clear hup;go_in;go_wp2_with fail;go_quiet (fail);go_wp2_with fail;go_quiet (fail);go_wp2_with fail;go_quiet (fail);go_wp2_with fail;refine(sL op _).mono ?_;rintro e w1 ⟨rfl,rfl⟩;rw[HU.out];go_wp2_with fail;go_quiet (fail);go_wp2_with fail;go_ret;exact hfin _
  ·rw[if_neg ho]at hx;have ho':op≤32:=by omega
   clear ho;by_cases hd:d=fr
   ·rw[if_neg (by simpa using hd)]at hx;subst hx;have hdb:(d != fr)=false:=by simpa using hd
    have hdb2:(d==fr)=true:=by simpa using hd
    clear hd;have HU:=I hup;clear hup;go_in;go_wp2_with fail;go_quiet (fail);go_wp2_with fail;go_quiet (fail);go_wp2_with fail;go_quiet (fail);go_wp2_with fail;refine(sL op _).mono ?_;rintro e w1 ⟨rfl,rfl⟩;rw[HU.out];go_wp2_with fail;go_quiet (fail);go_wp2_with fail;go_ret;exact hfin _
   ·rw[if_pos hd]at hx;subst hx;have hdb:(d != fr)=true:=by simpa using hd
    have hdb2:(d==fr)=false:=by simpa using hd
    clear hd;have HU:=I hup;clear hup;go_in;go_wp2_with fail;go_quiet (fail);go_wp2_with fail;go_quiet (fail);go_wp2_with fail;go_quiet (fail);go_wp2_with fail;refine(sL op _).mono ?_;rintro e w1 ⟨rfl,rfl⟩;rw[HU.out];go_wp2_with fail;go_quiet (fail);go_wp2_with fail;go_ret;exact hfin _
 ·have hup:ey op=false:=by simpa using hup
  rw[hup]at hx;replace hx:x=if ¬op≤32 then 8 else if d≠tow then 10 else 0:=hx;by_cases ho:¬op≤32
  ·rw[if_pos ho]at hx;subst hx;have ho':(32:Int)<op:=by omega
   have hb32:decide (op≤32)=false:=by simpa using ho'
   clear ho;have HU:=I hup;clear hup;go_in;go_wp2_with fail;go_quiet (fail);go_wp2_with fail;go_quiet (fail);go_wp2_with fail;go_quiet (fail);go_wp2_with fail;refine(sL op _).mono ?_;rintro e w1 ⟨rfl,rfl⟩;rw[HU.out];go_wp2_with fail;go_ret;exact hfin _
  ·rw[if_neg ho]at hx;have ho':op≤32:=by omega
   clear ho;by_cases hd:d=tow
   ·rw[if_neg (by simpa using hd)]at hx;subst hx;have hdb:(d != tow)=false:=by simpa using hd
    have hdb2:(d==tow)=true:=by simpa using hd
    clear hd;have HU:=I hup;clear hup;go_in;go_wp2_with fail;go_quiet (fail);go_wp2_with fail;go_quiet (fail);go_wp2_with fail;go_quiet (fail);go_wp2_with fail;refine(sL op _).mono ?_;rintro e w1 ⟨rfl,rfl⟩;rw[HU.out];go_wp2_with fail;go_ret;exact hfin _
   ·rw[if_pos hd]at hx;subst hx;have hdb:(d != tow)=true:=by simpa using hd
    have hdb2:(d==tow)=false:=by simpa using hd
    clear hd;have HU:=I hup;clear hup;go_in;go_wp2_with fail;go_quiet (fail);go_wp2_with fail;go_quiet (fail);go_wp2_with fail;go_quiet (fail);go_wp2_with fail;refine(sL op _).mono ?_;rintro e w1 ⟨rfl,rfl⟩;rw[HU.out];go_wp2_with fail;go_ret;exact hfin _
theorem RQ{n j:Nat}{l:wy}{gx:Nat}(h:Zs w gl n j l (.iface 131 (.p gx)))(hj:j<n)(hn:n≤10)(k dm pk op b' c d:Int)(x:Int)(hx:x=if op≤32 then 8 else if d≠(if ey op then l.from_ else l.to)then 10 else 0):Calls Tryz.prog 88 #[.p gl,.i d,.agg #[.i k,.i dm,.i pk,.i op,.i j,.i b',.i c]] w (rJ w x):=by
 obtain⟨g,cap,g2,cap2,c0,c1,q0,q1,q2,q3,cu⟩:=h;have l1:=World.block_lt_of_cell? w _ c0;have l2:=World.block_lt_of_cell? w _ q0;have l3:=World.block_lt_of_cell? w _ cu;dsimp only at l1 l2 l3;obtain⟨kind,fr,tow,size⟩:=l;dsimp only at q0 q1 q2 q3 hx;have hb:=(Below.refl w.heap.size w).alloc (zm _) (wQ k dm pk op j b' c);unfold wQ at hb;have hfin:∀n2,rJ w x (.returned (.i x)) ((w.alloc (.cells #[.i k,.i dm,.i pk,.i op,.i j,.i b',.i c] 38)).drewN n2):=fun _=>⟨rfl,hb.trans ⟨rfl,rfl,rfl,zm _,fun _ _=>rfl⟩⟩;have hjn:(j:Int)<n:=by omega
 clear hb;have hta:=SK (.p gx);by_cases hup:ey op=true
 ·rw[hup]at hx;replace hx:x=if op≤32 then 8 else if d≠fr then 10 else 0:=hx;by_cases ho:op≤32
  ·rw[if_pos ho]at hx;subst hx;have hb32:decide (op≤32)=true:=by simpa using ho
   have HU:=I hup;clear hup;go_in;go_wp2_with fail;go_quiet (fail);go_wp2_with fail;go_quiet (fail);go_wp2_with fail;go_quiet (fail);go_wp2_with fail;refine(sL op _).mono ?_;rintro e w1 ⟨rfl,rfl⟩;rw[HU.out];go_wp2_with fail;go_quiet (fail);go_wp2_with fail;go_ret;exact hfin _
  ·rw[if_neg ho]at hx;have ho':(32:Int)<op:=by omega
   clear ho;by_cases hd:d=fr
   ·rw[if_neg (by simpa using hd)]at hx;subst hx;have hdb:(d != fr)=false:=by simpa using hd
    have hdb2:(d==fr)=true:=by simpa using hd
    clear hd;have HU:=I hup;clear hup;go_in;go_wp2_with fail;go_quiet (fail);go_wp2_with fail;go_quiet (fail);go_wp2_with fail;go_quiet (fail);go_wp2_with fail;refine(sL op _).mono ?_;rintro e w1 ⟨rfl,rfl⟩;rw[HU.out];go_wp2_with fail;go_quiet (fail);go_wp2_with fail;go_ret;exact hfin _
   ·rw[if_pos hd]at hx;subst hx;have hdb:(d != fr)=true:=by simpa using hd
    have hdb2:(d==fr)=false:=by simpa using hd
    clear hd;have HU:=I hup;clear hup;go_in;go_wp2_with fail;go_quiet (fail);go_wp2_with fail;go_quiet (fail);go_wp2_with fail;go_quiet (fail);go_wp2_with fail;refine(sL op _).mono ?_;rintro e w1 ⟨rfl,rfl⟩;rw[HU.out];go_wp2_with fail;go_quiet (fail);go_wp2_with fail;go_ret;exact hfin _
 ·have hup:ey op=false:=by simpa using hup
  rw[hup]at hx;replace hx:x=if op≤32 then 8 else if d≠tow then 10 else 0:=hx;by_cases ho:op≤32
  ·rw[if_pos ho]at hx;subst hx;have hb32:decide (op≤32)=true:=by simpa using ho
   have HU:=I hup;clear hup;go_in;go_wp2_with fail;go_quiet (fail);go_wp2_with fail;go_quiet (fail);go_wp2_with fail;go_quiet (fail);go_wp2_with fail;refine(sL op _).mono ?_;rintro e w1 ⟨rfl,rfl⟩;rw[HU.out];go_wp2_with fail;go_ret;exact hfin _
  ·rw[if_neg ho]at hx;have ho':(32:Int)<op:=by omega
   clear ho;by_cases hd:d=tow
   ·rw[if_neg (by simpa using hd)]at hx;subst hx;have hdb:(d != tow)=false:=by simpa using hd
    have hdb2:(d==tow)=true:=by simpa using hd
    clear hd;have HU:=I hup;clear hup;go_in;go_wp2_with fail;go_quiet (fail);go_wp2_with fail;go_quiet (fail);go_wp2_with fail;go_quiet (fail);go_wp2_with fail;refine(sL op _).mono ?_;rintro e w1 ⟨rfl,rfl⟩;rw[HU.out];go_wp2_with fail;go_ret;exact hfin _
   ·rw[if_pos hd]at hx;subst hx;have hdb:(d != tow)=true:=by simpa using hd
    have hdb2:(d==tow)=false:=by simpa using hd
    clear hd;have HU:=I hup;clear hup;go_in;go_wp2_with fail;go_quiet (fail);go_wp2_with fail;go_quiet (fail);go_wp2_with fail;go_quiet (fail);go_wp2_with fail;refine(sL op _).mono ?_;rintro e w1 ⟨rfl,rfl⟩;rw[HU.out];go_wp2_with fail;go_ret;exact hfin _
theorem j6(h:xW w0 γ b gl ls en f w)(h10:ls.length≤10)(k dm pk op a b' c d:Int):Calls Tryz.prog 88 #[.p gl,.i d,.agg #[.i k,.i dm,.i pk,.i op,.i a,.i b',.i c]] w (rJ w (rB ls d op a)):=by
 by_cases h1:a<0
 ·rw[show rB ls d op a=7 from if_pos (.inl h1)];exact RP h _ _ _ _ _ _ _ _ h1
 ·by_cases h2:(ls.length:Int)≤a
  ·rw[show rB ls d op a=7 from if_pos (.inr h2)];exact TA h _ _ _ _ _ _ _ _ (by omega) h2
  ·obtain⟨j,rfl⟩:∃j:Nat,a=j:=⟨a.toNat,by omega⟩;have hj:j<ls.length:=by omega
   have hl:ls[j]? =some ls[j]:=zl hj;obtain⟨u,hat,hend⟩:=h.at_ hl;have hm:rB ls d op j=if(ls[j].kind=1)≠(op≤32)then 8 else if d≠(if ey op then ls[j].from_ else ls[j].to)then 10 else 0:=by unfold rB;rw[if_neg (by omega),zu,hl]
   generalize ls[j]=l at*;rcases hend.Pv with⟨hk,g,rfl⟩|⟨hk,g,rfl⟩
   ·exact Tz hat hj h10 _ _ _ _ _ _ _ _ (by rw[hm];simp[hk])
   ·exact RQ hat hj h10 _ _ _ _ _ _ _ _ (by rw[hm];simp[hk])
end
end
section
open Go.RowKit Go.ChangeMaps
def ja(d t:Int):Obj:=.cells #[.i d,.i t] 194
def tf(l s:Int):Obj:=.cells #[.i l,.i s] 234
structure rN (w0:World) (γ:U) (b gl gm tc g clock:Nat) (lv ev:Value) (es:Array MapEntry) (f:Int→Int→Option (Int×Int)) (c:CS) (w:World):Prop where
 own:Own w0 w γ
 top:γ b=some (gl,.cells #[lv,ev,.map (some gm)] 128 (0,0))
 map:γ (b+1)=some (gm,.map es clock)
 fn:vi es.toList f
 cell:γ tc=some (g,wO c)
 ok:c.Ok
 ZQ:b+10≤tc
def rF(w0:World)(γ:U)(b gm:Nat)(f:Int→Int→Option (Int×Int))(x n:Int)(e:Ending)(w':World):Prop:=
 e=.returned (.tuple #[.i x,.i n])∧∃es clock γ',Own w0 w' γ'∧γ' (b+1)=some (gm,.map es clock)∧vi es.toList f∧∀k,k≠b+1→k≠b+5→k≠b+6→k≠b+7→γ' k=γ k
structure RD (w0:World) (γ0 γ:U) (b gl gm tc g clock:Nat) (lv ev:Value) (es:Array MapEntry) (f:Int→Int→Option (Int×Int)) (c:CS) (d t k dm pk op a b' v:Int) (g5:Nat) (w:World):Prop where
 r:rN w0 γ b gl gm tc g clock lv ev es f c w
 k5:γ (b+5)=some (g5,ja d t)
 k6:γ (b+6)=some (g5+1,wQ k dm pk op a b' v)
 rest:∀k,k≠b+1→k≠b+5→k≠b+6→k≠b+7→γ k=γ0 k
section
variable {w0 w:World} {γ γ0:U} {b gl gm tc g clock:Nat} {lv ev:Value} {es:Array MapEntry} {f:Int→Int→Option (Int×Int)} {c:CS} {d t k dm pk op a b' v:Int} {g5:Nat}
theorem rN.start(h:rN w0 γ b gl gm tc g clock lv ev es f c w):RD w0 γ (put (put γ (b+5) w.heap.size (ja d t)) (b+6) (w.heap.size+1) (wQ k dm pk op a b' v)) b gl gm tc g clock lv ev es f c d t k dm pk op a b' v w.heap.size ((w.alloc (ja d t)).alloc (wQ k dm pk op a b' v)):=by
 have ho:=(h.own.new (b+5) (ja d t)).new (b+6) (wQ k dm pk op a b' v);have e2:(w.alloc (ja d t)).heap.size=w.heap.size+1:=by simp
 rw[e2]at ho;have:=h.ZQ;refine⟨⟨ho,?_,?_,h.fn,?_,h.ok,h.ZQ⟩,?_,yQ _ _ _ _,fun k _ h5 h6 _=>by rw[yO _ _ _ h6,yO _ _ _ h5]⟩
 ·rw[yO _ _ _ (by omega),yO _ _ _ (by omega)];exact h.top
 ·rw[yO _ _ _ (by omega),yO _ _ _ (by omega)];exact h.map
 ·rw[yO _ _ _ (by omega),yO _ _ _ (by omega)];exact h.cell
 ·rw[yO _ _ _ (by omega),yQ]
theorem RD.drew(h:RD w0 γ0 γ b gl gm tc g clock lv ev es f c d t k dm pk op a b' v g5 w):RD w0 γ0 γ b gl gm tc g clock lv ev es f c d t k dm pk op a b' v g5 w.drew:=⟨⟨h.r.own.drew,h.r.top,h.r.map,h.r.fn,h.r.cell,h.r.ok,h.r.ZQ⟩,h.k5,h.k6,h.rest⟩
theorem RD.new(h:RD w0 γ0 γ b gl gm tc g clock lv ev es f c d t k dm pk op a b' v g5 w)(x:Obj):RD w0 γ0 (put γ (b+7) w.heap.size x) b gl gm tc g clock lv ev es f c d t k dm pk op a b' v g5 (w.alloc x):=by
 have:=h.r.ZQ;refine⟨⟨h.r.own.new _ x,?_,?_,h.r.fn,?_,h.r.ok,h.r.ZQ⟩,?_,?_,fun k h1 h5 h6 h7=>by rw[yO _ _ _ h7];exact h.rest k h1 h5 h6 h7⟩
 ·rw[yO _ _ _ (by omega)];exact h.r.top
 ·rw[yO _ _ _ (by omega)];exact h.r.map
 ·rw[yO _ _ _ (by omega)];exact h.r.cell
 ·rw[yO _ _ _ (by omega)];exact h.k5
 ·rw[yO _ _ _ (by omega)];exact h.k6
theorem RD.map'(h:RD w0 γ0 γ b gl gm tc g clock lv ev es f c d t k dm pk op a b' v g5 w){es':Array MapEntry}{clock':Nat}{f':Int→Int→Option (Int×Int)}(hf:vi es'.toList f'):RD w0 γ0 (put γ (b+1) gm (.map es' clock')) b gl gm tc g clock' lv ev es' f' c d t k dm pk op a b' v g5 (setBlock w gm (.map es' clock')):=by
 have:=h.r.ZQ;refine⟨⟨h.r.own.block h.r.map _,?_,yQ _ _ _ _,hf,?_,h.r.ok,h.r.ZQ⟩,?_,?_,fun k h1 h5 h6 h7=>by rw[yO _ _ _ h1];exact h.rest k h1 h5 h6 h7⟩
 ·rw[yO _ _ _ (by omega)];exact h.r.top
 ·rw[yO _ _ _ (by omega)];exact h.r.cell
 ·rw[yO _ _ _ (by omega)];exact h.k5
 ·rw[yO _ _ _ (by omega)];exact h.k6
theorem RD.cells(h:RD w0 γ0 γ b gl gm tc g clock lv ev es f c d t k dm pk op a b' v g5 w):w.cell? (zc gl 2)=some (.map (some gm))∧w.cell? (zc g5 0)=some (.i d)∧w.cell? (zc g5 1)=some (.i t)∧w.cell? (zc (g5+1) 3)=some (.i op)∧w.cell? (zc (g5+1) 4)=some (.i a)∧w.cell? (zc (g5+1) 5)=some (.i b')∧gl<w.heap.size∧g5<w.heap.size∧g5+1<w.heap.size∧g<w.heap.size:=⟨h.r.own.cell h.r.top (i:=2) rfl,h.r.own.cell h.k5 (i:=0) rfl,h.r.own.cell h.k5 (i:=1) rfl,h.r.own.cell h.k6 (i:=3) rfl,h.r.own.cell h.k6 (i:=4) rfl,h.r.own.cell h.k6 (i:=5) rfl,h.r.own.lt h.r.top,h.r.own.lt h.k5,h.r.own.lt h.k6,h.r.own.lt h.r.cell⟩
theorem RD.look(h:RD w0 γ0 γ b gl gm tc g clock lv ev es f c d t k dm pk op a b' v g5 w)(h1:Fits d)(h2:Fits t):(Instr.lookup 126 (.map (some gm)) (.agg #[.i d,.i t]) true).run Tryz.prog w=.ok (.tuple #[found (f d t),.bool (f d t).isSome]) w:=Zd (h.r.own.own _ _ _ h.r.map).2 h.r.fn h1 h2
theorem RD.del(h:RD w0 γ0 γ b gl gm tc g clock lv ev es f c d t k dm pk op a b' v g5 w)(h1:Fits d)(h2:Fits t):∃es',(Builtin.delete_ #[126,194] 0 #[.map (some gm),.agg #[.i d,.i t]]).run Tryz.prog w=.ok (.tuple #[]) (setBlock w gm (.map es' clock))∧RD w0 γ0 (put γ (b+1) gm (.map es' clock)) b gl gm tc g clock lv ev es' (vH f d t) c d t k dm pk op a b' v g5 (setBlock w gm (.map es' clock)):=by obtain⟨es',hr,hf⟩:=fB (h.r.own.own _ _ _ h.r.map).2 h.r.fn h1 h2 0;exact⟨es',hr,h.map' hf⟩
theorem RD.uX(h:RD w0 γ0 γ b gl gm tc g clock lv ev es f c d t k dm pk op a b' v g5 w)(h1:Fits d)(h2:Fits t)(hn:f d t=none)(l s:Int):∃es' clock',(Instr.mapUpdate 126 (.map (some gm)) (.agg #[.i d,.i t]) (.agg #[.i l,.i s])).run Tryz.prog w=.ok () (setBlock w gm (.map es' clock'))∧RD w0 γ0 (put γ (b+1) gm (.map es' clock')) b gl gm tc g clock' lv ev es' (ji f d t l s) c d t k dm pk op a b' v g5 (setBlock w gm (.map es' clock')):=by obtain⟨es',clock',hr,hf⟩:=Ze (h.r.own.own _ _ _ h.r.map).2 h.r.fn h1 h2 hn l s;exact⟨es',clock',hr,h.map' hf⟩
theorem RD.post(h:RD w0 γ0 γ b gl gm tc g clock lv ev es f c d t k dm pk op a b' v g5 w)(x n:Int):rF w0 γ0 b gm f x n (.returned (.tuple #[.i x,.i n])) w:=⟨rfl,es,clock,γ,h.r.own,h.r.map,h.r.fn,h.rest⟩
theorem Wg(f:Int→Int→Option (Int×Int))(d t:Int):vH f d t d t=none:=by unfold vH;simp
theorem Zc(h:rN w0 γ b gl gm tc g clock lv ev es f c w){d t:Int}(h1:Fits d)(h2:Fits t)(k dm pk a b' v:Int)(ht:c.t=0)(q:Int)(hq:(c.q:Int)=q):Calls Tryz.prog 91 #[.p gl,.agg #[.i d,.i t],.agg #[.i k,.i dm,.i pk,.i 30,.i a,.i b',.i v],.p g] w (rF w0 γ b gm (ji (vH f d t) d t a q) 0 q):=by
 have hR:RD w0 γ _ b gl gm tc g clock lv ev es f c d t k dm pk 30 a b' v w.heap.size _:=h.start;have HE:Hid (c.gB=q∧c.gz=0):=⟨by rw[←hq];simp[CS.gB,ht],by simp[CS.gz,ht]⟩;clear ht hq;obtain⟨rl,rs,hfd⟩:∃x y,found (f d t)=.agg #[.i x,.i y]:=by
  cases f d t with
  |none=>exact⟨0,0,rfl⟩
  |some x=>exact⟨x.1,x.2,rfl⟩
 generalize hisx:(f d t).isSome=isx;have Hisx:=I hisx;clear hisx;clear h;unfold ja wQ at hR;generalize put (put γ _ _ _) _ _ _=γ1 at*;have HR:=I hR;clear hR;go_in;go_wp2_with fail;generalize(w.alloc (Obj.cells #[.i d,.i t] 194)).alloc _=W at*;generalize w.heap.size=g5 at*;obtain⟨c2,c50,c51,c63,c64,c65,ll,l5,l6,lg⟩:=HR.out.cells;have hlk1:=HR.out.drew.look h1 h2;have hlk2:=((HR.out.new (.cells #[.i 0,.i 0] 234)).drew).look h1 h2;rw[hfd]at hlk1 hlk2;go_region;all_goals
  clear hlk1 hlk2;have H2:=I (HR.out.new (tf rl rs)).drew;have hs7:=HR.out.r.own.new (b+7) (tf rl rs);have l7:W.heap.size<(W.alloc (tf rl rs)).heap.size:=by simp
  have c70:=hs7.drew.cell (yQ _ _ _ _) (i:=0) rfl;have c71:=hs7.drew.cell (yQ _ _ _ _) (i:=1) rfl;have Hk7:=I (yQ γ1 (b+7) W.heap.size (tf rl rs));unfold tf at H2 Hk7 l7 c70 c71;clear HR c2 c50 c51 c63 c64 c65 ll l5 l6 lg hs7;obtain⟨c2,c50,c51,c63,c64,c65,ll,l5,l6,lg⟩:=H2.out.cells;generalize put γ1 (b+7) _ _=γ2 at*;generalize W.heap.size=g7 at*;generalize W.alloc _=W2 at*;go_wp2_with fail;obtain⟨es2,hdel,hR3⟩:=H2.out.drew.del h1 h2;have H3:=I hR3;clear hR3;go_region;all_goals generalize put γ2 _ _ _=γ3 at*;generalize setBlock _ _ _=W3 at*;clear c2 c50 c51 c63 c64 c65 ll l5 l6 lg hdel c70 c71;obtain⟨c2,c50,c51,c63,c64,c65,ll,l5,l6,lg⟩:=H3.out.cells;go_wp2_with fail;refine(fy H3.out.r.own H3.out.r.cell H3.out.r.ok).mono ?_;rintro e w4 ⟨rfl,rfl⟩;rw[bz,HE.out.1,HE.out.2];go_wp2_with fail;obtain⟨es4,clock4,hup,hR4⟩:=H3.out.drew.uX h1 h2 (Wg f d t) a q;have H4:=I hR4;clear hR4;go_region;all_goals generalize put γ3 _ _ _=γ4 at*;generalize setBlock _ _ _=W4 at*;clear c2 c50 c51 c63 c64 c65 ll l5 l6 lg hup;go_wp2_with fail;go_ret2;exact H4.out.post _ _
theorem cT(h:rN w0 γ b gl gm tc g clock lv ev es f c w){d t:Int}(h1:Fits d)(h2:Fits t)(k dm pk a b' v:Int)(ht:c.t≠0):Calls Tryz.prog 91 #[.p gl,.agg #[.i d,.i t],.agg #[.i k,.i dm,.i pk,.i 30,.i a,.i b',.i v],.p g] w (rF w0 γ b gm (vH f d t) 17 0):=by
 have hR:RD w0 γ _ b gl gm tc g clock lv ev es f c d t k dm pk 30 a b' v w.heap.size _:=h.start;have HE:Hid (c.gB=0∧c.gz=17):=⟨by simp[CS.gB,ht],by simp[CS.gz,ht]⟩;clear ht;obtain⟨rl,rs,hfd⟩:∃x y,found (f d t)=.agg #[.i x,.i y]:=by
  cases f d t with
  |none=>exact⟨0,0,rfl⟩
  |some x=>exact⟨x.1,x.2,rfl⟩
 generalize hisx:(f d t).isSome=isx;have Hisx:=I hisx;clear hisx;clear h;unfold ja wQ at hR;generalize put (put γ _ _ _) _ _ _=γ1 at*;have HR:=I hR;clear hR;go_in;go_wp2_with fail;generalize(w.alloc (Obj.cells #[.i d,.i t] 194)).alloc _=W at*;generalize w.heap.size=g5 at*;obtain⟨c2,c50,c51,c63,c64,c65,ll,l5,l6,lg⟩:=HR.out.cells;have hlk1:=HR.out.drew.look h1 h2;have hlk2:=((HR.out.new (.cells #[.i 0,.i 0] 234)).drew).look h1 h2;rw[hfd]at hlk1 hlk2;go_region;all_goals
  clear hlk1 hlk2;have H2:=I (HR.out.new (tf rl rs)).drew;have hs7:=HR.out.r.own.new (b+7) (tf rl rs);have l7:W.heap.size<(W.alloc (tf rl rs)).heap.size:=by simp
  have c70:=hs7.drew.cell (yQ _ _ _ _) (i:=0) rfl;have c71:=hs7.drew.cell (yQ _ _ _ _) (i:=1) rfl;have Hk7:=I (yQ γ1 (b+7) W.heap.size (tf rl rs));unfold tf at H2 Hk7 l7 c70 c71;clear HR c2 c50 c51 c63 c64 c65 ll l5 l6 lg hs7;obtain⟨c2,c50,c51,c63,c64,c65,ll,l5,l6,lg⟩:=H2.out.cells;generalize put γ1 (b+7) _ _=γ2 at*;generalize W.heap.size=g7 at*;generalize W.alloc _=W2 at*;go_wp2_with fail;obtain⟨es2,hdel,hR3⟩:=H2.out.drew.del h1 h2;have H3:=I hR3;clear hR3;go_region;all_goals generalize put γ2 _ _ _=γ3 at*;generalize setBlock _ _ _=W3 at*;clear c2 c50 c51 c63 c64 c65 ll l5 l6 lg hdel c70 c71;obtain⟨c2,c50,c51,c63,c64,c65,ll,l5,l6,lg⟩:=H3.out.cells;go_wp2_with fail;refine(fy H3.out.r.own H3.out.r.cell H3.out.r.ok).mono ?_;rintro e w4 ⟨rfl,rfl⟩;rw[bz,HE.out.1,HE.out.2];go_wp2_with fail;go_ret2;exact H3.out.post _ _
theorem Us(h:rN w0 γ b gl gm tc g clock lv ev es f c w){d t:Int}(h1:Fits d)(h2:Fits t)(k dm pk op a b' v:Int)(hop:op≠30)(hfn:f d t=none):Calls Tryz.prog 91 #[.p gl,.agg #[.i d,.i t],.agg #[.i k,.i dm,.i pk,.i op,.i a,.i b',.i v],.p g] w (rF w0 γ b gm f 11 0):=by
 have hR:RD w0 γ _ b gl gm tc g clock lv ev es f c d t k dm pk op a b' v w.heap.size _:=h.start;have hfd:=I hfn;clear hfn;have b30:(op==30)=false:=by simpa using hop
 clear hop;clear h;unfold ja wQ at hR;generalize put (put γ _ _ _) _ _ _=γ1 at*;have HR:=I hR;clear hR;go_in;go_wp2_with fail;generalize(w.alloc (Obj.cells #[.i d,.i t] 194)).alloc _=W at*;generalize w.heap.size=g5 at*;obtain⟨c2,c50,c51,c63,c64,c65,ll,l5,l6,lg⟩:=HR.out.cells;have hlk1:=HR.out.drew.look h1 h2;have hlk2:=((HR.out.new (.cells #[.i 0,.i 0] 234)).drew).look h1 h2;rw[hfd.out]at hlk1 hlk2;simp only[found,sG,Option.isSome]at hlk1 hlk2;go_region;all_goals
  clear hlk1 hlk2;have H2:=I (HR.out.new (tf 0 0)).drew;have hs7:=HR.out.r.own.new (b+7) (tf 0 0);have l7:W.heap.size<(W.alloc (tf 0 0)).heap.size:=by simp
  have c70:=hs7.drew.cell (yQ _ _ _ _) (i:=0) rfl;have c71:=hs7.drew.cell (yQ _ _ _ _) (i:=1) rfl;have Hk7:=I (yQ γ1 (b+7) W.heap.size (tf 0 0));unfold tf at H2 Hk7 l7 c70 c71;clear HR c2 c50 c51 c63 c64 c65 ll l5 l6 lg hs7;obtain⟨c2,c50,c51,c63,c64,c65,ll,l5,l6,lg⟩:=H2.out.cells;generalize put γ1 (b+7) _ _=γ2 at*;generalize W.heap.size=g7 at*;generalize W.alloc _=W2 at*;go_wp2_with fail;go_ret2;exact H2.out.post _ _
theorem Wx(h:rN w0 γ b gl gm tc g clock lv ev es f c w){d t:Int}(h1:Fits d)(h2:Fits t)(k dm pk op a b' v:Int)(hop:op≠30)(l s:Int)(hfn:f d t=some (l,s))(hla:l≠a):Calls Tryz.prog 91 #[.p gl,.agg #[.i d,.i t],.agg #[.i k,.i dm,.i pk,.i op,.i a,.i b',.i v],.p g] w (rF w0 γ b gm f 11 0):=by
 have hR:RD w0 γ _ b gl gm tc g clock lv ev es f c d t k dm pk op a b' v w.heap.size _:=h.start;have hfd:=I hfn;clear hfn;have b30:(op==30)=false:=by simpa using hop
 clear hop;have bla:(l != a)=true:=by simpa using hla
 have bla2:(l==a)=false:=by simpa using hla
 clear hla;clear h;unfold ja wQ at hR;generalize put (put γ _ _ _) _ _ _=γ1 at*;have HR:=I hR;clear hR;go_in;go_wp2_with fail;generalize(w.alloc (Obj.cells #[.i d,.i t] 194)).alloc _=W at*;generalize w.heap.size=g5 at*;obtain⟨c2,c50,c51,c63,c64,c65,ll,l5,l6,lg⟩:=HR.out.cells;have hlk1:=HR.out.drew.look h1 h2;have hlk2:=((HR.out.new (.cells #[.i 0,.i 0] 234)).drew).look h1 h2;rw[hfd.out]at hlk1 hlk2;simp only[found,sG,Option.isSome]at hlk1 hlk2;go_region;all_goals
  clear hlk1 hlk2;have H2:=I (HR.out.new (tf l s)).drew;have hs7:=HR.out.r.own.new (b+7) (tf l s);have l7:W.heap.size<(W.alloc (tf l s)).heap.size:=by simp
  have c70:=hs7.drew.cell (yQ _ _ _ _) (i:=0) rfl;have c71:=hs7.drew.cell (yQ _ _ _ _) (i:=1) rfl;have Hk7:=I (yQ γ1 (b+7) W.heap.size (tf l s));unfold tf at H2 Hk7 l7 c70 c71;clear HR c2 c50 c51 c63 c64 c65 ll l5 l6 lg hs7;obtain⟨c2,c50,c51,c63,c64,c65,ll,l5,l6,lg⟩:=H2.out.cells;generalize put γ1 (b+7) _ _=γ2 at*;generalize W.heap.size=g7 at*;generalize W.alloc _=W2 at*;go_wp2_with fail;go_ret2;exact H2.out.post _ _
theorem Ut(h:rN w0 γ b gl gm tc g clock lv ev es f c w){d t:Int}(h1:Fits d)(h2:Fits t)(k dm pk op a b' v:Int)(hop:op=31)(s:Int)(hfn:f d t=some (a,s))(xe xn:Int)(hxe:c.uw b'=xe)(hxn:c.eO b'=xn):Calls Tryz.prog 91 #[.p gl,.agg #[.i d,.i t],.agg #[.i k,.i dm,.i pk,.i op,.i a,.i b',.i v],.p g] w (rF w0 γ b gm f xe xn):=by
 have hR:RD w0 γ _ b gl gm tc g clock lv ev es f c d t k dm pk op a b' v w.heap.size _:=h.start;have hfd:=I hfn;clear hfn;have HE:Hid (c.uw b'=xe∧c.eO b'=xn):=⟨hxe,hxn⟩;clear hxe hxn;subst hop;clear h;unfold ja wQ at hR;generalize put (put γ _ _ _) _ _ _=γ1 at*;have HR:=I hR;clear hR;go_in;go_wp2_with fail;generalize(w.alloc (Obj.cells #[.i d,.i t] 194)).alloc _=W at*;generalize w.heap.size=g5 at*;obtain⟨c2,c50,c51,c63,c64,c65,ll,l5,l6,lg⟩:=HR.out.cells;have hlk1:=HR.out.drew.look h1 h2;have hlk2:=((HR.out.new (.cells #[.i 0,.i 0] 234)).drew).look h1 h2;rw[hfd.out]at hlk1 hlk2;simp only[found,sG,Option.isSome]at hlk1 hlk2;go_region;all_goals
  clear hlk1 hlk2;have H2:=I (HR.out.new (tf a s)).drew;have hs7:=HR.out.r.own.new (b+7) (tf a s);have l7:W.heap.size<(W.alloc (tf a s)).heap.size:=by simp
  have c70:=hs7.drew.cell (yQ _ _ _ _) (i:=0) rfl;have c71:=hs7.drew.cell (yQ _ _ _ _) (i:=1) rfl;have Hk7:=I (yQ γ1 (b+7) W.heap.size (tf a s));unfold tf at H2 Hk7 l7 c70 c71;clear HR c2 c50 c51 c63 c64 c65 ll l5 l6 lg hs7;obtain⟨c2,c50,c51,c63,c64,c65,ll,l5,l6,lg⟩:=H2.out.cells;generalize put γ1 (b+7) _ _=γ2 at*;generalize W.heap.size=g7 at*;generalize W.alloc _=W2 at*;go_wp2_with fail;refine(ZE H2.out.r.own H2.out.r.cell H2.out.r.ok b').mono ?_;rintro e w4 ⟨rfl,rfl⟩;rw[bz,HE.out.1,HE.out.2];go_wp2_with fail;go_ret2;exact H2.out.post _ _
theorem TR(h:rN w0 γ b gl gm tc g clock lv ev es f c w){d t:Int}(h1:Fits d)(h2:Fits t)(k dm pk op a b' v:Int)(hop:op=32)(s:Int)(hfn:f d t=some (a,s))(xe:Int)(hxe:c.eK s=xe):Calls Tryz.prog 91 #[.p gl,.agg #[.i d,.i t],.agg #[.i k,.i dm,.i pk,.i op,.i a,.i b',.i v],.p g] w (rF w0 γ b gm (vH f d t) xe 0):=by
 have hR:RD w0 γ _ b gl gm tc g clock lv ev es f c d t k dm pk op a b' v w.heap.size _:=h.start;have hfd:=I hfn;clear hfn;have HE:=I hxe;clear hxe;subst hop;clear h;unfold ja wQ at hR;generalize put (put γ _ _ _) _ _ _=γ1 at*;have HR:=I hR;clear hR;go_in;go_wp2_with fail;generalize(w.alloc (Obj.cells #[.i d,.i t] 194)).alloc _=W at*;generalize w.heap.size=g5 at*;obtain⟨c2,c50,c51,c63,c64,c65,ll,l5,l6,lg⟩:=HR.out.cells;have hlk1:=HR.out.drew.look h1 h2;have hlk2:=((HR.out.new (.cells #[.i 0,.i 0] 234)).drew).look h1 h2;rw[hfd.out]at hlk1 hlk2;simp only[found,sG,Option.isSome]at hlk1 hlk2;go_region;all_goals
  clear hlk1 hlk2;have H2:=I (HR.out.new (tf a s)).drew;have hs7:=HR.out.r.own.new (b+7) (tf a s);have l7:W.heap.size<(W.alloc (tf a s)).heap.size:=by simp
  have c70:=hs7.drew.cell (yQ _ _ _ _) (i:=0) rfl;have c71:=hs7.drew.cell (yQ _ _ _ _) (i:=1) rfl;have Hk7:=I (yQ γ1 (b+7) W.heap.size (tf a s));unfold tf at H2 Hk7 l7 c70 c71;clear HR c2 c50 c51 c63 c64 c65 ll l5 l6 lg hs7;obtain⟨c2,c50,c51,c63,c64,c65,ll,l5,l6,lg⟩:=H2.out.cells;generalize put γ1 (b+7) _ _=γ2 at*;generalize W.heap.size=g7 at*;generalize W.alloc _=W2 at*;go_wp2_with fail;obtain⟨es2,hdel,hR3⟩:=H2.out.drew.del h1 h2;have H3:=I hR3;have c71':=hR3.r.own.cell ((yO _ _ _ (by omega)).trans Hk7.out) (i:=1) (v:=.i s) rfl;clear hR3;go_region;all_goals generalize put γ2 _ _ _=γ3 at*;generalize setBlock _ _ _=W3 at*;clear c2 c50 c51 c63 c64 c65 ll l5 l6 lg hdel c70 c71;obtain⟨c2,c50,c51,c63,c64,c65,ll,l5,l6,lg⟩:=H3.out.cells;go_wp2_with fail;refine(ZD H3.out.r.own H3.out.r.cell H3.out.r.ok s).mono ?_;rintro e w4 ⟨rfl,rfl⟩;rw[ky,HE.out];go_wp2_with fail;go_ret2;exact H3.out.post _ _
end
end
section
open Go.RowKit Go.ChangeMaps
def aD(c:CS)(f:Int→Int→Option (Int×Int))(d t op a b':Int):Int×Int×(Int→Int→Option (Int×Int)):=
 if op=30 then(if c.t=0 then(0,(c.q:Int),ji (vH f d t) d t a c.q)else(17,0,vH f d t))
 else match f d t with
  |none=>(11,0,f)
  |some x=>if x.1≠a then(11,0,f)else if op=31 then(c.uw b',c.eO b',f)else(c.eK x.2,0,vH f d t)
def so.sX:so→Nat
 | .cell c=>c.q
 | .tP _ all _=>all.length
def tM(en:Nat→so)(k:Nat)(e:so):Nat→so:=fun i=>if i=k then e else en i
structure LS where
 ls:List wy
 en:Nat→so
 f:Int→Int→Option (Int×Int)
def qE(s:LS)(d t op a b' v:Int):Int×Int×Int×LS:=
 if op<27∨34<op then(1,0,0,s)
 else if rB s.ls d op a≠0 then(rB s.ls d op a,0,0,s)
 else match s.en a.toNat with
  | .tP z all next=>if op=33 then(0,0,0,{s with en:=tM s.en a.toNat (.tP z (all++[b']) next)})
   else(kl all next,kn z all next,km z all next,{s with en:=tM s.en a.toNat (.tP z all (kj z all next))})
  | .cell c=>if 30≤op then((aD c s.f d t op a b').1,(aD c s.f d t op a b').2.1,0,{s with f:=(aD c s.f d t op a b').2.2})
   else(c.wE op t b',0,0,{s with en:=tM s.en a.toNat (.cell (c.wS op t b' v))})
def qm(w0:World)(γ:U)(b gl:Nat)(s:LS)(w:World):Prop:=xW w0 γ b gl s.ls s.en s.f w
def jV(w0:World)(γ:U)(b gl:Nat)(x:Int×Int×Int×LS)(e:Ending)(w':World):Prop:=
 e=.returned (.tuple #[.i x.1,.i x.2.1,.i x.2.2.1])∧∃γ',qm w0 γ' b gl x.2.2.2 w'∧∀k,(k<b∨b+30≤k)→γ' k=γ k
section
variable {w0 w:World} {γ γ0:U} {b gl gm tc g clock:Nat} {lv ev:Value} {es:Array MapEntry} {f:Int→Int→Option (Int×Int)} {c:CS} {d t k dm pk op a b' v:Int} {g5:Nat}
theorem TQ(h:rN w0 γ b gl gm tc g clock lv ev es f c w){d t:Int}(h1:Fits d)(h2:Fits t)(k dm pk op a b' v:Int)(hop:30≤op∧op≤32):Calls Tryz.prog 91 #[.p gl,.agg #[.i d,.i t],.agg #[.i k,.i dm,.i pk,.i op,.i a,.i b',.i v],.p g] w (rF w0 γ b gm (aD c f d t op a b').2.2 (aD c f d t op a b').1 (aD c f d t op a b').2.1):=by
 unfold aD;by_cases h30:op=30
 ·subst h30;by_cases ht:c.t=0
  ·simp only[if_pos,ht];exact Zc h h1 h2 _ _ _ _ _ _ ht _ rfl
  ·simp only[if_pos,if_neg ht];exact cT h h1 h2 _ _ _ _ _ _ ht
 ·simp only[if_neg h30];cases hf:f d t with
  |none=>exact Us h h1 h2 _ _ _ _ _ _ _ h30 hf
  |some x=>
   obtain⟨l,s⟩:=x;by_cases hl:l=a
   ·subst hl;simp only[ne_eq,not_true_eq_false,if_false];by_cases h31:op=31
    ·simp only[if_pos h31];exact Ut h h1 h2 _ _ _ _ _ _ _ h31 s hf _ _ rfl rfl
    ·simp only[if_neg h31];exact TR h h1 h2 _ _ _ _ _ _ _ (by omega) s hf _ rfl
   ·simp only[ne_eq,hl,not_false_eq_true,if_true];exact Wx h h1 h2 _ _ _ _ _ _ _ h30 l s hf hl
theorem xW.keep{ls:List wy}{en:Nat→so}{f:Int→Int→Option (Int×Int)}{γ':U}{w':World}(h:xW w0 γ b gl ls en f w)(ho:Own w0 w' γ')(hk:∀k,(b≤k∧k<b+4)∨(b+10≤k∧k<b+10+2*ls.length)→γ' k=γ k):xW w0 γ' b gl ls en f w':=by obtain⟨_,lv,ev,gm,es,clock,vs,h0,h1,h2,h3,h4,h5⟩:=h;refine⟨ho,lv,ev,gm,es,clock,vs,by rw[hk _ (by omega)];exact h0,by rw[hk _ (by omega)];exact h1,h2,h3.keep (hk _ (by omega)),h4.keep (hk _ (by omega)),fun i l hi=>(h5 i l hi).keep (hk _ ?_) (hk _ ?_)⟩;all_goals have:=(zk.1 hi).1;omega
theorem xW.xh{ls:List wy}{en:Nat→so}{f:Int→Int→Option (Int×Int)}{w':World}(h:xW w0 γ b gl ls en f w)(hb:Below w.heap.size w w'):xW w0 γ b gl ls en f w':=h.keep (h.own.xh hb) fun _ _=>rfl
theorem xW.tw{ls:List wy}{en en':Nat→so}{f f':Int→Int→Option (Int×Int)}{γ':U}{w':World}(h:xW w0 γ b gl ls en f w)(ho:Own w0 w' γ'){j:Nat}{l:wy}(hl:ls[j]? =some l)(hk:∀k,(b≤k∧k<b+4∧k≠b+1)∨(b+10≤k∧k<b+10+2*ls.length∧k≠b+10+2*j∧k≠b+11+2*j)→γ' k=γ k)(hm:∀gm es clock,γ (b+1)=some (gm,.map es clock)→∃es' clock',γ' (b+1)=some (gm,.map es' clock')∧(vi es.toList f→vi es'.toList f'))(he:∀u,tD γ (b+10+2*j) u l.kind (en j)→tD γ' (b+10+2*j) u l.kind (en' j))(hen:∀i,i≠j→en' i=en i):xW w0 γ' b gl ls en' f' w':=by
 obtain⟨_,lv,ev,gm,es,clock,vs,h0,h1,h2,h3,h4,h5⟩:=h;obtain⟨es',clock',hm1,hm2⟩:=hm gm es clock h1;refine⟨ho,lv,ev,gm,es',clock',vs,by rw[hk _ (by omega)];exact h0,hm1,hm2 h2,h3.keep (hk _ (by omega)),h4.keep (hk _ (by omega)),fun i l' hi=>?_⟩;by_cases e:i=j
 ·subst e;rw[hl]at hi;cases hi;exact he _ (h5 i l hl)
 ·rw[hen i e];have:=(zk.1 hi).1;exact(h5 i l' hi).keep (hk _ (by omega)) (hk _ (by omega))
theorem qm.drewN{s:LS}(h:qm w0 γ b gl s w)(n:Nat):qm w0 γ b gl s (w.drewN n):=xW.xh h ⟨rfl,rfl,rfl,zm _,fun _ _=>rfl⟩
theorem qm.box{s:LS}(h:qm w0 γ b gl s w)(o:Obj):qm w0 (put γ (b+4) w.heap.size o) b gl s (w.alloc o):=xW.keep h (h.own.new _ o) fun k hk=>yO _ _ _ (by omega)
theorem NL(d t k dm pk op a b' v:Int)(w:World):Calls Tryz.prog 65 #[.pointer none,.i d,.i t,.agg #[.i k,.i dm,.i pk,.i op,.i a,.i b',.i v]] w fun e w'=>e=.returned (.tuple #[.i 1,.i 0,.i 0])∧Below w.heap.size w w':=by have hb:=(Below.refl w.heap.size w).alloc (zm _) (wQ k dm pk op a b' v);unfold wQ at hb;go_in;go_wp2_with fail;refine bodyPost_ret (results_tmp3 rfl _ _ _) rfl ?_;exact⟨rfl,hb⟩
def ry(w0:World)(γ:U)(b gl:Nat)(x:Int)(s:LS)(e:Ending)(w':World):Prop:=
 e=.returned (.tuple #[.i x,.i 0,.i 0])∧∃γ',qm w0 γ' b gl s w'∧∀k,(k<b∨b+30≤k)→γ' k=γ k
theorem Pf{s:LS}(h:qm w0 γ b gl s w)(d t k dm pk op a b' v:Int)(hop:op<27):Calls Tryz.prog 65 #[.p gl,.i d,.i t,.agg #[.i k,.i dm,.i pk,.i op,.i a,.i b',.i v]] w (ry w0 γ b gl 1 s):=by have hfin:ry w0 γ b gl 1 s (.returned (.tuple #[.i 1,.i 0,.i 0])) (w.alloc (wQ k dm pk op a b' v)):=⟨rfl,_,h.box _,fun k hk=>yO _ _ _ (by omega)⟩;unfold wQ at hfin;clear h;go_in;go_wp2_with fail;refine bodyPost_ret (results_tmp3 rfl _ _ _) rfl ?_;exact hfin
theorem Rh{s:LS}(h:qm w0 γ b gl s w)(d t k dm pk op a b' v:Int)(hop:34<op):Calls Tryz.prog 65 #[.p gl,.i d,.i t,.agg #[.i k,.i dm,.i pk,.i op,.i a,.i b',.i v]] w (ry w0 γ b gl 1 s):=by have hfin:ry w0 γ b gl 1 s (.returned (.tuple #[.i 1,.i 0,.i 0])) (w.alloc (wQ k dm pk op a b' v)):=⟨rfl,_,h.box _,fun k hk=>yO _ _ _ (by omega)⟩;unfold wQ at hfin;clear h;go_in;go_wp2_with fail;refine bodyPost_ret (results_tmp3 rfl _ _ _) rfl ?_;exact hfin
theorem Of{s:LS}(h:qm w0 γ b gl s w)(h10:s.ls.length≤10)(d t k dm pk op a b' v:Int)(hlo:27≤op)(hhi:op≤34)(x:Int)(hx:rB s.ls d op a=x)(hx0:x≠0):Calls Tryz.prog 65 #[.p gl,.i d,.i t,.agg #[.i k,.i dm,.i pk,.i op,.i a,.i b',.i v]] w (ry w0 γ b gl x s):=by
 have h1:=h.box (wQ k dm pk op a b' v);have hm:=j6 h1 h10 k dm pk op a b' v d;rw[hx]at hm;have hfin:∀w',Below (w.alloc (wQ k dm pk op a b' v)).heap.size (w.alloc (wQ k dm pk op a b' v)) w'→ry w0 γ b gl x s (.returned (.tuple #[.i x,.i 0,.i 0])) w':=fun w' hb=>⟨rfl,_,xW.xh h1 hb,fun k hk=>yO _ _ _ (by omega)⟩;have bx:(x != 0)=true:=by simpa using hx0
 unfold wQ at hfin hm;clear h h1 hx hx0;go_in;go_wp2_with fail;refine hm.mono ?_;rintro e w1 ⟨rfl,hb⟩;have hf:=hfin _ hb;clear hfin hb hm;go_wp2_with fail;refine bodyPost_ret (results_tmp3 rfl _ _ _) rfl ?_;exact hf
end
end
end Go.Proofs.YtkmamlifgbocgaaGreat
