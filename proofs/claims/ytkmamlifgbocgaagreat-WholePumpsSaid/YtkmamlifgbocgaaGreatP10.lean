/- What the program's code does, as contracts, and what follows of it, part 10: for the law's proof. -/
import Derived.Test.YtkmamlifgbocgaaGreatP00
import Derived.Test.YtkmamlifgbocgaaGreatP09
import Derived.Laws.OwnMore
set_option linter.unusedVariables false
set_option linter.unusedSimpArgs false
set_option maxRecDepth 100000
set_option maxHeartbeats 16000000
namespace Go.Proofs.YtkmamlifgbocgaaGreat
section
open Go.RowKit Go.WideShapes
def Fi.new(n m:Nat):Fi:=⟨List.replicate n ⟨-1,-1,0⟩,List.replicate m ⟨-1,-1,-1⟩⟩
theorem Fi.RU(n m:Nat):uz (Fi.new n m) (List.replicate n []) m where
 lq:=by simp[Fi.new]
 ln:=by simp[Fi.new]
 q:=fun k l hl=>by
  have hk:k<n:=by have:=(zk.1 hl).1;simpa using this
  rw[List.getElem?_replicate_of_lt hk]at hl
  cases hl
  exact List.getElem?_replicate_of_lt hk
 nd:=fun k l j i hl hj=>by
  obtain rfl:=(List.mem_replicate.1 (zo hl)).2
  cases hj
 out:=fun i x hx _=>by
  have:=(List.mem_replicate.1 (zo hx)).2
  rw[this]
 dup:=fun l hl=>by
  rw[(List.mem_replicate.1 hl).2];exact yN
section
variable {w0 w:World} {γ:U}
def jg(w0:World)(γ:U)(b n m:Nat)(e:Ending)(w':World):Prop:=
 ∃g γ',e=.returned (.p g)∧Own w0 w' γ'∧rM γ' b g (List.replicate n []) m∧∀k,(k<b∨b+4≤k)→γ' k=γ k
theorem Sv(ho:Own w0 w γ)(b n m:Nat)(hn:1≤n∧n≤32)(hm:1≤m∧m≤32):Calls Tryz.prog 76 #[.i n,.i m] w (jg w0 γ b n m):=by
 have ho1:=ho.new (b+3) (.cells #[.i (-1),.i (-1),.i 0] 206);have hh1:=held n hn.2;have hh2:=held m hm.2;have hr1:=OE ho1 (b+1) ⟨-1,-1,0⟩ w.heap.size n hn.2 (fun j u hj=>ho1.cell (yQ _ _ _ _) (by simpa[Qu.yV]using hj));clear ho;go_in;go_wp2_with fail;refine(hh1 _).mono ?_;rintro e w' ⟨rfl,rfl⟩;go_wp2_with fail;refine hr1.mono ?_;rintro e w2 ⟨v1,γ2,rfl,ho2,hs2,hk2⟩;have ho3:=ho2.new (b+3) (.cells #[.i (-1),.i (-1),.i (-1)] 210);have hr2:=PK ho3 (b+2) ⟨-1,-1,-1⟩ w2.heap.size m hm.2 (fun j u hj=>ho3.cell (yQ _ _ _ _) (by simpa[Nd.yV]using hj));clear ho1 hr1;go_wp2_with fail;refine(hh2 _).mono ?_;rintro e w' ⟨rfl,rfl⟩;go_wp2_with fail;refine hr2.mono ?_;rintro e w4 ⟨v2,γ4,rfl,ho4,hs4,hk4⟩;obtain⟨A1,c1,rfl,-⟩:=hs2.form;obtain⟨A2,c2,rfl,-⟩:=hs4.form;have ho5:=ho4.new b (.cells #[.slice A1 n c1,.slice A2 m c2] 212);have hA1:∃g1,A1=zb g1:=by
  rcases hs2.2 with⟨_,h0⟩|⟨g,cap,cur,h1,_⟩
  ·omega
  ·cases h1;exact⟨g,rfl⟩
 have hA2:∃g1,A2=zb g1:=by
  rcases hs4.2 with⟨_,h0⟩|⟨g,cap,cur,h1,_⟩
  ·omega
  ·cases h1;exact⟨g,rfl⟩
 obtain⟨g1,rfl⟩:=hA1;obtain⟨g2,rfl⟩:=hA2;have hfi:uR (put γ4 b w4.heap.size (.cells #[.slice (zb g1) n c1,.slice (zb g2) m c2] 212)) b w4.heap.size g1 c1 g2 c2 (Fi.new n m):=by
  have l1:(Fi.new n m).qs.length=n:=by simp[Fi.new]
  have l2:(Fi.new n m).ns.length=m:=by simp[Fi.new]
  unfold uR;rw[l1,l2];refine⟨yQ _ _ _ _,hs2.keep ?_,hs4.keep (yO _ _ _ (by omega)),hn.2,hm.2⟩;rw[yO _ _ _ (by omega),hk4 _ (by omega),yO _ _ _ (by omega)]
 have HF:Hid (jg w0 γ b n m (.returned (.p w4.heap.size)) (w4.alloc (.cells #[.slice (zb g1) n c1,.slice (zb g2) m c2] 212))):=I ⟨_,_,rfl,ho5,⟨_,⟨_,_,_,_,hfi⟩,Fi.RU n m⟩,fun k hk=>by rw[yO _ _ _ (by omega),hk4 _ (by omega),yO _ _ _ (by omega),hk2 _ (by omega),yO _ _ _ (by omega)]⟩;clear hs2 hs4 ho2 ho3 ho4 ho5 hfi hk2 hk4 hr2;go_wp2_with fail;go_ret;exact HF.out
end
end
section
open Go.RowKit Go.WideShapes
def wm(n:Nat):Array Value:=madeCells #[.i 0] n
theorem qL(n:Nat)(hn:n≤4096)(w:World):(wm n).size=n∧(wm n).toList=ints (List.replicate n 0)∧(Instr.makeSlice 61 (.i n) (.i n)).run Tryz.prog w=.ok (.slice (zb w.heap.size) n n) (w.alloc (.cells (wm n) 3)):=by obtain⟨i0,hi,hz0,hz1,hz2⟩:=info_parts Tryz.tF;have:=run_makeSlice w (P:=Tryz.prog) 61 3 i0 _ Tryz.underlying61 hi hz0 .i64 .i64 n n (by omega) (by omega) (by rw[hz1];simp;omega) (by rw[hz2];omega) (by omega);rw[hz1]at this;refine⟨size_madeCells _ _,?_,by simpa[Value.cells,wm]using this⟩;unfold wm;rw[toList_madeCells_one];simp[ints]
def SV.new(k:Nat):SV:=⟨AV.new k,[],List.replicate k 0⟩
section
variable {w0 w:World} {γ:U}
def aG(w0:World)(γ:U)(b k:Nat)(e:Ending)(w':World):Prop:=
 ∃g γ',e=.returned (.p g)∧Own w0 w' γ'∧tS γ' b g (SV.new k).spawn∧∀j,(j<b∨b+10≤j)→γ' j=γ j
theorem Qf(ho:Own w0 w γ)(b k ga gf gs:Nat)(v:Value)(ha:rL γ (b+1) ga (AV.new k))(hf:rM γ (b+4) gf [[]] k)(hs:yR γ (b+8) 3 1 v k (ints (List.replicate k 0))):∃γ',Own w0 (w.alloc (.cells #[.p ga,.p gf,v] 159)) γ'∧tS γ' b w.heap.size (SV.new k)∧∀j,j≠b→γ' j=γ j:=by
 have hl:(SV.new k).ar.pl.length=k:=by simp[SV.new,AV.new]
 refine⟨_,ho.new b _,⟨ga,gf,v,yQ _ _ _ _,ha.keep fun j h1 h2=>yO _ _ _ (by omega),?_,?_⟩,fun j hj=>yO _ _ _ hj⟩
 ·rw[hl];exact hf.keep fun j h1 h2=>yO _ _ _ (by omega)
 ·rw[hl];exact hs.keep (yO _ _ _ (by omega))
theorem OH(ho:Own w0 w γ)(b:Nat)(n:Int)(k:Nat)(hk:max 1 (min n 8)=(k:Int)):Calls Tryz.prog 57 #[.i n] w (aG w0 γ b k):=by
 have hk1:1≤k∧k≤8:=by omega
 have hA:∀(W:World) (γ1:U) (x:Int),x=k→Own w0 W γ1→Calls Tryz.prog 58 #[.i x] W fun e w'=>∃ga γ',e=.returned (.p ga)∧Own w0 w' γ'∧rL γ' (b+1) ga (AV.new k)∧∀j,(j<b+1∨b+1+3≤j)→γ' j=γ1 j:=fun W γ1 x hx h1=>by subst hx;exact(Xe h1 (b+1) k k (by omega)).mono fun e w' ⟨ga,γ',h2,h3,h4,h5⟩=>⟨ga,γ',h2,h3,⟨_,h4,td.new k (by omega)⟩,h5⟩
 have hF:∀(W:World) (γ1:U) (x:Int),x=k→Own w0 W γ1→Calls Tryz.prog 76 #[.i 1,.i x] W (jg w0 γ1 (b+4) 1 k):=fun W γ1 x hx h1=>by subst hx;exact Sv h1 (b+4) 1 k (by omega) (by omega)
 have hM:∀(W:World) (γ1:U) (x:Int),x=k→Own w0 W γ1→(Instr.makeSlice 61 (.i x) (.i x)).run Tryz.prog W=.ok (.slice (zb W.heap.size) k k) (W.alloc (.cells (wm k) 3))∧∃γ2,Own w0 (W.alloc (.cells (wm k) 3)) γ2∧yR γ2 (b+8) 3 1 (.slice (zb W.heap.size) k k) k (ints (List.replicate k 0))∧∀j,j≠b+8→γ2 j=γ1 j:=fun W γ1 x hx h1=>by subst hx;obtain⟨h2,h3,h4⟩:=qL k (by omega) W;refine⟨h4,_,h1.new (b+8) _,⟨by rw[us,zz];omega,.inr ⟨_,k,wm k,rfl,yQ _ _ _ _,zm _,by unfold maxLen;omega,by omega,by rw[h3,zO (by rw[us,zz];omega)]⟩⟩,fun j hj=>yO _ _ _ hj⟩
 have hend:∀(W:World) (γ1:U) (ga gf:Nat) (v:Value),Own w0 W γ1→rL γ1 (b+1) ga (AV.new k)→rM γ1 (b+4) gf [[]] k→yR γ1 (b+8) 3 1 v k (ints (List.replicate k 0))→(∀j,(j<b∨b+10≤j)→γ1 j=γ j)→Calls Tryz.prog 77 #[.p W.heap.size] (W.alloc (.cells #[.p ga,.p gf,v] 159)) fun e w'=>(∃r,e=.returned r)∧aG w0 γ b k (.returned (.p W.heap.size)) w':=fun W γ1 ga gf v h1 h2 h3 h4 h5=>by obtain⟨γ2,o2,s2,k2⟩:=Qf h1 b k ga gf 0 v h2 h3 h4;exact(XA s2 o2).mono fun e w' ⟨e1,γ3,o3,s3,k3⟩=>⟨⟨_,e1⟩,_,γ3,rfl,o3,s3,fun j hj=>(k3 j hj).trans ((k2 j (by omega)).trans (h5 j hj))⟩
 have HA:=I hA;have HF:=I hF;have HM:=I hM;have HE:=I hend;have HO:=I ho.drew;have hc:(n<1∧k=1)∨(8<n∧k=8)∨n=k:=by omega
 clear hA hF hM hend hk ho;have hmin:(n<1∧k=1)∨(8<n∧k=8)∨n=k:=hc;have HC:=I hc;clear hc;go_in;rcases hmin with⟨c,-⟩|⟨c,-⟩|c;all_goals go_wp2_with fail
 all_goals
  refine yP.region [0,2,4] (.fork 1 (.fork 3 (.step 5 (.step 6 (.step 7 (.step 8 .done)))) 5 (.step 3 (.step 6 (.step 7 (.step 8 .done))))) 5 (.step 1 (.step 3 (.step 6 (.step 7 (.step 8 .done)))))) (fun w'=>True) (by kernel_rfl) (by kernel_rfl) (fun _ _ _ _ _ h=>h) trivial ?_;repeat
   refine Perm.xm rfl ?_ (fun w' hS=>?_) ?_;rotate_left
   ·(clear hS;go_simp;try with_reducible rfl)
   simp only[pt]
  refine Perm.xt ?_;generalize w.drew=wd at*;refine yP.fQ ?_ ?_
  ·refine yP.xJ rfl 58 _ _ rfl (by kernel_rfl) _ rfl ((HA.out _ _ _ (by have:=HC.out;omega) HO.out).mono ?_);rintro e WA ⟨ga,γA,rfl,oA,sA,kA⟩;refine⟨_,rfl,fun _ _=>trivial,?_⟩;simp only[pt];refine yP.fQ ?_ ?_
   ·refine yP.xJ rfl 76 _ _ rfl (by kernel_rfl) _ rfl ((HF.out _ _ _ (by have:=HC.out;omega) oA).mono ?_);rintro e WF ⟨gf,γF,rfl,oF,sF,kF⟩;refine⟨_,rfl,fun _ _=>trivial,?_⟩;simp only[pt];obtain⟨γM,oM,sM,kM⟩:=(HM.out _ _ (k:Int) rfl oF).2;refine yP.yY rfl (by rfl) ?_;refine yP.xy rfl (.value (.slice (zb WF.heap.size) k k)) _ (.inl rfl) (w':=WF.alloc (.cells (wm k) 3)) (by first|(have hm:=(HM.out _ _ 1 (by have:=HC.out;omega) oF).1;go_simp;first|done|with_reducible rfl)|(have hm:=(HM.out _ _ 8 (by have:=HC.out;omega) oF).1;go_simp;first|done|with_reducible rfl)|(have hm:=(HM.out _ _ (k:Int) rfl oF).1;go_simp;first|done|with_reducible rfl)) (fun _ _=>trivial) ?_;simp only[pt];generalize WF.alloc (.cells (wm k) 3)=WM at*;repeat
     refine yP.xA rfl (by rfl) ?_ (fun w'=>?_) ?_;rotate_left
     ·(go_simp;try with_reducible rfl)
     simp only[pt]
    refine yP.yY rfl (by rfl) ?_;refine yP.xy rfl (.value (.p WM.heap.size)) _ (.inl rfl) (w':=WM.alloc (.cells #[.p ga,.p gf,.slice (zb WF.heap.size) k k] 159)) (by go_simp;try with_reducible rfl) (fun _ _=>trivial) ?_;simp only[pt];repeat
     refine yP.xA rfl (by rfl) ?_ (fun w'=>?_) ?_;rotate_left
     ·(go_simp;try with_reducible rfl)
     simp only[pt]
    refine yP.xC ?_;have hend:=HE.out _ _ ga gf _ oM (sA.keep fun j h1 h2=>(kM _ (by omega)).trans (kF _ (by omega))) (sF.keep fun j h1 h2=>kM _ (by omega)) sM (fun j hj=>(kM _ (by omega)).trans ((kF _ (by omega)).trans (kA _ (by omega))));go_wp2_with fail;refine hend.mono ?_;rintro e w' ⟨⟨r,rfl⟩,hp⟩;go_wp2_with fail;go_ret;exact hp
   ·obtain⟨γM,oM,sM,kM⟩:=(HM.out _ _ (k:Int) rfl oA).2;refine yP.xy rfl (.value (.slice (zb WA.heap.size) k k)) _ (.inl rfl) (w':=WA.alloc (.cells (wm k) 3)) (by first|(have hm:=(HM.out _ _ 1 (by have:=HC.out;omega) oA).1;go_simp;first|done|with_reducible rfl)|(have hm:=(HM.out _ _ 8 (by have:=HC.out;omega) oA).1;go_simp;first|done|with_reducible rfl)|(have hm:=(HM.out _ _ (k:Int) rfl oA).1;go_simp;first|done|with_reducible rfl)) (fun _ _=>trivial) ?_;simp only[pt];generalize WA.alloc (.cells (wm k) 3)=WM at*;refine yP.yY rfl (by rfl) ?_;refine yP.xJ rfl 76 _ _ rfl (by kernel_rfl) _ rfl ((HF.out _ _ _ (by have:=HC.out;omega) oM).mono ?_);rintro e WF ⟨gf,γF,rfl,oF,sF,kF⟩;refine⟨_,rfl,fun _ _=>trivial,?_⟩;simp only[pt];repeat
     refine yP.xA rfl (by rfl) ?_ (fun w'=>?_) ?_;rotate_left
     ·(go_simp;try with_reducible rfl)
     simp only[pt]
    refine yP.yY rfl (by rfl) ?_;refine yP.xy rfl (.value (.p WF.heap.size)) _ (.inl rfl) (w':=WF.alloc (.cells #[.p ga,.p gf,.slice (zb WA.heap.size) k k] 159)) (by go_simp;try with_reducible rfl) (fun _ _=>trivial) ?_;simp only[pt];repeat
     refine yP.xA rfl (by rfl) ?_ (fun w'=>?_) ?_;rotate_left
     ·(go_simp;try with_reducible rfl)
     simp only[pt]
    refine yP.xC ?_;have hend:=HE.out _ _ ga gf _ oF (sA.keep fun j h1 h2=>(kF _ (by omega)).trans (kM _ (by omega))) sF (sM.keep (kF _ (by omega))) (fun j hj=>(kF _ (by omega)).trans ((kM _ (by omega)).trans (kA _ (by omega))));go_wp2_with fail;refine hend.mono ?_;rintro e w' ⟨⟨r,rfl⟩,hp⟩;go_wp2_with fail;go_ret;exact hp
  ·obtain⟨γM,oM,sM,kM⟩:=(HM.out _ _ (k:Int) rfl HO.out).2;refine yP.xy rfl (.value (.slice (zb wd.heap.size) k k)) _ (.inl rfl) (w':=wd.alloc (.cells (wm k) 3)) (by first|(have hm:=(HM.out _ _ 1 (by have:=HC.out;omega) HO.out).1;go_simp;first|done|with_reducible rfl)|(have hm:=(HM.out _ _ 8 (by have:=HC.out;omega) HO.out).1;go_simp;first|done|with_reducible rfl)|(have hm:=(HM.out _ _ (k:Int) rfl HO.out).1;go_simp;first|done|with_reducible rfl)) (fun _ _=>trivial) ?_;simp only[pt];generalize wd.alloc (.cells (wm k) 3)=WM at*;refine yP.yY rfl (by rfl) ?_;refine yP.xJ rfl 58 _ _ rfl (by kernel_rfl) _ rfl ((HA.out _ _ _ (by have:=HC.out;omega) oM).mono ?_);rintro e WA ⟨ga,γA,rfl,oA,sA,kA⟩;refine⟨_,rfl,fun _ _=>trivial,?_⟩;simp only[pt];refine yP.yY rfl (by rfl) ?_;refine yP.xJ rfl 76 _ _ rfl (by kernel_rfl) _ rfl ((HF.out _ _ _ (by have:=HC.out;omega) oA).mono ?_);rintro e WF ⟨gf,γF,rfl,oF,sF,kF⟩;refine⟨_,rfl,fun _ _=>trivial,?_⟩;simp only[pt];repeat
    refine yP.xA rfl (by rfl) ?_ (fun w'=>?_) ?_;rotate_left
    ·(go_simp;try with_reducible rfl)
    simp only[pt]
   refine yP.yY rfl (by rfl) ?_;refine yP.xy rfl (.value (.p WF.heap.size)) _ (.inl rfl) (w':=WF.alloc (.cells #[.p ga,.p gf,.slice (zb wd.heap.size) k k] 159)) (by go_simp;try with_reducible rfl) (fun _ _=>trivial) ?_;simp only[pt];repeat
    refine yP.xA rfl (by rfl) ?_ (fun w'=>?_) ?_;rotate_left
    ·(go_simp;try with_reducible rfl)
    simp only[pt]
   refine yP.xC ?_;have hend:=HE.out _ _ ga gf _ oF (sA.keep fun j h1 h2=>kF _ (by omega)) sF (sM.keep ((kF _ (by omega)).trans (kA _ (by omega)))) (fun j hj=>(kF _ (by omega)).trans ((kA _ (by omega)).trans (kM _ (by omega))));go_wp2_with fail;refine hend.mono ?_;rintro e w' ⟨⟨r,rfl⟩,hp⟩;go_wp2_with fail;go_ret;exact hp
end
end
section
open Go
namespace yP
open Perm
section
variable {P:Program} {ops:Array Oper} {md:Region.Mode} {Q:Exit→Act→World→Prop} {S:World→Prop} {need:Nat→Bool}
def wp3(P:Program)(ops:Array Oper)(Q:Exit→Act→World→Prop)(S:World→Prop)(need:Nat→Bool)(k1:Nat)(p1:yP)(k2:Nat)(p2:yP)(k3:Nat)(p3:yP)(a:Act)(w:World):Prop:=
 At P ops Q S need k1 p1 a w∧At P ops Q S need k2 p2 a w∧At P ops Q S need k3 p3 a w
def Z6(md:Region.Mode)(ops:Array Oper)(yZ:Array Bool)(k:Nat)(p:yP):Bool:=
 ((ops[k]?).map fun o=>o.guard.isNone&& !sD o).getD false&&ok md ops p (yZ.setIfInBounds k true)
def PF(md:Region.Mode)(ops:Array Oper)(k1:Nat)(p1:yP)(k2:Nat)(p2:yP)(k3:Nat)(p3:yP)(yZ:Array Bool):Bool:=
 (Region.ready md ops yZ==[k1,k2,k3])&&(Z6 md ops yZ k1 p1&&(Z6 md ops yZ k2 p2&&Z6 md ops yZ k3 p3))
theorem bA(hsel:Region.noSelect ops=true)(hQ:∀c (a:Act) d v w,Q (.panic c) (a.put d v) w→Q (.panic c) a w){k:Nat}{p:yP}{yZ:Array Bool}{a:Act}{w:World}{f:Nat}(hf:p.len≤f)(hc:uk md ops yZ)(hi:k∈Region.ready md ops yZ)(hB:Z6 md ops yZ k p=true)(h:At P ops Q S need k p a w):wpOp P ops Q k (fun a' w'=>(need k=true→S w→S w')∧uY P md ops Q S need f (yZ.setIfInBounds k true) a' w') a w:=by
 unfold Z6 at hB;unfold At at h;cases h1:ops[k]? with
 |none=>simp[h1]at hB
 |some o=> simp only[h1,yo,yt,zL]at hB;obtain⟨⟨hg,_⟩,hB1⟩:=hB;rw[h1]at h;dsimp only at h;unfold wpOp;simp only[h1,uv hg,if_true];exact .inl (Oper.wp_mono (fun a' w' h'=>⟨h'.1,gH hf (pE hsel hQ p _ a' w' (hc.set hi) hB1 h'.2)⟩) h)
theorem SS(hsel:Region.noSelect ops=true)(hQ:∀c (a:Act) d v w,Q (.panic c) (a.put d v) w→Q (.panic c) a w)(k1:Nat)(p1:yP)(k2:Nat)(p2:yP)(k3:Nat)(p3:yP)(yZ:Array Bool)(a:Act)(w:World)(hc:uk md ops yZ)(hB:PF md ops k1 p1 k2 p2 k3 p3 yZ=true)(h:wp3 P ops Q S need k1 p1 k2 p2 k3 p3 a w):uY P md ops Q S need (max p1.len (max p2.len p3.len)+1) yZ a w:=by
 simp only[PF,zL]at hB;obtain⟨hr0,hB1,hB2,hB3⟩:=hB;have hr:Region.ready md ops yZ=[k1,k2,k3]:=by simpa using hr0
 obtain⟨h1,h2,h3⟩:=h;refine⟨fun h1=>(by rw[hr]at h1;cases h1),fun i hi=>?_⟩;have hi0:=hi;rw[hr]at hi;have hik:i=k1∨i=k2∨i=k3:=by simpa using hi
 rcases hik with rfl|rfl|rfl
 ·exact bA (f:=max p1.len (max p2.len p3.len)) hsel hQ (by omega) hc hi0 hB1 h1
 ·exact bA (f:=max p1.len (max p2.len p3.len)) hsel hQ (by omega) hc hi0 hB2 h2
 ·exact bA (f:=max p1.len (max p2.len p3.len)) hsel hQ (by omega) hc hi0 hB3 h3
def Sr(md:Region.Mode)(l:List Oper)(one:List Nat)(k1:Nat)(p1:yP)(k2:Nat)(p2:yP)(k3:Nat)(p3:yP):Bool:=
 Region.noSelect l.toArray&&decide (one.length+(max p1.len (max p2.len p3.len)+1)=l.length)&&pI md l.toArray one (Array.replicate l.length false)&&PF md l.toArray k1 p1 k2 p2 k3 p3 (vM one (Array.replicate l.length false))
theorem R7{id:Nat}{a:Act}{w:World}(one:List Nat)(k1:Nat)(p1:yP)(k2:Nat)(p2:yP)(k3:Nat)(p3:yP)(S:World→Prop)(hm:P.follows .mixedOrders=true){l:List Oper}(hB:Sr .any l one k1 p1 k2 p2 k3 p3=true)(hQ':∀c (a:Act) t v w,Q (.panic c) (a.put (some t) v) w→Q (.panic c) a w)(hS:S w.drew)(h:tB P l.toArray S (fun a'=>wp3 P l.toArray Q S (sZ .any l.toArray one) k1 p1 k2 p2 k3 p3 a' w.drew) one a):(Code.region id l.toArray true).wp P Q a w:=by
 have hQ:∀c (a:Act) d v w,Q (.panic c) (a.put d v) w→Q (.panic c) a w:=fun c a d v w h=>by
  cases d with
  |none=>exact h
  |some t=>exact hQ' c a t v w h
 simp only[Sr,zL,decide_eq_true_eq]at hB;obtain⟨⟨⟨hsel,hn⟩,h1⟩,h2⟩:=hB;have hc0:uk .any l.toArray (Array.replicate l.length false):=fun j oj _ hl=>by rw[getD_replicate_false]at hl;cases hl
 refine wp_region_any hm (rK (S:=S) (need:=sZ .any l.toArray one) _ _ _ _ ?_);have hsz:l.toArray.size=l.length:=by simp
 rw[hsz];have hg:=qu (one:=one) (fun _=>rfl) hsel hQ hS one _ a (fun _ h=>h) hc0 h1 (fun a' hK hc=>SS hsel hQ k1 p1 k2 p2 k3 p3 _ a' w.drew hc h2 hK) h;rw[hn]at hg;exact hg
end
end yP
end
section
open Go.RowKit Go.WideShapes
def Wh.new:Wh:=⟨List.replicate 16 [],List.replicate 8 0,List.replicate 8 0,0⟩
def aT(w0:World)(γ:U)(b:Nat)(e:Ending)(w':World):Prop:=
 ∃g γ',e=.returned (.p g)∧Own w0 w' γ'∧uS γ' b g Wh.new∧∀k,(k<b∨b+8≤k)→γ' k=γ k
theorem OP{w0 w:World}{γ:U}(ho:Own w0 w γ)(b:Nat):Calls Tryz.prog 59 #[.i 8] w (aT w0 γ b):=by
 have HM:Hid (∀W:World,(Instr.makeSlice 61 (.i 8) (.i 8)).run Tryz.prog W=.ok (.slice (zb W.heap.size) 8 8) (W.alloc (.cells (wm 8) 3))):=I fun W=>(qL 8 (by omega) W).2.2;have HK:Hid (∀(W:World) (γ':U) (t:Nat),Own w0 W γ'→∃γ2,Own w0 (W.alloc (.cells (wm 8) 3)) γ2∧yR γ2 t 3 1 (.slice (zb W.heap.size) 8 8) 8 (ints (List.replicate 8 0))∧∀k,k≠t→γ2 k=γ' k):=I fun W γ' t hW=>⟨_,hW.new t _,⟨rfl,.inr ⟨_,8,_,rfl,yQ _ _ _ _,zm _,by unfold maxLen;omega,(qL 8 (by omega) W).1,by rw[(qL 8 (by omega) W).2.1];rfl⟩⟩,fun k hk=>yO _ _ _ hk⟩;have HF:Hid (∀(W:World) (γ':U),Own w0 W γ'→Calls Tryz.prog 76 #[.i 16,.i 8] W (jg w0 γ' (b+3) 16 8)):=I fun W γ' hW=>Sv hW (b+3) 16 8 (by omega) (by omega);have HE:Hid (∀(W:World) (γ':U) (gf gA gT:Nat),Own w0 W γ'→rM γ' (b+3) gf (List.replicate 16 []) 8→yR γ' (b+1) 3 1 (.slice (zb gA) 8 8) 8 (ints (List.replicate 8 0))→yR γ' (b+2) 3 1 (.slice (zb gT) 8 8) 8 (ints (List.replicate 8 0))→(∀k,(k<b∨b+8≤k)→γ' k=γ k)→aT w0 γ b (.returned (.p W.heap.size)) (W.alloc (.cells #[.p gf,.slice (zb gA) 8 8,.slice (zb gT) 8 8,.i 0] 167))):=I fun W γ' gf gA gT hW h1 h2 h3 hk=>⟨_,_,rfl,hW.new b _,⟨gf,_,_,yQ _ _ _ _,h2.keep (yO _ _ _ (by omega)),h3.keep (yO _ _ _ (by omega)),h1.keep (fun k q1 q2=>yO _ _ _ (by omega)),⟨by simp[Wh.new],by simp[Wh.new],by simp[Wh.new],fun x hx=>by have:x=0:=List.eq_of_mem_replicate (n:=8) hx;omega⟩⟩,fun k q=>(yO _ _ _ (by omega)).trans (hk k q)⟩;have HO:=I ho.drew;clear ho;go_in;go_wp2_with fail;refine yP.R7 [0,2,4] 1 (.fork 3 (.step 5 (.step 6 (.step 7 (.step 8 .done)))) 5 (.step 3 (.step 6 (.step 7 (.step 8 .done))))) 3 (.fork 1 (.step 5 (.step 6 (.step 7 (.step 8 .done)))) 5 (.step 1 (.step 6 (.step 7 (.step 8 .done))))) 5 (.fork 1 (.step 3 (.step 6 (.step 7 (.step 8 .done)))) 3 (.step 1 (.step 6 (.step 7 (.step 8 .done))))) (fun w'=>True) (by kernel_rfl) (by kernel_rfl) (fun _ _ _ _ _ h=>h) trivial ?_;repeat
  refine Perm.xm rfl ?_ (fun w' hS=>?_) ?_;rotate_left
  ·(clear hS;go_simp;try with_reducible rfl)
  simp only[pt]
 refine Perm.xt ?_;generalize w.drew=wd at*;refine⟨?_,?_,?_⟩
 ·refine yP.xJ rfl 76 _ _ rfl (by kernel_rfl) _ rfl ((HF.out _ _ HO.out).mono ?_);rintro e WF ⟨gf,γF,rfl,oF,sF,kF⟩;refine⟨_,rfl,fun _ _=>trivial,?_⟩;simp only[pt];refine yP.fQ ?_ ?_
  ·obtain⟨γA,oA,sA,kA⟩:=HK.out _ _ (b+1) oF;refine yP.xy rfl (.value (.slice (zb WF.heap.size) 8 8)) _ (.inl rfl) (w':=WF.alloc (.cells (wm 8) 3)) (by have hm:=HM.out WF;go_simp;first|done|with_reducible rfl) (fun _ _=>trivial) ?_;simp only[pt];generalize hzA:WF.heap.size=gA at*;generalize WF.alloc (.cells (wm 8) 3)=WA at*;obtain⟨γT,oT,sT,kT⟩:=HK.out _ _ (b+2) oA;refine yP.yY rfl (by rfl) ?_;refine yP.xy rfl (.value (.slice (zb WA.heap.size) 8 8)) _ (.inl rfl) (w':=WA.alloc (.cells (wm 8) 3)) (by have hm:=HM.out WA;go_simp;first|done|with_reducible rfl) (fun _ _=>trivial) ?_;simp only[pt];generalize hzT:WA.heap.size=gT at*;generalize WA.alloc (.cells (wm 8) 3)=WT at*;repeat
    refine yP.xA rfl (by rfl) ?_ (fun w'=>?_) ?_;rotate_left
    ·(go_simp;try with_reducible rfl)
    simp only[pt]
   refine yP.yY rfl (by rfl) ?_;refine yP.xy rfl (.value (.p WT.heap.size)) _ (.inl rfl) (w':=WT.alloc (.cells #[.p gf,.slice (zb gA) 8 8,.slice (zb gT) 8 8,.i 0] 167)) (by go_simp;try with_reducible rfl) (fun _ _=>trivial) ?_;simp only[pt];repeat
    refine yP.xA rfl (by rfl) ?_ (fun w'=>?_) ?_;rotate_left
    ·(go_simp;try with_reducible rfl)
    simp only[pt]
   refine yP.xC ?_;have hend:=HE.out _ _ gf gA gT oT (sF.keep fun j h1 h2=>(kT _ (by omega)).trans (kA _ (by omega))) (sA.keep (kT _ (by omega))) sT (fun j hj=>(kT _ (by omega)).trans ((kA _ (by omega)).trans (kF _ (by omega))));go_wp2_with fail;go_ret;exact hend
  ·obtain⟨γT,oT,sT,kT⟩:=HK.out _ _ (b+2) oF;refine yP.xy rfl (.value (.slice (zb WF.heap.size) 8 8)) _ (.inl rfl) (w':=WF.alloc (.cells (wm 8) 3)) (by have hm:=HM.out WF;go_simp;first|done|with_reducible rfl) (fun _ _=>trivial) ?_;simp only[pt];generalize hzT:WF.heap.size=gT at*;generalize WF.alloc (.cells (wm 8) 3)=WT at*;obtain⟨γA,oA,sA,kA⟩:=HK.out _ _ (b+1) oT;refine yP.yY rfl (by rfl) ?_;refine yP.xy rfl (.value (.slice (zb WT.heap.size) 8 8)) _ (.inl rfl) (w':=WT.alloc (.cells (wm 8) 3)) (by have hm:=HM.out WT;go_simp;first|done|with_reducible rfl) (fun _ _=>trivial) ?_;simp only[pt];generalize hzA:WT.heap.size=gA at*;generalize WT.alloc (.cells (wm 8) 3)=WA at*;repeat
    refine yP.xA rfl (by rfl) ?_ (fun w'=>?_) ?_;rotate_left
    ·(go_simp;try with_reducible rfl)
    simp only[pt]
   refine yP.yY rfl (by rfl) ?_;refine yP.xy rfl (.value (.p WA.heap.size)) _ (.inl rfl) (w':=WA.alloc (.cells #[.p gf,.slice (zb gA) 8 8,.slice (zb gT) 8 8,.i 0] 167)) (by go_simp;try with_reducible rfl) (fun _ _=>trivial) ?_;simp only[pt];repeat
    refine yP.xA rfl (by rfl) ?_ (fun w'=>?_) ?_;rotate_left
    ·(go_simp;try with_reducible rfl)
    simp only[pt]
   refine yP.xC ?_;have hend:=HE.out _ _ gf gA gT oA (sF.keep fun j h1 h2=>(kA _ (by omega)).trans (kT _ (by omega))) sA (sT.keep (kA _ (by omega))) (fun j hj=>(kA _ (by omega)).trans ((kT _ (by omega)).trans (kF _ (by omega))));go_wp2_with fail;go_ret;exact hend
 ·obtain⟨γA,oA,sA,kA⟩:=HK.out _ _ (b+1) HO.out;refine yP.xy rfl (.value (.slice (zb wd.heap.size) 8 8)) _ (.inl rfl) (w':=wd.alloc (.cells (wm 8) 3)) (by have hm:=HM.out wd;go_simp;first|done|with_reducible rfl) (fun _ _=>trivial) ?_;simp only[pt];generalize hzA:wd.heap.size=gA at*;generalize wd.alloc (.cells (wm 8) 3)=WA at*;refine yP.fQ ?_ ?_
  ·refine yP.xJ rfl 76 _ _ rfl (by kernel_rfl) _ rfl ((HF.out _ _ oA).mono ?_);rintro e WF ⟨gf,γF,rfl,oF,sF,kF⟩;refine⟨_,rfl,fun _ _=>trivial,?_⟩;simp only[pt];obtain⟨γT,oT,sT,kT⟩:=HK.out _ _ (b+2) oF;refine yP.yY rfl (by rfl) ?_;refine yP.xy rfl (.value (.slice (zb WF.heap.size) 8 8)) _ (.inl rfl) (w':=WF.alloc (.cells (wm 8) 3)) (by have hm:=HM.out WF;go_simp;first|done|with_reducible rfl) (fun _ _=>trivial) ?_;simp only[pt];generalize hzT:WF.heap.size=gT at*;generalize WF.alloc (.cells (wm 8) 3)=WT at*;repeat
    refine yP.xA rfl (by rfl) ?_ (fun w'=>?_) ?_;rotate_left
    ·(go_simp;try with_reducible rfl)
    simp only[pt]
   refine yP.yY rfl (by rfl) ?_;refine yP.xy rfl (.value (.p WT.heap.size)) _ (.inl rfl) (w':=WT.alloc (.cells #[.p gf,.slice (zb gA) 8 8,.slice (zb gT) 8 8,.i 0] 167)) (by go_simp;try with_reducible rfl) (fun _ _=>trivial) ?_;simp only[pt];repeat
    refine yP.xA rfl (by rfl) ?_ (fun w'=>?_) ?_;rotate_left
    ·(go_simp;try with_reducible rfl)
    simp only[pt]
   refine yP.xC ?_;have hend:=HE.out _ _ gf gA gT oT (sF.keep fun j h1 h2=>kT _ (by omega)) (sA.keep ((kT _ (by omega)).trans (kF _ (by omega)))) sT (fun j hj=>(kT _ (by omega)).trans ((kF _ (by omega)).trans (kA _ (by omega))));go_wp2_with fail;go_ret;exact hend
  ·obtain⟨γT,oT,sT,kT⟩:=HK.out _ _ (b+2) oA;refine yP.xy rfl (.value (.slice (zb WA.heap.size) 8 8)) _ (.inl rfl) (w':=WA.alloc (.cells (wm 8) 3)) (by have hm:=HM.out WA;go_simp;first|done|with_reducible rfl) (fun _ _=>trivial) ?_;simp only[pt];generalize hzT:WA.heap.size=gT at*;generalize WA.alloc (.cells (wm 8) 3)=WT at*;refine yP.yY rfl (by rfl) ?_;refine yP.xJ rfl 76 _ _ rfl (by kernel_rfl) _ rfl ((HF.out _ _ oT).mono ?_);rintro e WF ⟨gf,γF,rfl,oF,sF,kF⟩;refine⟨_,rfl,fun _ _=>trivial,?_⟩;simp only[pt];repeat
    refine yP.xA rfl (by rfl) ?_ (fun w'=>?_) ?_;rotate_left
    ·(go_simp;try with_reducible rfl)
    simp only[pt]
   refine yP.yY rfl (by rfl) ?_;refine yP.xy rfl (.value (.p WF.heap.size)) _ (.inl rfl) (w':=WF.alloc (.cells #[.p gf,.slice (zb gA) 8 8,.slice (zb gT) 8 8,.i 0] 167)) (by go_simp;try with_reducible rfl) (fun _ _=>trivial) ?_;simp only[pt];repeat
    refine yP.xA rfl (by rfl) ?_ (fun w'=>?_) ?_;rotate_left
    ·(go_simp;try with_reducible rfl)
    simp only[pt]
   refine yP.xC ?_;have hend:=HE.out _ _ gf gA gT oF sF (sA.keep ((kF _ (by omega)).trans (kT _ (by omega)))) (sT.keep (kF _ (by omega))) (fun j hj=>(kF _ (by omega)).trans ((kT _ (by omega)).trans (kA _ (by omega))));go_wp2_with fail;go_ret;exact hend
 ·obtain⟨γT,oT,sT,kT⟩:=HK.out _ _ (b+2) HO.out;refine yP.xy rfl (.value (.slice (zb wd.heap.size) 8 8)) _ (.inl rfl) (w':=wd.alloc (.cells (wm 8) 3)) (by have hm:=HM.out wd;go_simp;first|done|with_reducible rfl) (fun _ _=>trivial) ?_;simp only[pt];generalize hzT:wd.heap.size=gT at*;generalize wd.alloc (.cells (wm 8) 3)=WT at*;refine yP.fQ ?_ ?_
  ·refine yP.xJ rfl 76 _ _ rfl (by kernel_rfl) _ rfl ((HF.out _ _ oT).mono ?_);rintro e WF ⟨gf,γF,rfl,oF,sF,kF⟩;refine⟨_,rfl,fun _ _=>trivial,?_⟩;simp only[pt];obtain⟨γA,oA,sA,kA⟩:=HK.out _ _ (b+1) oF;refine yP.yY rfl (by rfl) ?_;refine yP.xy rfl (.value (.slice (zb WF.heap.size) 8 8)) _ (.inl rfl) (w':=WF.alloc (.cells (wm 8) 3)) (by have hm:=HM.out WF;go_simp;first|done|with_reducible rfl) (fun _ _=>trivial) ?_;simp only[pt];generalize hzA:WF.heap.size=gA at*;generalize WF.alloc (.cells (wm 8) 3)=WA at*;repeat
    refine yP.xA rfl (by rfl) ?_ (fun w'=>?_) ?_;rotate_left
    ·(go_simp;try with_reducible rfl)
    simp only[pt]
   refine yP.yY rfl (by rfl) ?_;refine yP.xy rfl (.value (.p WA.heap.size)) _ (.inl rfl) (w':=WA.alloc (.cells #[.p gf,.slice (zb gA) 8 8,.slice (zb gT) 8 8,.i 0] 167)) (by go_simp;try with_reducible rfl) (fun _ _=>trivial) ?_;simp only[pt];repeat
    refine yP.xA rfl (by rfl) ?_ (fun w'=>?_) ?_;rotate_left
    ·(go_simp;try with_reducible rfl)
    simp only[pt]
   refine yP.xC ?_;have hend:=HE.out _ _ gf gA gT oA (sF.keep fun j h1 h2=>kA _ (by omega)) sA (sT.keep ((kA _ (by omega)).trans (kF _ (by omega)))) (fun j hj=>(kA _ (by omega)).trans ((kF _ (by omega)).trans (kT _ (by omega))));go_wp2_with fail;go_ret;exact hend
  ·obtain⟨γA,oA,sA,kA⟩:=HK.out _ _ (b+1) oT;refine yP.xy rfl (.value (.slice (zb WT.heap.size) 8 8)) _ (.inl rfl) (w':=WT.alloc (.cells (wm 8) 3)) (by have hm:=HM.out WT;go_simp;first|done|with_reducible rfl) (fun _ _=>trivial) ?_;simp only[pt];generalize hzA:WT.heap.size=gA at*;generalize WT.alloc (.cells (wm 8) 3)=WA at*;refine yP.yY rfl (by rfl) ?_;refine yP.xJ rfl 76 _ _ rfl (by kernel_rfl) _ rfl ((HF.out _ _ oA).mono ?_);rintro e WF ⟨gf,γF,rfl,oF,sF,kF⟩;refine⟨_,rfl,fun _ _=>trivial,?_⟩;simp only[pt];repeat
    refine yP.xA rfl (by rfl) ?_ (fun w'=>?_) ?_;rotate_left
    ·(go_simp;try with_reducible rfl)
    simp only[pt]
   refine yP.yY rfl (by rfl) ?_;refine yP.xy rfl (.value (.p WF.heap.size)) _ (.inl rfl) (w':=WF.alloc (.cells #[.p gf,.slice (zb gA) 8 8,.slice (zb gT) 8 8,.i 0] 167)) (by go_simp;try with_reducible rfl) (fun _ _=>trivial) ?_;simp only[pt];repeat
    refine yP.xA rfl (by rfl) ?_ (fun w'=>?_) ?_;rotate_left
    ·(go_simp;try with_reducible rfl)
    simp only[pt]
   refine yP.xC ?_;have hend:=HE.out _ _ gf gA gT oF sF (sA.keep (kF _ (by omega))) (sT.keep ((kF _ (by omega)).trans (kA _ (by omega)))) (fun j hj=>(kF _ (by omega)).trans ((kA _ (by omega)).trans (kT _ (by omega))));go_wp2_with fail;go_ret;exact hend
end
section
open Go.RowKit Go.WideShapes
structure Rc where
 seq:Int
 xI:Int
 clock:Int
 op:Int
 e:Int
 n:Int
 m:Int
 a:Int
 b:Int
 c:Int
def Rc.yV(x:Rc):List Value:=[.i x.seq,.i x.xI,.i x.clock,.i x.op,.i x.e,.i x.n,.i x.m,.i x.a,.i x.b,.i x.c]
theorem Rc.len(x:Rc):x.yV.length=10:=rfl
theorem Rc.one(x:Rc):∀u∈x.yV,u.oneCell'=true:=by intro u hu;simp[Rc.yV]at hu;rcases hu with rfl|rfl|rfl|rfl|rfl|rfl|rfl|rfl|rfl|rfl<;>rfl
def kw(γ:U)(b g:Nat):Prop:=
 ∃(ring dropped:Int) (v:Value) (rs:List Rc) (s1 s2:ByteArray),γ b=some (g,.cells #[.i ring,v,.string s1,.string s2,.i dropped] 176 (0,0))∧yR γ (b+1) 282 10 v rs.length (yW Rc.yV rs)∧1≤ring∧ring≤16∧(rs.length:Int)≤ring∧s1.size=32∧s2.size=32
theorem kw.keep{γ γ':U}{b g:Nat}(h:kw γ b g)(hk:∀k,b≤k→k<b+2→γ' k=γ k):kw γ' b g:=by obtain⟨r,d,v,rs,s1,s2,h1,h2,h3⟩:=h;exact⟨r,d,v,rs,s1,s2,by rw[hk _ (by omega) (by omega)];exact h1,h2.keep (hk _ (by omega) (by omega)),h3⟩
theorem wq{α:Type}{l:List α}{i:Nat}{x d:α}(h:i<l.length):(l.set i x).getD i d=x:=by rw[zn,zp h];rfl
theorem ub{α:Type}{l:List α}{i j:Nat}{x d:α}(h:i≠j):(l.set i x).getD j d=l.getD j d:=by rw[zn,zt h,←zn]
inductive Ob where
 |mu (m:Mu)
 |rw(m:Rw)
 |sm (m:Sm)
 |cd (ws:List Int) (mh:Int)
 |on (m:On)
 |gp (m:Gp)
def tr(γ:U)(b:Nat)(v:Value):Option Ob→Prop
 |none=>v=.nilIface
 |some (.mu m)=>∃g,v=.iface 217 (.p g)∧tj γ b g m
 |some (.rw m)=>∃g,v=.iface 218 (.p g)∧wZ γ b g m
 |some (.sm m)=>∃g,v=.iface 221 (.p g)∧vJ γ b g m
 |some (.cd ws mh)=>∃gw g,v=.iface 224 (.p gw)∧γ (b+7)=some (gw,.cells #[.p g,.i mh] 227 (0,0))∧vQ γ b g ws
 |some (.on m)=>∃g,v=.iface 222 (.p g)∧tR γ b g m
 |some (.gp m)=>∃g,v=.iface 223 (.p g)∧tK γ b g m
theorem tr.keep{γ γ':U}{b:Nat}{v:Value}{o:Option Ob}(h:tr γ b v o)(hk:∀k,b≤k→k<b+8→γ' k=γ k):tr γ' b v o:=by
 match o,h with
 |none,h=>exact h
 |some (.mu m),⟨g,h1,h2⟩=>exact⟨g,h1,h2.keep fun k q1 q2=>hk k q1 (by omega)⟩
 |some (.rw m),⟨g,h1,h2⟩=>exact⟨g,h1,h2.keep fun k q1 q2=>hk k q1 (by omega)⟩
 |some (.sm m),⟨g,h1,h2⟩=>exact⟨g,h1,h2.keep fun k q1 q2=>hk k q1 (by omega)⟩
 |some (.cd ws mh),⟨gw,g,h1,h2,h3⟩=>exact⟨gw,g,h1,by rw[hk _ (by omega) (by omega)];exact h2,h3.keep fun k q1 q2=>hk k q1 (by omega)⟩
 |some (.on m),⟨g,h1,h2⟩=>exact⟨g,h1,h2.keep fun k q1 q2=>hk k q1 (by omega)⟩
 |some (.gp m),⟨g,h1,h2⟩=>exact⟨g,h1,h2.keep fun k q1 q2=>hk k q1 (by omega)⟩
structure Wt where
 xI:Int
 obj:Int
 code:Int
 again:Bool
def Wt.yV(x:Wt):List Value:=[.i x.xI,.i x.obj,.i x.code,.bool x.again]
def Wt.zero:Wt:=⟨0,0,0,false⟩
theorem Wt.len(x:Wt):x.yV.length=4:=rfl
theorem Wt.one(x:Wt):∀u∈x.yV,u.oneCell'=true:=by intro u hu;simp[Wt.yV]at hu;rcases hu with rfl|rfl|rfl|rfl<;>rfl
structure xN where
 xI:Int
 clock:Int
 op:Int
 e:Int
 n:Int
 m:Int
def xN.yV(x:xN):List Value:=[.i x.xI,.i x.clock,.i x.op,.i x.e,.i x.n,.i x.m]
def xN.val(x:xN):Value:=.agg #[.i x.xI,.i x.clock,.i x.op,.i x.e,.i x.n,.i x.m]
theorem xN.len(x:xN):x.yV.length=6:=rfl
theorem xN.one(x:xN):∀u∈x.yV,u.oneCell'=true:=by intro u hu;simp[xN.yV]at hu;rcases hu with rfl|rfl|rfl|rfl|rfl|rfl<;>rfl
structure Dm where
 sv:SV
 av:AV
 yX:List (Option Ob)
 wh:Wh
 bu:Bu
 waits:List Wt
 seen:List xN
 clock:Int
structure vG where
 gt:Nat
 gp:Nat
 vo:Value
 gw:Nat
 gb:Nat
 gl:Nat
 vw:Value
 vs:Value
 os:List Value
def vG.cells(p:vG)(clock:Int):Array Value:=#[.p p.gt,.p p.gp,p.vo,.p p.gw,.p p.gb,.p p.gl,p.vw,p.vs,.i clock]
structure yT (γ:U) (B g:Nat) (p:vG) (D:Dm):Prop where
 xw:γ B=some (g,.cells (p.cells D.clock) 121 (0,0))
 xD:tS γ (B+10) p.gt D.sv
 places:rL γ (B+24) p.gp D.av
 yX:yR γ (B+1) 20 1 p.vo 8 p.os
 ol:D.yX.length=8
 each:∀i,i<8→tr γ (B+100+8*i) (p.os.getD i undef) (D.yX.getD i none)
 timers:uS γ (B+30) p.gw D.wh
 w8:D.wh.at_.length=8
 out:ti γ (B+40) p.gb D.bu
 log:kw γ (B+48) p.gl
 waits:yR γ (B+2) 182 4 p.vw 8 (yW Wt.yV D.waits)
 wl:D.waits.length=8
 seen:yR γ (B+3) 41 6 p.vs D.seen.length (yW xN.yV D.seen)
 sl:D.sv.ar.pl.length≤8
 al:D.av.pl.length≤8
def uQ(γ:U)(B g:Nat)(D:Dm):Prop:=∃p,yT γ B g p D
section
variable {w0 w:World} {γ γ':U} {B g:Nat} {p:vG} {D:Dm}
theorem yT.keep(h:yT γ B g p D)(hk:∀k,B≤k→k<B+200→γ' k=γ k):yT γ' B g p D where
 xw:=by rw[hk _ (by omega) (by omega)];exact h.xw
 xD:=h.xD.keep fun k q1 q2=>hk k (by omega) (by omega)
 places:=h.places.keep fun k q1 q2=>hk k (by omega) (by omega)
 yX:=h.yX.keep (hk _ (by omega) (by omega))
 ol:=h.ol
 each:=fun i hi=>(h.each i hi).keep fun k q1 q2=>hk k (by omega) (by omega)
 timers:=h.timers.keep fun k q1 q2=>hk k (by omega) (by omega)
 w8:=h.w8
 out:=h.out.keep (hk _ (by omega) (by omega))
 log:=h.log.keep fun k q1 q2=>hk k (by omega) (by omega)
 waits:=h.waits.keep (hk _ (by omega) (by omega))
 wl:=h.wl
 seen:=h.seen.keep (hk _ (by omega) (by omega))
 sl:=h.sl
 al:=h.al
theorem yT.Sx(h:yT γ B g p D)(hk:∀k,k<B∨B+4≤k→k<B+10∨B+19≤k→k<B+24∨B+26≤k→k<B+30∨B+36≤k→k≠B+40→k<B+48∨B+50≤k→k<B+100∨B+164≤k→True)(hk2:∀k,(B≤k∧k<B+4)∨(B+10≤k∧k<B+19)∨(B+24≤k∧k<B+26)∨(B+30≤k∧k<B+36)∨k=B+40∨(B+48≤k∧k<B+50)∨(B+100≤k∧k<B+164)→γ' k=γ k):yT γ' B g p D where
 xw:=by rw[hk2 _ (by omega)];exact h.xw
 xD:=h.xD.keep fun k q1 q2=>hk2 k (by omega)
 places:=h.places.keep fun k q1 q2=>hk2 k (by omega)
 yX:=h.yX.keep (hk2 _ (by omega))
 ol:=h.ol
 each:=fun i hi=>(h.each i hi).keep fun k q1 q2=>hk2 k (by omega)
 timers:=h.timers.keep fun k q1 q2=>hk2 k (by omega)
 w8:=h.w8
 out:=h.out.keep (hk2 _ (by omega))
 log:=h.log.keep fun k q1 q2=>hk2 k (by omega)
 waits:=h.waits.keep (hk2 _ (by omega))
 wl:=h.wl
 seen:=h.seen.keep (hk2 _ (by omega))
 sl:=h.sl
 al:=h.al
def xi(B k:Nat):Prop:=(B≤k∧k<B+4)∨(B+10≤k∧k<B+19)∨(B+24≤k∧k<B+26)∨(B+30≤k∧k<B+36)∨k=B+40∨(B+48≤k∧k<B+50)∨(B+100≤k∧k<B+164)
theorem yT.wK(h:yT γ B g p D)(hk:∀k,xi B k→γ' k=γ k):yT γ' B g p D:=h.Sx (fun _ _ _ _ _ _ _ _=>trivial) hk
theorem yT.qk(h:yT γ B g p D){s:SV}(hs:tS γ' (B+10) p.gt s)(hl:s.ar.pl.length≤8)(hk:∀k,(k<B+10∨B+20≤k)→γ' k=γ k):yT γ' B g p {D with sv:=s}where
 xw:=by rw[hk _ (by omega)];exact h.xw
 xD:=hs
 places:=h.places.keep fun k q1 q2=>hk k (by omega)
 yX:=h.yX.keep (hk _ (by omega))
 ol:=h.ol
 each:=fun i hi=>(h.each i hi).keep fun k q1 q2=>hk k (by omega)
 timers:=h.timers.keep fun k q1 q2=>hk k (by omega)
 w8:=h.w8
 out:=h.out.keep (hk _ (by omega))
 log:=h.log.keep fun k q1 q2=>hk k (by omega)
 waits:=h.waits.keep (hk _ (by omega))
 wl:=h.wl
 seen:=h.seen.keep (hk _ (by omega))
 sl:=hl
 al:=h.al
theorem yT.aH(h:yT γ B g p D){s:AV}(hs:rL γ' (B+24) p.gp s)(hl:s.pl.length≤8)(hk:∀k,(k<B+24∨B+26≤k)→γ' k=γ k):yT γ' B g p {D with av:=s}where
 xw:=by rw[hk _ (by omega)];exact h.xw
 xD:=h.xD.keep fun k q1 q2=>hk k (by omega)
 places:=hs
 yX:=h.yX.keep (hk _ (by omega))
 ol:=h.ol
 each:=fun i hi=>(h.each i hi).keep fun k q1 q2=>hk k (by omega)
 timers:=h.timers.keep fun k q1 q2=>hk k (by omega)
 w8:=h.w8
 out:=h.out.keep (hk _ (by omega))
 log:=h.log.keep fun k q1 q2=>hk k (by omega)
 waits:=h.waits.keep (hk _ (by omega))
 wl:=h.wl
 seen:=h.seen.keep (hk _ (by omega))
 sl:=h.sl
 al:=hl
theorem yT.jr(h:yT γ B g p D){s:Wh}(hs:uS γ' (B+30) p.gw s)(hl:s.at_.length=8)(hk:∀k,(k<B+30∨B+38≤k)→xi B k→γ' k=γ k):yT γ' B g p {D with wh:=s}where
 xw:=by rw[hk _ (by omega) (by unfold xi;omega)];exact h.xw
 xD:=h.xD.keep fun k q1 q2=>hk k (by omega) (by unfold xi;omega)
 places:=h.places.keep fun k q1 q2=>hk k (by omega) (by unfold xi;omega)
 yX:=h.yX.keep (hk _ (by omega) (by unfold xi;omega))
 ol:=h.ol
 each:=fun i hi=>(h.each i hi).keep fun k q1 q2=>hk k (by omega) (by unfold xi;omega)
 timers:=hs
 w8:=hl
 out:=h.out.keep (hk _ (by omega) (by unfold xi;omega))
 log:=h.log.keep fun k q1 q2=>hk k (by omega) (by unfold xi;omega)
 waits:=h.waits.keep (hk _ (by omega) (by unfold xi;omega))
 wl:=h.wl
 seen:=h.seen.keep (hk _ (by omega) (by unfold xi;omega))
 sl:=h.sl
 al:=h.al
theorem yT.PR(h:yT γ B g p D){s:Bu}(hs:ti γ' (B+40) p.gb s)(hk:∀k,(k<B+40∨B+48≤k)→γ' k=γ k):yT γ' B g p {D with bu:=s}where
 xw:=by rw[hk _ (by omega)];exact h.xw
 xD:=h.xD.keep fun k q1 q2=>hk k (by omega)
 places:=h.places.keep fun k q1 q2=>hk k (by omega)
 yX:=h.yX.keep (hk _ (by omega))
 ol:=h.ol
 each:=fun i hi=>(h.each i hi).keep fun k q1 q2=>hk k (by omega)
 timers:=h.timers.keep fun k q1 q2=>hk k (by omega)
 w8:=h.w8
 out:=hs
 log:=h.log.keep fun k q1 q2=>hk k (by omega)
 waits:=h.waits.keep (hk _ (by omega))
 wl:=h.wl
 seen:=h.seen.keep (hk _ (by omega))
 sl:=h.sl
 al:=h.al
theorem yT.uW(h:yT γ B g p D){l:List Wt}(hs:yR γ' (B+2) 182 4 p.vw 8 (yW Wt.yV l))(hl:l.length=8)(hk:∀k,k≠B+2→γ' k=γ k):yT γ' B g p {D with waits:=l}where
 xw:=by rw[hk _ (by omega)];exact h.xw
 xD:=h.xD.keep fun k q1 q2=>hk k (by omega)
 places:=h.places.keep fun k q1 q2=>hk k (by omega)
 yX:=h.yX.keep (hk _ (by omega))
 ol:=h.ol
 each:=fun i hi=>(h.each i hi).keep fun k q1 q2=>hk k (by omega)
 timers:=h.timers.keep fun k q1 q2=>hk k (by omega)
 w8:=h.w8
 out:=h.out.keep (hk _ (by omega))
 log:=h.log.keep fun k q1 q2=>hk k (by omega)
 waits:=hs
 wl:=hl
 seen:=h.seen.keep (hk _ (by omega))
 sl:=h.sl
 al:=h.al
theorem yT.setObj(h:yT γ B g p D){i:Nat}(hi:i<8){o:Option Ob}(hs:tr γ' (B+100+8*i) (p.os.getD i undef) o)(hk:∀k,(k<B+100+8*i∨B+100+8*i+8≤k)→xi B k→γ' k=γ k):yT γ' B g p {D with yX:=D.yX.set i o}where
 xw:=by rw[hk _ (by omega) (by unfold xi;omega)];exact h.xw
 xD:=h.xD.keep fun k q1 q2=>hk k (by omega) (by unfold xi;omega)
 places:=h.places.keep fun k q1 q2=>hk k (by omega) (by unfold xi;omega)
 yX:=h.yX.keep (hk _ (by omega) (by unfold xi;omega))
 ol:=by show(D.yX.set i o).length=8;rw[zq];exact h.ol
 each:=fun j hj=>by
  show tr γ' _ _ ((D.yX.set i o).getD j none)
  by_cases e:j=i
  ·subst e
   rw[wq (by rw[h.ol];exact hi)]
   exact hs
  ·rw[ub (Ne.symm e)]
   exact(h.each j hj).keep fun k q1 q2=>hk k (by omega) (by unfold xi;omega)
 timers:=h.timers.keep fun k q1 q2=>hk k (by omega) (by unfold xi;omega)
 w8:=h.w8
 out:=h.out.keep (hk _ (by omega) (by unfold xi;omega))
 log:=h.log.keep fun k q1 q2=>hk k (by omega) (by unfold xi;omega)
 waits:=h.waits.keep (hk _ (by omega) (by unfold xi;omega))
 wl:=h.wl
 seen:=h.seen.keep (hk _ (by omega) (by unfold xi;omega))
 sl:=h.sl
 al:=h.al
end
end
section
open Go.RowKit Go.WideShapes
def Out(B k:Nat):Prop:=k<B∨B+200≤k∨(B+60≤k∧k<B+100)
def sJ(w0:World)(γ:U)(B g:Nat)(p:vG)(D:Dm)(r:Value→Prop)(e:Ending)(w':World):Prop:=
 (∃v,e=.returned v∧r v)∧∃γ',Own w0 w' γ'∧yT γ' B g p D∧∀k,Out B k→γ' k=γ k
section
variable {w0 w:World} {γ:U} {B g:Nat} {p:vG} {D:Dm}
theorem wM{t:Nat}{v:Value}{l:List Wt}(hs:yR γ t 182 4 v 8 (yW Wt.yV l))(ho:Own w0 w γ)(hl:l.length=8){i:Nat}(hi:i<8):∃gv cap,v=.slice (zb gv) 8 cap∧(w.cell? (zc gv (i*4))=some (.i (l.getD i Wt.zero).xI)∧w.cell? (zc gv (i*4+1))=some (.i (l.getD i Wt.zero).obj)∧w.cell? (zc gv (i*4+2))=some (.i (l.getD i Wt.zero).code)∧w.cell? (zc gv (i*4+3))=some (.bool (l.getD i Wt.zero).again))∧w.frozen? (zc gv (i*4))=false∧w.frozen? (zc gv (i*4+1))=false∧w.frozen? (zc gv (i*4+2))=false∧w.frozen? (zc gv (i*4+3))=false:=by
 have hx:l[i]? =some (l.getD i Wt.zero):=by rw[zn,zl (by omega)];rfl
 obtain⟨gv,cap,hv,-,hc,-⟩:=yR.elem Wt.len hs ho hx hi;have q0:=hc 0 _ rfl;have q1:=hc 1 _ rfl;have q2:=hc 2 _ rfl;have q3:=hc 3 _ rfl;exact⟨gv,cap,hv,⟨q0.1,q1.1,q2.1,q3.1⟩,q0.2,q1.2,q2.2,q3.2⟩
theorem vW{t:Nat}{v:Value}{l:List Wt}{gv cap:Nat}(hv:v=.slice (zb gv) 8 cap)(hs:yR γ t 182 4 v 8 (yW Wt.yV l))(ho:Own w0 w γ)(hl:l.length=8){i:Nat}(hi:i<8)(j:Nat)(hj:j<4)(u:Value)(y:Wt)(hy:(l.getD i Wt.zero).yV.set j u=y.yV):∃γ',Own w0 (w.setCell (zc gv (i*4+j)) u) γ'∧yR γ' t 182 4 v 8 (yW Wt.yV (l.set i y))∧∀k,k≠t→γ' k=γ k:=by
 have hx:l[i]? =some (l.getD i Wt.zero):=by rw[zn,zl (by omega)];rfl
 obtain⟨gv',cap',hv',-,-,hset⟩:=yR.elem Wt.len hs ho hx hi;rw[hv]at hv';cases hv';rw[hv]at hs hset⊢;exact hset j u y hj hy
theorem ez{t:Nat}{v:Value}{l:List Wt}{gv cap:Nat}(hv:v=.slice (zb gv) 8 cap)(hs:yR γ t 182 4 v 8 (yW Wt.yV l))(ho:Own w0 w γ)(hl:l.length=8){i:Nat}(hi:i<8)(y:Wt):∃γ',Own w0 ((((w.setCell (zc gv (i*4)) (.i y.xI)).setCell (zc gv (i*4+1)) (.i y.obj)).setCell (zc gv (i*4+2)) (.i y.code)).setCell (zc gv (i*4+3)) (.bool y.again)) γ'∧yR γ' t 182 4 v 8 (yW Wt.yV (l.set i y))∧∀k,k≠t→γ' k=γ k:=by have hg:∀z:Wt,∀l':List Wt,l'.length=8→(l'.set i z).getD i Wt.zero=z:=fun z l' h=>wq (by omega);obtain⟨γ1,o1,s1,k1⟩:=vW hv hs ho hl hi 0 (by omega) (.i y.xI) {(l.getD i Wt.zero)with xI:=y.xI} rfl;obtain⟨γ2,o2,s2,k2⟩:=vW hv s1 o1 (by rw[zq];exact hl) hi 1 (by omega) (.i y.obj) {(l.getD i Wt.zero)with xI:=y.xI,obj:=y.obj} (by rw[hg _ _ hl];rfl);rw[ye]at s2;obtain⟨γ3,o3,s3,k3⟩:=vW hv s2 o2 (by rw[zq];exact hl) hi 2 (by omega) (.i y.code) {(l.getD i Wt.zero)with xI:=y.xI,obj:=y.obj,code:=y.code} (by rw[hg _ _ hl];rfl);rw[ye]at s3;obtain⟨γ4,o4,s4,k4⟩:=vW hv s3 o3 (by rw[zq];exact hl) hi 3 (by omega) (.bool y.again) y (by rw[hg _ _ hl];rfl);rw[ye]at s4;exact⟨γ4,o4,s4,fun k hk=>(k4 k hk).trans ((k3 k hk).trans ((k2 k hk).trans (k1 k hk)))⟩
def Dm.pl(D:Dm)(t:Int):Nat:=(D.sv.ar.place t).toNat
def Dm.wN(D:Dm)(t:Int):Dm:={D with wh:=D.wh.stop (D.pl t),bu:=D.bu.put (t,(D.waits.getD (D.pl t) Wt.zero).code),waits:=D.waits.set (D.pl t) Wt.zero}
theorem qD(h:yT γ B g p D)(ho:Own w0 w γ)(t:Int)(hx:t≤9223372036854775807)(hp:D.sv.ar.place t≠ -1):Calls Tryz.prog 120 #[.p g,.i t] w (sJ w0 γ B g p (D.wN t) (fun _=>True)):=by
 have hplc:=ur h.xD ho t hx;have hplt:=AV.wI h.xD.wV t;have hsl:=h.sl;obtain⟨pl,hpl⟩:∃pl:Nat,D.sv.ar.place t=pl:=⟨(D.sv.ar.place t).toNat,by omega⟩;have hpl8:pl<8:=by omega
 have hpe:D.pl t=pl:=by unfold Dm.pl;rw[hpl];rfl
 rw[hpl]at hplc;unfold Dm.wN;rw[hpe];have c0:=ho.cell h.xw (i:=0) (v:=.p p.gt) rfl;have c3:=ho.cell h.xw (i:=3) (v:=.p p.gw) rfl;have hst:=U3 h.timers ho pl (by rw[h.w8];exact hpl8);have H:=I h;clear h ho hp hplt hpl hpe;go_in;go_wp2_with fail;refine hplc.mono ?_;rintro e w' ⟨rfl,rfl⟩;go_wp2_with fail;refine hst.mono ?_;rintro e w1 ⟨rfl,γ1,o1,r1,k1⟩;have h1:yT γ1 B g p {D with wh:=D.wh.stop pl}:=H.out.jr r1 (by unfold Wh.stop;exact H.out.w8) (fun k hk _=>k1 k (by omega));obtain⟨gv,cw,hvw,hcell,hfz⟩:=wM h1.waits o1 h1.wl hpl8;have HC:Hid (∀W,Own w0 W γ1→W.cell? (zc g 4)=some (.p p.gb)∧W.cell? (zc g 6)=some (.slice (zb gv) 8 cw)∧W.cell? (zc gv (pl*4+2))=some (.i (D.waits.getD pl Wt.zero).code)):=I fun W hW=>by refine⟨hW.cell h1.xw rfl,by rw[←hvw];exact hW.cell h1.xw rfl,?_⟩;obtain⟨gv',cw',hv',hc',-⟩:=wM h1.waits hW h1.wl hpl8;rw[hvw]at hv';cases hv';exact hc'.2.2.1
 have hput:=fun W (hW:Own w0 W γ1)=>P6 (w:=W) h1.out hW (t,(D.waits.getD pl Wt.zero).code);have HP:=I hput;have HO:=I o1.drew;have K1:=I k1;have H1:=I h1;have hpl8':(pl:Int)<8:=by omega
 have HV:=I hvw;clear h1 o1 r1 k1 hst hcell hfz hput hplc hvw c0 c3;go_wp2_with fail;refine yP.region [0,1,2,3,4,5,6,7,8,9,10,11,12,13] (.step 14 .done) (fun w'=>Own w0 w' γ1) (by kernel_rfl) (by kernel_rfl) (fun _ _ _ _ _ h=>h) HO.out ?_;repeat
  refine Perm.xm rfl ?_ (fun w' hS=>?_) ?_;rotate_left
  ·(obtain⟨q1,q2,q3⟩:=HC.out _ hS;clear hS;go_simp;try with_reducible rfl)
  simp only[pt]
 refine Perm.xt ?_;refine yP.yY rfl (by rfl) ?_;refine yP.xJ rfl 164 _ _ rfl (by kernel_rfl) _ rfl ((HP.out _ HO.out).mono ?_);rintro e w2 ⟨rfl,γ2,o2,r2,k2⟩;refine⟨_,rfl,Perm.xx (by kernel_rfl),?_⟩;simp only[pt];refine yP.xC ?_;have h2:=H1.out.PR r2 (fun k hk=>k2 k (by omega));have d6:w2.cell? (zc g 6)=some (.slice (zb gv) 8 cw):=by rw[←HV.out];exact o2.cell h2.xw rfl
 obtain⟨gv',cw',hv',⟨e0,e1,e2,e3⟩,f0,f1,f2,f3⟩:=wM h2.waits o2 h2.wl hpl8;rw[HV.out]at hv';cases hv';obtain⟨γ3,o3,s3,k3⟩:=ez HV.out h2.waits o2 h2.wl hpl8 Wt.zero;have HF:Hid (∃γ',Own w0 ((((w2.setCell (zc gv (pl*4)) (.i 0)).setCell (zc gv (pl*4+1)) (.i 0)).setCell (zc gv (pl*4+2)) (.i 0)).setCell (zc gv (pl*4+3)) (.bool false)) γ'∧yT γ' B g p {D with wh:=D.wh.stop pl,bu:=D.bu.put (t,(D.waits.getD pl Wt.zero).code),waits:=D.waits.set pl Wt.zero}∧∀k,Out B k→γ' k=γ k):=I ⟨γ3,o3,h2.uW s3 (by rw[zq];exact h2.wl) k3,fun k hk=>(k3 k (by unfold Out at hk;omega)).trans ((k2 k (by unfold Out at hk;omega)).trans (K1.out k (by unfold Out at hk;omega)))⟩;clear h2 o2 r2 k2 o3 s3 k3 HC HP HO K1 H1;go_wp2_with fail;first|go_end0|refine bodyPost_ret (results_none rfl _ _ _) rfl ?_
 exact⟨⟨_,rfl,trivial⟩,HF.out⟩
end
end
section
open Go.RowKit Go.WideShapes
def Dm.xH(D:Dm)(l:List Int):Dm:=l.foldl Dm.wN D
theorem Dm.WR(l:List Int):∀D:Dm,(D.xH l).sv=D.sv:=by
 induction l with
 |nil=>intro D;rfl
 |cons t l ih=>intro D;exact(ih (D.wN t)).trans rfl
theorem Dm.Ys(D:Dm)(l:List Int)(t:Int):D.xH (l++[t])=(D.xH l).wN t:=by unfold Dm.xH;rw[yq];rfl
def Dm.block(D:Dm)(t obj xM:Int):Dm:={D with sv:=D.sv.block t,waits:=D.waits.set (D.pl t) ⟨t,obj,0,false⟩,wh:=if 0≤xM then D.wh.set (D.pl t) xM else D.wh}
theorem Wh.Qj(v:Wh)(i:Nat)(t:Int):(v.set i t).at_.length=v.at_.length:=by simp[Wh.set]
section
variable {w0 w:World} {γ:U} {B g:Nat} {p:vG} {D:Dm}
theorem uy(h:yT γ B g p D)(ho:Own w0 w γ){q:Nat}{v:Value}{l:List Int}(hq:B+60≤q∧q<B+100)(hpa:xK γ q 3 1 v l.length (ints l))(hl:l.length≤100)(hm:∀t∈l,t≤9223372036854775807∧D.sv.ar.place t≠ -1):Calls Tryz.prog 121 #[.p g,v] w (sJ w0 γ B g p (D.xH l) (fun _=>True)):=by
 have HS:Hid (∃γ',Own w0 w γ'∧yT γ' B g p (D.xH (l.take 0))∧∀k,Out B k→γ' k=γ k):=I ⟨γ,ho,h,fun _ _=>rfl⟩;have HP:=I hpa;have HM:=I hm;obtain⟨A,cap,rfl⟩:=hpa.form;generalize hn:l.length=n at*;have HN:=I hn;clear h ho hpa hm hn;go_in;go_wp2_with fail;go_loopw [8] (fun i wr=>∃(j:Nat) (γ':U),i=.i j∧j≤n∧Own w0 wr γ'∧yT γ' B g p (D.xH (l.take j))∧∀k,Out B k→γ' k=γ k) (fun i _=>n-(intOf i).toNat);case atStart=> obtain⟨γ',h1,h2,h3⟩:=HS.out;exact⟨0,γ',rfl,by omega,h1,h2,h3⟩
 case round=>
  clear HS;obtain⟨j,γ',rfl,hj,ho,h,hk⟩:=hrel;by_cases hlt:j<n
  ·have dl:decide ((j:Int)<n)=true:=by simpa using hlt
   have hjl:j<l.length:=by rw[HN.out];exact hlt
   obtain⟨t,ht⟩:∃t,l[j]? =some t:=⟨_,zl hjl⟩;have hkq:γ' q=γ q:=hk q (by unfold Out;omega);obtain⟨g',c',hv,-,hrow⟩:=(HP.out.keep hkq).row ho (by omega);cases hv;have cj:=hrow j (.i t) (by unfold ints;rw[zx,ht];rfl);have hmt:=HM.out t (zo ht);have hwk:=qD h ho t hmt.1 (by rw[Dm.WR];exact hmt.2);have hsn:Hid (D.xH (l.take (j+1))=(D.xH (l.take j)).wN t):=I (by rw[yk,ht];exact D.Ys _ _);have HK:=I hk;clear h ho hk hrow ht hmt hkq;go_wp2_with fail;refine hwk.mono ?_;rintro e w1 ⟨⟨r,rfl,-⟩,γ1,o1,h1,k1⟩;have HF:Hid (Own w0 w1 γ1∧yT γ1 B g p (D.xH (l.take (j+1)))∧∀k,Out B k→γ1 k=γ k):=I ⟨o1,by rw[hsn.out];exact h1,fun k hk=>(k1 k hk).trans (HK.out k hk)⟩;clear o1 h1 k1 hwk;go_wp2_with fail;go_roundw;case rel=>exact⟨j+1,γ1,by simp,by omega,HF.out.1,HF.out.2.1,HF.out.2.2⟩
   case measure=>simp[intOf];omega
  ·obtain rfl:j=n:=by omega
   have dl:decide ((j:Int)<j)=false:=by simp
   have HF:Hid (∃γ',Own w0 wr γ'∧yT γ' B g p (D.xH l)∧∀k,Out B k→γ' k=γ k):=I ⟨γ',ho,by rw[←HN.out,yA]at h;exact h,hk⟩;clear h ho hk;go_wp2_with fail;first|go_end0|refine bodyPost_ret (results_none rfl _ _ _) rfl ?_
   exact⟨⟨_,rfl,trivial⟩,HF.out⟩
theorem Xi(h:yT γ B g p D)(ho:Own w0 w γ)(t:Int)(hx:t≤9223372036854775807)(hp:D.sv.ar.place t≠ -1)(obj xM:Int)(ht:xM≤4611686018427387904):Calls Tryz.prog 277 #[.p g,.i t,.i obj,.i xM] w (sJ w0 γ B g p (D.block t obj xM) (fun _=>True)):=by
 have hplc:=ur h.xD ho t hx;have hplt:=AV.wI h.xD.wV t;have hsl:=h.sl;obtain⟨pl,hpl⟩:∃pl:Nat,D.sv.ar.place t=pl:=⟨(D.sv.ar.place t).toNat,by omega⟩;have hpl8:pl<8:=by omega
 have hpe:D.pl t=pl:=by unfold Dm.pl;rw[hpl];rfl
 rw[hpl]at hplc;unfold Dm.block;rw[hpe];have c0:=ho.cell h.xw (i:=0) (v:=.p p.gt) rfl;have hbl:=bY h.xD ho t hx;have H:=I h;clear h ho hp hplt hpl hpe;have main:∀(Q:Ending→World→Prop),True:=fun _=>trivial;have start:∀wh':Wh,wh'=(if 0≤xM then D.wh.set pl xM else D.wh)→Calls Tryz.prog 277 #[.p g,.i t,.i obj,.i xM] w (sJ w0 γ B g p {D with sv:=D.sv.block t,waits:=D.waits.set pl ⟨t,obj,0,false⟩,wh:=wh'} (fun _=>True)):=by
  intro wh' hwh;have HW:=I hwh;clear hwh main;by_cases htl:0≤xM
  ·have dt:decide (0≤xM)=true:=by simpa using htl
   go_in;go_wp2_with fail;refine hplc.mono ?_;rintro e w' ⟨rfl,rfl⟩;go_wp2_with fail;refine hbl.mono ?_;rintro e w1 ⟨rfl,γ1,o1,r1,k1⟩;have h1:=H.out.qk r1 (by rw[SV.kz];exact H.out.sl) k1;obtain⟨gv,cw,hvw,⟨e0,e1,e2,e3⟩,f0,f1,f2,f3⟩:=wM h1.waits o1 h1.wl hpl8;have d6:w1.cell? (zc g 6)=some (.slice (zb gv) 8 cw):=by rw[←hvw];exact o1.cell h1.xw rfl
   obtain⟨γ2,o2,s2,k2⟩:=ez hvw h1.waits o1 h1.wl hpl8 ⟨t,obj,0,false⟩;have h2:=h1.uW s2 (by rw[zq];exact h1.wl) k2;have d3:=o2.cell h2.xw (i:=3) (v:=.p p.gw) rfl;have hse:=OQ h2.timers o2 pl (by rw[h2.w8];exact hpl8) xM htl ht;have HF:Hid (∀w3 γ3,Own w0 w3 γ3→uS γ3 (B+30) p.gw (D.wh.set pl xM)→(∀k,(k<B+30∨B+30+8≤k)→γ3 k=γ2 k)→∃γ',Own w0 w3 γ'∧yT γ' B g p {D with sv:=D.sv.block t,waits:=D.waits.set pl ⟨t,obj,0,false⟩,wh:=wh'}∧∀k,Out B k→γ' k=γ k):=I fun w3 γ3 o3 r3 k3=>by rw[HW.out,if_pos htl];exact⟨γ3,o3,h2.jr r3 (by rw[Wh.Qj];exact h2.w8) (fun k hk _=>k3 k (by omega)),fun k hk=>(k3 k (by unfold Out at hk;omega)).trans ((k2 k (by unfold Out at hk;omega)).trans (k1 k (by unfold Out at hk;omega)))⟩
   have hpl8':(pl:Int)<8:=by omega
   clear o1 r1 k1 h1 hvw o2 s2 k2 h2 hbl hplc c0;go_wp2_with fail;refine hse.mono ?_;rintro e w3 ⟨bb,rfl,γ3,o3,r3,k3⟩;have HZ:=I (HF.out _ _ o3 r3 (fun k hk=>k3 k (by omega)));clear o3 r3 k3 hse HF;go_wp2_with fail;first|go_end0|refine bodyPost_ret (results_none rfl _ _ _) rfl ?_
   exact⟨⟨_,rfl,trivial⟩,HZ.out⟩
  ·have dt:decide (0≤xM)=false:=by simpa using htl
   go_in;go_wp2_with fail;refine hplc.mono ?_;rintro e w' ⟨rfl,rfl⟩;go_wp2_with fail;refine hbl.mono ?_;rintro e w1 ⟨rfl,γ1,o1,r1,k1⟩;have h1:=H.out.qk r1 (by rw[SV.kz];exact H.out.sl) k1;obtain⟨gv,cw,hvw,⟨e0,e1,e2,e3⟩,f0,f1,f2,f3⟩:=wM h1.waits o1 h1.wl hpl8;have d6:w1.cell? (zc g 6)=some (.slice (zb gv) 8 cw):=by rw[←hvw];exact o1.cell h1.xw rfl
   obtain⟨γ2,o2,s2,k2⟩:=ez hvw h1.waits o1 h1.wl hpl8 ⟨t,obj,0,false⟩;have h2:=h1.uW s2 (by rw[zq];exact h1.wl) k2;have HF:Hid (∃γ',Own w0 ((((w1.setCell (zc gv (pl*4)) (.i t)).setCell (zc gv (pl*4+1)) (.i obj)).setCell (zc gv (pl*4+2)) (.i 0)).setCell (zc gv (pl*4+3)) (.bool false)) γ'∧yT γ' B g p {D with sv:=D.sv.block t,waits:=D.waits.set pl ⟨t,obj,0,false⟩,wh:=wh'}∧∀k,Out B k→γ' k=γ k):=I (by rw[HW.out,if_neg (by omega)];exact⟨γ2,o2,h2,fun k hk=>(k2 k (by unfold Out at hk;omega)).trans (k1 k (by unfold Out at hk;omega))⟩);have hpl8':(pl:Int)<8:=by omega
   clear o1 r1 k1 h1 hvw o2 s2 k2 h2 hbl hplc c0;go_wp2_with fail;first|go_end0|refine bodyPost_ret (results_none rfl _ _ _) rfl ?_
   exact⟨⟨_,rfl,trivial⟩,HF.out⟩
 exact start _ rfl
end
end
end Go.Proofs.YtkmamlifgbocgaaGreat
