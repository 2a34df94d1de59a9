/- What the program's code does, as contracts, and what follows of it, part 26: for the law's proof. -/
import Derived.Test.YtkmamlifgbocgaaGreatP00
import Derived.Test.YtkmamlifgbocgaaGreatP25
import Derived.StillTailTactics
import Derived.LoopTactic
set_option linter.unusedVariables false
set_option linter.unusedSimpArgs false
set_option maxRecDepth 100000
set_option maxHeartbeats 16000000
namespace Go.Proofs.YtkmamlifgbocgaaGreat
section
open Go.RowKit Go.ChangeMaps
theorem CS.Ok.wS{c:CS}(h:c.Ok)(op t i v:Int)(hq:c.q<999):(c.wS op t i v).Ok:=by
 unfold CS.wS;split
 ·exact h.begin t hq
 ·split
  ·exact h.put t i v
  ·exact h.end_ t hq
theorem CS.NC(c:CS)(op t i v:Int):(c.wS op t i v).q≤c.q+1:=by
 unfold CS.wS;split
 ·exact c.SY t
 ·split
  ·rw[c.OC];omega
  ·exact c.Og t
section
variable {w0 w:World} {γ γ0:U} {b gl gm tc g clock:Nat} {lv ev:Value} {es:Array MapEntry} {f:Int→Int→Option (Int×Int)} {c:CS} {d t k dm pk op a b' v:Int} {g5:Nat}
theorem Rl{s:LS}(h:qm w0 γ b gl s w)(h10:s.ls.length≤10)(d t k dm pk b' v:Int){j:Nat}{l:wy}(hl:s.ls[j]? =some l){z:Nat}{all:List Int}{next:Int}(he:s.en j=.tP z all next)(hage:all.length<1000)(hm0:rB s.ls d 33 j=0):Calls Tryz.prog 65 #[.p gl,.i d,.i t,.agg #[.i k,.i dm,.i pk,.i 33,.i j,.i b',.i v]] w (ry w0 γ b gl 0 {s with en:=tM s.en j (.tP z (all++[b']) next)}):=by
 have hj:j<s.ls.length:=(zk.1 hl).1;have h1:=h.box (wQ k dm pk 33 j b' v);have hk4:=yQ γ (b+4) w.heap.size (wQ k dm pk 33 j b' v);have hm:=j6 h1 h10 k dm pk 33 j b' v d;rw[hm0]at hm;have hrest:∀t,(t<b∨b+30≤t)→put γ (b+4) w.heap.size (wQ k dm pk 33 j b' v) t=γ t:=fun t ht=>yO _ _ _ (by omega);unfold wQ at hm hk4 hrest h1;generalize put γ (b+4) _ _=γ1 at*;have H1:=I h1;clear h h1 hm0;have HK:=I hrest;clear hrest;go_in;go_wp2_with fail;refine hm.mono ?_;rintro e w1 ⟨rfl,hb⟩;have h2:=xW.xh H1.out hb;obtain⟨u,⟨g,cap,g2,cap2,c0,c1,q0,q1,q2,q3,cu⟩,hend⟩:=h2.at_ hl;rw[he]at hend;obtain⟨hk1,gt,gp,rfl,ht,hp,z1,z8⟩:=hend;have t0:=h2.own.cell ht (i:=0) (v:=.p gp) rfl;have hta:=PU (.p gt);have HP:=I hp;have HT:=I ht;have HQ:=I hk1;clear hp ht hk1;have e0:=h2.own.cell hk4 (i:=0) (v:=.i k) rfl;have e1:=h2.own.cell hk4 (i:=1) (v:=.i dm) rfl;have e2:=h2.own.cell hk4 (i:=2) (v:=.i pk) rfl;have e3:=h2.own.cell hk4 (i:=3) (v:=.i 33) rfl;have e4:=h2.own.cell hk4 (i:=4) (v:=.i j) rfl;have e5:=h2.own.cell hk4 (i:=5) (v:=.i b') rfl;have e6:=h2.own.cell hk4 (i:=6) (v:=.i v) rfl;have hjn:(j:Int)<s.ls.length:=by omega
 have H2:=I h2;clear hm hb h2 hk4 q0 q1 q2 q3 c0;go_wp2_with fail;go_still_tail 14,(by kernel_rfl);change wpList _ _ _ _ _ (World.drew _);go_wp2_with fail;refine(T5 H2.out.own.drew HP.out z1 z8 (by omega) (v:=b')).mono ?_;rintro e w2 ⟨rfl,ho⟩;have hfin:ry w0 γ b gl 0 {s with en:=tM s.en j (.tP z (all++[b']) next)} (.returned (.tuple #[.i 0,.i 0,.i 0])) w2:=by refine⟨rfl,_,xW.tw H2.out ho hl (fun k hk=>yO _ _ _ (by omega)) (fun gm es clock hm=>⟨es,clock,by rw[yO _ _ _ (by omega)];exact hm,id⟩) (fun u hu=>?_) (fun i hi=>if_neg hi),fun k hk=>by rw[yO _ _ _ (by omega)];exact HK.out k hk⟩;show tD _ _ u l.kind (tM s.en j (.tP z (all++[b']) next) j);rw[show tM s.en j (.tP z (all++[b']) next) j=.tP z (all++[b']) next from if_pos rfl];rw[he]at hu;obtain⟨k1,gt',gp',ru,ht',hp',zz1,zz8⟩:=hu;have e1:=HT.out.symm.trans ht';cases e1;exact⟨k1,gt,gp,ru,by rw[yO _ _ _ (by omega)];exact HT.out,yQ _ _ _ _,z1,z8⟩
 have HF:=I hfin;clear hfin ho;go_wp2_with fail;refine bodyPost_ret (results_tmp3 rfl _ _ _) rfl ?_;exact HF.out
theorem Rj{s:LS}(h:qm w0 γ b gl s w)(h10:s.ls.length≤10)(d t k dm pk b' v:Int){j:Nat}{l:wy}(hl:s.ls[j]? =some l){z:Nat}{all:List Int}{next:Int}(he:s.en j=.tP z all next)(hage:all.length<1000)(hm0:rB s.ls d 34 j=0):Calls Tryz.prog 65 #[.p gl,.i d,.i t,.agg #[.i k,.i dm,.i pk,.i 34,.i j,.i b',.i v]] w (jV w0 γ b gl (kl all next,kn z all next,km z all next,{s with en:=tM s.en j (.tP z all (kj z all next))})):=by
 have hj:j<s.ls.length:=(zk.1 hl).1;have h1:=h.box (wQ k dm pk 34 j b' v);have hk4:=yQ γ (b+4) w.heap.size (wQ k dm pk 34 j b' v);have hm:=j6 h1 h10 k dm pk 34 j b' v d;rw[hm0]at hm;have hrest:∀t,(t<b∨b+30≤t)→put γ (b+4) w.heap.size (wQ k dm pk 34 j b' v) t=γ t:=fun t ht=>yO _ _ _ (by omega);unfold wQ at hm hk4 hrest h1;generalize put γ (b+4) _ _=γ1 at*;have H1:=I h1;clear h h1 hm0;have HK:=I hrest;clear hrest;go_in;go_wp2_with fail;refine hm.mono ?_;rintro e w1 ⟨rfl,hb⟩;have h2:=xW.xh H1.out hb;obtain⟨u,⟨g,cap,g2,cap2,c0,c1,q0,q1,q2,q3,cu⟩,hend⟩:=h2.at_ hl;rw[he]at hend;obtain⟨hk1,gt,gp,rfl,ht,hp,z1,z8⟩:=hend;have t0:=h2.own.cell ht (i:=0) (v:=.p gp) rfl;have hta:=PU (.p gt);have HP:=I hp;have HT:=I ht;have HQ:=I hk1;clear hp ht hk1;have e0:=h2.own.cell hk4 (i:=0) (v:=.i k) rfl;have e1:=h2.own.cell hk4 (i:=1) (v:=.i dm) rfl;have e2:=h2.own.cell hk4 (i:=2) (v:=.i pk) rfl;have e3:=h2.own.cell hk4 (i:=3) (v:=.i 34) rfl;have e4:=h2.own.cell hk4 (i:=4) (v:=.i j) rfl;have e5:=h2.own.cell hk4 (i:=5) (v:=.i b') rfl;have e6:=h2.own.cell hk4 (i:=6) (v:=.i v) rfl;have hjn:(j:Int)<s.ls.length:=by omega
 have H2:=I h2;clear hm hb h2 hk4 q0 q1 q2 q3 c0;go_wp2_with fail;have hrc:=ZZ H2.out.own.drew (by omega) HT.out HP.out z1 z8 (by omega) (.p gl);unfold TT at hrc;generalize kn z all next=x1 at*
 generalize km z all next=x2 at*
 generalize kl all next=x3 at*
 generalize kj z all next=x4 at*
 refine yP.region [0,1,2,3,4,5,6,7,8,9] (.step 10 (.step 11 (.step 12 (.step 13 (.step 14 (.step 15 (.step 16 .done))))))) (fun w'=>w'.cell? (zc gl 1)=some (.slice (zb g2) s.ls.length cap2)∧w'.cell? (zc w.heap.size 4)=some (.i j)∧w'.cell? (zc g2 j)=some (.iface 131 (.p gt))) (by kernel_rfl) (by kernel_rfl) (fun _ _ _ _ _ h=>h) (by refine⟨?_,?_,?_⟩<;>simpa using by assumption) ?_;repeat
  refine Perm.xm rfl ?_ (fun w' hS=>?_) ?_;rotate_left
  ·((try dsimp only at hS);go_simp;try with_reducible rfl)
  simp only[pt]
 refine Perm.xt ?_;refine yP.yY rfl (by rfl) ?_;refine yP.xJ rfl 90 _ _ rfl (by kernel_rfl) #[.p gl,.p gt] (by rfl) (hrc.mono ?_);rintro e w2 ⟨rfl,ho⟩;refine⟨_,rfl,Perm.xx (by kernel_rfl),?_⟩;simp only[pt];repeat
  refine yP.xA rfl (by rfl) ?_ (fun w'=>?_) ?_;rotate_left
  ·(go_simp;try with_reducible rfl)
  simp only[pt]
 refine yP.xC ?_;all_goals
  have hfin:jV w0 γ b gl (x3,x1,x2,{s with en:=tM s.en j (.tP z all (x4))}) (.returned (.tuple #[.i x3,.i (x1),.i (x2)])) w2:=by refine⟨rfl,_,xW.tw H2.out ho hl (fun k hk=>yO _ _ _ (by omega)) (fun gm es clock hm=>⟨es,clock,by rw[yO _ _ _ (by omega)];exact hm,id⟩) (fun u hu=>?_) (fun i hi=>if_neg hi),fun k hk=>by rw[yO _ _ _ (by omega)];exact HK.out k hk⟩;show tD _ _ u l.kind (tM s.en j (.tP z all (x4)) j);rw[show tM s.en j (.tP z all (x4)) j=.tP z all (x4)from if_pos rfl];rw[he]at hu;obtain⟨k1,gt',gp',ru,ht',hp',zz1,zz8⟩:=hu;have e1:=HT.out.symm.trans ht';cases e1;exact⟨k1,gt,gp,ru,yQ _ _ _ _,by rw[yO _ _ _ (by omega)];exact HP.out,z1,z8⟩
  have HF:=I hfin;clear hfin ho;go_wp2_with fail;refine bodyPost_ret (results_tmp3 rfl _ _ _) rfl ?_;exact HF.out
theorem Ti{s:LS}(h:qm w0 γ b gl s w)(h10:s.ls.length≤10)(d t k dm pk op b' v:Int){j:Nat}{l:wy}(hl:s.ls[j]? =some l){c:CS}(he:s.en j=.cell c)(hq:c.q<999)(hlo:27≤op)(hhi:op≤29)(hm0:rB s.ls d op j=0):Calls Tryz.prog 65 #[.p gl,.i d,.i t,.agg #[.i k,.i dm,.i pk,.i op,.i j,.i b',.i v]] w (ry w0 γ b gl (c.wE op t b') {s with en:=tM s.en j (.cell (c.wS op t b' v))}):=by
 have hj:j<s.ls.length:=(zk.1 hl).1;have h1:=h.box (wQ k dm pk op j b' v);have hk4:=yQ γ (b+4) w.heap.size (wQ k dm pk op j b' v);have hm:=j6 h1 h10 k dm pk op j b' v d;rw[hm0]at hm;have hrest:∀t,(t<b∨b+30≤t)→put γ (b+4) w.heap.size (wQ k dm pk op j b' v) t=γ t:=fun t ht=>yO _ _ _ (by omega);unfold wQ at hm hk4 hrest h1;generalize put γ (b+4) _ _=γ1 at*;have H1:=I h1;clear h h1 hm0;have HK:=I hrest;clear hrest;have b33:(op==33)=false:=by rw[beq_eq_false_iff_ne];omega
 have b34:(op==34)=false:=by rw[beq_eq_false_iff_ne];omega
 have b30:(op==30)=false:=by rw[beq_eq_false_iff_ne];omega
 have b31:(op==31)=false:=by rw[beq_eq_false_iff_ne];omega
 have b32:(op==32)=false:=by rw[beq_eq_false_iff_ne];omega
 go_in;go_wp2_with fail;refine hm.mono ?_;rintro e w1 ⟨rfl,hb⟩;have h2:=xW.xh H1.out hb;obtain⟨u,⟨g,cap,g2,cap2,c0,c1,q0,q1,q2,q3,cu⟩,hend⟩:=h2.at_ hl;rw[he]at hend;obtain⟨hk1,gc,rfl,ht,hok⟩:=hend;have hta:=PT (.p gc);have HT:=I ht;have HQ:=I hk1;clear ht hk1;have e0:=h2.own.cell hk4 (i:=0) (v:=.i k) rfl;have e1:=h2.own.cell hk4 (i:=1) (v:=.i dm) rfl;have e2:=h2.own.cell hk4 (i:=2) (v:=.i pk) rfl;have e3:=h2.own.cell hk4 (i:=3) (v:=.i op) rfl;have e4:=h2.own.cell hk4 (i:=4) (v:=.i j) rfl;have e5:=h2.own.cell hk4 (i:=5) (v:=.i b') rfl;have e6:=h2.own.cell hk4 (i:=6) (v:=.i v) rfl;have hjn:(j:Int)<s.ls.length:=by omega
 have H2:=I h2;clear hm hb h2 hk4 q0 q1 q2 q3 c0;go_wp2_with fail;go_still_tail 12,(by kernel_rfl);change wpList _ _ _ _ _ (World.drew _);go_wp2_with fail;have hwr:=Zb H2.out.own.drew HT.out hok (.p gl) t k dm pk op j b' v;refine hwr.mono ?_;rintro e w2 ⟨rfl,ho⟩;clear hwr;have hfin:ry w0 γ b gl (c.wE op t b') {s with en:=tM s.en j (.cell (c.wS op t b' v))} (.returned (.tuple #[.i (c.wE op t b'),.i 0,.i 0])) w2:=by refine⟨rfl,_,xW.tw H2.out ho hl (fun k hk=>yO _ _ _ (by omega)) (fun gm es clock hm=>⟨es,clock,by rw[yO _ _ _ (by omega)];exact hm,id⟩) (fun u hu=>?_) (fun i hi=>if_neg hi),fun k hk=>by rw[yO _ _ _ (by omega)];exact HK.out k hk⟩;show tD _ _ u l.kind (tM s.en j (.cell (c.wS op t b' v)) j);rw[show tM s.en j (.cell (c.wS op t b' v)) j=.cell (c.wS op t b' v)from if_pos rfl];rw[he]at hu;obtain⟨k1,gc',ru,ht',hok'⟩:=hu;have e1:=HT.out.symm.trans ht';cases e1;exact⟨k1,gc,ru,yQ _ _ _ _,hok.wS op t b' v hq⟩
 rw[ky];generalize c.wE op t b'=x1 at*;generalize c.wS op t b' v=x2 at*;have HF:=I hfin;clear hfin ho;go_wp2_with fail;refine bodyPost_ret (results_tmp3 rfl _ _ _) rfl ?_;exact HF.out
theorem Ri{s:LS}(h:qm w0 γ b gl s w)(h10:s.ls.length≤10)(d t k dm pk op b' v:Int){j:Nat}{l:wy}(hl:s.ls[j]? =some l){c:CS}(he:s.en j=.cell c)(hlo:30≤op)(hhi:op≤32)(hd:Fits d)(htt:Fits t){x1 x2:Int}{x3:Int→Int→Option (Int×Int)}(hR:aD c s.f d t op j b'=(x1,x2,x3))(hm0:rB s.ls d op j=0):Calls Tryz.prog 65 #[.p gl,.i d,.i t,.agg #[.i k,.i dm,.i pk,.i op,.i j,.i b',.i v]] w (jV w0 γ b gl (x1,x2,0,{s with f:=x3})):=by
 have hj:j<s.ls.length:=(zk.1 hl).1;have h1:=h.box (wQ k dm pk op j b' v);have hk4:=yQ γ (b+4) w.heap.size (wQ k dm pk op j b' v);have hm:=j6 h1 h10 k dm pk op j b' v d;rw[hm0]at hm;have hrest:∀t,(t<b∨b+30≤t)→put γ (b+4) w.heap.size (wQ k dm pk op j b' v) t=γ t:=fun t ht=>yO _ _ _ (by omega);unfold wQ at hm hk4 hrest h1;generalize put γ (b+4) _ _=γ1 at*;have H1:=I h1;clear h h1 hm0;have HK:=I hrest;clear hrest;have b33:(op==33)=false:=by rw[beq_eq_false_iff_ne];omega
 have b34:(op==34)=false:=by rw[beq_eq_false_iff_ne];omega
 have HR:=I hR;clear hR;have hsw:(op==30)=true∨(op==30)=false∧(op==31)=true∨(op==30)=false∧(op==31)=false∧(op==32)=true:=by
  by_cases h0:op=30
  ·exact .inl (by simpa using h0)
  ·by_cases h1:op=31
   ·exact .inr (.inl ⟨by simpa using h0,by simpa using h1⟩)
   ·exact .inr (.inr ⟨by simpa using h0,by simpa using h1,by rw[beq_iff_eq];omega⟩)
 rcases hsw with b30|⟨b30,b31⟩|⟨b30,b31,b32⟩;all_goals
  go_in;go_wp2_with fail;refine hm.mono ?_;rintro e w1 ⟨rfl,hb⟩;have h2:=xW.xh H1.out hb;obtain⟨u,⟨g,cap,g2,cap2,c0,c1,q0,q1,q2,q3,cu⟩,hend⟩:=h2.at_ hl;rw[he]at hend;obtain⟨hk1,gc,rfl,ht,hok⟩:=hend;have hta:=PT (.p gc);have HT:=I ht;have HQ:=I hk1;clear ht hk1;have e0:=h2.own.cell hk4 (i:=0) (v:=.i k) rfl;have e1:=h2.own.cell hk4 (i:=1) (v:=.i dm) rfl;have e2:=h2.own.cell hk4 (i:=2) (v:=.i pk) rfl;have e3:=h2.own.cell hk4 (i:=3) (v:=.i op) rfl;have e4:=h2.own.cell hk4 (i:=4) (v:=.i j) rfl;have e5:=h2.own.cell hk4 (i:=5) (v:=.i b') rfl;have e6:=h2.own.cell hk4 (i:=6) (v:=.i v) rfl;have hjn:(j:Int)<s.ls.length:=by omega
  have H2:=I h2;clear hm hb h2 hk4 q0 q1 q2 q3 c0;go_wp2_with fail;obtain⟨_,lv,ev,gm,es,clock,vs,r0,r1,r2,r3,r4,r5⟩:=H2.out;have hrd:=TQ ⟨H2.out.own.drew,r0,r1,r2,HT.out,hok,by omega⟩ hd htt k dm pk op j b' v ⟨hlo,hhi⟩;have HM:∀gm2 es2 clock2,γ1 (b+1)=some (gm2,.map es2 clock2)→gm=gm2:=fun gm2 es2 clock2 h=>by rw[r1]at h;cases h;rfl
  clear r0 r1 r2 r3 r4 r5;rw[HR.out]at hrd;dsimp only at hrd;refine yP.region [0,1,2,3,4,5,6,7,8,9,10,11,12,13] (.step 14 (.step 15 (.step 16 (.step 17 (.step 18 (.step 19 .done)))))) (fun w'=>w'.cell? (zc gl 1)=some (.slice (zb g2) s.ls.length cap2)∧w'.cell? (zc g2 j)=some (.iface 129 (.p gc))∧w'.cell? (zc w.heap.size 0)=some (.i k)∧w'.cell? (zc w.heap.size 1)=some (.i dm)∧w'.cell? (zc w.heap.size 2)=some (.i pk)∧w'.cell? (zc w.heap.size 3)=some (.i op)∧w'.cell? (zc w.heap.size 4)=some (.i j)∧w'.cell? (zc w.heap.size 5)=some (.i b')∧w'.cell? (zc w.heap.size 6)=some (.i v)) (by kernel_rfl) (by kernel_rfl) (fun _ _ _ _ _ h=>h) (by refine⟨?_,?_,?_,?_,?_,?_,?_,?_,?_⟩<;>simpa using by assumption) ?_;repeat
   refine Perm.xm rfl ?_ (fun w' hS=>?_) ?_;rotate_left
   ·((try dsimp only at hS);go_simp;try with_reducible rfl)
   simp only[pt]
  refine Perm.xt ?_;refine yP.yY rfl (by rfl) ?_;refine yP.xJ rfl 91 _ _ rfl (by kernel_rfl) #[.p gl,.agg #[.i d,.i t],.agg #[.i k,.i dm,.i pk,.i op,.i j,.i b',.i v],.p gc] (by rfl) (hrd.mono ?_);rintro e w2 ⟨rfl,es',clock',γ',ho,hm',hf',hkk⟩;refine⟨_,rfl,Perm.xx (by kernel_rfl),?_⟩;simp only[pt];repeat
   refine yP.xA rfl (by rfl) ?_ (fun w'=>?_) ?_;rotate_left
   ·(go_simp;try with_reducible rfl)
   simp only[pt]
  refine yP.xC ?_;all_goals
   have hfin:jV w0 γ b gl (x1,x2,0,{s with f:=x3}) (.returned (.tuple #[.i x1,.i x2,.i 0])) w2:=by refine⟨rfl,_,xW.tw H2.out ho hl (fun k hk=>hkk k (by omega) (by omega) (by omega) (by omega)) (fun gm2 es2 clock2 hm2=>?_) (fun u hu=>hu.keep (hkk _ (by omega) (by omega) (by omega) (by omega)) (hkk _ (by omega) (by omega) (by omega) (by omega))) (fun i hi=>rfl),fun k hk=>by rw[hkk k (by omega) (by omega) (by omega) (by omega)];exact HK.out k hk⟩;exact⟨es',clock',HM gm2 es2 clock2 hm2 ▸ hm',fun _=>hf'⟩
   have HF:=I hfin;clear hfin ho hm' hf' hkk;go_wp2_with fail;refine bodyPost_ret (results_tmp3 rfl _ _ _) rfl ?_;exact HF.out
end
end
section
open Go.RowKit Go.ChangeMaps
theorem gj{w0:World}{γ:U}{b gl:Nat}{x:Int}{s:LS}{e:Ending}{w':World}(h:ry w0 γ b gl x s e w'):jV w0 γ b gl (x,0,0,s) e w':=h
theorem Wn{w0 w:World}{γ:U}{b gl:Nat}{s:LS}(h:qm w0 γ b gl s w)(h10:s.ls.length≤10)(hage:∀i,i<s.ls.length→(s.en i).sX<999){d t:Int}(hd:Fits d)(ht:Fits t)(k dm pk op a b' v:Int):Calls Tryz.prog 65 #[.p gl,.i d,.i t,.agg #[.i k,.i dm,.i pk,.i op,.i a,.i b',.i v]] w (jV w0 γ b gl (qE s d t op a b' v)):=by
 unfold qE;by_cases h1:op<27
 ·rw[if_pos (.inl h1)];exact(Pf h d t k dm pk op a b' v h1).mono fun _ _=>gj
 by_cases h2:34<op
 ·rw[if_pos (.inr h2)];exact(Rh h d t k dm pk op a b' v h2).mono fun _ _=>gj
 rw[if_neg (by omega)];by_cases hm:rB s.ls d op a=0
 ·rw[if_neg (by simpa using hm)];have hr:¬(a<0∨(s.ls.length:Int)≤a):=by intro hr;rw[rB,if_pos hr]at hm;cases hm
  obtain⟨j,rfl⟩:∃j:Nat,a=j:=⟨a.toNat,by omega⟩;have hj:j<s.ls.length:=by omega
  have hl:s.ls[j]? =some s.ls[j]:=zl hj;have hm':=hm;unfold rB at hm';rw[if_neg hr,zu,hl]at hm';dsimp only at hm';have hkind:(s.ls[j].kind=1)=(op≤32):=by
   by_cases e:(s.ls[j].kind=1)=(op≤32)
   ·exact e
   ·rw[if_pos e]at hm';cases hm'
  obtain⟨u,_,hend⟩:=xW.at_ h hl;have ha:=hage j hj;rw[zu];generalize s.ls[j]=l at*;cases he:s.en j with
  |cell c=>
   rw[he]at hend ha;have h32:op≤32:=by rw[←hkind];exact hend.1
   dsimp only;by_cases h30:30≤op
   ·rw[if_pos h30];exact Ri h h10 d t k dm pk op b' v hl he h30 h32 hd ht rfl hm
   ·rw[if_neg h30];exact(Ti h h10 d t k dm pk op b' v hl he ha (by omega) (by omega) hm).mono fun _ _=>gj
  |tP z all next=>
   rw[he]at hend ha;have h32:¬op≤32:=by rw[←hkind];exact hend.1
   dsimp only;have ha':all.length<1000:=by have:all.length<999:=ha;omega
   by_cases h33:op=33
   ·subst h33;rw[if_pos rfl];exact(Rl h h10 d t k dm pk b' v hl he ha' hm).mono fun _ _=>gj
   ·have h34:op=34:=by omega
    subst h34;rw[if_neg h33];exact Rj h h10 d t k dm pk b' v hl he ha' hm
 ·rw[if_pos hm];exact(Of h h10 d t k dm pk op a b' v (by omega) (by omega) _ rfl hm).mono fun _ _=>gj
end
section
open Go.RowKit Go.ChangeMaps
theorem XU{w0 w:World}{γ:U}(hs:Own w0 w γ)(t:Nat)(ad:Addr)(cap:Nat):Calls Tryz.prog 54 #[.slice (some ad) 0 cap] w (jU w0 γ t 0 []):=by
 obtain⟨i0,hi,hz0,hz1,hz2⟩:=info_parts Tryz.V3;have ho1:=hs.new t (.cells #[] 60);have hbase:=hs.below.size;have hs1:yR (put γ t w.heap.size (.cells #[] 60)) t 60 4 (.slice (zb w.heap.size) 0 0) 0 []:=⟨rfl,.inr ⟨_,0,_,rfl,yQ _ _ _ _,zm _,by omega,rfl,rfl⟩⟩;have hown:=hs1.owns ho1;have hbin:=ak ad 0 cap w;go_in;go_wp2_with (at_builtin;refine wpList_append_own_at _ rfl (.tmp 5) (.tmp 6) 24 rfl w0.heap.size 60 i0 (.agg #[.i 0,.i 0,.i 0,.i 0]) 4 32 Tryz.underlying24 hi hz0 hz1 hz2 rfl (by decide) _ _ _ rfl hown ad 0 cap [] rfl rfl (fun j u h=>by simp at h) (fun u h=>by simp at h) ?k4 ?k5 ?k6 ?_);case k4=>unfold maxLen;omega
 case k5=>omega
 case k6=>simp;omega
 intro v' w2 hown1 hgrow hnn hat;have hown2:w2.ownsRow w0.heap.size 60 4 v' (0+0) ([]++[]):=hown1;obtain⟨γ1,ho2,hs2,hk2⟩:=qJ ho1 hs1 rfl hown2 hgrow (by simpa using hat);have hfin:jU w0 γ t 0 [] (.returned v') w2:=⟨v',γ1,rfl,ho2,hs2,fun k hk=>by rw[hk2 k hk,yO _ _ _ hk]⟩;clear hown1 hown2 hgrow hnn hat hown hs1 ho1 hk2 hs2 ho2;go_wp2_with fail;go_ret;exact hfin
theorem ZY(b:Nat)(ad:Addr)(cap:Nat)(dv sv:Value)(w:World):Calls Tryz.prog 42 #[.agg #[dv,sv,.slice (some ad) 0 cap]] w (Uj w b):=by
 go_in;go_wp2_with fail;have hs:=(Own.start w).new (b+4) (.cells #[dv,sv,.slice (some ad) 0 cap] 26);refine(XU hs (b+2) ad cap).mono ?_;rintro e w1 ⟨v,γ1,rfl,ho,hsl,hk⟩;obtain⟨A1,cap1,rfl,hcap1⟩:=hsl.form;have ho2:=(ho.new (b+1) (.map #[] 0)).new b (.cells #[.slice A1 0 cap1,.slice none 0 0,.map (some w1.heap.size)] 128);have e2:(w1.alloc (.map #[] 0)).heap.size=w1.heap.size+1:=by simp
 rw[e2]at ho2;have hL:xW w (put (put γ1 (b+1) w1.heap.size (.map #[] 0)) b (w1.heap.size+1) (.cells #[.slice A1 0 cap1,.slice none 0 0,.map (some w1.heap.size)] 128)) b (w1.heap.size+1) [] (fun _=>.tP 1 [] 0) (fun _ _=>none) ((w1.alloc (.map #[] 0)).alloc (.cells #[.slice A1 0 cap1,.slice none 0 0,.map (some w1.heap.size)] 128)):=by
  refine⟨ho2,.slice A1 0 cap1,.slice none 0 0,w1.heap.size,#[],0,[],yQ _ _ _ _,?_,vi.nil,?_,yR.nil _ _ _ _,fun i l h=>by simp at h⟩
  ·rw[yO _ _ _ (by omega),yQ]
  ·exact hsl.keep (by rw[yO _ _ _ (by omega),yO _ _ _ (by omega)])
 have hbx:(put γ1 (b+1) w1.heap.size (.map #[] 0)) (b+4)=some (w.heap.size,.cells #[dv,sv,.slice (some ad) 0 cap] 26 (0,0)):=by rw[yO _ _ _ (by omega),hk _ (by omega),yQ]
 have hc2:=(ho.new (b+1) (.map #[] 0)).cell hbx (i:=2) (v:=.slice (some ad) 0 cap) rfl;have hc3:=ho2.cell ((yO _ _ _ (by omega)).trans hbx) (i:=2) (v:=.slice (some ad) 0 cap) rfl;generalize put (put γ1 (b+1) w1.heap.size (.map #[] 0)) b (w1.heap.size+1) (.cells #[.slice A1 0 cap1,.slice none 0 0,.map (some w1.heap.size)] 128)=γ2 at*;have hmk:=pd w1;clear hs ho hsl hk ho2 hbx;go_wp2_with fail;go_loopw [15] (fun i wr=>Sp w b (w1.heap.size+1) i wr) (fun i _=>0);case atStart=>exact⟨rfl,_,hL⟩
 case round=> obtain⟨rfl,γ3,hL3⟩:=hrel;go_wp2_with fail;go_ret;exact⟨_,γ3,rfl,hL3⟩
theorem V8(ls:List wy):∀u∈vB ls,u.oneCell'=true:=by intro u hu;unfold vB at hu;rw[List.mem_flatten]at hu;obtain⟨l,hl,hu⟩:=hu;rw[yc]at hl;obtain⟨x,_,rfl⟩:=hl;simp[wy.yV]at hu;rcases hu with rfl|rfl|rfl|rfl<;>rfl
def jZ(ls:List wy):Nat→so:=fun j=>match ls[j]? with
 |some l=>sR l
 |none=>.tP 1 [] 0
def Zk(ls:List wy):LS:=⟨ls,jZ ls,fun _ _=>none⟩
def newAt(w:World)(b:Nat)(ls:List wy)(e:Ending)(w':World):Prop:=
 ∃gl γ,e=.returned (.p gl)∧qm w γ b gl (Zk ls) w'∧∀k,(k<b∨b+30≤k)→γ k=none
def only(γ:U)(b:Nat):U:=fun k=>if b≤k∧k<b+30 then γ k else none
theorem R0(γ:U){b k:Nat}(h1:b≤k)(h2:k<b+30):only γ b k=γ k:=if_pos ⟨h1,h2⟩
theorem TI(γ:U){b k:Nat}(h:k<b∨b+30≤k):only γ b k=none:=if_neg (by omega)
theorem dL{w w':World}{γ:U}{b gl:Nat}{ls:List wy}{en:Nat→so}(h10:ls.length≤10)(h:xW w γ b gl ls en (fun _ _=>none) w')(hen:∀(j:Nat) l,ls[j]? =some l→en j=sR l):newAt w b ls (.returned (.p gl)) w':=by
 have ho:Own w w' (only γ b):=h.own.less fun k x hk=>by
  unfold only at hk;split at hk
  ·exact hk
  ·cases hk
 refine⟨gl,only γ b,rfl,?_,fun k hk=>TI γ hk⟩;have h2:=h.keep ho (fun k hk=>R0 γ (by omega) (by omega));obtain⟨_,lv,ev,gm,es,clock,vs,a0,a1,a2,a3,a4,a5⟩:=h2;refine⟨ho,lv,ev,gm,es,clock,vs,a0,a1,a2,a3,a4,fun i l hi=>?_⟩;have:=a5 i l hi;rw[hen i l hi]at this;show tD _ _ _ _ (jZ ls i);unfold jZ;have hi':ls[i]? =some l:=hi;simp only[hi'];exact this
def jS(w:World)(A:Option Addr)(cap:Nat)(ls:List wy):Prop:=
 ls.length≤10∧(ls=[]∧(A=none→cap=0)∨∃pb off,A=some (zc pb off)∧ls.length≤cap∧∀(j:Nat) (u:Value),(vB ls)[j]? =some u→w.cell? (((zc pb off):Addr).add j)=some u)
theorem jS.below{w w':World}{A:Option Addr}{cap:Nat}{ls:List wy}(h:jS w A cap ls){n:Nat}(hn:w.heap.size≤n)(hb:Below n w w'):jS w' A cap ls:=by
 refine⟨h.1,?_⟩;rcases h.2 with h|⟨pb,off,h1,h2,h3⟩
 ·exact .inl h
 ·exact .inr ⟨pb,off,h1,h2,fun j u hj=>(hb.cell (Nat.lt_of_lt_of_le (World.block_lt_of_cell? w _ (h3 j u hj)) hn)).trans (h3 j u hj)⟩
theorem YU(b:Nat)(dv sv:Value){w:World}{A:Option Addr}{cap:Nat}{ls:List wy}(h:jS w A cap ls):Calls Tryz.prog 42 #[.agg #[dv,sv,.slice A ls.length cap]] w (newAt w b ls):=by
 rcases h.2 with⟨rfl,hA⟩|⟨pb,off,rfl,h2,h3⟩
 ·cases A with
  |none=> rw[hA rfl];refine(YW b dv sv w).mono ?_;rintro e w' ⟨gl,γ,rfl,hL⟩;exact dL h.1 hL (fun j l hj=>by simp at hj)
  |some ad=> refine(ZY b ad cap dv sv w).mono ?_;rintro e w' ⟨gl,γ,rfl,hL⟩;exact dL h.1 hL (fun j l hj=>by simp at hj)
 ·refine(YV b pb off cap dv sv ls h.1 w h2 h3 (V8 ls)).mono ?_;rintro e w' ⟨gl,γ,en,rfl,hL,hen⟩;exact dL h.1 hL hen
theorem O0{ls:List wy}{d op a:Int}(h:rB ls d op a=0):0≤a∧a<ls.length:=by
 unfold rB at h;by_cases hr:a<0∨(ls.length:Int)≤a
 ·rw[if_pos hr]at h;cases h
 ·omega
theorem VG(s:LS)(d t op a b v:Int):(qE s d t op a b v).2.2.2.ls=s.ls:=by
 unfold qE;split
 ·rfl
 ·split
  ·rfl
  ·split
   ·split<;>rfl
   ·split<;>rfl
theorem Rg(s:LS)(d t op a b v:Int)(i:Nat):((qE s d t op a b v).2.2.2.en i).sX≤(s.en i).sX+1:=by
 unfold qE;split
 ·exact Nat.le_succ _
 ·split
  ·exact Nat.le_succ _
  ·split
   ·rename_i z all next he
    split
    ·show(tM s.en a.toNat _ i).sX≤_;unfold tM;split
     ·rename_i hi;rw[hi,he];simp[so.sX]
     ·exact Nat.le_succ _
    ·show(tM s.en a.toNat _ i).sX≤_;unfold tM;split
     ·rename_i hi;rw[hi,he];simp[so.sX]
     ·exact Nat.le_succ _
   ·rename_i c he;split
    ·exact Nat.le_succ _
    ·show(tM s.en a.toNat _ i).sX≤_;unfold tM;split
     ·rename_i hi;rw[hi,he];exact c.NC op t b v
     ·exact Nat.le_succ _
theorem V4(ls:List wy)(i:Nat):((Zk ls).en i).sX=0:=by
 show(jZ ls i).sX=0;unfold jZ;split
 ·unfold sR;split<;>rfl
 ·rfl
end
section
open Go.RowKit Go.ChangeMaps
def tO(s:LS)(d t:Int)(n:Nat):Bool:=match s.ls[n]?,s.en n with
 |some l,.cell c=>(l.from_==d)&&(c.t==t)
 |_,_=>false
def tC(s:LS)(d t:Int):Bool:=decide (1≤t)&&(List.range s.ls.length).any (tO s d t)
def bf(w:World)(x:Bool)(e:Ending)(w':World):Prop:=e=.returned (.bool x)∧Below w.heap.size w w'
def Nj(w:World)(s:LS)(d t:Int)(i:Value)(wr:World):Prop:=∃k:Nat,i=.i k∧k≤s.ls.length∧(∀j,j<k→tO s d t j=false)∧Below w.heap.size w wr
theorem OS(d t:Int)(w:World):Calls Tryz.prog 68 #[.pointer none,.i d,.i t] w fun e w'=>e=.returned (.bool false)∧w=w':=by go_in;go_wp2_with fail;go_ret;exact⟨rfl,rfl⟩
theorem WV(gl:Nat)(d t:Int)(ht:t<1)(w:World):Calls Tryz.prog 68 #[.p gl,.i d,.i t] w fun e w'=>e=.returned (.bool false)∧w=w':=by go_in;go_wp2_with fail;go_ret;exact⟨rfl,rfl⟩
section
variable {w0 w:World} {γ:U} {b gl:Nat} {s:LS}
theorem WU(h:qm w0 γ b gl s w)(h10:s.ls.length≤10)(d t:Int)(ht:1≤t):Calls Tryz.prog 68 #[.p gl,.i d,.i t] w (bf w (tC s d t)):=by
 obtain⟨A,cap,c0⟩:=xW.len h;have H:=I h;have HT:∀n,(∀j,j<n→tO s d t j=false)→n=s.ls.length→tC s d t=false:=by intro n hn e;subst e;unfold tC;rw[Bool.and_eq_false_iff];right;rw[List.any_eq_false];intro x hx;simp[hn x (List.mem_range.1 hx)]
 have HY:∀n,n<s.ls.length→tO s d t n=true→tC s d t=true:=by intro n hn hw;unfold tC;rw[zL];exact⟨by simpa using ht,z7.2 ⟨n,List.mem_range.2 hn,hw⟩⟩
 have HT':=I HT;have HY':=I HY;clear h HT HY;go_in;go_wp2_with fail;go_loopw [22] (fun i wr=>Nj w s d t i wr) (fun i _=>s.ls.length-(intOf i).toNat);case atStart=>exact⟨0,rfl,by omega,fun j hj=>by omega,Below.refl _ _⟩
 case round=>
  obtain⟨k,rfl,hk,hno,hb⟩:=hrel;have HN:=I hno;clear hno;have h1:=xW.xh H.out hb;by_cases hlt:k<s.ls.length
  ·have hl:s.ls[k]? =some s.ls[k]:=zl hlt;obtain⟨u,⟨g,cap,g2,cap2,c0',c1,q0,q1,q2,q3,cu⟩,hend⟩:=h1.at_ hl;rw[(hb.cell (World.block_lt_of_cell? w _ c0)).trans c0]at c0';cases c0';have l1:=World.block_lt_of_cell? wr _ c1;have l2:=World.block_lt_of_cell? wr _ q0;have l3:=World.block_lt_of_cell? wr _ cu;dsimp only at l1 l2 l3;generalize hll:s.ls[k]=l at*;have HL:=I hl;obtain⟨kind,fr,tow,size⟩:=l;dsimp only at q0 q1 q2 q3;have hb2:=hb.trans (((Below.refl wr.heap.size wr).alloc (zm _) (.cells #[.i kind,.i fr,.i tow,.i size] 60)).mono hb.size);have HB:=I hb2;have hkn:(k:Int)<s.ls.length:=by omega
   cases he:s.en k with
   |tP z all next=>
    rw[he]at hend;obtain⟨_,gt,gp,rfl,_⟩:=hend;have hw:tO s d t k=false:=by unfold tO;rw[hl,he]
    have HW:=I hw;have hta:=SK (.p gt);clear hl hll hb2 he hw h1;go_wp2_with fail;go_roundw;case rel=>exact⟨k+1,by go_num,by omega,fun j hj=>by by_cases e:j=k;(subst e;exact HW.out);exact HN.out j (by omega),HB.out⟩
    case measure=>simp[intOf];omega
   |cell c=>
    rw[he]at hend;obtain⟨hk1,gc,rfl,hg,hok⟩:=hend;dsimp only at hk1;subst hk1;have hwr:=bE (h1.own.xh ((Below.refl wr.heap.size wr).alloc (zm _) (.cells #[.i 1,.i fr,.i tow,.i size] 60))) hg hok;have hta:=SJ (.p gc);have hw:tO s d t k=((fr==d)&&(c.t==t)):=by unfold tO;rw[hl,he]
    have HW:=I hw;clear hl hll hb2 he hw h1 hg;by_cases hf:fr=d
    ·have hfb:(fr==d)=true:=by simpa using hf
     by_cases ht2:c.t=t
     ·have htb:(c.t==t)=true:=by simpa using ht2
      have HY2:=I (HY'.out k hlt (by rw[HW.out,hfb,htb];rfl));clear hf ht2;rw[HY2.out];go_wp2_with fail;refine hwr.mono ?_;rintro e w3 ⟨rfl,rfl⟩;rw[ky];go_wp2_with fail;go_ret;exact⟨rfl,HB.out⟩
     ·have htb:(c.t==t)=false:=by simpa using ht2
      have HW2:=I (show tO s d t k=false by rw[HW.out,htb,Bool.and_false]);clear hf ht2;go_wp2_with fail;refine hwr.mono ?_;rintro e w3 ⟨rfl,rfl⟩;rw[ky];go_wp2_with fail;go_roundw;case rel=>exact⟨k+1,by go_num,by omega,fun j hj=>by by_cases e:j=k;(subst e;exact HW2.out);exact HN.out j (by omega),HB.out⟩
      case measure=>simp[intOf];omega
    ·have hfb:(fr==d)=false:=by simpa using hf
     have HW2:=I (show tO s d t k=false by rw[HW.out,hfb,Bool.false_and]);clear hf;go_wp2_with fail;go_roundw;case rel=>exact⟨k+1,by go_num,by omega,fun j hj=>by by_cases e:j=k;(subst e;exact HW2.out);exact HN.out j (by omega),HB.out⟩
     case measure=>simp[intOf];omega
  ·obtain rfl:k=s.ls.length:=by omega
   have HF:=I (HT'.out _ HN.out rfl);clear h1;go_wp2_with fail;go_ret;exact⟨by rw[HF.out];rfl,hb⟩
theorem bg(h:qm w0 γ b gl s w)(h10:s.ls.length≤10)(d t:Int):Calls Tryz.prog 68 #[.p gl,.i d,.i t] w (bf w (tC s d t)):=by
 by_cases ht:1≤t
 ·exact WU h h10 d t ht
 ·refine(WV gl d t (by omega) w).mono ?_;rintro e w' ⟨rfl,rfl⟩;have:tC s d t=false:=by unfold tC;rw[Bool.and_eq_false_iff];left;simpa using ht
  exact⟨by rw[this],Below.refl _ _⟩
end
end
end Go.Proofs.YtkmamlifgbocgaaGreat
