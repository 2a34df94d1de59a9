/- What the program's code does, as contracts, and what follows of it, part 9: for the law's proof. -/
import Derived.Test.YtkmamlifgbocgaaGreatP00
import Derived.Test.YtkmamlifgbocgaaGreatP08
import Derived.Lib.Mul64
import Derived.Laws.Bits64b
import Derived.Shelf.Bits.Mul64
set_option linter.unusedVariables false
set_option linter.unusedSimpArgs false
set_option maxRecDepth 100000
set_option maxHeartbeats 16000000
namespace Go.Proofs.YtkmamlifgbocgaaGreat
section
open Go.RowKit Go.WideShapes
def Wh.stop(v:Wh)(i:Nat):Wh:={v with L:=uh v.L i}
def Wh.set(v:Wh)(i:Nat)(t:Int):Wh:=⟨pz (uh v.L i) (t%16).toNat i,v.at_.set i t,v.tw.set i (wrap64 (v.now+1)),wrap64 (v.now+1)⟩
theorem Wh.Ok.stop{v:Wh}(h:v.Ok)(i:Nat):(v.stop i).Ok:=⟨h.len,h.tl,by show(uh v.L i).length=16;simp[uh,h.Sn],h.at0⟩
section
variable {w0 w:World} {γ:U} {b g:Nat} {v:Wh}
theorem U3(h:uS γ b g v)(ho:Own w0 w γ)(i:Nat)(hi:i<v.at_.length):Calls Tryz.prog 161 #[.p g,.i i] w (wg (fun γ'=>uS γ' b g (v.stop i)) w0 γ b (.bool (rE v.L i))):=by obtain⟨gf,va,vt,h1,h2,h3,h4,h5⟩:=h;have c0:=ho.cell h1 (i:=0) (v:=.p gf) rfl;have hr:=jh h4 ho hi;have HF:Hid (∀e w',qT w0 γ (b+3) gf (uh v.L i) v.at_.length (.bool (rE v.L i)) e w'→wg (fun γ'=>uS γ' b g (v.stop i)) w0 γ b (.bool (rE v.L i)) e w'):=I fun e w' ⟨q1,γ',q2,q3,q4⟩=>⟨q1,γ',q2,⟨gf,va,vt,by rw[q4 _ (by omega)];exact h1,h2.keep (q4 _ (by omega)),h3.keep (q4 _ (by omega)),q3,h5.stop i⟩,fun k hk=>q4 k (by omega)⟩;generalize rE v.L i=bb at*;clear h1 h2 h3 h4 h5 ho;go_in;go_wp2_with fail;refine hr.mono ?_;rintro e w' he;have HZ:=I (HF.out _ _ he);obtain⟨rfl,-⟩:=he;go_wp2_with fail;go_ret;exact HZ.out
theorem OQ(h:uS γ b g v)(ho:Own w0 w γ)(i:Nat)(hi:i<v.at_.length)(t:Int)(t0:0≤t)(t1:t≤4611686018427387904):Calls Tryz.prog 285 #[.p g,.i i,.i t] w fun e w'=>∃bb,wg (fun γ'=>uS γ' b g (v.set i t)) w0 γ b (.bool bb) e w':=by
 obtain⟨gf,va,vt,h1,h2,h3,h4,h5⟩:=h;have c0:=ho.cell h1 (i:=0) (v:=.p gf) rfl;have c1:=ho.cell h1 (i:=1) (v:=va) rfl;have hr:=jh h4 ho hi;have htl:=h5.tl;obtain⟨ga,ca,rfl,-⟩:=uf h2 ho hi;obtain⟨gt,ct,rfl,-⟩:=uf h3 ho (show i<v.tw.length by omega);have hi':(i:Int)<v.at_.length:=by omega
 have di:decide ((v.at_.length:Int)≤i)=false:=by simp;omega
 obtain⟨n0,hn0⟩:∃n0:Nat,t%16=n0:=⟨(t%16).toNat,by omega⟩;have htm:Int.tmod t 16=(n0:Int):=by rw[Int.tmod_eq_emod_of_nonneg t0];exact hn0
 have HN0:Hid ((t%16).toNat=n0):=I (by omega);have hn16:n0<(uh v.L i).length:=by simp[uh,h5.Sn];omega
 clear hn0;have H1:=I h1;have H2:=I h2;have H3:=I h3;have H5:=I h5;rw[htl]at*;clear h1 h2 h3 h4 ho;go_in;go_wp2_with fail;refine hr.mono ?_;rintro e w1 ⟨rfl,γ1,o1,r1,k1⟩;have g1:γ1 b=some (g,.cells #[.p gf,.slice (zb ga) v.at_.length ca,.slice (zb gt) v.at_.length ct,.i v.now] 167 (0,0)):=(k1 b (by omega)).trans H1.out;have d3:=o1.cell g1 (i:=3) (v:=.i v.now) rfl;have f3:=o1.free g1 3;clear hr c0 c1;have o2:=o1.set g1 3 (.i (wrap64 (v.now+1)));have g2:put γ1 b g (.cells (#[Value.pointer (zb gf),.slice (zb ga) v.at_.length ca,.slice (zb gt) v.at_.length ct,.i v.now].setIfInBounds 3 (.i (wrap64 (v.now+1)))) 167 (0,0)) b=some (g,.cells #[.p gf,.slice (zb ga) v.at_.length ca,.slice (zb gt) v.at_.length ct,.i (wrap64 (v.now+1))] 167 (0,0)):=yQ _ _ _ _;have k2:∀k,k≠b→put γ1 b g (.cells (#[Value.pointer (zb gf),.slice (zb ga) v.at_.length ca,.slice (zb gt) v.at_.length ct,.i v.now].setIfInBounds 3 (.i (wrap64 (v.now+1)))) 167 (0,0)) k=γ1 k:=fun k hk=>yO _ _ _ hk;generalize put γ1 b g (.cells (#[Value.pointer (zb gf),.slice (zb ga) v.at_.length ca,.slice (zb gt) v.at_.length ct,.i v.now].setIfInBounds 3 (.i (wrap64 (v.now+1)))) 167 (0,0))=γ2 at*;have kk:∀k,(k<b∨b+7≤k)→γ2 k=γ k:=fun k hk=>(k2 k (by omega)).trans (k1 k (by omega));have s1:=H2.out.keep ((k2 (b+1) (by omega)).trans (k1 _ (by omega)));have s2:=H3.out.keep ((k2 (b+2) (by omega)).trans (k1 _ (by omega)));have r2:=r1.keep (γ':=γ2) fun k q1 q2=>k2 k (by omega);generalize hnw:wrap64 (v.now+1)=nw at*;have HNW:=I hnw;clear o1 g1 k1 k2 r1;go_wp2_with fail;rw[hnw];clear d3 f3 hnw;generalize w1.setCell (zc g 3) (.i nw)=W2 at*;have HC:Hid (∀w',Own w0 w' γ2→w'.cell? (zc g 1)=some (.slice (zb ga) v.at_.length ca)∧w'.cell? (zc g 2)=some (.slice (zb gt) v.at_.length ct)∧w'.cell? (zc g 3)=some (.i nw)):=I fun w' hw'=>⟨hw'.cell g2 rfl,hw'.cell g2 rfl,hw'.cell g2 rfl⟩;have hO:=I o2.drew;obtain⟨ga',ca',q,u1,f1,HS1⟩:=yR.jP s1 o2.drew hi;cases q;rw[gU _ _ hi]at u1;obtain⟨γ3,o3,s3,k3⟩:=HS1 (.i t);clear HS1;obtain⟨gt',ct',q,u2,f2,HS2⟩:=yR.jP (s2.keep (k3 (b+2) (by omega))) o3 hi;cases q;rw[gU _ _ (by have:=H5.out.tl;omega)]at u2;obtain⟨γ4,o4,s4,k4⟩:=HS2 (.i nw);clear HS2;have s3':=s3.keep (k4 (b+1) (by omega));rw[ints_set]at s4 s3';have g4:=(k4 b (by omega)).trans ((k3 b (by omega)).trans g2);have r4:=r2.keep (γ':=γ4) fun k q1 q2=>(k4 k (by omega)).trans (k3 k (by omega));have kk4:∀k,(k<b∨b+7≤k)→γ4 k=γ k:=fun k hk=>(k4 k (by omega)).trans ((k3 k (by omega)).trans (kk k hk));have hp:=fun(w':World) (hw':Own w0 w' γ4)=>Xl (w:=w') r4 hw' hn16 hi;have HP:=I hp;have HEND:Hid (∀e w',qT w0 γ4 (b+3) gf (pz (uh v.L i) n0 i) v.at_.length (.bool (!rE (uh v.L i) i)) e w'→wg (fun γ'=>uS γ' b g (v.set i t)) w0 γ b (.bool (!rE (uh v.L i) i)) e w'):=I fun e w' ⟨q1,γ',q2,q3,q4⟩=>by
  refine⟨q1,γ',q2,⟨gf,.slice (zb ga) v.at_.length ca,.slice (zb gt) v.at_.length ct,?_,?_,?_,?_,?_⟩,fun k hk=>(q4 k (by omega)).trans (kk4 k hk)⟩
  ·rw[q4 _ (by omega),g4,←HNW.out];rfl
  ·show yR _ (b+1) 3 1 _ (v.at_.set i t).length (ints (v.at_.set i t));rw[zq];exact s3'.keep (q4 _ (by omega))
  ·show yR _ (b+2) 3 1 _ (v.tw.set i (wrap64 (v.now+1))).length (ints (v.tw.set i (wrap64 (v.now+1))));rw[zq,HNW.out,H5.out.tl];exact s4.keep (q4 _ (by omega))
  ·show rM _ (b+3) gf _ (v.at_.set i t).length;rw[zq];unfold Wh.set;rw[HN0.out];exact q3
  ·refine⟨by simpa[Wh.set]using H5.out.len,by simpa[Wh.set]using H5.out.tl,?_,?_⟩
   ·show(pz (uh v.L i) (t%16).toNat i).length=16;unfold pz;split<;>simp[uh,H5.out.Sn]
   ·intro x hx;rcases yx (show x∈v.at_.set i t from hx)with hx|hx
    ·exact H5.out.at0 x hx
    ·rw[hx];exact⟨t0,t1⟩
 have HO4:=I o4;have HC4:Hid (∀w',Own w0 w' γ4→w'.cell? (zc g 0)=some (.p gf)∧w'.cell? (zc g 1)=some (.slice (zb ga) v.at_.length ca)∧w'.cell? (zc ga i)=some (.i t)):=I fun w' hw'=>⟨hw'.cell g4 rfl,hw'.cell g4 rfl,by obtain⟨_,_,e,q⟩:=uf s3' hw' hi;cases e;rw[zn,zp hi]at q;exact q⟩;clear o2 s1 s2 s3 s3' s4 g2 g4 r2 r4 k3 k4 kk4 hp kk o3 o4 h5;refine yP.region [0,1,2,3,4,5,6,7,8,10,12,13,14,15] (.step 9 (.step 11 (.step 16 (.step 17 (.step 18 (.step 19 .done)))))) (fun w'=>Own w0 w' γ2) (by kernel_rfl) (by kernel_rfl) (fun _ _ _ _ _ h=>h) hO.out ?_;repeat
  refine Perm.xm rfl ?_ (fun w' hS=>?_) ?_;rotate_left
  ·(obtain⟨q1,q2,q3⟩:=HC.out _ hS;clear hS;go_simp;try with_reducible rfl)
  simp only[pt]
 refine Perm.xt ?_;generalize W2.drew=wd at*;repeat
  refine yP.xA rfl (by rfl) ?_ (fun w'=>?_) ?_;rotate_left
  ·(go_simp;try with_reducible rfl)
  simp only[pt]
 refine yP.yY rfl (by rfl) ?_;refine yP.xJ rfl 106 _ _ rfl (by kernel_rfl) _ rfl ((SL _ t t0 t1).mono ?_);rintro e w5 ⟨rfl,rfl⟩;refine⟨_,rfl,fun _ h=>h,?_⟩;simp only[pt];refine yP.yY rfl (by rfl) ?_;refine yP.rP rfl (.pointer (some (zc ga i))) (by go_simp;try with_reducible rfl) ?_;simp only[pt];refine yP.yY rfl (by rfl) ?_;refine yP.xy rfl .skip undef (.inr ⟨rfl,rfl⟩) (w':=wd.setCell (zc ga i) (.i t)) (by go_simp;try with_reducible rfl) (Perm.xx (by kernel_rfl)) ?_;simp only[pt];refine yP.yY rfl (by rfl) ?_;refine yP.rP rfl (.pointer (some (zc gt i))) (by go_simp;try with_reducible rfl) ?_;simp only[pt];generalize wd.setCell (zc ga i) (.i t)=W3 at*;refine yP.yY rfl (by rfl) ?_;refine yP.xy rfl .skip undef (.inr ⟨rfl,rfl⟩) (w':=W3.setCell (zc gt i) (.i nw)) (by go_simp;try with_reducible rfl) (Perm.xx (by kernel_rfl)) ?_;simp only[pt];refine yP.xC ?_;generalize W3.setCell (zc gt i) (.i nw)=W4 at*;clear u1 u2 f1 f2 HC;go_wp2_with fail;refine yP.region [0,1,2,3,4,5,6,7,8,9,10,11,12] (.step 13 (.step 14 .done)) (fun w'=>Own w0 w' γ4) (by kernel_rfl) (by kernel_rfl) (fun _ _ _ _ _ h=>h) HO4.out.drew ?_;repeat
  refine Perm.xm rfl ?_ (fun w' hS=>?_) ?_;rotate_left
  ·(obtain⟨q1,q2,q3⟩:=HC4.out _ hS;clear hS;go_simp;try with_reducible rfl)
  simp only[pt]
 refine Perm.xt ?_;have hpp:=HP.out _ HO4.out.drew;generalize W4.drew=wd4 at*;refine yP.yY rfl (by rfl) ?_;refine yP.xJ rfl 122 _ _ rfl (by kernel_rfl) _ rfl (hpp.mono ?_);rintro e w5 he;have HZ:=I (HEND.out _ _ he);obtain⟨rfl,-⟩:=he;refine⟨_,rfl,Perm.xx (by kernel_rfl),?_⟩;simp only[pt];repeat
  refine yP.xA rfl (by rfl) ?_ (fun w'=>?_) ?_;rotate_left
  ·(go_simp;try with_reducible rfl)
  simp only[pt]
 refine yP.xC ?_;go_wp2_with fail;go_ret;exact⟨_,HZ.out⟩
end
end
section
open Go.RowKit Go.WideShapes
def swp(l:List Nat)(j:Nat):List Nat:=(l.set (j+1) (l.getD j 0)).set j (l.getD (j+1) 0)
def sink(lt:Nat→Nat→Bool):List Nat→Nat→List Nat
 |l,0=>l
 |l,j+1=>if lt (l.getD (j+1) 0) (l.getD j 0)=true then sink lt (swp l j) j else l
def uq(lt:Nat→Nat→Bool)(l:List Nat)(k:Nat):List Nat:=(List.range k).foldl (fun l i=>sink lt l (i+1)) l
def jn(lt:Nat→Nat→Bool)(l:List Nat):List Nat:=uq lt l (l.length-1)
theorem kJ(lt:Nat→Nat→Bool)(l:List Nat)(k:Nat):uq lt l (k+1)=sink lt (uq lt l k) (k+1):=by unfold uq;rw[yD,yq];rfl
theorem b9(l:List Nat)(j:Nat):(swp l j).length=l.length:=by simp[swp]
theorem Yi(lt:Nat→Nat→Bool):∀(j:Nat) (l:List Nat),(sink lt l j).length=l.length
 |0,l=>rfl
 |j+1,l=>by unfold sink;split;rw[Yi lt j,b9];rfl
theorem pu(lt:Nat→Nat→Bool)(l:List Nat)(k:Nat):(uq lt l k).length=l.length:=by
 induction k with
 |zero=>rfl
 |succ k ih=>rw[kJ,Yi,ih]
theorem jj{l:List Nat}{j:Nat}(h:j<l.length):l.getD j 0∈l:=by rw[zn,zl h];exact List.getElem_mem h
theorem XE{l:List Nat}{j:Nat}(h:j+1<l.length){x:Nat}(hx:x∈swp l j):x∈l:=by
 rcases yx hx with hx|rfl
 ·rcases yx hx with hx|rfl
  ·exact hx
  ·exact jj (by omega)
 ·exact jj h
theorem Yj(lt:Nat→Nat→Bool):∀(j:Nat) (l:List Nat),j<l.length→∀x∈sink lt l j,x∈l
 |0,l,_,x,hx=>hx
 |j+1,l,h,x,hx=>by
  unfold sink at hx
  split at hx
  ·exact XE h (Yj lt j _ (by rw[b9];omega) x hx)
  ·exact hx
theorem jM(lt:Nat→Nat→Bool)(l:List Nat):∀k,k+1≤l.length∨k=0→∀x∈uq lt l k,x∈l
 |0,_,x,hx=>hx
 |k+1,h,x,hx=>by
  rw[kJ]at hx
  exact jM lt l k (by omega) x (Yj lt (k+1) _ (by rw[pu];omega) x hx)
theorem V5{lt:Nat→Nat→Bool}{l:List Nat}{x:Nat}(hx:x∈jn lt l):x∈l:=jM lt l _ (by omega) x hx
theorem au(lt:Nat→Nat→Bool)(l:List Nat):(jn lt l).length=l.length:=pu _ _ _
def Wh.lt(v:Wh)(i j:Nat):Bool:=decide (v.ord i j<0)
def rk(w0:World)(γ:U)(q:Nat)(vd:Value)(l:List Nat)(wr:World):Prop:=
 ∃γ',Own w0 wr γ'∧yR γ' q 3 1 vd l.length (ints (wo l))∧∀k,k≠q→γ' k=γ k
section
variable {w0 w:World} {γ:U} {b g gf:Nat} {va vt:Value} {v:Wh}
theorem Uh(l:List Nat)(j:Nat)(h:j<l.length):(wo l).getD j 0=((l.getD j 0:Nat):Int):=by unfold wo;rw[zn,zx,zn,zl h];rfl
theorem Ui(l:List Nat):(wo l).length=l.length:=by simp[wo]
theorem ay(l:List Nat)(i x:Nat):(ints (wo l)).set i (.i x)=ints (wo (l.set i x)):=by rw[ints_set];unfold wo;rw[List.map_set];rfl
theorem fL(h:dC γ b g gf va vt v)(ho:Own w0 w γ){q:Nat}(hq:q<b∨b+8≤q){gd cd n:Nat}{l:List Nat}(hl:l.length=n)(hn:n≤12)(hs:yR γ q 3 1 (.slice (zb gd) n cd) n (ints (wo l)))(hm:∀x∈l,x<v.at_.length):Calls Tryz.prog 188 #[.slice (zb gd) n cd,.i 0,.i n,.func (.func 110) #[.p g] #[]] w fun e w'=>(∃r,e=.returned r)∧rk w0 γ q (.slice (zb gd) n cd) (jn v.lt l) w':=by
 have eg:=enters_of Tryz.func110 (by kernel_rfl) rfl;have HI:=I h;have HL:=I hl;have HM:=I hm;have H0:Hid (rk w0 γ q (.slice (zb gd) n cd) (uq v.lt l 0) w):=I ⟨γ,ho,by rw[pu,hl];exact hs,fun _ _=>rfl⟩;clear h hl hm hs ho;go_in;go_wp2_with fail;go_loopw [8] (fun i wr=>∃k:Nat,i=.i ((k:Int)+1)∧k≤n-1∧rk w0 γ q (.slice (zb gd) n cd) (uq v.lt l k) wr) (fun i _=>n+1-(intOf i).toNat);case atStart=>exact⟨0,rfl,by omega,H0.out⟩
 case round=>
  clear H0;obtain⟨k,rfl,hk,hat⟩:=hrel;by_cases hlt:k+1<n
  ·have dl:decide ((k:Int)+1<n)=true:=by simp;omega
   have hlt':(k:Int)+1<n:=by omega
   have H1:Hid (∃l',l'.length=n∧(∀x∈l',x∈l)∧sink v.lt l' (k+1)=uq v.lt l (k+1)∧rk w0 γ q (.slice (zb gd) n cd) l' wr):=I ⟨uq v.lt l k,by rw[pu,HL.out],fun x hx=>jM _ _ _ (by rw[HL.out];omega) x hx,(kJ _ _ _).symm,hat⟩;clear hat;go_wp2_with fail;go_loopw [9] (fun jv wr=>∃(j:Nat) (l':List Nat),jv=.i j∧j≤k+1∧l'.length=n∧(∀x∈l',x∈l)∧sink v.lt l' j=uq v.lt l (k+1)∧rk w0 γ q (.slice (zb gd) n cd) l' wr) (fun i _=>(intOf i).toNat);case atStart=> obtain⟨l',a1,a2,a3,a4⟩:=H1.out;exact⟨k+1,l',by simp,by omega,a1,a2,a3,a4⟩
   case round=>
    clear H1;obtain⟨j,l',rfl,hj,hl',hml,hsk,γ',ho,hs,hkk⟩:=hrel;cases j with
    |zero=>
     have HT:Hid (uq v.lt l (k+1)=l'):=I (by rw[←hsk];rfl);have HO:=I ho;have HF:Hid (∀W,Own w0 W γ'→rk w0 γ q (.slice (zb gd) n cd) (uq v.lt l (k+1)) W):=I fun W hW=>by rw[HT.out];exact⟨γ',hW,hs,hkk⟩
     have hne0:Nonempty (qz (fun w'=>Own w0 w' γ')):=⟨⟨_,ho.drew⟩⟩;clear hs hkk ho hsk hml hl' hj;go_wp2_with fail;refine tJ (fun w'=>Own w0 w' γ') (by kernel_rfl) (by kernel_rfl) HO.out.drew ?_;repeat(go_big_quiet_step (fail))
     refine wpQuiet_nil ?_;rintro W1 ⟨X,hX⟩;have o1:Own w0 W1 γ':=by rw[hX];exact X.ok
     clear hX;clear X hne0;have HZ:=I (HF.out _ o1);clear o1;go_wp2_with fail;go_roundw;case rel=>exact⟨k+1,by simp,by omega,HZ.out⟩
     case measure=>simp[intOf];omega
    |succ j=>
     have hjn:j+1<n:=by omega
     have hjn':(j:Int)+1<n:=by omega
     have hj0:(j:Int)<n:=by omega
     have HO:=I ho;have hne0:Nonempty (qz (fun w'=>Own w0 w' γ')):=⟨⟨_,ho.drew⟩⟩;have hcx:∀W,Own w0 W γ'→W.cell? (zc gd (j+1))=some (.i (l'.getD (j+1) 0:Nat))∧W.cell? (zc gd j)=some (.i (l'.getD j 0:Nat)):=fun W hW=>by rw[hl']at hs;obtain⟨_,_,e1,q1⟩:=uf hs hW hjn;cases e1;obtain⟨_,_,e2,q2⟩:=uf hs hW (show j<n by omega);cases e2;rw[Uh _ _ (by omega)]at q1 q2;exact⟨q1,q2⟩
     have ha:l'.getD (j+1) 0<v.at_.length:=HM.out _ (hml _ (jj (by omega)));have hc:l'.getD j 0<v.at_.length:=HM.out _ (hml _ (jj (by omega)));have hcall:∀X:qz (fun w'=>Own w0 w' γ'),Calls Tryz.prog 110 #[.p g,.i (l'.getD (j+1) 0:Nat),.i (l'.getD j 0:Nat)] X.world fun e w''=>e=.returned (.i (v.ord (l'.getD (j+1) 0) (l'.getD j 0)))∧∃y:qz (fun w'=>Own w0 w' γ'),w''=y.world:=fun X=>ZI ((QG (HI.out.keep fun k q1 q2=>hkk k (by omega)) X.ok _ _ ha hc).mono fun e w'' ⟨q1,q2⟩=>⟨q1,X.ok.xh q2⟩);have hsw:swp l' j=(l'.set (j+1) (l'.getD j 0)).set j (l'.getD (j+1) 0):=rfl;have hsk2:sink v.lt l' (j+1)=if decide (v.ord (l'.getD (j+1) 0) (l'.getD j 0)<0)=true then sink v.lt (swp l' j) j else l':=rfl;have hmem:∀x∈swp l' j,x∈l:=fun x hx=>hml x (XE (by omega) hx);have hlen2:=b9 l' j;generalize l'.getD (j+1) 0=a at*;generalize l'.getD j 0=c at*;generalize v.ord a c=r at*;have c0:∀X:qz (fun w'=>Own w0 w' γ'),X.world.cell? (zc gd (j+1))=some (.i (a:Int)):=fun X=>(hcx _ X.ok).1;have c1:∀X:qz (fun w'=>Own w0 w' γ'),X.world.cell? (zc gd j)=some (.i (c:Int)):=fun X=>(hcx _ X.ok).2;have HCX:=I hcx;by_cases hr:r<0
     ·have dr:decide (r<0)=true:=by simpa using hr
      rw[dr,if_pos rfl]at hsk2;have HEND:Hid (∀W γ2,Own w0 W γ2→yR γ2 q 3 1 (.slice (zb gd) n cd) n (((ints (wo l')).set (j+1) (.i (c:Int))).set j (.i (a:Int)))→(∀k,k≠q→γ2 k=γ' k)→∃(j2:Nat) (l2:List Nat),Value.int .i64 (j:Int)=.i j2∧j2≤k+1∧l2.length=n∧(∀x∈l2,x∈l)∧sink v.lt l2 j2=uq v.lt l (k+1)∧rk w0 γ q (.slice (zb gd) n cd) l2 W):=I fun W γ2 hW hs2 hk2=>by rw[ay,ay,←hsw]at hs2;exact⟨j,swp l' j,rfl,by omega,by omega,hmem,by rw[←hsk2,hsk],γ2,hW,by rw[hlen2,hl'];exact hs2,fun k hk=>(hk2 k hk).trans (hkk k hk)⟩
      rw[hl']at hs;have HS:=I hs;have hln:Hid ((wo l').length=n):=I (by rw[Ui,hl']);clear hs hkk ho hsk hml hl' hsk2 hmem hlen2 hsw hcx ha hc;go_wp2_with fail;refine tJ (fun w'=>Own w0 w' γ') (by kernel_rfl) (by kernel_rfl) HO.out.drew ?_;repeat(go_big_quiet_step (exact hcall _))
      refine wpQuiet_nil ?_;rintro W1 ⟨X,hX⟩;have o1:Own w0 W1 γ':=by rw[hX];exact X.ok
      clear hX;clear X hne0;obtain⟨d0,d1⟩:=HCX.out _ o1;obtain⟨_,_,e,q0,f0,HS1⟩:=yR.jP HS.out o1 hjn;cases e;obtain⟨γ2,o2,s2,k2⟩:=HS1 (.i (c:Int));obtain⟨_,_,e,q1,f1,HS2⟩:=yR.jP s2 o2 (show j<n by omega);cases e;obtain⟨γ3,o3,s3,k3⟩:=HS2 (.i (a:Int));have HZ:=I (HEND.out _ γ3 o3.drew s3 (fun k hk=>(k3 k hk).trans (k2 k hk)));have f1':W1.frozen? (zc gd j)=false:=by obtain⟨_,_,e,_,f,_⟩:=yR.jP HS.out o1 (show j<n by omega);cases e;exact f
      clear c0 c1 hcall q0 q1 f1 HS1 HS2 o2 s2 k2 o3 s3 k3 o1;go_wp2_with fail;go_region;go_wp2_with fail;go_roundw;case rel=>exact HZ.out
      case measure=>simp[intOf]
     ·have dr:decide (r<0)=false:=by simpa using hr
      rw[dr,if_neg (by simp)]at hsk2;have HF:Hid (∀W,Own w0 W γ'→rk w0 γ q (.slice (zb gd) n cd) (uq v.lt l (k+1)) W):=I fun W hW=>by rw[←hsk,hsk2];exact⟨γ',hW,by rw[hl'];rw[hl']at hs;exact hs,hkk⟩
      clear hs hkk ho hsk hml hl' hsk2 hmem hlen2 hsw hcx ha hc hj;go_wp2_with fail;refine tJ (fun w'=>Own w0 w' γ') (by kernel_rfl) (by kernel_rfl) HO.out.drew ?_;repeat(go_big_quiet_step (exact hcall _))
      refine wpQuiet_nil ?_;rintro W1 ⟨X,hX⟩;have o1:Own w0 W1 γ':=by rw[hX];exact X.ok
      clear hX;clear X hne0;have HZ:=I (HF.out _ o1);clear o1 c0 c1 hcall;go_wp2_with fail;go_roundw;case rel=>exact⟨k+1,by simp,by omega,HZ.out⟩
      case measure=>simp[intOf];omega
  ·have dl:decide ((k:Int)+1<n)=false:=by simp;omega
   have HF:Hid (rk w0 γ q (.slice (zb gd) n cd) (jn v.lt l) wr):=I (by
    have:k=l.length-1:=by rw[HL.out];omega
    subst this;exact hat);clear hat;go_wp2_with fail;go_end0;exact⟨⟨_,rfl⟩,HF.out⟩
theorem V7(w:World)(n:Nat)(hn:n≤12):Calls Tryz.prog 152 #[.int .u64 n] w fun e w'=>(∃x:Int,e=.returned (.i x))∧w=w':=by
 have hc:n=0∨n=1∨n=2∨n=3∨n=4∨n=5∨n=6∨n=7∨n=8∨n=9∨n=10∨n=11∨n=12:=by omega
 rcases hc with rfl|rfl|rfl|rfl|rfl|rfl|rfl|rfl|rfl|rfl|rfl|rfl|rfl;all_goals go_in;go_wp2;go_ret;exact⟨⟨_,rfl⟩,rfl⟩
end
end
section
open Go.RowKit Go.WideShapes
section
variable {w0 w:World} {γ:U} {b g gf:Nat} {va vt:Value} {v:Wh}
theorem Z7{vd:Value}{n:Nat}(hn:n≤12)(x:Int)(fv:Value){P:World→Prop}(hi:Calls Tryz.prog 188 #[vd,.i 0,.i n,fv] w fun e w'=>(∃r,e=.returned r)∧P w'):Calls Tryz.prog 151 #[vd,.i 0,.i n,.i x,fv] w fun e w'=>(∃r,e=.returned r)∧P w':=by
 have dn:decide ((n:Int)≤12)=true:=by simp;omega
 have dn':(n:Int)≤12:=by omega
 go_in;go_wp2_with fail;refine wp_loop_rounds 1 ?_;rw[rounds_succ];go_wp2_with fail;refine hi.mono ?_;rintro e w' ⟨⟨r,rfl⟩,hp⟩;have HP:=I hp;clear hp hi;go_wp2_with fail;first|go_end0|refine bodyPost_ret (results_none rfl _ _ _) rfl ?_
 exact⟨⟨_,rfl⟩,HP.out⟩
theorem Qn(h:dC γ b g gf va vt v)(ho:Own w0 w γ){q:Nat}(hq:q<b∨b+8≤q){n:Nat}{vd:Value}{l:List Nat}(hl:l.length=n)(hn:n≤12)(hs:yR γ q 3 1 vd n (ints (wo l)))(hm:∀x∈l,x<v.at_.length):Calls Tryz.prog 109 #[vd,.func (.func 110) #[.p g] #[]] w fun e w'=>(∃r,e=.returned r)∧rk w0 γ q vd (jn v.lt l) w':=by
 rcases hs.2 with⟨rfl,rfl⟩|⟨gd,cd,cur,rfl,-⟩
 ·have hnil:l=[]:=yL.1 hl;subst hnil;have hi:Calls Tryz.prog 188 #[.slice none 0 0,.i 0,.i (0:Nat),.func (.func 110) #[.p g] #[]] w fun e w'=>(∃r,e=.returned r)∧w=w':=by
   clear h ho hs hm;go_in;go_wp2_with fail;refine wp_loop_rounds 1 ?_;rw[rounds_succ];go_wp2_with fail;first|go_end0|refine bodyPost_ret (results_none rfl _ _ _) rfl ?_
   exact⟨⟨_,rfl⟩,rfl⟩
  have hle:=V7 w 0 (by omega);have hpd:=fun x=>Z7 (n:=0) (by omega) x _ hi;have HF:Hid (rk w0 γ q (.slice none 0 0) (jn v.lt []) w):=I ⟨γ,ho,hs,fun _ _=>rfl⟩;clear h ho hs hm hi;go_in;go_wp2_with fail;refine hle.mono ?_;rintro e w' ⟨⟨x,rfl⟩,rfl⟩;go_wp2_with fail;refine(hpd x).mono ?_;rintro e w' ⟨⟨r,rfl⟩,rfl⟩;clear hpd;go_wp2_with fail;go_end0;exact⟨⟨_,rfl⟩,HF.out⟩
 ·have hi:=Z7 hn 0 (.func (.func 110) #[.p g] #[]) (fL h ho hq hl hn hs hm);have hle:=V7 w n hn;have hpd:=fun x=>Z7 hn x (.func (.func 110) #[.p g] #[]) (fL h ho hq hl hn hs hm);have dn':(n:Int)≤12:=by omega
  clear h ho hl hs hm hi;go_in;go_wp2_with fail;refine hle.mono ?_;rintro e w' ⟨⟨x,rfl⟩,rfl⟩;go_wp2_with fail;refine(hpd x).mono ?_;rintro e w' ⟨⟨r,rfl⟩,hp⟩;have HP:=I hp;clear hp hpd;go_wp2_with fail;go_end0;exact⟨⟨_,rfl⟩,HP.out⟩
end
end
section
open Go.RowKit
abbrev qQ:=List (List Nat)×List Nat
def qG(at_:List Int)(now:Int)(s:qQ)(i:Nat):qQ:=if at_.getD i 0≤now then(uh s.1 i,s.2++[i])else s
def vN(at_:List Int)(now:Int)(s:qQ)(ids:List Nat):qQ:=ids.foldl (qG at_ now) s
def v7(at_:List Int)(now:Int)(L:List (List Nat))(k:Nat):qQ:=(List.range k).foldl (fun s n=>vN at_ now s (s.1.getD n [])) (L,[])
def Wh.sW(v:Wh)(now:Int):List Nat:=jn v.lt (v7 v.at_ now v.L 16).2
def Wh.due(v:Wh)(now:Int):Wh:={v with L:=(v7 v.at_ now v.L 16).1}
theorem ch(at_:List Int)(now:Int)(L:List (List Nat))(k:Nat):v7 at_ now L (k+1)=vN at_ now (v7 at_ now L k) ((v7 at_ now L k).1.getD k []):=by unfold v7;rw[yD,yq];rfl
theorem cg(at_:List Int)(now:Int)(s:qQ)(ids:List Nat)(i:Nat):vN at_ now s (ids++[i])=qG at_ now (vN at_ now s ids) i:=by unfold vN;rw[yq];rfl
theorem cC(L:List (List Nat))(i:Nat)(h:L.flatten.Nodup):(uh L i).flatten=L.flatten.erase i:=by
 induction L with
 |nil=>rfl
 |cons a L ih=>
  rw[List.flatten_cons]at h;obtain⟨h1,h2,h3⟩:=yd.1 h;unfold uh at ih⊢;rw[yK,List.flatten_cons,List.flatten_cons];by_cases hi:i∈a
  ·rw[List.erase_append_left _ hi];congr 1;have hn:i∉L.flatten:=fun h=>h3 i hi i h rfl;have:=ih h2;rw[this,zS hn]
  ·rw[List.erase_append_right _ hi,zS hi,ih h2]
structure vZ (L0:List (List Nat)) (m:Nat) (s:qQ):Prop where
 perm:(s.2++s.1.flatten).Perm L0.flatten
 nd:L0.flatten.Nodup
 lt:∀x∈L0.flatten,x<m
 len:s.1.length=L0.length
theorem vZ.Un{L0:List (List Nat)}{m:Nat}{s:qQ}(h:vZ L0 m s):∀x∈s.2,x<m:=fun x hx=>h.lt x (h.perm.mem_iff.1 (ym _ hx))
theorem vZ.j9{L0:List (List Nat)}{m:Nat}{s:qQ}(h:vZ L0 m s):s.2.length≤m:=by have h1:=h.perm.length_eq;have h2:=gY m _ h.nd h.lt;rw[zr]at h1;omega
theorem vZ.one{L0:List (List Nat)}{m:Nat}{s:qQ}(h:vZ L0 m s){i:Nat}(hi:i∈s.1.flatten):vZ L0 m (uh s.1 i,s.2++[i])where
 perm:=by
  have hnd:s.1.flatten.Nodup:=(yd.1 (h.perm.nodup_iff.2 h.nd)).2.1
  show((s.2++[i])++(uh s.1 i).flatten).Perm _
  rw[cC _ _ hnd,zU]
  exact((List.Perm.append_left s.2 (yC hi).symm)).trans h.perm
 nd:=h.nd
 lt:=h.lt
 len:=by show(uh s.1 i).length=_;simp[uh,h.len]
theorem rM.flat{γ:U}{b g m:Nat}{L:List (List Nat)}(h:rM γ b g L m):L.flatten.Nodup∧∀x∈L.flatten,x<m:=by
 have hb:=h.bounds;obtain⟨f,-,hf⟩:=h;refine⟨List.pairwise_flatten.2 ⟨hb.2.2.2.2,?_⟩,fun x hx=>?_⟩
 ·rw[List.pairwise_iff_getElem];intro i j hi hj hij x hx y hy hxy;subst hxy;obtain⟨k,hk⟩:=zQ hx;obtain⟨k',hk'⟩:=zQ hy;have:=(hf.one (zl hi) hk (zl hj) hk').1;omega
 ·obtain⟨l,hl,hx⟩:=List.mem_flatten.1 hx;exact hb.2.2.2.1 l hl x hx
theorem vZ.start{γ:U}{b g m:Nat}{L:List (List Nat)}(h:rM γ b g L m):vZ L m (L,[]):=⟨List.Perm.refl _,h.flat.1,h.flat.2,rfl⟩
theorem eS{at_:List Int}{now:Int}{s:qQ}{i j:Nat}(hij:i≠j)(hj:j∈s.1.flatten)(hn:s.1.flatten.Nodup):j∈(qG at_ now s i).1.flatten:=by
 unfold qG;split
 ·show j∈(uh s.1 i).flatten;rw[cC _ _ hn];exact(List.mem_erase_of_ne (Ne.symm hij)).2 hj
 ·exact hj
end
section
open Go.RowKit Go.WideShapes
def jW(γ:U)(t:Nat):U:=fun k=>if k=t then none else γ k
theorem gM(γ:U)(t:Nat):jW γ t t=none:=if_pos rfl
theorem uK(γ:U){t k:Nat}(h:k≠t):jW γ t k=γ k:=if_neg h
theorem Own.jW{w0 w:World}{γ:U}(h:Own w0 w γ)(t:Nat):Own w0 w (jW γ t):=
 h.less fun k x hx=>by
  by_cases e:k=t
  ·subst e;rw[gM]at hx;cases hx
  ·rwa[uK _ e]at hx
theorem Wh.Nq(v:Wh)(L:List (List Nat)):Wh.lt {v with L:=L}=v.lt:=rfl
def gE(w0:World)(γ:U)(b g q t:Nat)(v:Wh)(s:qQ)(vo:Value)(γ':U)(wr:World):Prop:=
 vZ v.L v.at_.length s∧Own w0 wr γ'∧uS γ' b g {v with L:=s.1}∧yR γ' q 3 1 vo s.2.length (ints (wo s.2))∧∀k,(k<b∨b+8≤k)→k≠q→k≠t→γ' k=γ k
section
variable {w0 w:World} {γ:U} {b g:Nat} {v:Wh}
theorem OO(h:uS γ b g v)(ho:Own w0 w γ)(h12:v.at_.length≤12)(q t:Nat)(hq:q<b∨b+8≤q)(ht:t<b∨b+8≤t)(hqt:q≠t)(now:Int)(t0:0≤now)(t1:now≤4611686018427387904):Calls Tryz.prog 82 #[.p g,.i now] w fun e w'=>∃vo γ',e=.returned vo∧Own w0 w' γ'∧uS γ' b g (v.due now)∧xK γ' q 3 1 vo (v.sW now).length (ints (wo (v.sW now)))∧∀k,(k<b∨b+8≤k)→k≠q→k≠t→γ' k=γ k:=by
 have hmf:∀(fn:Fn) (first cap:Array Value) (w:World),(Instr.makeFunc fn first cap).run Tryz.prog w=.ok (.func fn first cap) w:=fun _ _ _ _=>rfl;have hadd:=SL w now t0 t1;have hfl:rM γ (b+3) h.choose v.L v.at_.length:=h.choose_spec.choose_spec.choose_spec.2.2.2.1;have H0:Hid (gE w0 γ b g q t v (v7 v.at_ now v.L 0) (.slice none 0 0) γ w):=I ⟨vZ.start hfl,ho,h,yR.nil _ _ _ _,fun _ _ _ _=>rfl⟩;have hL16:Hid (v.L.length=16):=I h.choose_spec.choose_spec.choose_spec.2.2.2.2.Sn;clear h ho hfl;go_in;go_wp2_with fail;refine hadd.mono ?_;rintro e w' ⟨rfl,rfl⟩;clear hadd;go_wp2_with fail;go_loopw [5,13] (fun vo i wr=>∃(n:Nat) (γ':U),i=.i n∧n≤16∧gE w0 γ b g q t v (v7 v.at_ now v.L n) vo γ' wr) (fun _ i _=>16-(intOf i).toNat);case atStart=>exact⟨0,γ,rfl,by omega,H0.out⟩
 case round=>
  clear H0;obtain⟨n,γ',rfl,hn,hok,ho,hwh,hs,hk⟩:=hrel;obtain⟨A0,cap0,rfl,-⟩:=hs.form;by_cases hlt:n<16
  ·have dl:decide ((n:Int)<16)=true:=by simp;omega
   have hlt':(n:Int)<16:=by omega
   have hLl:(v7 v.at_ now v.L n).1.length=16:=by rw[hok.len];exact hL16.out
   obtain⟨ids,hids⟩:∃ids,(v7 v.at_ now v.L n).1[n]? =some ids:=⟨_,zl (by omega)⟩;have hgd:(v7 v.at_ now v.L n).1.getD n []=ids:=by rw[zn,hids];rfl
   have hsuc:Hid (v7 v.at_ now v.L (n+1)=vN v.at_ now (v7 v.at_ now v.L n) ids):=I (by rw[ch,hgd]);have hmemS:∀x∈ids,x∈(v7 v.at_ now v.L n).1.flatten:=fun x hx=>List.mem_flatten.2 ⟨ids,zo hids,hx⟩;have hidn:ids.Nodup∧ids.length≤v.at_.length:=by obtain⟨gf,va,vt,hin⟩:=hwh;exact⟨hin.2.2.2.1.bounds.2.2.2.2 ids (zo hids),hin.2.2.2.1.bounds.2.2.1 ids (zo hids)⟩
   generalize v7 v.at_ now v.L n=s0 at*;have hwh2:=hwh.keep (γ':=jW γ' t) fun k q1 q2=>uK _ (by omega);obtain⟨gf,va,vt,hin⟩:=hwh2;have od:=ho.jW t;have c0:=od.cell hin.1 (i:=0) (v:=.p gf) rfl;have hall:=VP hin.2.2.2.1 od hids t (gM _ _);have HS:=I (hs.keep (γ':=jW γ' t) (uK _ hqt));have HIN:=I hin;have HK:Hid (∀k,(k<b∨b+8≤k)→k≠q→k≠t→jW γ' t k=γ k):=I fun k q1 q2 q3=>(uK _ q3).trans (hk k q1 q2 q3);have HOK:=I hok;clear hs hin ho hwh hk od hok hgd hLl;go_wp2_with fail;refine hall.mono ?_;rintro e w1 ⟨vA,γ1,rfl,o1,sA,k1⟩;have H1:Hid (gE w0 γ b g q t v (vN v.at_ now s0 (ids.take 0)) (.slice A0 s0.2.length cap0) γ1 w1):=I ⟨HOK.out,o1,⟨gf,va,vt,HIN.out.keep fun k q1 q2=>k1 k (by omega)⟩,HS.out.keep (k1 q hqt),fun k q1 q2 q3=>(k1 k q3).trans (HK.out k q1 q2 q3)⟩;have HA:=I sA;obtain⟨AA,cA,rfl⟩:=sA.form;generalize hil:ids.length=il at*;have HIL:=I hil;clear hall HS HIN HK sA o1 k1 hil c0;go_wp2_with fail;go_loopw [5,23] (fun vo i wr=>∃(j:Nat) (γ':U),i=.i j∧j≤il∧gE w0 γ b g q t v (vN v.at_ now s0 (ids.take j)) vo γ' wr∧xK γ' t 3 1 (.slice AA il cA) il (ints (wo ids))∧∀x∈ids.drop j,x∈(vN v.at_ now s0 (ids.take j)).1.flatten) (fun _ i _=>il-(intOf i).toNat)
   case atStart=>exact⟨0,γ1,rfl,by omega,H1.out,HA.out,fun x hx=>hmemS x (by simpa using hx)⟩
   case round=>
    clear H1 HA hmemS;obtain⟨j,γ2,rfl,hj,⟨hok,ho,hwh,hs,hk⟩,hpa,hrest⟩:=hrel;obtain⟨A1,cap1,rfl,-⟩:=hs.form;by_cases hjl:j<il
    ·have dj:decide ((j:Int)<il)=true:=by simpa using hjl
     have hjl':(j:Int)<il:=by omega
     have hji:j<ids.length:=by rw[HIL.out];exact hjl
     obtain⟨id,hid⟩:∃id,ids[j]? =some id:=⟨_,zl hji⟩;have htk:ids.take (j+1)=ids.take j++[id]:=by rw[yk,hid];rfl
     have hdr:ids.drop j=id::ids.drop (j+1):=by rw[List.drop_eq_getElem_cons hji];congr 1;exact(zk.1 hid).2
     have hnd:(vN v.at_ now s0 (ids.take j)).1.flatten.Nodup:=(yd.1 (hok.perm.nodup_iff.2 hok.nd)).2.1;have hidm:id∈(vN v.at_ now s0 (ids.take j)).1.flatten:=hrest id (by rw[hdr];exact List.mem_cons_self);have hrest2:∀x∈ids.drop (j+1),x∈(vN v.at_ now s0 (ids.take (j+1))).1.flatten:=fun x hx=>by rw[htk,cg];refine eS (fun e=>?_) (hrest x (by rw[hdr];exact yJ _ hx)) hnd;subst e;have h2:(ids.drop j).Nodup:=(List.drop_sublist j ids).nodup hidn.1;rw[hdr]at h2;exact(zN.1 h2).1 hx
     have HR2:=I hrest2;have hsn:vN v.at_ now s0 (ids.take (j+1))=qG v.at_ now (vN v.at_ now s0 (ids.take j)) id:=by rw[htk,cg]
     have hilt:id<v.at_.length:=hok.lt id (hok.perm.mem_iff.1 (yi _ hidm));have holen:=hok.j9;obtain⟨gA,cA',eA,hcA,hrow⟩:=hpa.row ho (by omega);cases eA;have cj:=hrow j (.i (id:Int)) (by unfold ints wo;rw[zx,zx,hid];rfl);obtain⟨gf,va,vt,hin⟩:=hwh;obtain⟨ga,ca,eva,ca0⟩:=uf hin.2.1 ho hilt;have e0:γ2 b=some (g,.cells #[.p gf,va,vt,.i v.now] 167 (0,0)):=hin.1;have cw0:=ho.cell e0 (i:=0) (v:=.p gf) rfl;have cw1:=ho.cell e0 (i:=1) (v:=va) rfl;subst eva;have hilt':(id:Int)<v.at_.length:=by omega
     have hone:qG v.at_ now (vN v.at_ now s0 (ids.take j)) id=if decide (v.at_.getD id 0≤now)=true then(uh (vN v.at_ now s0 (ids.take j)).1 id,(vN v.at_ now s0 (ids.take j)).2++[id])else vN v.at_ now s0 (ids.take j):=by unfold qG;simp only[decide_eq_true_eq]
     rw[hone]at hsn;replace ca0:wr.cell? (zc ga id)=some (.i (v.at_.getD id 0)):=ca0;replace cw1:wr.cell? (zc g 1)=some (.slice (zb ga) v.at_.length ca):=cw1;generalize hsj:vN v.at_ now s0 (ids.take j)=sj at*;generalize v.at_.getD id 0=ax at*;by_cases hdue:ax≤now
     ·have dd:decide (ax≤now)=true:=by simpa using hdue
      rw[dd,if_pos rfl]at hsn;obtain⟨o2,r2⟩:=qv ho (b+7) (id:Int);have HO:=I o2;have HR:=I r2;have HS:=I (hs.keep (γ':=put γ2 (b+7) wr.heap.size (.cells #[.i (id:Int)] 3)) (yO _ _ _ (by omega)));have HIN:=I (hin.keep (γ':=put γ2 (b+7) wr.heap.size (.cells #[.i (id:Int)] 3)) fun k q1 q2=>yO _ _ _ (by omega));have HPA:=I (hpa.keep (γ':=put γ2 (b+7) wr.heap.size (.cells #[.i (id:Int)] 3)) (yO _ _ _ (by omega)));have HKK:Hid (∀k,(k<b∨b+8≤k)→k≠q→k≠t→put γ2 (b+7) wr.heap.size (.cells #[.i (id:Int)] 3) k=γ k):=I fun k q1 q2 q3=>(yO _ _ _ (by omega)).trans (hk k q1 q2 q3);have HOK:=I (hok.one hidm);have HSN:=I hsn;generalize hol:sj.2.length=ol at*;have HOL:=I hol;clear hs hin ho hk hpa hok o2 r2 hsn hone hrest hrest2 hnd hidm hdr htk hid hrow e0 hol hsj;go_wp2_with (at_builtin;refine xG rfl (.tmp 36) (.tmp 38) 61 rfl 3 _ 1 8 Tryz.underlying61 Tryz.tF rfl (by decide) HO.out HS.out rfl HR.out rfl ?_ ?_ ?_)
      ·unfold maxLen;omega
      ·omega
      intro A' cap' w2 γ3 hA2 ho4 hs4 hk4;have HIN4:=I (HIN.out.keep (γ':=γ3) fun k q1 q2=>hk4 k (by omega));have hg4:γ3 b=some (g,.cells #[.p gf,.slice (zb ga) v.at_.length ca,vt,.i v.now] 167 (0,0)):=HIN4.out.1;have d0:=ho4.cell hg4 (i:=0) (v:=.p gf) rfl;have hrm:=jh (i:=id) HIN4.out.2.2.2.1 ho4 hilt;have HS4:=I hs4;have HK4:=I hk4;clear ho4 hs4 hk4 hA2 cw0 cw1 cj ca0 hg4;go_wp2_with fail;refine hrm.mono ?_;rintro e w3 ⟨rfl,γ4,o5,r5,k5⟩;have HF:Hid (gE w0 γ b g q t v (vN v.at_ now s0 (ids.take (j+1))) (.slice A' (ol+1) cap') γ4 w3∧xK γ4 t 3 1 (.slice (zb gA) il cA) il (ints (wo ids))):=I (by
       refine⟨⟨by rw[HSN.out];exact HOK.out,o5,?_,?_,fun k q1 q2 q3=>(k5 k (by omega)).trans ((HK4.out k q2).trans (HKK.out k q1 q2 q3))⟩,HPA.out.keep ((k5 t (by omega)).trans (HK4.out t (Ne.symm hqt)))⟩
       ·rw[HSN.out];obtain⟨z1,z2,z3,z4,z5⟩:=HIN4.out;exact⟨gf,_,vt,(k5 b (by omega)).trans z1,z2.keep (k5 _ (by omega)),z3.keep (k5 _ (by omega)),r5,z5.stop id⟩
       ·rw[HSN.out];show yR _ q 3 1 _ (sj.2++[id]).length (ints (wo (sj.2++[id])));rw[show(sj.2++[id]).length=ol+1 by simp[HOL.out],show ints (wo (sj.2++[id]))=ints (wo sj.2)++[.i (id:Int)]by simp[ints,wo]];exact HS4.out.keep (k5 q (by omega)));clear o5 r5 k5 hrm d0;go_wp2_with fail;go_roundw;case rel=>exact⟨j+1,γ4,by simp,by omega,HF.out.1,HF.out.2,HR2.out⟩
      case measure=>simp[intOf];omega
     ·have dd:decide (ax≤now)=false:=by simpa using hdue
      rw[dd,if_neg (by simp)]at hsn;have HF:Hid (gE w0 γ b g q t v (vN v.at_ now s0 (ids.take (j+1))) (.slice A1 sj.2.length cap1) γ2 wr∧xK γ2 t 3 1 (.slice (zb gA) il cA) il (ints (wo ids))):=I (by rw[hsn];exact⟨⟨hok,ho,⟨_,_,_,hin⟩,hs,hk⟩,hpa⟩);generalize sj.2.length=ol at*;clear hs hin ho hk hpa hok hsn hone hrest hrest2 hnd hidm hdr htk hid hrow e0 hsj;go_wp2_with fail;go_roundw;case rel=>exact⟨j+1,γ2,by simp,by omega,HF.out.1,HF.out.2,HR2.out⟩
      case measure=>simp[intOf];omega
    ·obtain rfl:j=il:=by omega
     have dj:decide ((j:Int)<j)=false:=by simp
     have HF:Hid (gE w0 γ b g q t v (v7 v.at_ now v.L (n+1)) (.slice A1 (vN v.at_ now s0 (ids.take j)).2.length cap1) γ2 wr):=I (by
      rw[hsuc.out];have e:ids.take j=ids:=by rw[←HIL.out,yA]
      rw[e]at hok hwh hs⊢;exact⟨hok,ho,hwh,hs,hk⟩);generalize(vN v.at_ now s0 (ids.take j)).2.length=ol at*;clear hs hwh ho hk hpa hok hrest;go_wp2_with fail;go_roundw;case rel=>exact⟨n+1,γ2,by simp,by omega,HF.out⟩
     case measure=>simp[intOf];omega
  ·obtain rfl:n=16:=by omega
   have hol:=hok.j9;obtain⟨gf,va,vt,hin⟩:=hwh;have hlt:Hid (jn v.lt (v7 v.at_ now v.L 16).2=v.sW now):=I (by unfold Wh.sW;with_reducible rfl);have hln:Hid ((v.sW now).length=(v7 v.at_ now v.L 16).2.length):=I (by unfold Wh.sW;exact au _ _);have hdu:Hid (v.due now={v with L:=(v7 v.at_ now v.L 16).1}):=I (by unfold Wh.due;with_reducible rfl);generalize v7 v.at_ now v.L 16=sE at*;have hso:=Qn hin ho hq rfl (by omega) hs (fun x hx=>hok.Un x hx);rw[Wh.Nq,hlt.out]at hso;have HIN:=I hin;have HK:=I hk;generalize sE.2.length=ol at*;clear hs hin ho hk hok;go_wp2_with fail;refine hso.mono ?_;rintro e w3 ⟨⟨r,rfl⟩,γ3,o3,s3,k3⟩;have hcl:=tV (w:=w3) s3 (by rw[hln.out];omega);have HO3:=I o3;have HK3:=I k3;clear hso o3 s3 k3;go_wp2_with fail;refine hcl.mono ?_;rintro e w4 ⟨v',rfl,hp,rfl⟩;obtain⟨A5,c5,rfl⟩:=hp.form;have HF:Hid (∃vo γ',Ending.returned (.slice A5 (v.sW now).length c5)=.returned vo∧Own w0 w3 γ'∧uS γ' b g (v.due now)∧xK γ' q 3 1 vo (v.sW now).length (ints (wo (v.sW now)))∧∀k,(k<b∨b+8≤k)→k≠q→k≠t→γ' k=γ k):=I ⟨_,γ3,rfl,HO3.out,by rw[hdu.out];exact⟨gf,va,vt,HIN.out.keep fun k q1 q2=>HK3.out k (by omega)⟩,hp,fun k q1 q2 q3=>(HK3.out k q2).trans (HK.out k q1 q2 q3)⟩;clear hp hcl;go_wp2_with fail;go_ret;exact HF.out
end
end
section
open Go.RowKit Go.Lib
theorem Oy(x y:Nat)(hx:x<18446744073709551616)(hy:y<18446744073709551616)(w:World):Calls Tryz.prog 182 #[.int .u64 x,.int .u64 y] w fun e w'=>e=.returned (.tuple #[.int .u64 ((x*y/18446744073709551616:Nat):Int),.int .u64 ((x*y%18446744073709551616:Nat):Int)])∧w'=w:=by
 obtain⟨bd,bt,bw,hhi⟩:=Lib.mul64_hi x y hx hy;have ba:=Lib.half_mul_le (a:=x/4294967296) (b:=y/4294967296) (by omega) (by omega);have bb:=Lib.half_mul_le (a:=x/4294967296) (b:=y%4294967296) (by omega) (by omega);have bc:=Lib.half_mul_le (a:=x%4294967296) (b:=y/4294967296) (by omega) (by omega);have ba':x/4294967296*(y/4294967296)<18446744073709551616:=by omega
 have bb':x/4294967296*(y%4294967296)<18446744073709551616:=by omega
 have bc':x%4294967296*(y/4294967296)<18446744073709551616:=by omega
 have bh1:x/4294967296*(y/4294967296)+(x/4294967296*(y%4294967296)+x%4294967296*(y%4294967296)/4294967296)/4294967296<18446744073709551616:=by omega
 have bh:x/4294967296*(y/4294967296)+(x/4294967296*(y%4294967296)+x%4294967296*(y%4294967296)/4294967296)/4294967296+((x/4294967296*(y%4294967296)+x%4294967296*(y%4294967296)/4294967296)%4294967296+x%4294967296*(y/4294967296))/4294967296<18446744073709551616:=by omega
 go_in;go_wp2;simp only[Mul64.maskN x hx,Mul64.maskN y hy,Mul64.divN,Mul64.mulN,Mul64.addN,Mul64.wrapN _ bd,Mul64.wrapN _ bb',Mul64.wrapN _ bt,Mul64.maskN _ bt,Mul64.wrapN _ bc',Mul64.wrapN _ bw,Mul64.wrapN _ ba',Mul64.wrapN _ bh1,Mul64.wrapN _ bh,Mul64.wrapM (x*y)];rw[hhi];go_ret2;exact⟨rfl,rfl⟩
theorem mul(x y:Nat)(h:x*y<18446744073709551616)(hx:x<18446744073709551616)(hy:y<18446744073709551616)(w:World):Calls Tryz.prog 140 #[.int .u64 x,.int .u64 y] w fun e w'=>e=.returned (.tuple #[.int .u64 0,.int .u64 ((x*y:Nat):Int)])∧w=w':=by have c64:=Oy x y hx hy w;rw[Nat.div_eq_of_lt h,Nat.mod_eq_of_lt h]at c64;go_in;go_wp2_with fail;refine c64.mono ?_;rintro e w' ⟨rfl,rfl⟩;go_wp2_with fail;go_ret2;exact⟨rfl,rfl⟩
end
section
open Go.RowKit Go.WideShapes
theorem Qu.one(q:Qu):∀u∈q.yV,u.oneCell'=true:=by intro u hu;simp[Qu.yV]at hu;rcases hu with rfl|rfl|rfl<;>rfl
theorem Nd.one(q:Nd):∀u∈q.yV,u.oneCell'=true:=by intro u hu;simp[Nd.yV]at hu;rcases hu with rfl|rfl|rfl<;>rfl
theorem jm{P:Program}{e:TypeId}{z:Option Value}{size bytes:Nat}(h:(P.info? e).map (fun i=>(i.zero,i.size,i.bytes))=some (z,size,bytes)):(P.info? e).map (·.size)=some size:=by
 cases hq:P.info? e with
 |none=>rw[hq]at h;cases h
 |some i=>rw[hq]at h;cases h;rfl
def kr{α:Type}(f:α→List Value)(w0:World)(γ:U)(t ty g n:Nat)(q:α)(i:Value)(wr:World):Prop:=
 ∃(c:Nat) (γ':U) (cur:Array Value),i=.i c∧c≤n∧(c=0→n=0)∧Own w0 wr γ'∧γ' t=some (g,.cells cur ty (0,0))∧cur.size=n*3∧cur.toList.take (c*3)=yW f (List.replicate c q)∧∀k,k≠t→γ' k=γ k
theorem fk{α:Type}{f:α→List Value}{cur:List Value}{q:α}{c k:Nat}(h:cur.take (c*3)=yW f (List.replicate c q))(hl:(yW f (List.replicate k q)).length=k*3)(hc:c*3≤cur.length)(d:List Value):(cur.take (c*3)++yW f (List.replicate k q)++d).take ((c+k)*3)=yW f (List.replicate (c+k) q):=by
 rw[h,←v8,yw];apply yz;rw[←yw,v8,zr,hl];have:(yW f (List.replicate c q)).length=c*3:=by rw[←h,zE];omega
 omega
section
variable {w0 w:World} {γ:U}
theorem OE(ho:Own w0 w γ)(t:Nat)(q:Qu)(gx n:Nat)(hn:n≤32)(hx:∀j u,q.yV[j]? =some u→w.cell? (zc gx j)=some u):Calls Tryz.prog 99 #[.slice (zb gx) 1 1,.i n] w fun e w'=>∃v γ',e=.returned v∧Own w0 w' γ'∧yR γ' t 206 3 v n (yW Qu.yV (List.replicate n q))∧∀k,k≠t→γ' k=γ k:=by
 obtain⟨cs,hcs,hmk⟩:=Y7 n (by omega) w;have hmul:=mul 1 n (by omega) (by omega) (by omega) w;rw[Nat.one_mul]at hmul;have d0:decide ((n:Int)<0)=false:=by simp
 have d1:decide ((9223372036854775807:Int)<n)=false:=by simp;omega
 have ho1:=ho.new t (.cells cs 206);have hg1:(w.alloc (.cells cs 206)).heap[w.heap.size]? =some (.cells cs 206 (0,0)):=(ho1.own t _ _ (yQ _ _ _ _)).2;have hxx:∀j u,q.yV[j]? =some u→(w.alloc (.cells cs 206)).cell? (((zc gx 0):Addr).add j)=some u:=fun j u hj=>by rw[add_plain,zy];exact xU (hx j u hj) _
 obtain⟨k,hk⟩:∃k,k=Nat.min 1 n:=⟨_,rfl⟩;have hk1:k≤1:=by rw[hk];exact Nat.min_le_left _ _
 have hkn:k≤n:=by rw[hk];exact Nat.min_le_right _ _
 have hk0:k=0→n=0:=by
  intro e;rw[e]at hk;cases n with
  |zero=>rfl
  |succ n=>rw[show Nat.min 1 (n+1)=1 from Nat.min_eq_left (by omega)]at hk;omega
 have hlen:∀c,(yW Qu.yV (List.replicate c q)).length=c*3:=fun c=>by rw[ua Qu.len,zz]
 have hone:∀c,∀u∈yW Qu.yV (List.replicate c q),u.oneCell'=true:=fun c=>si Qu.one _;have hsub:∀(j:Nat) (u:Value),(yW Qu.yV (List.replicate k q))[j]? =some u→q.yV[j]? =some u:=fun j u hj=>by
  have:k=0∨k=1:=by omega
  rcases this with e|e
  ·rw[e]at hj;simp[yW]at hj
  ·rw[e,show List.replicate 1 q=[q]from rfl,vC,qp,zP]at hj;exact hj
 have hstart:kr Qu.yV w0 γ t 206 w.heap.size n q (.i k) ((w.alloc (.cells cs 206)).setRow w.heap.size (cs.toList.take 0++yW Qu.yV (List.replicate k q)++cs.toList.drop (0+(yW Qu.yV (List.replicate k q)).length)).toArray):=by
  refine⟨k,_,_,rfl,hkn,hk0,ho1.row (yQ _ _ _ _) _,yQ _ _ _ _,?_,?_,fun j hj=>(yO _ _ _ hj).trans (yO _ _ _ hj)⟩
  ·simp only[zH,zr,ya,zE,hlen,yp];omega
  ·have:=fk (f:=Qu.yV) (cur:=cs.toList) (q:=q) (c:=0) (k:=k) (by simp[qp]) (hlen k) (by omega) (cs.toList.drop (0+(yW Qu.yV (List.replicate k q)).length));simp only[Nat.zero_mul,zy]at this⊢;exact this
 have hcp:=kc (P:=Tryz.prog) (w.alloc (.cells cs 206)) 203 203 3 206 3 w.heap.size 0 n n (zc gx 0) 1 1 cs 206 (yW Qu.yV (List.replicate k q)) Tryz.underlying203 (jm Tryz.bL) hg1 hk (by rw[hlen]) (fun j u hj=>hxx j u (hsub j u hj)) (by rw[hlen];omega) (hone k);generalize(w.alloc _).setRow _ _=wS at*;have HS:=I hstart;have HL:=I hlen;have HH:=I hone;clear hstart ho1 ho hx hxx hsub hg1 hcs hk;go_in;go_wp2_with fail;refine hmul.mono ?_;rintro e w' ⟨rfl,rfl⟩;go_wp2_with fail;generalize hg:w.heap.size=g at*;clear hmk hmul hg hcp;go_loopw [8] (fun i wr=>kr Qu.yV w0 γ t 206 g n q i wr) (fun i _=>n-(intOf i).toNat);case atStart=>exact HS.out
 case round=>
  obtain⟨c,γ1,cur,rfl,hc,hc0,ho,hg,hsz,htk,hf⟩:=hrel;by_cases hlt:c<n
  ·have dl:decide ((c:Int)<n)=true:=by simpa using hlt
   have dl2:decide ((0:Int)≤c)=true:=by simp
   have hcn:(c:Int)≤n:=by omega
   have h0c:(0:Int)≤c:=by omega
   have hgw:=(ho.drew.own t _ _ hg).2;obtain⟨k2,hk2⟩:∃k2,k2=Nat.min c (n-c):=⟨_,rfl⟩;have hk2c:k2≤c:=by rw[hk2];exact Nat.min_le_left _ _
   have hk2n:k2≤n-c:=by rw[hk2];exact Nat.min_le_right _ _
   have hk2p:0<k2:=by rw[hk2];exact Nat.lt_min.2 ⟨by omega,by omega⟩
   have hsrc:∀(j:Nat) (u:Value),(yW Qu.yV (List.replicate k2 q))[j]? =some u→wr.drew.cell? (((zc g 0):Addr).add j)=some u:=fun j u hj=>by
    rw[add_plain,zy];refine ho.drew.cell hg ?_;have hjl:j<k2*3:=by rw[←HL.out k2];exact(zk.1 hj).1
    have e1:yW Qu.yV (List.replicate c q)=yW Qu.yV (List.replicate k2 q)++yW Qu.yV (List.replicate (c-k2) q):=by rw[←v8,yw];congr 2;omega
    have e2:(cur.toList.take (c*3))[j]? =some u:=by rw[htk,e1,zF (by rw[HL.out];exact hjl)];exact hj
    rw[zG,if_pos (by omega)]at e2;simpa using e2
   have hN:kr Qu.yV w0 γ t 206 g n q (.i ((c:Int)+k2)) (wr.drew.setRow g (cur.toList.take (c*3)++yW Qu.yV (List.replicate k2 q)++cur.toList.drop (c*3+(yW Qu.yV (List.replicate k2 q)).length)).toArray):=by refine⟨c+k2,_,_,by simp,by omega,by omega,ho.drew.row hg _,yQ _ _ _ _,?_,fk htk (HL.out k2) (by rw[yp];omega) _,fun j hj=>(yO _ _ _ hj).trans (hf j hj)⟩;simp only[zH,zr,ya,zE,HL.out,yp];omega
   have HN:=I hN;have HSZ:=I hsz;have hwr:IntKind.i64.wrap ((c:Int)+k2)=(c:Int)+k2:=by rw[IntKind.wrap_i64];omega
   clear hN ho htk hf hg hsz HS;go_wp2_with fail;refine yP.region [0,1,2,3,4,5,6] (.step 7 (.step 8 (.step 9 .done))) (fun w'=>True) (by kernel_rfl) (by kernel_rfl) (fun _ _ _ _ _ h=>h) trivial ?_;repeat
    refine Perm.xm rfl ?_ (fun w' hS=>?_) ?_;rotate_left
    ·(clear hS;go_simp;try with_reducible rfl)
    simp only[pt]
   refine Perm.xt ?_;refine yP.yY rfl (by rfl) ?_;refine yP.pF rfl fun K hK=>qO (.tmp 41) (.tmp 44) 203 rfl 206 3 Tryz.underlying203 (jm Tryz.bL) (g:=g) (off:=c*3) (dLen:=n-c) (dCap:=n-c) (ad:=(zc g 0)) (sLen:=c) (sCap:=n) (cur:=cur) (t:=206) (cs:=yW Qu.yV (List.replicate k2 q)) ?_ rfl hgw hk2 (by rw[HL.out]) hsrc (by rw[HL.out,HSZ.out];omega) (HH.out k2) (hK _ _ (fun _ h=>h) ?_)
   ·show Value.slice (if n=c then _ else _) _ _=_;rw[if_neg (by omega)]
   clear hk2;simp only[pt];repeat
    refine yP.xA rfl (by rfl) ?_ (fun w'=>?_) ?_;rotate_left
    ·(go_simp;try with_reducible rfl)
    simp only[pt]
   refine yP.xC ?_;go_wp2_with fail;go_roundw;case rel=>exact HN.out
   case measure=>simp[intOf];omega
  ·obtain rfl:c=n:=by omega
   have dl:decide ((c:Int)<c)=false:=by simp
   have HF:Hid (∃v γ',Ending.returned (.slice (zb g) c c)=.returned v∧Own w0 wr γ'∧yR γ' t 206 3 v c (yW Qu.yV (List.replicate c q))∧∀k,k≠t→γ' k=γ k):=I ⟨_,γ1,rfl,ho,⟨HL.out c,.inr ⟨g,c,cur,rfl,hg,zm _,by unfold maxLen;omega,hsz,htk⟩⟩,hf⟩;clear ho htk hf hg hsz HS;go_wp2_with fail;go_ret;exact HF.out
theorem PK(ho:Own w0 w γ)(t:Nat)(q:Nd)(gx n:Nat)(hn:n≤32)(hx:∀j u,q.yV[j]? =some u→w.cell? (zc gx j)=some u):Calls Tryz.prog 101 #[.slice (zb gx) 1 1,.i n] w fun e w'=>∃v γ',e=.returned v∧Own w0 w' γ'∧yR γ' t 210 3 v n (yW Nd.yV (List.replicate n q))∧∀k,k≠t→γ' k=γ k:=by
 obtain⟨cs,hcs,hmk⟩:=Y8 n (by omega) w;have hmul:=mul 1 n (by omega) (by omega) (by omega) w;rw[Nat.one_mul]at hmul;have d0:decide ((n:Int)<0)=false:=by simp
 have d1:decide ((9223372076854775807:Int)<n)=false:=by simp;omega
 have ho1:=ho.new t (.cells cs 210);have hg1:(w.alloc (.cells cs 210)).heap[w.heap.size]? =some (.cells cs 210 (0,0)):=(ho1.own t _ _ (yQ _ _ _ _)).2;have hxx:∀j u,q.yV[j]? =some u→(w.alloc (.cells cs 210)).cell? (((zc gx 0):Addr).add j)=some u:=fun j u hj=>by rw[add_plain,zy];exact xU (hx j u hj) _
 obtain⟨k,hk⟩:∃k,k=Nat.min 1 n:=⟨_,rfl⟩;have hk1:k≤1:=by rw[hk];exact Nat.min_le_left _ _
 have hkn:k≤n:=by rw[hk];exact Nat.min_le_right _ _
 have hk0:k=0→n=0:=by
  intro e;rw[e]at hk;cases n with
  |zero=>rfl
  |succ n=>rw[show Nat.min 1 (n+1)=1 from Nat.min_eq_left (by omega)]at hk;omega
 have hlen:∀c,(yW Nd.yV (List.replicate c q)).length=c*3:=fun c=>by rw[ua Nd.len,zz]
 have hone:∀c,∀u∈yW Nd.yV (List.replicate c q),u.oneCell'=true:=fun c=>si Nd.one _;have hsub:∀(j:Nat) (u:Value),(yW Nd.yV (List.replicate k q))[j]? =some u→q.yV[j]? =some u:=fun j u hj=>by
  have:k=0∨k=1:=by omega
  rcases this with e|e
  ·rw[e]at hj;simp[yW]at hj
  ·rw[e,show List.replicate 1 q=[q]from rfl,vC,qp,zP]at hj;exact hj
 have hstart:kr Nd.yV w0 γ t 210 w.heap.size n q (.i k) ((w.alloc (.cells cs 210)).setRow w.heap.size (cs.toList.take 0++yW Nd.yV (List.replicate k q)++cs.toList.drop (0+(yW Nd.yV (List.replicate k q)).length)).toArray):=by
  refine⟨k,_,_,rfl,hkn,hk0,ho1.row (yQ _ _ _ _) _,yQ _ _ _ _,?_,?_,fun j hj=>(yO _ _ _ hj).trans (yO _ _ _ hj)⟩
  ·simp only[zH,zr,ya,zE,hlen,yp];omega
  ·have:=fk (f:=Nd.yV) (cur:=cs.toList) (q:=q) (c:=0) (k:=k) (by simp[qp]) (hlen k) (by omega) (cs.toList.drop (0+(yW Nd.yV (List.replicate k q)).length));simp only[Nat.zero_mul,zy]at this⊢;exact this
 have hcp:=kc (P:=Tryz.prog) (w.alloc (.cells cs 210)) 207 207 3 210 3 w.heap.size 0 n n (zc gx 0) 1 1 cs 210 (yW Nd.yV (List.replicate k q)) Tryz.underlying207 (jm Tryz.bM) hg1 hk (by rw[hlen]) (fun j u hj=>hxx j u (hsub j u hj)) (by rw[hlen];omega) (hone k);generalize(w.alloc _).setRow _ _=wS at*;have HS:=I hstart;have HL:=I hlen;have HH:=I hone;clear hstart ho1 ho hx hxx hsub hg1 hcs hk;go_in;go_wp2_with fail;refine hmul.mono ?_;rintro e w' ⟨rfl,rfl⟩;go_wp2_with fail;generalize hg:w.heap.size=g at*;clear hmk hmul hg hcp;go_loopw [8] (fun i wr=>kr Nd.yV w0 γ t 210 g n q i wr) (fun i _=>n-(intOf i).toNat);case atStart=>exact HS.out
 case round=>
  obtain⟨c,γ1,cur,rfl,hc,hc0,ho,hg,hsz,htk,hf⟩:=hrel;by_cases hlt:c<n
  ·have dl:decide ((c:Int)<n)=true:=by simpa using hlt
   have dl2:decide ((0:Int)≤c)=true:=by simp
   have hcn:(c:Int)≤n:=by omega
   have h0c:(0:Int)≤c:=by omega
   have hgw:=(ho.drew.own t _ _ hg).2;obtain⟨k2,hk2⟩:∃k2,k2=Nat.min c (n-c):=⟨_,rfl⟩;have hk2c:k2≤c:=by rw[hk2];exact Nat.min_le_left _ _
   have hk2n:k2≤n-c:=by rw[hk2];exact Nat.min_le_right _ _
   have hk2p:0<k2:=by rw[hk2];exact Nat.lt_min.2 ⟨by omega,by omega⟩
   have hsrc:∀(j:Nat) (u:Value),(yW Nd.yV (List.replicate k2 q))[j]? =some u→wr.drew.cell? (((zc g 0):Addr).add j)=some u:=fun j u hj=>by
    rw[add_plain,zy];refine ho.drew.cell hg ?_;have hjl:j<k2*3:=by rw[←HL.out k2];exact(zk.1 hj).1
    have e1:yW Nd.yV (List.replicate c q)=yW Nd.yV (List.replicate k2 q)++yW Nd.yV (List.replicate (c-k2) q):=by rw[←v8,yw];congr 2;omega
    have e2:(cur.toList.take (c*3))[j]? =some u:=by rw[htk,e1,zF (by rw[HL.out];exact hjl)];exact hj
    rw[zG,if_pos (by omega)]at e2;simpa using e2
   have hN:kr Nd.yV w0 γ t 210 g n q (.i ((c:Int)+k2)) (wr.drew.setRow g (cur.toList.take (c*3)++yW Nd.yV (List.replicate k2 q)++cur.toList.drop (c*3+(yW Nd.yV (List.replicate k2 q)).length)).toArray):=by refine⟨c+k2,_,_,by simp,by omega,by omega,ho.drew.row hg _,yQ _ _ _ _,?_,fk htk (HL.out k2) (by rw[yp];omega) _,fun j hj=>(yO _ _ _ hj).trans (hf j hj)⟩;simp only[zH,zr,ya,zE,HL.out,yp];omega
   have HN:=I hN;have HSZ:=I hsz;have hwr:IntKind.i64.wrap ((c:Int)+k2)=(c:Int)+k2:=by rw[IntKind.wrap_i64];omega
   clear hN ho htk hf hg hsz HS;go_wp2_with fail;refine yP.region [0,1,2,3,4,5,6] (.step 7 (.step 8 (.step 9 .done))) (fun w'=>True) (by kernel_rfl) (by kernel_rfl) (fun _ _ _ _ _ h=>h) trivial ?_;repeat
    refine Perm.xm rfl ?_ (fun w' hS=>?_) ?_;rotate_left
    ·(clear hS;go_simp;try with_reducible rfl)
    simp only[pt]
   refine Perm.xt ?_;refine yP.yY rfl (by rfl) ?_;refine yP.pF rfl fun K hK=>qO (.tmp 41) (.tmp 44) 207 rfl 210 3 Tryz.underlying207 (jm Tryz.bM) (g:=g) (off:=c*3) (dLen:=n-c) (dCap:=n-c) (ad:=(zc g 0)) (sLen:=c) (sCap:=n) (cur:=cur) (t:=210) (cs:=yW Nd.yV (List.replicate k2 q)) ?_ rfl hgw hk2 (by rw[HL.out]) hsrc (by rw[HL.out,HSZ.out];omega) (HH.out k2) (hK _ _ (fun _ h=>h) ?_)
   ·show Value.slice (if n=c then _ else _) _ _=_;rw[if_neg (by omega)]
   clear hk2;simp only[pt];repeat
    refine yP.xA rfl (by rfl) ?_ (fun w'=>?_) ?_;rotate_left
    ·(go_simp;try with_reducible rfl)
    simp only[pt]
   refine yP.xC ?_;go_wp2_with fail;go_roundw;case rel=>exact HN.out
   case measure=>simp[intOf];omega
  ·obtain rfl:c=n:=by omega
   have dl:decide ((c:Int)<c)=false:=by simp
   have HF:Hid (∃v γ',Ending.returned (.slice (zb g) c c)=.returned v∧Own w0 wr γ'∧yR γ' t 210 3 v c (yW Nd.yV (List.replicate c q))∧∀k,k≠t→γ' k=γ k):=I ⟨_,γ1,rfl,ho,⟨HL.out c,.inr ⟨g,c,cur,rfl,hg,zm _,by unfold maxLen;omega,hsz,htk⟩⟩,hf⟩;clear ho htk hf hg hsz HS;go_wp2_with fail;go_ret;exact HF.out
theorem held(n:Nat)(hn:n≤32)(w:World):Calls Tryz.prog 100 #[.i n] w fun e w'=>e=.returned (.i n)∧w=w':=by
 have h1:(n:Int)≤32:=by omega
 have h0:(0:Int)≤n:=by omega
 go_in;go_wp2_with fail;all_goals
  first
  |(go_ret;exact⟨rfl,rfl⟩)
  |(obtain rfl:n=0:=by omega
    go_ret;exact⟨rfl,rfl⟩)
end
end
end Go.Proofs.YtkmamlifgbocgaaGreat
