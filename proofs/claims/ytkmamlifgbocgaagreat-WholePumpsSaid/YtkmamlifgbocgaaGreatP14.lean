/- What the program's code does, as contracts, and what follows of it, part 14: for the law's proof. -/
import Derived.Test.YtkmamlifgbocgaaGreatP00
import Derived.Test.YtkmamlifgbocgaaGreatP13
import Derived.Shelf.RegionOpen
import Derived.Laws.RangeAny
import Derived.Laws.Runes
set_option linter.unusedVariables false
set_option linter.unusedSimpArgs false
set_option maxRecDepth 100000
set_option maxHeartbeats 16000000
namespace Go.Proofs.YtkmamlifgbocgaaGreat
section
open Go.RowKit Go.Shelf Go.WideShapes
attribute [local go_sem ↓] cF cZ bi bj
attribute [local irreducible] xu LD ST
attribute [local go_sem] Oper.semAt_some
theorem YD(g c n:Nat)(hc:136≤c)(hn:1≤n)(w:World):SeqStopsK Fence.wide n Tryz.prog 280 #[.p w.heap.size,.p (w.heap.size+1)] (fun _:Unit=>#[.slice (zb g) 136 136]) (Zv w.heap.size (w.heap.size+1)) (fun ys=>ys=[()]) (fun _=>True) 1 ((w.alloc (.cells #[.slice (zb g) 136 c] 245)).alloc (.cells #[.i 136] 3)):=by
 obtain⟨w2,hw2⟩:∃w2,(w.alloc (.cells #[.slice (zb g) 136 c] 245)).alloc (.cells #[.i 136] 3)=w2:=⟨_,rfl⟩;have hz:w2.heap.size=w.heap.size+2:=by rw[←hw2];simp
 have c0:=Boxed.new w 245 (.slice (zb g) 136 c);have c1:=Boxed.new (w.alloc (.cells #[.slice (zb g) 136 c] 245)) 3 (.i 136);have c0':=(c0.alloc (.cells #[.i 136] 3)).cell;have c1':=c1.cell;rw[hw2]at c0' c1'⊢;rw[World.size_alloc]at c1';intro l J Jx W hW hJ hJx hY h0;exact Ve g c n l _ _ hc hn J Jx hY W hJ ((hW.cell (p:=(zc w.heap.size 0)) (by show w.heap.size<_;omega)).trans c0') ((hW.cell (p:=(zc (w.heap.size+1) 0)) (by show w.heap.size+1<_;omega)).trans c1') h0
def fE(w:World)(gp:Nat)(P:Obj)(W:World):Prop:=(∃f,W.heap[w.heap.size]? =some (.cells (xu 25 f) 349 (0,0)))∧W.heap[gp]? =some P∧Below w.heap.size w W
theorem fE.from{w:World}{gp B:Nat}{P:Obj}(hB:w.heap.size<B)(hg:gp<B):OwnFrom B (fun(_:List Unit) W=>fE w gp P W):=by
 intro s W W' row ⟨⟨f,h1⟩,h2,h3⟩ hgr hr;refine⟨⟨f,(hgr.block _ (zI.1 h1).1 fun e=>?_).trans h1⟩,(hgr.block _ (zI.1 h2).1 fun e=>?_).trans h2,?_⟩
 ·have:=(hr _ e.symm).1;omega
 ·have:=(hr _ e.symm).1;omega
 ·exact h3.grown hgr h3.size fun k e=>by have:=(hr k e).1;omega
theorem fE.own{w W:World}{gp:Nat}{P:Obj}(h:fE w gp P W)(hg:w.heap.size<gp):∃f γ,Own w W γ∧γ 1=some (w.heap.size,.cells (xu 25 f) 349 (0,0))∧γ 2=some (gp,P):=by
 obtain⟨⟨f,h1⟩,h2,h3⟩:=h;refine⟨f,put (put (fun _=>none) 1 w.heap.size (.cells (xu 25 f) 349 (0,0))) 2 gp P,⟨h3,fun t g o ht=>?_,fun t t' g o o' ht ht'=>?_⟩,(yO _ _ _ (by omega)).trans (yQ _ _ _ _),yQ _ _ _ _⟩
 ·by_cases e:t=2
  ·subst e;rw[yQ]at ht;cases ht;exact⟨by omega,h2⟩
  ·rw[yO _ _ _ e]at ht;by_cases e1:t=1
   ·subst e1;rw[yQ]at ht;cases ht;exact⟨by omega,h1⟩
   ·rw[yO _ _ _ e1]at ht;cases ht
 ·have key:∀t o,put (put (fun _=>none) 1 w.heap.size (.cells (xu 25 f) 349 (0,0))) 2 gp P t=some (g,o)→(t=2∧g=gp)∨(t=1∧g=w.heap.size):=fun t o ht=>by
   by_cases e:t=2
   ·subst e;rw[yQ]at ht;cases ht;exact .inl ⟨rfl,rfl⟩
   ·rw[yO _ _ _ e]at ht;by_cases e1:t=1
    ·subst e1;rw[yQ]at ht;cases ht;exact .inr ⟨rfl,rfl⟩
    ·rw[yO _ _ _ e1]at ht;cases ht
  rcases key t o ht with⟨a,b⟩|⟨a,b⟩<;>rcases key t' o' ht' with⟨a',b'⟩|⟨a',b'⟩<;>omega
theorem Nn{w:World}{g off cap:Nat}{l:List Int}(hr:Reads w 1 (.slice (some (zc g off)) 112 cap) 112 (wv l)):Calls Tryz.prog 204 #[.slice (some (zc g off)) 112 cap] w fun e w'=>(∃s:ByteArray,e=.returned (.string s)∧s.size=32)∧Below w.heap.size w w':=by
 obtain⟨w1,hw1⟩:∃w1,w.alloc (.cells (xu 25 fun _=>0) 349)=w1:=⟨_,rfl⟩;have o1:Own w w1 (put (fun _=>none) 1 w.heap.size (.cells (xu 25 fun _=>0) 349 (0,0))):=by rw[←hw1];exact(Own.start w).new 1 _
 have r1:Reads w1 1 (.slice (some (zc g off)) 112 cap) 112 (wv l):=by rw[←hw1];exact hr.keep fun p u hp=>xU hp _
 have hpad:=Td r1 o1 2;refine(callsIn_wide (n:=10)).1 ?_;have hro:Fence.wide.round=none:=rfl;have h1:1≤10:=by omega
 refine callsIn_of_wp_marks Tryz.func204 rfl trivial ?_ hro;simp only[Tryz.ntmps204,zH,zM,zY,Nat.reduceAdd,Nat.reduceSub,zV,zW,yj,zZ,zD,zT];gi_wp2_with fail;refine⟨trivial,(callsIn_wide.2 hpad).mono ?_⟩;rintro e w2 ⟨g2,c2,γ2,l2,rfl,o2,s2,k2⟩;gi_wp2_with fail;refine⟨trivial,(U8 9 g2 c2 w2).mono ?_⟩;rintro e w' ⟨rfl,rfl⟩;gi_wp2_with fail;have hst:=YD g2 c2 9 (by obtain⟨_,hx⟩:=s2;rcases hx with⟨hx,_⟩|⟨_,_,_,hx,_,hx2,_⟩<;>cases hx;exact hx2) (by omega) w2;obtain⟨gp,P2,hp2,hgp⟩:∃gp P2,γ2 2=some (gp,P2)∧gp=g2:=by
  obtain⟨_,hx⟩:=s2;rcases hx with⟨hx,_⟩|⟨gq,cp,cur,hx,hq,_⟩
  ·cases hx
  ·cases hx;exact⟨_,_,hq,rfl⟩
 subst hgp;have b1:=(k2 1 (by omega)).trans (yQ _ _ _ _);have hne:w.heap.size≠gp:=fun e=>by subst e;have:=o2.inj _ _ _ _ _ b1 hp2;omega
 have hlt1:=o2.lt b1;have hlt2:=o2.lt hp2;have hge2:=(o2.own _ _ _ hp2).1;obtain⟨w3,hw3⟩:∃w3,(w2.alloc (.cells #[.slice (zb gp) 136 c2] 245)).alloc (.cells #[.i 136] 3)=w3:=⟨_,rfl⟩;have o3:Own w w3 γ2:=by rw[←hw3];exact o2.xh (((Below.refl _ _).alloc (zm _) _).alloc (by simp) _)
 have hz3:w3.heap.size=w2.heap.size+2:=by rw[←hw3];simp
 have hI0:fE w gp P2 w3:=⟨⟨_,(o3.own _ _ _ b1).2⟩,(o3.own _ _ _ hp2).2,o3.below⟩;rw[hw3]at hst⊢;have hcells:∀W,fE w gp P2 W→∀j,j<136→∃x,W.cell? (zc gp j)=some (.int .u8 x):=by
  intro W hW j hj;obtain⟨f,γ,hO,q1,q2⟩:=hW.own (by omega);obtain⟨_,hx⟩:=s2;rcases hx with⟨hx,_⟩|⟨gq,cp,cur,hx,hq,x3,x4,x5,x6⟩
  ·cases hx
  ·cases hx;rw[hp2]at hq;cases hq;have hl:(wv l2).length=136:=by rename_i hl0;simpa using hl0
   refine⟨l2.getD j 0,hO.cell q2 ?_⟩;have e1:(cur.toList.take (136*1))[j]? =(wv l2)[j]? :=by rw[x6]
   rw[zG,if_pos (by omega)]at e1;rw[tG]at hl;have:(wv l2)[j]? =some (.int .u8 (l2.getD j 0)):=by simp[wv,zn,show j<l2.length by omega]
   rw[this]at e1;simpa using e1
 clear s2 hpad hr r1;refine wpIn_rangeFunc_ownG hro h1 (gf:=280) rfl trivial (enters_of Tryz.func280 (by kernel_rfl) rfl) hst (fun h k=>⟨k.1.trans h.1,k.2.trans h.2⟩) (fun W l o o' hl _ _ _=>?kb) (Below.refl _ _) (fun _=>rfl) (fun _ W=>fE w gp P2 W∧w3.heap.size≤W.heap.size) (fun _ _ _=>False) ((fE.from (by omega) (by omega)).and fun _ _ _ _ hs hg _=>yn hs hg.size) (fun _ _ _ _ _ hs _ _=>hs) ⟨hI0,zm _⟩ (fun _=>{tmps:=#[.slice (some (zc g off)) 112 cap,undef,.string ⟨#[]⟩,.p w.heap.size,.slice (zb gp) 136 136,undef,undef,undef,undef,.slice (some (zc g off)) 112 cap,.slice (zb gp) 136 c2,.func (.func 280) #[] #[.p w2.heap.size,.p (w2.heap.size+1)],.slice (zb gp) 136 136,undef,undef,undef,undef,undef,undef,undef,undef,undef,undef,undef,undef,undef,undef,undef,undef,undef,undef,undef,undef,undef,undef,undef,undef,undef,undef,undef,undef,undef,undef,undef,undef,undef,undef,undef,undef,undef,undef,undef,undef],defers:=[]}) ?assign ?body ?done ?stop
 case kb=>
  have hk:∀k,k≠l→(W.putObj l o').heap[k]? =W.heap[k]? :=fun k hk=>by simp[World.putObj,yf,Ne.symm hk]
  exact⟨hk _ (by omega),hk _ (by omega)⟩
 case assign=> intro l x W K hK;gi_wp2;exact hK
 case body=>
  intro l pre x W hIw hlt;obtain⟨hI,hW3⟩:=hIw;gi_wp2_with fail;gi_loopw [5] (fun i wr=>∃j:Nat,i=.i (8*(j:Int))∧j≤17∧fE w gp P2 wr∧KeepsFrom w3.heap.size W wr∧Zv w2.heap.size (w2.heap.size+1) W wr) (fun i _=>200-(intOf i).toNat);case atStart=>exact⟨0,rfl,by omega,hI,KeepsFrom.refl _ _,⟨rfl,rfl⟩⟩
  case round=>
   obtain⟨j,rfl,hj,hI',hkf,hkp⟩:=hrel;obtain⟨f,γ,hO,q1,q2⟩:=hI'.own (by omega);by_cases hl:j<17
   ·have dl:decide (8*(j:Int)<136)=true:=by simp;omega
    have HO:Hid (Own w wr γ):=I hO;have HD:Hid (Own w wr.drew γ):=I hO.drew;have HC:Hid (∀V,Own w V γ→V.cell? (zc w.heap.size j)=some (.int .u64 (f j))):=I fun V hV=>hV.cell q1 (vz 25 f (by omega));have hnum:=Tc (w:=wr.drew) gp (8*j) 8 (136-8*j) (by omega) (fun i hi=>hcells wr hI' (8*j+i) (by omega)) (by omega);have hfz:=hO.drew.free q1 j;have hcl:=hO.drew.cell q1 (vz 25 f (i:=j) (by omega));have HN:=I hnum;have hq:(8*(j:Int)).tdiv 8=j:=Int.mul_tdiv_cancel_left _ (by omega);have h25:(j:Int)<25:=by omega
    have m1:0≤8*(j:Int)+8:=by omega
    have m2:8*(j:Int)≤max (8*(j:Int)+8) 0:=by omega
    have m3:(8*(j:Int)).toNat=8*j:=by omega
    have m4:(8*(j:Int)+8).toNat=8*j+8:=by omega
    have m5:(136=8*j)=False:=by simp;omega
    have m6:8*j+8-8*j=8:=by omega
    have hwj:IntKind.i64.wrap (j:Int)=j:=by rw[IntKind.wrap_i64];omega
    have hw8:IntKind.i64.wrap (8*(j:Int)+8)=8*(j:Int)+8:=by rw[IntKind.wrap_i64];omega
    have h136:8*(j:Int)+8≤136:=by omega
    have h0:0≤8*(j:Int):=by omega
    clear hnum hO;gi_wp2_with fail;refine yP.Yc [0,1,2,3,4,5,6,7,8] (.step 9 (.step 10 (.step 11 (.step 12 .done)))) (fun w'=>Own w w' γ) (by kernel_rfl) (by kernel_rfl) (by rintro⟨_,_,hlo⟩;exact hlo) (by kernel_rfl) (fun _ _ _ _ _ h=>h) HD.out ?_;repeat
     refine Perm.xm rfl ?_ (fun w' hS=>?_) ?_;rotate_left
     ·(have q:=HC.out _ hS;clear hS;go_simp;try with_reducible rfl)
     simp only[pt]
    refine Perm.xm rfl ?_ (fun w' hS=>?_) ?_;rotate_left
    ·have q:=HC.out _ hS;clear hS;go_simp;rw[if_pos (by omega)]
    simp only[pt];refine Perm.xt ?_;refine yP.yY rfl (by rfl) ?_;refine yP.xJ rfl 266 _ _ rfl (by kernel_rfl) _ rfl (HN.out.mono ?_);rintro e w5 ⟨⟨r,rfl⟩,rfl⟩;refine⟨_,rfl,fun _ h=>h,?_⟩;simp only[pt];repeat
     refine yP.xA rfl (by rfl) ?_ (fun w'=>?_) ?_;rotate_left
     ·(go_simp;try with_reducible rfl)
     simp only[pt]
    refine yP.yY rfl (by rfl) ?_;refine yP.rP rfl (.pointer (some (zc w.heap.size j))) (by go_simp;try with_reducible rfl) ?_;simp only[pt];refine yP.yY rfl (by rfl) ?_;refine yP.xy rfl .skip undef (.inr ⟨rfl,rfl⟩) (w':=wr.drew.setCell (zc w.heap.size j) (.int .u64 _)) (by go_simp;try with_reducible rfl) (Perm.xx (by kernel_rfl)) ?_;simp only[pt];refine yP.xC ?_;generalize bits .xor .u64 (f j) r=x;have o5:=HD.out.set q1 j (.int .u64 x);rw[qY 25 f (by omega)]at o5;have HF:Hid (fE w gp P2 (wr.drew.setCell (zc w.heap.size j) (.int .u64 x))∧KeepsFrom w3.heap.size W (wr.drew.setCell (zc w.heap.size j) (.int .u64 x))∧Zv w2.heap.size (w2.heap.size+1) W (wr.drew.setCell (zc w.heap.size j) (.int .u64 x))):=by refine I ⟨⟨⟨_,(o5.own 1 _ _ (yQ _ _ _ _)).2⟩,(o5.own 2 _ _ ((yO _ _ _ (by omega)).trans q2)).2,o5.below⟩,hkf.trans (((KeepsOthers.drew wr).from _).trans ((KeepsOthers.setCell wr.drew _ _).from _)),(Below.heap_setCell wr.drew _ _ _ (by show w2.heap.size≠w.heap.size;omega)).trans hkp.1,(Below.heap_setCell wr.drew _ _ _ (by show w2.heap.size+1≠w.heap.size;omega)).trans hkp.2⟩
    clear o5 HO HD HC HN hfz hcl;gi_wp2_with fail;exact⟨⟨j+1,by simp;omega,by omega,HF.out⟩,by simp[intOf];omega⟩
   ·have dl:decide (8*(j:Int)<136)=false:=by simp;omega
    have l1:=sS hO q1;have HH:Hid (∀f2 V,Below wr.heap.size wr V→∃V2,(ST 349 (.p w.heap.size) (.agg (xu 25 f2))).run Tryz.prog V=.ok () V2∧fE w gp P2 V2∧KeepsFrom w3.heap.size W V2∧Zv w2.heap.size (w2.heap.size+1) W V2):=I fun f2 V hV=>by
     obtain⟨s,o5⟩:=sU f2 (hO.xh hV) q1;have hb2:=hO.lt q1;have hsz:wr.heap.size≤(V.setRow w.heap.size (xu 25 f2)).heap.size:=yn hV.size (by simp);have hat:∀k o,k≠w.heap.size→wr.heap[k]? =some o→(V.setRow w.heap.size (xu 25 f2)).heap[k]? =some o:=fun k o hk ho=>(setRow_other V _ k _ hk).trans ((hV.block k (zI.1 ho).1).trans ho);have hin:∀k,k≠w.heap.size→k<wr.heap.size→(V.setRow w.heap.size (xu 25 f2)).heap[k]? =wr.heap[k]? :=fun k hk hl=>(setRow_other V _ k _ hk).trans (hV.block k hl);have hws:w2.heap.size+1<wr.heap.size:=by have:=hkf.size;have:=hW3;omega
     exact⟨_,s,⟨⟨_,(o5.own 1 _ _ (yQ _ _ _ _)).2⟩,(o5.own 2 _ _ ((yO _ _ _ (by omega)).trans q2)).2,o5.below⟩,hkf.trans ⟨hsz,fun k o hB hk _=>hat k o (by omega) hk⟩,(hin _ (by omega) (by omega)).trans hkp.1,(hin _ (by omega) (by omega)).trans hkp.2⟩
    clear hO;gi_wp2_with fail;refine⟨trivial,(CallsIn.inRound l (callsIn_wide.2 (V6 f))).mono ?_⟩;rintro e w5 ⟨⟨f2,rfl⟩,hb⟩;obtain⟨V2,s2,hex⟩:=HH.out f2 w5 hb;replace hex:=I hex;clear HH hb l1;gi_wp2_with fail;exact⟨hex.out.2.1,hex.out.2.2,hex.out.1,yn hW3 hex.out.2.1.size⟩
 case done=>
  rintro D ys W hD rfl ⟨hI,hW3⟩ hK;obtain⟨f,γ,hO,q1,q2⟩:=hI.own (by omega);have hDl:=(zI.1 hK).1;have hc:∀V,Below W.heap.size W V→∀i:Nat,i<25→V.cell? (zc w.heap.size i)=some (.int .u64 (f i)):=fun V hV i hi=>(hV.cell (p:=(zc w.heap.size i)) (hO.lt q1)).trans (hO.cell q1 (vz 25 f hi));have hB:Below w.heap.size w W:=hO.below;clear hO q1 q2 hI;gi_wp2_with fail;refine wpIn_wide.2 ?_;go_loopw [6,33] (fun v i wr=>∃(a:Nat) (γ':U) (l:List Int),i=.i a∧a≤4∧Own W wr γ'∧yR γ' 1 5 1 v (8*a) (wv l)) (fun _ i _=>4-(intOf i).toNat);case atStart=>exact⟨0,fun _=>none,[],rfl,by omega,Own.start W,yR.nil _ _ _ _⟩
  case round=>
   obtain⟨a,γ',l,rfl,ha,o,s⟩:=hrel;by_cases hl:a<4
   ·have dl:decide ((a:Int)<4)=true:=by simp;omega
    have ci:=hc wr o.below a (by omega);go_wp2_with fail;go_loopw [6,36] (fun v i wr=>∃(b:Nat) (γ':U) (l:List Int),i=.i b∧b≤8∧Own W wr γ'∧yR γ' 1 5 1 v (8*a+b) (wv l)) (fun _ i _=>8-(intOf i).toNat);case atStart=>exact⟨0,γ',l,rfl,by omega,o,s⟩
    case round=>
     clear o s ci;obtain⟨b,γ',l,rfl,hb,o,s⟩:=hrel;by_cases hlb:b<8
     ·have dlb:decide ((b:Int)<8)=true:=by simp;omega
      have hcb:=hc _ o.below a (by omega);have HO:Hid (∀x,Own W (wr.alloc (.cells #[.int .u8 x] 5)) γ'):=I fun x=>(kS o x).1;have HR:Hid (∀x,Reads (wr.alloc (.cells #[.int .u8 x] 5)) 1 (.slice (zb wr.heap.size) 1 1) 1 (wv [x])):=I fun x=>(kS o x).2;have HS:=I s;clear o s;have h25:(a:Int)<25:=by omega
      have hsb:(8*(b:Int)<0)=False:=by simp;omega
      go_wp2_with (at_builtin;refine xG rfl (.tmp 39) (.tmp 47) 245 rfl 5 _ 1 1 Tryz.underlying245 Tryz.eF rfl (by decide) (HO.out _) HS.out rfl (HR.out _) rfl ?_ ?_ ?_)
      ·unfold maxLen;omega
      ·omega
      intro A' cap' w5 γ5 hA5 o5 s5 k5;have HF:Hid (∃γ' l,Own W w5 γ'∧yR γ' 1 5 1 (.slice A' (8*a+b+1) cap') (8*a+(b+1)) (wv l)):=by
       refine I ⟨γ5,l++[f a/2^(8*b)%256],o5,?_⟩;rw[←Nat.add_assoc];have e:wv l++wv [f a/2^(8*b)%256]=wv (l++[f a/2^(8*b)%256]):=by simp[wv]
       rw[←e];exact s5
      clear o5 s5 k5 hA5 HO HR HS;go_wp2_with fail;obtain⟨γ7,l7,o7,s7⟩:=HF.out;exact⟨⟨b+1,γ7,l7,by simp,by omega,o7,s7⟩,by simp[intOf];omega⟩
     ·obtain rfl:b=8:=by omega
      have dlb:decide (((8:Nat):Int)<8)=false:=by simp
      have HF:=I o;have HS:=I s;clear o s;go_wp2_with fail;exact⟨⟨a+1,γ',l,by simp,by omega,HF.out,by rw[Nat.mul_add];exact HS.out⟩,by simp[intOf];omega⟩
   ·obtain rfl:a=4:=by omega
    have dl:decide (((4:Nat):Int)<4)=false:=by simp
    obtain⟨g5,cap5,cur5,rfl,hg5,-,-,-,-,-,hcl⟩:=s.gJ o (by omega);have hl:l.length=32:=by have:=s.1;rw[tG]at this;omega
    have hcv:=run_convert_bytes_arg (P:=Tryz.prog) wr 245 5 Tryz.underlying245 Tryz.underlying5 g5 0 (8*4) cap5 l hl (fun i hi=>by
     rw[zy];have:=hcl i (.int .u8 (l.getD i 0)) (by simp[wv,zn,show i<l.length by omega]);have e0:((zc g5 0):Addr).add i=(zc g5 i):=by rw[Go.WideShapes.add_plain,zy]
     rw[e0]at this;exact this) 9 Tryz.underlying9;have HO:=I o;have HL:=I hl;clear o s hg5 hcl hl;go_wp2_with fail;gi_wp2;have hKw:wr.heap[D]? =some (.deferred (some [])):=(HO.out.below.block D hDl).trans hK;refine⟨by simp,.inl ⟨_,_,rfl,run_takeDeferred hKw,?_⟩⟩;refine⟨_,results_tmp rfl _ _ _,⟨_,rfl,by rw[strOfNums_size];exact HL.out⟩,?_⟩;exact(hB.trans (HO.out.below.mono hB.size)).trans (belowK_b (w:=w) (zm _) wr D _ _ (by omega) hKw rfl rfl)
 case stop=> rintro D c pre W _ _ h _;exact h.elim
end
section
open Go.RowKit Go.Shelf Go.WideShapes
def pre(L:List (Int×Int))(n:Nat):Int:=((L.take n).map Prod.snd).sum
structure eD (L:List (Int×Int)):Prop where
 len:L.length≤16
 ok:∀x∈L,1≤x.2∧x.2≤16
theorem dP{L:List (Int×Int)}{n:Nat}{x:Int×Int}(h:L[n]? =some x):pre L (n+1)=pre L n+x.2:=by unfold pre;rw[yk,h];simp
theorem pM{L:List (Int×Int)}(h:eD L):∀n:Nat,n≤L.length→(n:Int)≤pre L n∧pre L n≤16*n
 |0,_=>by simp[pre]
 |n+1,hn=>by
  have ih:=pM h n (by omega)
  have hx:L[n]? =some L[n]:=zl (by omega)
  have:=h.ok L[n] (List.getElem_mem _)
  rw[dP hx]
  omega
def sg(X:Nat→Prop)(W W':World):Prop:=W.heap.size≤W'.heap.size∧∀k o,¬X k→W.heap[k]? =some o→o.isCells=true→W'.heap[k]? =some o
theorem XR{W:World}{k o:Nat}{v:Value}(hc:W.cell? (zc k o)=some v):∃z,W.heap[k]? =some z∧z.isCells=true:=by
 simp only[World.cell?]at hc;rcases hq:W.heap[k]? with _|z
 ·simp[hq]at hc
 ·rw[hq]at hc;cases z<;>simp[Obj.isCells]at hc⊢
theorem sg.refl(X:Nat→Prop)(W:World):sg X W W:=⟨zm _,fun _ _ _ h _=>h⟩
theorem sg.trans{X:Nat→Prop}{A B C:World}(h:sg X A B)(k:sg X B C):sg X A C:=⟨yn h.1 k.1,fun i o hx ho hc=>k.2 i o hx (h.2 i o hx ho hc) hc⟩
theorem sg.put(X:Nat→Prop)(W:World)(l:Nat)(o o':Obj)(h:W.heap[l]? =some o)(hc:o.isCells=false):sg X W (W.putObj l o'):=by
 refine⟨by simp[World.putObj],fun k u _ hu hcu=>?_⟩;by_cases hk:k=l
 ·subst hk;rw[h]at hu;cases hu;rw[hc]at hcu;cases hcu
 ·simpa[World.putObj,yf,Ne.symm hk]using hu
theorem sg.below{X:Nat→Prop}{W W':World}(h:Below W.heap.size W W'):sg X W W':=⟨h.size,fun k _ _ hu _=>(h.block k (zI.1 hu).1).trans hu⟩
theorem sg.setCell{X:Nat→Prop}(W:World)(g i:Nat)(v:Value)(hg:X g):sg X W (W.setCell (zc g i) v):=⟨by simp,fun k _ hx hu _=>(Below.heap_setCell W _ _ _ (by show k≠g;intro e;subst e;exact hx hg)).trans hu⟩
theorem sg.cell{X:Nat→Prop}{W W':World}(h:sg X W W'){k o:Nat}{v:Value}(hx:¬X k)(hc:W.cell? (zc k o)=some v):W'.cell? (zc k o)=some v:=by obtain⟨z,hz,hq⟩:=XR hc;simp only[World.cell?,h.2 k z hx hz hq,hz]at hc⊢;exact hc
def ss(L:List (Int×Int))(gs:Nat)(W:World):Prop:=∀i x,L[i]? =some x→W.cell? (zc gs (i*2))=some (.i x.1)∧W.cell? (zc gs (i*2+1))=some (.i x.2)
theorem ss.keep{L:List (Int×Int)}{gs:Nat}{W W':World}(h:ss L gs W)(hk:∀o v,W.cell? (zc gs o)=some v→W'.cell? (zc gs o)=some v):ss L gs W':=fun i x hx=>by have:=h i x hx;exact⟨hk _ _ this.1,hk _ _ this.2⟩
theorem ai(n g m c:Nat)(w:World):CallsIn Fence.wide n Tryz.prog 81 #[.slice (zb g) m c] w fun e w'=>e=.returned (.func (.func 105) #[] #[.p w.heap.size])∧w'=w.alloc (.cells #[.slice (zb g) m c] 23):=by have hro:Fence.wide.round=none:=rfl;refine callsIn_of_wp Tryz.func81 rfl trivial ?_ hro;simp only[Tryz.ntmps81,zH,zM,zY,Nat.reduceAdd,Nat.reduceSub,zV,zW,yj,zZ,zD,zT];gi_wp2;go_ret;exact⟨rfl,rfl⟩
theorem XW{L:List (Int×Int)}(hS:eD L)(gs c n l bx N:Nat)(hc:L.length≤c)(hn:1≤n)(X:Nat→Prop)(hX:∀k,X k→k<N)(hXb:¬X bx)(hXg:¬X gs)(J Jx:List Nat→World→Prop)(hY:∀p (y:Nat) W,J p W→p.length<L.length→y<L.length→YieldAt Fence.wide (n-1) Tryz.prog l #[.i y,.i (pre L y)] W fun e W'=>(e=.returned (.bool true)∧J (p++[y]) W'∧sg X W W')∨(e=.returned (.bool false)∧Jx (p++[y]) W'))(W:World)(hN:N≤W.heap.size)(hJ:AbidesFrom W.heap.size J)(h1:W.cell? (zc bx 0)=some (.slice (zb gs) L.length c))(h2:ss L gs W)(h0:J [] W):CallsIn Fence.wide n Tryz.prog 105 #[.func (.yield l) #[] #[],.p bx] W fun e W'=>(∃v,e=.returned v)∧((∃ys,ys=List.range L.length∧J ys W')∨(∃p:List Nat,(∀y∈p,y<L.length)∧Jx p W')):=by
 have hro:Fence.wide.round=none:=rfl;have hl16:=hS.len;have hmin:min (L.length:Int) 16=L.length:=by omega
 have hle:(L.length:Int)≤c:=by omega
 refine callsIn_of_wp Tryz.func105 rfl trivial ?_ hro;simp only[Tryz.ntmps105,zH,zM,zY,Nat.reduceAdd,Nat.reduceSub,zV,zW,yj,zZ,zD,zT];gi_wp2_with fail;gi_loopw [3,12] (fun f i wr=>∃j:Nat,i=.i j∧j≤L.length∧f=.i (pre L j)∧J (List.range j) wr∧ss L gs wr∧W.heap.size≤wr.heap.size) (fun _ i _=>100-(intOf i).toNat);case atStart=>exact⟨0,rfl,by omega,rfl,h0,h2,zm _⟩
 case round=>
  obtain⟨j,rfl,hj,rfl,hjj,hrow,hsz⟩:=hrel;by_cases hlt:j<L.length
  ·have dl:decide ((j:Int)<L.length)=true:=by simp;omega
   have hlt':(j:Int)<L.length:=by omega
   obtain⟨x,hx⟩:∃x,L[j]? =some x:=⟨_,zl hlt⟩;obtain⟨ca,cb⟩:=hrow j x hx;obtain⟨l1,l16⟩:=hS.ok x (zo hx);obtain⟨xd,xl⟩:=x;simp only at ca cb l1 l16;have d1:decide (xl<1)=false:=by simp;omega
   have d16:decide (16<xl)=false:=by simp;omega
   have hja:J (List.range j) (wr.alloc (.cells #[.i xd,.i xl] 70)):=hJ _ _ _ none hjj (World.grownBy_alloc _ _ _) (fun r e=>by cases e);obtain⟨fn,tmps,assign,body,hyy,hR⟩:=hY (List.range j) j _ hja (by simpa using hlt) hlt;rw[←yD]at hR;have hrow2:ss L gs (wr.alloc (.cells #[.i xd,.i xl] 70)):=fun i y hy=>⟨xU (hrow i y hy).1 _,xU (hrow i y hy).2 _⟩;have HP:=I (dP hx);have hpb:=pM hS j hj;have hwr:IntKind.i64.wrap (pre L j+xl)=pre L j+xl:=by rw[IntKind.wrap_i64];omega
   have hbf:(wr.alloc (.cells #[.i xd,.i xl] 70)).heap[wr.heap.size]? =some (.cells #[.i xd,.i xl] 70 (0,0)):=(((Own.start wr).new 1 _).own 1 _ _ (yQ _ _ _ _)).2;generalize pre L j=pj at*;gi_wp2_with fail;refine hR.mono ?_;rintro e W3 (⟨rfl,hJ3,hk3⟩|⟨rfl,hJx3⟩)
   ·have c5:W3.cell? (zc wr.heap.size 1)=some (.i xl):=hk3.cell (fun h=>by have:=hX _ h;omega) (by simp only[World.cell?,hbf];rfl);have HR3:=I (hrow2.keep fun o v hv=>hk3.cell hXg hv);have HS3:Hid (W.heap.size≤W3.heap.size):=I (by have:=hk3.1;simp at this;omega);have HJ:=I hJ3;clear hk3 hrow hrow2 hJ3 hja hR hjj hsz hbf;gi_wp2_with fail;exact⟨⟨j+1,by simp,by omega,by rw[HP.out],HJ.out,HR3.out,HS3.out⟩,by simp[intOf];omega⟩
   ·gi_wp2;refine bodyPost_ret (results_none rfl _ _ _) rfl ?_;exact⟨⟨_,rfl⟩,.inr ⟨_,fun y hy=>by have:=List.mem_range.1 hy;omega,hJx3⟩⟩
  ·obtain rfl:j=L.length:=by omega
   have dl:decide ((L.length:Int)<L.length)=false:=by simp
   gi_wp2;go_end0;exact⟨⟨_,rfl⟩,.inl ⟨_,rfl,hjj⟩⟩
theorem fJ{L:List (Int×Int)}(hS:eD L)(g c n:Nat)(hc:L.length≤c)(hn:1≤n)(X:Nat→Prop)(w:World)(hX:∀k,X k→k<w.heap.size∧k≠g)(hr:ss L g w):SeqStopsK Fence.wide n Tryz.prog 105 #[.p w.heap.size] (fun y:Fin L.length=>#[.i (y.1:Int),.i (pre L y.1)]) (sg X) (fun ys=>ys.map Fin.val=List.range L.length) (fun _=>True) L.length (w.alloc (.cells #[.slice (zb g) L.length c] 23)):=by
 obtain⟨w2,hw2⟩:∃w2,w.alloc (.cells #[.slice (zb g) L.length c] 23)=w2:=⟨_,rfl⟩;have hz:w2.heap.size=w.heap.size+1:=by rw[←hw2];simp
 have c0:=(Boxed.new w 23 (.slice (zb g) L.length c)).cell;have hr2:ss L g w2:=by rw[←hw2];exact hr.keep fun o v hv=>xU hv _
 rw[hw2]at c0⊢;intro l J Jx W hW hJ hJx hY h0;have hQ:CallsIn Fence.wide n Tryz.prog 105 #[.func (.yield l) #[] #[],.p w.heap.size] W fun e W'=>(∃v,e=.returned v)∧((∃ys,ys=List.range L.length∧∃zs:List (Fin L.length),zs.map Fin.val=ys∧J zs W')∨(∃p:List Nat,(∀y∈p,y<L.length)∧∃zs:List (Fin L.length),zs.map Fin.val=p∧Jx zs W')):=by
  refine XW hS g c n l w.heap.size w.heap.size hc hn X (fun k hk=>(hX k hk).1) (fun h=>by have:=(hX _ h).1;omega) (fun h=>(hX _ h).2 rfl) (fun ys W=>∃zs:List (Fin L.length),zs.map Fin.val=ys∧J zs W) (fun ys W=>∃zs:List (Fin L.length),zs.map Fin.val=ys∧Jx zs W) ?_ W ?_ ?_ ((hW.cell (p:=(zc w.heap.size 0)) (by show w.heap.size<_;omega)).trans c0) ?_ ⟨[],rfl,h0⟩
  ·rintro p y W1 ⟨zs,rfl,hz⟩ hp hy;obtain⟨fn,tmps,assign,body,hyy,hR⟩:=hY zs ⟨y,hy⟩ W1 hz (by simpa using hp);refine⟨fn,tmps,assign,body,hyy,hR.mono ?_⟩;rintro e W2 (⟨h1,h2,h3⟩|⟨h1,h2⟩)
   ·exact .inl ⟨h1,⟨_,by simp,h2⟩,h3⟩
   ·exact .inr ⟨h1,⟨_,by simp,h2⟩⟩
  ·have:=hW.size;omega
  ·rintro s A B row ⟨zs,h1,h2⟩ hg hr;exact⟨zs,h1,hJ _ _ _ _ h2 hg hr⟩
  ·intro i x hx;obtain⟨h1,h2⟩:=hr2 i x hx;exact⟨(hW.cell (World.block_lt_of_cell? _ _ h1)).trans h1,(hW.cell (World.block_lt_of_cell? _ _ h2)).trans h2⟩
 refine hQ.mono ?_;rintro e W' ⟨h1,⟨_,rfl,zs,h2,h3⟩|⟨_,_,zs,_,h3⟩⟩
 ·exact⟨h1,.inl ⟨zs,h2,h3⟩⟩
 ·exact⟨h1,.inr ⟨zs,trivial,h3⟩⟩
end
section
open Go.RowKit Go.Shelf Go.WideShapes
attribute [local go_sem] Oper.semAt_some
def fK(L:List (Int×Int))(ys:List (Fin L.length)):Int:=match ys.getLast? with
 |none=>0
 |some y=>pre L (y.1+1)
theorem Ta{L:List (Int×Int)}{ys:List (Fin L.length)}(h:ys.map Fin.val=List.range L.length):fK L ys=pre L L.length:=by
 have e:(ys.map Fin.val).getLast? =ys.getLast?.map Fin.val:=by simp
 rw[h,List.getLast?_range]at e;unfold fK;rcases hq:ys.getLast? with _|y
 ·rw[hq]at e;simp at e;simp[e,pre]
 ·rw[hq]at e;have:=y.2;rw[if_neg (by omega)]at e;simp at e;show pre L (y.1+1)=_;rw[←e];congr 1;omega
def Xa(w:World)(B:Nat)(s:Value)(z:Int)(W:World):Prop:=W.cell? (zc B 0)=some s∧Boxed W (B+1) 3 (.i z)∧Below B w W
theorem Xa.from{w:World}{B N:Nat}{s:Value}{α:Type}(f:List α→Int)(hB:B+1<N)(hw:w.heap.size=B):OwnFrom N (fun(l:List α) W=>Xa w B s (f l) W):=by
 intro l W W' row ⟨h1,h2,h3⟩ hgr hr;refine⟨(World.cell?_of_block (hgr.block B (World.block_lt_of_cell? _ _ h1) fun e=>?_)).trans h1,h2.kept hgr fun e=>?_,?_⟩
 ·have:=(hr _ e.symm).1;omega
 ·have:=(hr _ e.symm).1;omega
 ·subst hw;exact h3.grown hgr h3.size fun k e=>by have:=(hr k e).1;omega
theorem Qp{L:List (Int×Int)}(hS:eD L){w:World}{g c:Nat}(hc:L.length≤c)(hr:ss L g w)(hg:g<w.heap.size):Calls Tryz.prog 79 #[.slice (zb g) L.length c] w fun e w'=>e=.returned (.i (pre L L.length))∧Below w.heap.size w w':=by
 refine(callsIn_wide (n:=10)).1 ?_;have hro:Fence.wide.round=none:=rfl;have h1:1≤10:=by omega
 obtain⟨w1,hw1⟩:∃w1,(w.alloc (.cells #[.slice (zb g) L.length c] 23)).alloc (.cells #[.i 0] 3)=w1:=⟨_,rfl⟩;have hz1:w1.heap.size=w.heap.size+2:=by rw[←hw1];simp
 have b0:w1.cell? (zc w.heap.size 0)=some (.slice (zb g) L.length c):=by rw[←hw1];exact xU (Boxed.new w 23 _).cell _
 have b1:Boxed w1 (w.heap.size+1) 3 (.i 0):=by rw[←hw1];have:=Boxed.new (w.alloc (.cells #[.slice (zb g) L.length c] 23)) 3 (.i 0);rwa[World.size_alloc]at this
 have hB1:Below w.heap.size w w1:=by rw[←hw1];exact((Below.refl _ _).alloc (zm _) _).alloc (by simp) _
 have b0':=b0;rw[←hw1]at b0';have hr1:ss L g w1:=hr.keep fun o v hv=>(hB1.cell (World.block_lt_of_cell? _ _ hv)).trans hv;replace hw1:=I hw1;refine callsIn_of_wp_marks Tryz.func79 rfl trivial ?_ hro;simp only[Tryz.ntmps79,zH,zM,zY,Nat.reduceAdd,Nat.reduceSub,zV,zW,yj,zZ,zD,zT];gi_wp2_with fail;refine⟨trivial,(ai 9 g L.length c _).mono ?_⟩;rintro e w' ⟨rfl,rfl⟩;rw[hw1.out];have hst:=fJ hS g c 9 hc (by omega) (fun k=>k=w.heap.size+1) w1 (by rintro k rfl;omega) hr1;obtain⟨w2,hw2⟩:∃w2,w1.alloc (.cells #[.slice (zb g) L.length c] 23)=w2:=⟨_,rfl⟩;rw[hw2]at hst⊢;have hz2:w2.heap.size=w.heap.size+3:=by rw[←hw2];simp;omega
 have hI0:Xa w w.heap.size (.slice (zb g) L.length c) (fK L []) w2:=by
  refine⟨?_,?_,?_⟩
  ·rw[←hw2];exact xU b0 _
  ·rw[←hw2];exact(Below.heap_alloc _ _ _ b1.lt).trans b1
  ·rw[←hw2];exact hB1.alloc (by omega) _
 clear hw1 b0' b0 b1;rw[hz1]at hst⊢;gi_wp2_with fail;refine wpIn_rangeFunc_ownG hro h1 (gf:=105) rfl trivial (enters_of Tryz.func105 (by kernel_rfl) rfl) hst (fun h k=>h.trans k) (fun W l o o' _ h q _=>sg.put _ W l o o' h q) (Below.refl _ _) (fun _=>rfl) (fun ys W=>Xa w w.heap.size (.slice (zb g) L.length c) (fK L ys) W) (fun _ _ _=>False) (Xa.from (fK L) (by omega) rfl) (fun _ _ _ _ _ hs _ _=>hs) hI0 (fun y=>{tmps:=#[.slice (zb g) L.length c,.p w.heap.size,.i 0,.p (w.heap.size+1),.i y.1,.i (pre L y.1),.slice (zb g) L.length c,.func (.func 105) #[] #[.p (w.heap.size+2)],.i y.1,.i (pre L y.1),undef,undef,undef,undef,undef,undef,undef,undef],defers:=[]}) ?assign ?body ?done ?stop;case assign=> intro l x W K hK;gi_wp2;exact hK
 case body=>
  intro l p y W ⟨hs,hb,hB⟩ hlt;obtain⟨x,hx⟩:∃x,L[y.1]? =some x:=⟨_,zl y.2⟩;have hyl:=y.2;obtain⟨ca,cb⟩:=hr _ x hx;have cb':=(hB.cell (p:=(zc g (y.1*2+1))) hg).trans cb;obtain⟨l1,l16⟩:=hS.ok x (zo hx);have hpb:=pM hS y.1 (by omega);have hps:Hid (pre L (y.1+1)=pre L y.1+x.2):=I (dP hx);have h16:=hS.len;have hwr:IntKind.i64.wrap (pre L y.1+x.2)=pre L y.1+x.2:=by rw[IntKind.wrap_i64];omega
  have hfz:=hb.frozen;have hcl:=hb.cell;have hlt':(y.1:Int)<L.length:=by omega
  have hF:Hid (KeepsFrom w2.heap.size W (W.setCell (zc (w.heap.size+1) 0) (.i (pre L y.1+x.2)))∧sg (fun k=>k=w.heap.size+1) W (W.setCell (zc (w.heap.size+1) 0) (.i (pre L y.1+x.2)))∧Xa w w.heap.size (.slice (zb g) L.length c) (fK L (p++[y])) (W.setCell (zc (w.heap.size+1) 0) (.i (pre L y.1+x.2)))):=by
   refine I ⟨(KeepsOthers.setCell W _ _).from _,sg.setCell W _ 0 _ rfl,(World.cell?_of_block (Below.heap_setCell W _ _ _ (by show w.heap.size≠w.heap.size+1;omega))).trans hs,?_,?_⟩
   ·have e:fK L (p++[y])=pre L y.1+x.2:=by rw[←hps.out];unfold fK;simp
    rw[e];exact hb.set _
   ·exact hB.setCell (p:=(zc (w.heap.size+1) 0)) (by show w.heap.size≤w.heap.size+1;omega) _
  clear hb hB;gi_wp2_with fail;exact hF.out
 case done=> rintro D ys W hD hys ⟨hs,hb,hB⟩ hK;rw[Ta hys]at hb;have hcl:=hb.cell;have HB:=I hB;clear hs hb hB;gi_wp2_with fail;refine⟨by simp,.inl ⟨_,_,rfl,run_takeDeferred hK,?_⟩⟩;refine⟨_,results_tmp rfl _ _ _,rfl,?_⟩;exact HB.out.trans (belowK_b (w:=w) (zm _) W D _ _ (by omega) hK rfl rfl)
 case stop=> rintro D c pre W _ _ h _;exact h.elim
end
section
open Go.RowKit Go.Shelf Go.WideShapes
attribute [local go_sem] Oper.semAt_some
def fF(L:List (Int×Int))(t:Int)(b:Int×Int)(y:Nat):Int×Int:=if pre L y≤t%pre L L.length then((y:Int),t-t%pre L L.length+pre L y)else b
def qR(L:List (Int×Int))(t:Int)(ys:List Nat):Int×Int:=ys.foldl (fF L t) (0,0)
def rh(L:List (Int×Int))(t:Int):Int×Int:=qR L t (List.range L.length)
def Zr(w:World)(n6:Nat)(t cy:Int)(b:Int×Int)(W:World):Prop:=
 (Boxed W w.heap.size 3 (.i t)∧Boxed W n6 3 (.i cy))∧Boxed W (w.heap.size+1) 3 (.i b.1)∧Boxed W (w.heap.size+1+1) 3 (.i b.2)∧Below w.heap.size w W
theorem Zr.from{w:World}{n6 N:Nat}{t cy:Int}{α:Type}(f:List α→Int×Int)(hB:w.heap.size+1+1<N)(h6:n6<N):OwnFrom N (fun(l:List α) W=>Zr w n6 t cy (f l) W):=by
 intro l W W' row ⟨⟨h1,h2⟩,h3,h4,h5⟩ hgr hr;refine⟨⟨h1.kept hgr fun e=>?_,h2.kept hgr fun e=>?_⟩,h3.kept hgr fun e=>?_,h4.kept hgr fun e=>?_,h5.grown hgr h5.size fun k e=>?_⟩
 ·have:=(hr _ e.symm).1;omega
 ·have:=(hr _ e.symm).1;omega
 ·have:=(hr _ e.symm).1;omega
 ·have:=(hr _ e.symm).1;omega
 ·have:=(hr k e).1;omega
theorem vE{W:World}{B g:Nat}{ty:TypeId}{v u:Value}(h:Boxed W B ty v)(hne:B≠g):Boxed (W.setCell (zc g 0) u) B ty v:=(Below.heap_setCell W _ _ _ hne).trans h
theorem bW{P:Program}{fn:Func}{p u:Tmp}{tp tu:TypeId}(h:fn.results=#[.cell p tp,.cell u tu])(tmps:Array Value)(w:World)(a b:Addr)(va vb:Value)(ha:tmps.getD p undef=.pointer (some a))(hb:tmps.getD u undef=.pointer (some b))(la:(loadVar tp a).run P w=.ok va w)(lb:(loadVar tu b).run P w=.ok vb w):(results fn tmps).run P w=.ok (.tuple #[va,vb]) w:=by
 have ha':tmps[p]?.getD undef=.pointer (some a):=by simpa using ha
 have hb':tmps[u]?.getD undef=.pointer (some b):=by simpa using hb
 simp[results,h,ha',hb',asAddr,la,lb,Sem.run_bind]
theorem PV{L:List (Int×Int)}(hS:eD L)(hL:0<L.length){w:World}{g c:Nat}(hc:L.length≤c)(hr:ss L g w)(hg:g<w.heap.size)(t:Int)(ht0:0≤t)(ht1:t≤4611686018427387904):Calls Tryz.prog 62 #[.slice (zb g) L.length c,.i t] w fun e w'=>e=.returned (.tuple #[.i (rh L t).1,.i (rh L t).2])∧Below w.heap.size w w':=by
 refine(callsIn_wide (n:=10)).1 ?_;have hro:Fence.wide.round=none:=rfl;have h1:1≤10:=by omega
 obtain⟨w1,hw1⟩:∃w1,((w.alloc (.cells #[.i t] 3)).alloc (.cells #[.i 0] 3)).alloc (.cells #[.i 0] 3)=w1:=⟨_,rfl⟩;have hz1:w1.heap.size=w.heap.size+3:=by rw[←hw1];simp
 have b0:Boxed w1 w.heap.size 3 (.i t):=by rw[←hw1];exact((Boxed.new w 3 _).alloc _).alloc _
 have b1:Boxed w1 (w.heap.size+1) 3 (.i 0):=by rw[←hw1];have:=(Boxed.new (w.alloc (.cells #[.i t] 3)) 3 (.i 0)).alloc (.cells #[.i 0] 3);rwa[World.size_alloc]at this
 have b2:Boxed w1 (w.heap.size+1+1) 3 (.i 0):=by rw[←hw1];have:=Boxed.new ((w.alloc (.cells #[.i t] 3)).alloc (.cells #[.i 0] 3)) 3 (.i 0);rwa[World.size_alloc,World.size_alloc]at this
 have hB1:Below w.heap.size w w1:=by rw[←hw1];exact(((Below.refl _ _).alloc (zm _) _).alloc (by simp) _).alloc (by simp;omega) _
 have hr1:ss L g w1:=hr.keep fun o v hv=>(hB1.cell (World.block_lt_of_cell? _ _ hv)).trans hv;have hcy:=Qp hS hc hr1 (by omega);have hpb:=pM hS L.length (zm _);have h16:=hS.len;replace hw1:=I hw1;refine callsIn_of_wp_marks Tryz.func62 rfl trivial ?_ hro;simp only[Tryz.ntmps62,zH,zM,zY,Nat.reduceAdd,Nat.reduceSub,zV,zW,yj,zZ,zD,zT];replace hz1:=I hz1;gi_wp2_with fail;refine⟨trivial,?_⟩;rw[hw1.out];refine(callsIn_wide.2 hcy).mono ?_;rintro e w2 ⟨rfl,hb2⟩;have hcv:Hid (∀x,x=pre L L.length→1≤x∧x≤256):=I fun x e=>by omega
 obtain⟨cy,hcy0⟩:∃cy,pre L L.length=cy:=⟨_,rfl⟩;rw[hcy0];obtain⟨k1,k2⟩:=hcv.out cy hcy0.symm;replace hcy0:=I hcy0;have hn2:=hb2.size;have hz1':=hz1.out;obtain⟨w3,hw3⟩:∃w3,w2.alloc (.cells #[.i cy] 3)=w3:=⟨_,rfl⟩;have hz3:w3.heap.size=w2.heap.size+1:=by rw[←hw3];simp
 have a0:Boxed w3 w.heap.size 3 (.i t):=by rw[←hw3];exact Boxed.alloc (W:=w2) ((hb2.block _ b0.lt).trans b0) _
 have a1:Boxed w3 (w.heap.size+1) 3 (.i 0):=by rw[←hw3];exact Boxed.alloc (W:=w2) ((hb2.block _ b1.lt).trans b1) _
 have a2:Boxed w3 (w.heap.size+1+1) 3 (.i 0):=by rw[←hw3];exact Boxed.alloc (W:=w2) ((hb2.block _ b2.lt).trans b2) _
 have a6:Boxed w3 w2.heap.size 3 (.i cy):=by rw[←hw3];exact Boxed.new w2 3 _
 have hB3:Below w.heap.size w w3:=by rw[←hw3];exact(hB1.trans (hb2.mono (by omega))).alloc (by omega) _
 have c0:=a0.cell;have f0:=a0.frozen;have c6:=a6.cell;have dz:(cy==0)=false:=by simp;omega
 have hheld:=UY w3 t ht0 ht1;rw[←hw3]at c0 f0 c6 hheld;replace hw3:=I hw3;clear b0 b1 b2;gi_wp2_with fail;refine⟨trivial,(callsIn_wide.2 hheld).mono ?_⟩;rintro e w' ⟨rfl,hw'⟩;rw[hw3.out]at hw';subst hw';rw[hw3.out]at c0 f0 c6;obtain⟨w4,hw4⟩:∃w4,w3.setCell (zc w.heap.size 0) (.i t)=w4:=⟨_,rfl⟩;have hz4:w4.heap.size=w2.heap.size+1:=by rw[←hw4,←hz3];simp
 have d0:Boxed w4 w.heap.size 3 (.i t):=by rw[←hw4];exact a0.set _
 have d1:Boxed w4 (w.heap.size+1) 3 (.i 0):=by rw[←hw4];exact vE a1 (by omega)
 have d2:Boxed w4 (w.heap.size+1+1) 3 (.i 0):=by rw[←hw4];exact vE a2 (by omega)
 have d6:Boxed w4 w2.heap.size 3 (.i cy):=by rw[←hw4];exact vE a6 (by omega)
 have hB4:Below w.heap.size w w4:=by rw[←hw4];exact hB3.setCell (p:=(zc w.heap.size 0)) (zm _) _
 have hr4:ss L g w4:=hr.keep fun o v hv=>(hB4.cell (World.block_lt_of_cell? _ _ hv)).trans hv;have hst:=fJ hS g c 9 hc (by omega) (fun k=>k=w.heap.size+1∨k=w.heap.size+1+1) w4 (by rintro k (rfl|rfl)<;>omega) hr4;obtain⟨w5,hw5⟩:∃w5,w4.alloc (.cells #[.slice (zb g) L.length c] 23)=w5:=⟨_,rfl⟩;have hz5:w5.heap.size=w2.heap.size+2:=by rw[←hw5];simp;omega
 have hI0:Zr w w2.heap.size t cy (qR L t []) w5:=by rw[←hw5];exact⟨⟨d0.alloc _,d6.alloc _⟩,d1.alloc _,d2.alloc _,hB4.alloc (by omega) _⟩
 rw[hw5,hz4]at hst;clear a0 a1 a2 a6 d0 d1 d2 d6;replace hw4:=I hw4;replace hz3:=I hz3;gi_wp2_with fail;refine⟨trivial,(ai 9 g L.length c _).mono ?_⟩;rintro e w' ⟨rfl,rfl⟩;rw[hw4.out,hw5,hz4];clear c0 f0 c6;gi_wp2_with fail;refine wpIn_rangeFunc_ownG hro h1 (gf:=105) rfl trivial (enters_of Tryz.func105 (by kernel_rfl) rfl) hst (fun h k=>h.trans k) (fun W l o o' _ h q _=>sg.put _ W l o o' h q) (Below.refl _ _) (fun _=>rfl) (fun ys W=>Zr w w2.heap.size t cy (qR L t (ys.map Fin.val)) W) (fun _ _ _=>False) (Zr.from (fun ys:List (Fin L.length)=>qR L t (ys.map Fin.val)) (by omega) (by omega)) (fun _ _ _ _ _ hs _ _=>hs) hI0 (fun y=>{tmps:=#[.slice (zb g) L.length c,.i t,undef,.p w.heap.size,.p (w.heap.size+1),.p (w.heap.size+1+1),.p w2.heap.size,.i y.1,.i (pre L y.1),.slice (zb g) L.length c,.i cy,.i cy,.bool false,.i t,.i t,.slice (zb g) L.length c,.func (.func 105) #[] #[.p (w2.heap.size+1)],.i y.1,.i (pre L y.1),undef,undef,undef,undef,undef,undef,undef,undef,undef,undef,undef,undef,undef,undef,undef],defers:=[]}) ?assign ?body ?done ?stop
 case assign=> intro l x W K hK;gi_wp2;exact hK
 case body=>
  intro l p y W ⟨⟨h0,h6⟩,h4,h5,hB⟩ hlt;have hyl:=y.2;have hpy:=pM hS y.1 (by omega);obtain⟨r,hrem⟩:∃r,t%cy=r:=⟨_,rfl⟩;have hrt:t.tmod cy=r:=by rw[Int.tmod_eq_emod_of_nonneg ht0];exact hrem
  have hr0:0≤r:=by rw[←hrem];exact Int.emod_nonneg _ (by omega)
  have hr1':r<cy:=by rw[←hrem];exact Int.emod_lt_of_pos _ (by omega)
  have hrt2:r≤t:=by have q1:=Int.emod_add_mul_ediv t cy;have q2:=Int.mul_nonneg (show(0:Int)≤cy by omega) (Int.ediv_nonneg ht0 (show(0:Int)≤cy by omega));omega
  have dn:(cy=0)=False:=by simp;omega
  have q0:=h0.cell;have q6:=h6.cell;have hstep:Hid (qR L t ((p++[y]).map Fin.val)=fF L t (qR L t (p.map Fin.val)) y.1):=I (by unfold qR;simp);have hatS:Hid (∀b,fF L t b y.1=if pre L y.1≤r then((y.1:Int),t-r+pre L y.1)else b):=I (by intro b;unfold fF;rw[hcy0.out,hrem]);clear hrem;by_cases hle:pre L y.1≤r
  ·have hd:decide (pre L y.1≤r)=true:=by simpa using hle
   have hF:Hid (KeepsFrom (w2.heap.size+2) W ((W.drew.setCell (zc (w.heap.size+1) 0) (.i y.1)).setCell (zc (w.heap.size+1+1) 0) (.i (t-r+pre L y.1)))∧sg (fun k=>k=w.heap.size+1∨k=w.heap.size+1+1) W ((W.drew.setCell (zc (w.heap.size+1) 0) (.i y.1)).setCell (zc (w.heap.size+1+1) 0) (.i (t-r+pre L y.1)))∧Zr w w2.heap.size t cy (qR L t ((p++[y]).map Fin.val)) ((W.drew.setCell (zc (w.heap.size+1) 0) (.i y.1)).setCell (zc (w.heap.size+1+1) 0) (.i (t-r+pre L y.1)))):=by
    refine I ⟨((KeepsOthers.drew W).trans ((KeepsOthers.setCell W.drew _ _).trans (KeepsOthers.setCell _ _ _))).from _,?_,?_⟩
    ·exact(sg.below ((Below.refl _ W).drew)).trans ((sg.setCell W.drew _ 0 _ (.inl rfl)).trans (sg.setCell _ _ 0 _ (.inr rfl)))
    ·rw[hstep.out,hatS.out,if_pos hle];have e0:Boxed W.drew w.heap.size 3 (.i t):=h0;have e6:Boxed W.drew w2.heap.size 3 (.i cy):=h6;have e4:Boxed W.drew (w.heap.size+1) 3 _:=h4;have e5:Boxed W.drew (w.heap.size+1+1) 3 _:=h5;exact⟨⟨vE (vE e0 (by omega)) (by omega),vE (vE e6 (by omega)) (by omega)⟩,vE (e4.set _) (by omega),(vE e5 (by omega)).set _,(hB.drew.setCell (p:=(zc (w.heap.size+1) 0)) (by show w.heap.size≤w.heap.size+1;omega) _).setCell (p:=(zc (w.heap.size+1+1) 0)) (by show w.heap.size≤w.heap.size+1+1;omega) _⟩
   have f4:W.drew.frozen? (zc (w.heap.size+1) 0)=false:=Boxed.frozen (W:=W.drew) h4;have f5:(W.drew.setCell (zc (w.heap.size+1) 0) (.i y.1)).frozen? (zc (w.heap.size+1+1) 0)=false:=Boxed.frozen (vE (W:=W.drew) h5 (by omega));have v4:W.drew.cell? (zc (w.heap.size+1) 0)=some (.i _):=Boxed.cell (W:=W.drew) h4;have v5:(W.drew.setCell (zc (w.heap.size+1) 0) (.i y.1)).cell? (zc (w.heap.size+1+1) 0)=some (.i _):=Boxed.cell (vE (W:=W.drew) h5 (by omega));have hw1':IntKind.i64.wrap (t-r)=t-r:=by rw[IntKind.wrap_i64];omega
   have hw2':IntKind.i64.wrap (t-r+pre L y.1)=t-r+pre L y.1:=by rw[IntKind.wrap_i64];omega
   have p0:W.drew.cell? (zc w.heap.size 0)=some (.i t):=q0;have p6:W.drew.cell? (zc w2.heap.size 0)=some (.i cy):=q6;clear h0 h6 h4 h5 hB;generalize pre L y.1=py at*;gi_wp2_with fail;refine yP.Yc [0,1,2,3,6] (.step 4 (.step 5 (.step 7 (.step 8 (.step 9 .done))))) (fun w'=>w'.cell? (zc w.heap.size 0)=some (.i t)∧w'.cell? (zc w2.heap.size 0)=some (.i cy)) (by kernel_rfl) (by kernel_rfl) (by rintro⟨_,_,hlo⟩;exact hlo) (by kernel_rfl) (fun _ _ _ _ _ h=>h) ⟨p0,p6⟩ ?_;generalize W.drew=V at*;repeat
    refine Perm.xm rfl ?_ (fun w' hS=>?_) ?_;rotate_left
    ·(obtain⟨s0,s6⟩:=hS;go_simp;try with_reducible rfl)
    simp only[pt]
   refine Perm.xt ?_;repeat
    refine yP.xA rfl (by rfl) ?_ (fun w'=>?_) ?_;rotate_left
    ·(go_simp;try with_reducible rfl)
    simp only[pt]
   refine yP.yY rfl (by rfl) ?_;refine yP.xy rfl .skip undef (.inr ⟨rfl,rfl⟩) (w':=V.setCell (zc (w.heap.size+1) 0) (.i y.1)) (by go_simp;try with_reducible rfl) (fun _ h=>⟨(World.cell?_of_block (Below.heap_setCell _ _ _ _ (by show w.heap.size≠w.heap.size+1;omega))).trans h.1,(World.cell?_of_block (Below.heap_setCell _ _ _ _ (by show w2.heap.size≠w.heap.size+1;omega))).trans h.2⟩) ?_;simp only[pt];refine yP.yY rfl (by rfl) ?_;refine yP.xy rfl .skip undef (.inr ⟨rfl,rfl⟩) (w':=(V.setCell (zc (w.heap.size+1) 0) (.i y.1)).setCell (zc (w.heap.size+1+1) 0) (.i (t-r+py))) (by go_simp;try with_reducible rfl) (Perm.xx (by kernel_rfl)) ?_;simp only[pt];refine yP.xC ?_;gi_wp2_with fail;have q:=hF.out;rw[←hz5]at q;exact q
  ·have hd:decide (pre L y.1≤r)=false:=by simpa using hle
   have hF:Hid (KeepsFrom (w2.heap.size+2) W W∧sg (fun k=>k=w.heap.size+1∨k=w.heap.size+1+1) W W∧Zr w w2.heap.size t cy (qR L t ((p++[y]).map Fin.val)) W):=by refine I ⟨KeepsFrom.refl _ _,sg.refl _ _,?_⟩;rw[hstep.out,hatS.out,if_neg hle];exact⟨⟨h0,h6⟩,h4,h5,hB⟩
   clear h0 h6 h4 h5 hB;generalize pre L y.1=py at*;gi_wp2_with fail;exact hF.out
 case done=>
  rintro D ys W hD hys ⟨⟨h0,h6⟩,h4,h5,hB⟩ hK;rw[hys]at h4 h5;have hDl:=(zI.1 hK).1;obtain⟨b,hb⟩:∃b,qR L t (List.range L.length)=b:=⟨_,rfl⟩;rw[hb]at h4 h5;replace hb:=I hb;have e4:Boxed W.drew (w.heap.size+1) 3 _:=h4;have e5:Boxed W.drew (w.heap.size+1+1) 3 _:=h5;have hF:Hid (Below w.heap.size w ((W.drew.setCell (zc (w.heap.size+1) 0) (.i b.1)).setCell (zc (w.heap.size+1+1) 0) (.i b.2))):=I ((hB.drew.setCell (p:=(zc (w.heap.size+1) 0)) (by show w.heap.size≤w.heap.size+1;omega) _).setCell (p:=(zc (w.heap.size+1+1) 0)) (by show w.heap.size≤w.heap.size+1+1;omega) _);have f4:=e4.frozen;have f5:(W.drew.setCell (zc (w.heap.size+1) 0) (.i b.1)).frozen? (zc (w.heap.size+1+1) 0)=false:=Boxed.frozen (vE e5 (by omega));have v4:=e4.cell;have v5:=e5.cell;have v5':(W.drew.setCell (zc (w.heap.size+1) 0) (.i b.1)).cell? (zc (w.heap.size+1+1) 0)=some (.i b.2):=Boxed.cell (vE e5 (by omega));have u4:(W.drew.setCell (zc (w.heap.size+1) 0) (.i b.1)).cell? (zc (w.heap.size+1) 0)=some (.i b.1):=(e4.set _).cell;have u5:=v5';have hKd:W.drew.heap[D]? =some (.deferred (some [])):=hK;have HE:=I e4;have HE5:=I e5;clear h0 h6 h4 h5 hB e4 e5;gi_wp2_with fail;refine wpIn_wide.2 ?_;generalize hQQ:Exit.then _ _=QQ;refine wp_mono (Q:=fun e a w=>e=.normal∧QQ .normal a w) ?_ (by rintro e a w ⟨rfl,h⟩;exact h);refine yP.region [0,1] (.step 2 (.step 3 .done)) (fun w'=>w'.cell? (zc (w.heap.size+1) 0)=some (.i b.1)∧w'.cell? (zc (w.heap.size+1+1) 0)=some (.i b.2)) (by kernel_rfl) (by kernel_rfl) (fun _ _ _ _ _ h=>nomatch h.1) ⟨v4,v5⟩ ?_;generalize W.drew=V at*;repeat
   refine Perm.xm rfl ?_ (fun w' hS=>?_) ?_;rotate_left
   ·(obtain⟨s0,s6⟩:=hS;go_simp;try with_reducible rfl)
   simp only[pt]
  refine Perm.xt ?_;refine yP.yY rfl (by rfl) ?_;refine yP.xy rfl .skip undef (.inr ⟨rfl,rfl⟩) (w':=V.setCell (zc (w.heap.size+1) 0) (.i b.1)) (by go_simp;try with_reducible rfl) (fun _ _=>⟨u4,u5⟩) ?_;simp only[pt];refine yP.yY rfl (by rfl) ?_;refine yP.xy rfl .skip undef (.inr ⟨rfl,rfl⟩) (w':=(V.setCell (zc (w.heap.size+1) 0) (.i b.1)).setCell (zc (w.heap.size+1+1) 0) (.i b.2)) (by go_simp;try with_reducible rfl) (Perm.xx (by kernel_rfl)) ?_;simp only[pt];refine yP.xC ⟨rfl,?_⟩;subst hQQ;have HK:Hid (((V.setCell (zc (w.heap.size+1) 0) (.i b.1)).setCell (zc (w.heap.size+1+1) 0) (.i b.2)).heap[D]? =some (.deferred (some []))):=I ((Below.heap_setCell _ _ _ _ (by show D≠w.heap.size+1+1;omega)).trans ((Below.heap_setCell _ _ _ _ (by show D≠w.heap.size+1;omega)).trans hKd));have B4:Boxed ((V.setCell (zc (w.heap.size+1) 0) (.i b.1)).setCell (zc (w.heap.size+1+1) 0) (.i b.2)) (w.heap.size+1) 3 (.i b.1):=vE (HE.out.set _) (by omega);have B5:Boxed ((V.setCell (zc (w.heap.size+1) 0) (.i b.1)).setCell (zc (w.heap.size+1+1) 0) (.i b.2)) (w.heap.size+1+1) 3 (.i b.2):=(vE HE5.out (by omega)).set _;generalize(V.setCell (zc (w.heap.size+1) 0) (.i b.1)).setCell (zc (w.heap.size+1+1) 0) (.i b.2)=W9 at*;gi_wp2_with fail;refine⟨by simp,.inl ⟨_,_,rfl,run_takeDeferred HK.out,?_⟩⟩;have hDne:D≠w.heap.size+1∧D≠w.heap.size+1+1:=by omega
  have c4:(W9.putObj D (.deferred none)).cell? (zc (w.heap.size+1) 0)=some (.i b.1):=(World.cell?_of_block (by simp[World.putObj,yf,hDne.1])).trans B4.cell;have c5:(W9.putObj D (.deferred none)).cell? (zc (w.heap.size+1+1) 0)=some (.i b.2):=(World.cell?_of_block (by simp[World.putObj,yf,hDne.2])).trans B5.cell;refine⟨_,bW rfl _ _ (zc (w.heap.size+1) 0) (zc (w.heap.size+1+1) 0) (.i b.1) (.i b.2) rfl rfl ?_ ?_,?_,?_⟩
  ·go_simp
  ·go_simp
  ·unfold rh;rw[hb.out]
  ·exact hF.out.trans (belowK_b (w:=w) (zm _) W9 D _ _ (by omega) HK.out rfl rfl)
 case stop=> rintro D c pre W _ _ h _;exact h.elim
end
section
open Go.RowKit Go.Shelf Go.WideShapes
theorem OB(w:World)(a b c:Int):Calls Tryz.prog 50 #[.i a,.i b,.i c] w fun e w'=>e=.returned (.bool (decide (b≤a)&&decide (a≤c)))∧w=w':=by
 by_cases h:b≤a
 ·have hd:decide (b≤a)=true:=by simpa using h
  rw[hd];go_in;go_wp2_with fail;go_ret;exact⟨rfl,rfl⟩
 ·have hd:decide (b≤a)=false:=by simpa using h
  rw[hd];go_in;go_wp2_with fail;go_ret;exact⟨rfl,rfl⟩
def vU(a b c:Int):Bool:=decide (b≤a)&&decide (a≤c)
theorem vF(w:World)(a b c:Int):Calls Tryz.prog 50 #[.i a,.i b,.i c] w fun e w'=>e=.returned (.bool (vU a b c))∧w=w':=OB w a b c
theorem R3(w:World)(k:Int):Calls Tryz.prog 74 #[.i k] w fun e w'=>e=.returned (.i (if k=1 then 4 else if k=2 then 8 else 0))∧w=w':=by
 by_cases h1:k=1
 ·subst h1;go_in;go_wp2_with fail;go_ret;exact⟨rfl,rfl⟩
 ·have hd:(k==1)=false:=by simpa using h1
  rw[if_neg h1];by_cases h2:k=2
  ·subst h2;go_in;go_wp2_with fail;go_ret;exact⟨rfl,rfl⟩
  ·have hd2:(k==2)=false:=by simpa using h2
   rw[if_neg h2];go_in;go_wp2_with fail;go_ret;exact⟨rfl,rfl⟩
abbrev Wm(l c:Int):Value:=.agg #[.i l,.i c]
def kh(la ca lb cb:Int):Bool:=decide (la≤lb)&&(bits .andNot .i64 ca cb==0)
theorem Pz(la ca lb cb:Int)(w:World):Calls Tryz.prog 75 #[Wm la ca,Wm lb cb] w fun e w'=>e=.returned (.bool (kh la ca lb cb))∧Below w.heap.size w w':=by
 by_cases h:la≤lb
 ·have hd:decide (la≤lb)=true:=by simpa using h
  have e1:kh la ca lb cb=(bits .andNot .i64 ca cb==0):=by simp[kh,h]
  rw[e1];go_in;go_wp2;go_ret;exact⟨rfl,((Below.refl _ _).alloc (zm _) _).alloc (by simp) _⟩
 ·have hd:decide (la≤lb)=false:=by simpa using h
  have e1:kh la ca lb cb=false:=by simp[kh,h]
  rw[e1];go_in;go_wp2;go_ret;exact⟨rfl,((Below.refl _ _).alloc (zm _) _).alloc (by simp) _⟩
def pG(l c:Int):Bool:=decide (0≤l)&&decide (l≤7)&&decide (0≤c)&&decide (c<65536)
theorem RL(l c:Int)(w:World):Calls Tryz.prog 72 #[Wm l c] w fun e w'=>e=.returned (.bool (pG l c))∧Below w.heap.size w w':=by
 unfold pG;generalize h1:decide (0≤l)=b1;generalize h2:decide (l≤7)=b2;generalize h3:decide (0≤c)=b3;generalize h4:decide (c<65536)=b4;cases b1<;>cases b2<;>cases b3
 all_goals go_in;go_wp2_with fail;go_ret;exact⟨by simp,(Below.refl _ _).alloc (zm _) _⟩
end
section
open Go.RowKit Go.Shelf Go.WideShapes
theorem XX(s:ByteArray)(pos:Nat)(h:pos<s.size):1≤(Utf8.decode s pos).2:=by
 by_cases ha:(s[pos]'h).toNat<128
 ·rw[decode_ascii s pos h ha];exact zm _
 ·exact(decode_high s pos h (by omega)).2
def SH(r:Int):Bool:= !((decide (r<97)||decide (122<r))&&(decide (r<945)||decide (969<r)))
def kv(s:ByteArray):Nat→Nat→Int→Bool
 |0,_,n=>decide (1≤n)&&decide (n≤12)
 |b+1,p,n=>if p<s.size then(if SH (Utf8.decode s p).1 then kv s b (p+(Utf8.decode s p).2) (wrap64 (n+1))else false)else decide (1≤n)&&decide (n≤12)
def pJ(s:ByteArray):Bool:=kv s s.size 0 0
theorem Y1(s:ByteArray)(b p:Nat)(n:Int)(h:¬p<s.size):kv s b p n=(decide (1≤n)&&decide (n≤12)):=by
 cases b with
 |zero=>rfl
 |succ b=>simp[kv,h]
theorem T8(s:ByteArray)(w:World):Calls Tryz.prog 70 #[.string s] w fun e w'=>e=.returned (.bool (pJ s))∧Below w.heap.size w w':=by
 suffices h:Calls Tryz.prog 70 #[.string s] w fun e w'=>e=.returned (.bool (pJ s))∧∃pos,w'=w.iter s pos by refine h.mono ?_;rintro e w' ⟨rfl,pos,rfl⟩;exact⟨rfl,(Below.refl _ _).alloc (zm _) _⟩
 go_in;go_wp2;go_loopw [3] (fun n w'=>∃(pos b:Nat) (acc:Int),w'=w.iter s pos∧n=.i acc∧kv s b pos acc=pJ s∧s.size≤pos+b) (fun _ w'=>s.size-w'.iterPos w.heap.size);case atStart=>exact⟨0,s.size,0,rfl,rfl,rfl,by omega⟩
 case round=>
  obtain⟨pos,b,acc,rfl,rfl,hc,hb⟩:=hrel;by_cases hp:pos<s.size
  ·have hnx:∀ty,(Instr.next (.p w.heap.size) true ty).run Tryz.prog (w.iter s pos)=_:=fun ty=>run_next_any w s pos ty hp;have hwd:=XX s pos hp;obtain⟨b,rfl⟩:∃b',b=b'+1:=⟨b-1,by omega⟩;unfold kv at hc;rw[if_pos hp]at hc;generalize(Utf8.decode s pos).2=wd at*;obtain⟨r,hr⟩:∃r:Int,((Utf8.decode s pos).1:Int)=r:=⟨_,rfl⟩;simp only[hr]at hc hnx;clear hr;unfold SH at hc;cases h1:decide (r<97)<;>cases h2:decide (122<r)<;>cases h3:decide (r<945)<;>cases h4:decide (969<r)
   all_goals simp only[h1,h2,h3,h4,Bool.or_true,Bool.or_false,Bool.and_true,Bool.and_false,Bool.not_true,Bool.not_false,if_true,Bool.false_eq_true,if_false]at hc
   all_goals
    go_wp2_with fail
    first
     |(go_ret;rw[←hc];exact⟨rfl,_,rfl⟩)
     |(go_roundw;case rel=>exact⟨pos+wd,b,_,rfl,rfl,hc,by omega⟩
       case measure=>simp;omega)
  ·have hnx:∀ty,(Instr.next (.p w.heap.size) true ty).run Tryz.prog (w.iter s pos)=_:=fun ty=>run_next_end w s pos ty hp;rw[Y1 s b pos acc hp]at hc;by_cases h:1≤acc
   ·have hd:decide (1≤acc)=true:=by simpa using h
    rw[hd]at hc;go_wp2_with fail;go_ret;rw[←hc];exact⟨rfl,_,rfl⟩
   ·have hd:decide (1≤acc)=false:=by simpa using h
    rw[hd]at hc;go_wp2_with fail;go_ret;rw[←hc];exact⟨rfl,_,rfl⟩
end
end Go.Proofs.YtkmamlifgbocgaaGreat
