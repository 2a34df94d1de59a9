/- What the program's code does, as contracts, and what follows of it, part 32: for the law's proof. -/
import Derived.Test.YtkmamlifgbocgaaGreatP00
import Derived.Test.YtkmamlifgbocgaaGreatEWholePumps31
set_option linter.unusedVariables false
set_option linter.unusedSimpArgs false
set_option maxRecDepth 100000
set_option maxHeartbeats 16000000
namespace Go.Proofs.YtkmamlifgbocgaaGreat
section
open Go.RowKit Go.WideShapes Go.ChangeMaps
theorem w9{D:List Dv}{S:List (Int×Int)}{L:List Lk}{start:Int}(h:uI D S L start=0)(l:List En):y5 (L.map Lk.eu) (y3.none_ L.length) ((tZ D S L start).wR l)∧L.length≤8:=by
 obtain⟨hck,h0,h1⟩:=x8 h;have hP:=po.of hck;have hl:(tZ D S L start).ln=Zk (L.map Lk.eu):=(Mc.ZB _).2.1;have hr:y7 (y3.none_ L.length) (tZ D S L start).ln:=by rw[hl];exact y7.init hP
 have:=hr.wR l (wj.start hP h0 h1).rQ;replace this:y5 (tZ D S L start).ln.ls (y3.none_ L.length) ((tZ D S L start).wR l):=this;rw[hl]at this;exact⟨this,hP.l8⟩
theorem x4{w:World}{DA SA PA:Option Addr}{nd dc ns sc pn pc:Nat}{D:List Dv}{S:List (Int×Int)}{L:List Lk}(h:tE w DA SA PA nd dc ns sc pn pc D S L)(start:Int){A:Option Addr}{len cap:Nat}{f:Nat→En}(hs:jc w A len cap f):Calls Tryz.prog 5 #[.agg #[.slice DA nd dc,.slice SA ns sc,.slice PA pn pc],.i start,.slice A len cap] w fun e w'=>e=.returned (.bool true)∧Below w.heap.size w w':=by
 have hb1:Below w.heap.size w (w.alloc (.cells #[.slice DA nd dc,.slice SA ns sc,.slice PA pn pc] 26)):=(Below.refl _ _).alloc (zm _) _;have hok:=hs.Uz (xE:=120) (by omega);have HP:Hid (∀W,Below w.heap.size w W→tE W DA SA PA nd dc ns sc pn pc D S L):=I fun W hW=>h.below hW;have HOK:=I hok;have HSP2:Hid (∀W,Below (w.alloc (.cells #[.slice DA nd dc,.slice SA ns sc,.slice PA pn pc] 26)).heap.size (w.alloc (.cells #[.slice DA nd dc,.slice SA ns sc,.slice PA pn pc] 26)) W→Calls Tryz.prog 11 #[.slice A len cap,.i 120] W fun e w'=>∃v,e=.returned v∧Below W.heap.size W w'∧je En.yV 7 w' v (Uz f len 120)):=I fun W hW=>OX ((hs.below hb1).below hW) 120 (by omega);generalize Uz f len 120=l at*;have HB1:=I (NF w (.slice DA nd dc) (.slice SA ns sc) (.slice PA pn pc));have hel:=NE D S L start hok;have HPM:Hid (uI D S L start=0→y5 (L.map Lk.eu) (y3.none_ L.length) (VO D S L start l).2∧L.length≤8):=I fun hE=>by unfold VO;rw[if_pos hE];exact w9 hE l
 have HBB:Hid ((VO D S L start l).1=decide (uI D S L start=0)):=I (by
  unfold VO;split
  ·rename_i q;exact(decide_eq_true q).symm
  ·rename_i q;exact(decide_eq_false q).symm);have hll:=h.ll;clear h hs hok hb1;generalize hw1:w.alloc (.cells #[.slice DA nd dc,.slice SA ns sc,.slice PA pn pc] 26)=w1 at*;have HW1:=I hw1;clear hw1;go_in;go_wp2_with fail;rw[HW1.out];have HD1:Hid (Below w1.heap.size w1 w1.drew):=I (Below.refl _ _).drew;refine yP.region [0,1,2] (.step 3 (.step 4 (.step 5 (.step 6 (.step 7 (.step 8 (.step 9 .done))))))) (fun w'=>Below w1.heap.size w1 w') (by kernel_rfl) (by kernel_rfl) (fun _ _ _ _ _ h=>h) HD1.out ?_;repeat
  refine Perm.xm rfl ?_ (fun w' hS=>?_) ?_;rotate_left
  ·(obtain⟨-,c0,c1,c2⟩:=HB1.out _ hS;clear hS;go_simp;try with_reducible rfl)
  simp only[pt]
 refine Perm.xt ?_;refine yP.yY rfl (by rfl) ?_;refine yP.xJ rfl 11 _ _ rfl (by kernel_rfl) _ rfl ((HSP2.out _ HD1.out).mono ?_);rintro e w2 ⟨vl,rfl,hb2,hrd2⟩;have HB2:Hid (Below w1.heap.size w1 w2):=I (HD1.out.trans (hb2.mono HD1.out.size));refine⟨_,rfl,fun _ _=>HB2.out,?_⟩;simp only[pt];refine yP.yY rfl (by rfl) ?_;refine yP.xJ rfl 10 _ _ rfl (by kernel_rfl) _ rfl ((OW (HP.out w2 (HB1.out w2 HB2.out).1) start HOK.out hrd2).mono ?_);rintro e w3 ⟨va,rfl,hb3,hra⟩;have HB3:Hid (Below w1.heap.size w1 w3):=I (HB2.out.trans (hb3.mono HB2.out.size));refine⟨_,rfl,Perm.xx (by kernel_rfl),?_⟩;simp only[pt];repeat
  refine yP.xA rfl (by rfl) ?_ (fun w'=>?_) ?_;rotate_left
  ·(go_simp;try with_reducible rfl)
  simp only[pt]
 refine yP.xC ?_;rw[HBB.out];have HRA:=I hra;obtain⟨AA,ca,rfl,-,-⟩:=hra;obtain⟨-,d0,d1,d2⟩:=HB1.out w3 HB3.out;clear hb2 hb3 hrd2 HSP2 HD1 HB2;generalize(VO D S L start l).2=wR at*;obtain⟨n,hn⟩:∃n,wR.length=n:=⟨_,rfl⟩;have HN:=I hn;rw[hn]at hel⊢;clear hn HBB HOK;by_cases hE:uI D S L start=0
 ·obtain⟨hpm,hl8⟩:=HPM.out hE;rw[hll]at hpm hl8;rw[decide_eq_true hE];have HPA:=I hpm;have HLK:Hid (∀(k:Nat) x,L[k]? =some x→k<pn∧∃g off,PA=some (zc g off)∧∀W,Below w.heap.size w W→W.cell? (zc g (off+k*4))=some (.i x.kind)∧W.cell? (zc g (off+k*4+1))=some (.i x.from_)∧W.cell? (zc g (off+k*4+2))=some (.i x.aQ)∧W.cell? (zc g (off+k*4+3))=some (.i x.size)):=I fun k x hx=>by obtain⟨g,off,e,c0,c1,c2,c3⟩:=(HP.out w (Below.refl _ _)).lr k x hx;exact⟨by rw[←hll];exact(zk.1 hx).1,g,off,e,fun W hW=>⟨Below.xT hW c0,Below.xT hW c1,Below.xT hW c2,Below.xT hW c3⟩⟩
  have HLL:=I hll;clear hpm hE HPM HP hll;have hm1:=x5 pn hl8 w3;obtain⟨mk1,mk2,mk3⟩:=qL pn (by omega) (w3.alloc (.cells (xe pn).toArray 61));have HI:=I (y4.init (Own.start w3) pn hl8 (wm pn) mk1 mk2);generalize wm pn=md at*;obtain⟨-,c0,c1,c2⟩:=HB1.out w3 HB3.out;have hlt0:w.heap.size<w3.heap.size:=World.block_lt_of_cell? _ _ c2;have hne0:w.heap.size≠w3.heap.size:=by omega
  clear mk1 mk2 d0 d1 d2;go_wp2_with fail;generalize(w3.alloc (.cells (xe pn).toArray 61)).alloc (.cells md 3)=w4 at*;clear hm1 mk3 c0 c1 c2 hlt0 hne0;go_loopw [11] (fun i wr=>∃j:Nat,i=.i j∧j≤n∧y4 w3 pn ((y3.none_ pn).to (L.map Lk.eu) (wR.take j)) (.slice (zb w3.heap.size) pn pn) (.slice (zb (w3.heap.size+1)) pn pn) wr) (fun i _=>n-(intOf i).toNat);case atStart=>exact⟨0,rfl,by omega,HI.out⟩
  case round=>
   clear HI;obtain⟨j,rfl,hj,hpm⟩:=hrel;have hb:Below w1.heap.size w1 wr:=HB3.out.trans (hpm.base.mono HB3.out.size);by_cases hlt:j<n
   ·have hlt':(j:Int)<n:=by omega
    have dl:decide ((j:Int)<n)=true:=decide_eq_true hlt';obtain⟨x,hx⟩:∃x,wR[j]? =some x:=⟨wR[j]'(by rw[HN.out];exact hlt),zl (by rw[HN.out];exact hlt)⟩;obtain⟨A1,c1,e1,-,h1⟩:=HRA.out.below hpm.base;cases e1;obtain⟨g1,rfl,r1⟩:=h1 j x hx;obtain⟨p0,p1,p2,p3,p4,p5,p6,p7,p8,p9,p10,p11,p12,p13,p14⟩:=Ev.row r1;have hokx:=HPA.out.get hx;have hnx:=y3.wE (L:=L.map Lk.eu) (s:=y3.none_ pn) hx;have hlen:∀k,(((y3.none_ pn).to (L.map Lk.eu) (wR.take j)).y2.getD k []).length≤n:=fun k=>by
     have h0:=y3.wh (L:=L.map Lk.eu) k (wR.take j) (y3.none_ pn);have h1:((y3.none_ pn).y2.getD k []).length=0:=by unfold y3.none_;rw[y6];rfl
     have h2:(wR.take j).length≤j:=List.length_take_le _ _;omega
    generalize(y3.none_ pn).to (L.map Lk.eu) (wR.take j)=s at*;have HNX:=I hnx;have HLEN:=I hlen;clear hnx hlen;obtain⟨vd,⟨vk,vy,vp,vo,va,vb,vc⟩,⟨vt,vl,vq,ve,vn,vm⟩,vu⟩:=x;simp only at p0 p1 p2 p3 p4 p5 p6 p7 p8 p9 p10 p11 p12 p13 p14;have HEB:=I (w7 wr vd vk vy vp vo va vb vc vt vl vq ve vn vm vu);have HOX:=I hokx;have HPM:=I hpm;have HB:=I hb;clear h1 r1 hx hb hpm hokx HPA;go_wp2_with fail;generalize hwe:wr.alloc (.cells #[.i vd,.i vk,.i vy,.i vp,.i vo,.i va,.i vb,.i vc,.i vt,.i vl,.i vq,.i ve,.i vn,.i vm,.i vu] 43)=we at*;have HBE:Hid (Below we.heap.size we we∧Below w1.heap.size w1 we∧xl w3 pn s (.slice (zb w3.heap.size) pn pn) (.slice (zb (w3.heap.size+1)) pn pn) wr.heap.size #[.i vd,.i vk,.i vy,.i vp,.i vo,.i va,.i vb,.i vc,.i vt,.i vl,.i vq,.i ve,.i vn,.i vm,.i vu] we):=I (by rw[←hwe];exact⟨Below.refl _ _,HB.out.alloc HB.out.size _,HPM.out.ev _⟩);clear hwe p0 p1 p2 p3 p4 p5 p6 p7 p8 p9 p10 p11 p12 p13 p14 HB HPM;refine(w6 vd vk vy vp vo va vb vc vt vl vq ve vn vm vu _).mono ?_;rintro e w5 ⟨rfl,hb5⟩;have HB5:Hid (Below w1.heap.size w1 w5):=I (HBE.out.2.1.trans (hb5.mono HBE.out.2.1.size));have hpm5:=HBE.out.2.2.at_ hb5;have HE5:=I (HBE.out.2.2.below hb5);obtain⟨-,p0,p1,p2,p3,p4,p5,p6,p7,p8,p9,p10,p11,p12,p13,p14⟩:=HEB.out w5 hb5;obtain⟨hbw5,-,-,c2⟩:=HB1.out w5 HB5.out;have HP5:=I hpm5;clear hb5 HBE hpm5;have hskip:(vk=0∨va<0∨(pn:Int)≤va)→Hid (y4 w3 pn (s.nt (L.map Lk.eu) ⟨vd,⟨vk,vy,vp,vo,va,vb,vc⟩,⟨vt,vl,vq,ve,vn,vm⟩,vu⟩) (.slice (zb w3.heap.size) pn pn) (.slice (zb (w3.heap.size+1)) pn pn) w5):=fun hq=>by
     have:s.nt (L.map Lk.eu) ⟨vd,⟨vk,vy,vp,vo,va,vb,vc⟩,⟨vt,vl,vq,ve,vn,vm⟩,vu⟩=s:=by
      unfold y3.nt;split
      ·rfl
      ·rename_i q;replace q:¬(vk=0∨va<0):=q;have hnone:(L.map Lk.eu)[va.toNat]? =none:=zJ (by rw[zA,HLL.out];omega);show(match(L.map Lk.eu)[va.toNat]? with|none=>s|some l=>_)=s;rw[hnone]
     rw[this];exact HP5
    by_cases k0:vk=0
    ·as_aux_lemma=>
      have dk:(vk==0)=true:=by simpa using k0
      have HF:=hskip (.inl k0);clear hskip HP5 HOX k0 hbw5;go_wp2_with fail;go_roundw;case rel=>exact⟨j+1,by simp,by omega,by rw[HNX.out];exact HF.out.below ⟨rfl,rfl,rfl,zm _,fun _ _=>rfl⟩⟩
      case measure=>simp[intOf];omega
    have dk:(vk==0)=false:=by simpa using k0
    by_cases k1:va<0
    ·as_aux_lemma=>
      have da:decide (va<0)=true:=decide_eq_true k1;have HF:=hskip (.inr (.inl k1));clear hskip HP5 HOX k0 k1 hbw5;go_wp2_with fail;go_roundw;case rel=>exact⟨j+1,by simp,by omega,by rw[HNX.out];exact HF.out.below ⟨rfl,rfl,rfl,zm _,fun _ _=>rfl⟩⟩
      case measure=>simp[intOf];omega
    have da:decide (va<0)=false:=decide_eq_false k1;by_cases k2:(pn:Int)≤va
    ·as_aux_lemma=>
      have db:decide ((pn:Int)≤va)=true:=decide_eq_true k2;have HF:=hskip (.inr (.inr k2));clear hskip HP5 HOX k0 k1 k2 hbw5;go_wp2_with fail;go_roundw;case rel=>exact⟨j+1,by simp,by omega,by rw[HNX.out];exact HF.out.below ⟨rfl,rfl,rfl,zm _,fun _ _=>rfl⟩⟩
      case measure=>simp[intOf];omega
    have db:decide ((pn:Int)≤va)=false:=decide_eq_false k2;obtain⟨k,rfl⟩:∃k:Nat,va=k:=⟨va.toNat,by omega⟩;have hkp:k<pn:=by omega
    have hkp':(k:Int)<pn:=by omega
    have hpn8:=hl8;obtain⟨y,hy⟩:∃y,L[k]? =some y:=⟨L[k]'(by rw[HLL.out];exact hkp),zl (by rw[HLL.out];exact hkp)⟩;obtain⟨-,gl,off,rfl,hlc⟩:=HLK.out k y hy;obtain⟨l0,l1,l2,l3⟩:=hlc w5 hbw5;have hLS:(L.map Lk.eu)[k]? =some y.eu:=by rw[zx,hy];rfl
    have HNT:Hid (s.nt (L.map Lk.eu) ⟨vd,⟨vk,vy,vp,vo,k,vb,vc⟩,⟨vt,vl,vq,ve,vn,vm⟩,vu⟩=if y.kind≠2 then s else if vq=33∧vd=y.from_ then{s with y2:=s.y2.set k (s.y2.getD k []++[vb])}else if vq=34∧vd=y.aQ∧ve=0 then{s with at_:=s.at_.set k (s.at_.getD k 0+vm+1)}else s):=I (by unfold y3.nt;rw[if_neg (by show ¬(vk=0∨(k:Int)<0);omega)];show(match(L.map Lk.eu)[((k:Int)).toNat]? with|none=>s|some l=>_)=_;rw[zu,hLS];rfl);have HOY:Hid (y.kind=2→wS y.eu (s.y2.getD k []) (s.at_.getD k 0) ⟨vd,⟨vk,vy,vp,vo,k,vb,vc⟩,⟨vt,vl,vq,ve,vn,vm⟩,vu⟩):=I fun hk=>by have:=HOX.out y.eu k0 (Int.natCast_nonneg k) (by show(L.map Lk.eu)[((k:Int)).toNat]? =_;rw[zu];exact hLS) hk;simpa using this
    rw[HNT.out]at HNX;clear hskip HOX HNT hLS;obtain⟨y0,yy,y1,ys⟩:=y;simp only at l0 l1 l2 l3 hlc HNX HOY;by_cases h2:y0≠2
    ·as_aux_lemma=>
      have d2:(y0 != 2)=true:=by simpa using h2
      rw[if_pos h2]at HNX;have HF:=HP5;clear HP5 HOY k0 k1 k2 hbw5 h2 l1 l2 l3 hy;go_wp2_with fail;go_roundw;case rel=>exact⟨j+1,by simp,by omega,by rw[HNX.out];exact HF.out.below ⟨rfl,rfl,rfl,zm _,fun _ _=>rfl⟩⟩
      case measure=>simp[intOf];omega
    replace h2:y0=2:=zC h2;subst h2;rw[if_neg (by decide)]at HNX;obtain⟨os,od,orc⟩:=HOY.out rfl;simp only at os od orc;clear HOY hy k1 k2;by_cases q33:vq=33
    ·subst q33;obtain⟨o1,o2,o3⟩:=os rfl;subst o2 o3;by_cases hdf:vd=yy
     ·as_aux_lemma=>
       subst hdf;obtain rfl:ve=0:=o1.2 rfl;rw[if_pos ⟨rfl,rfl⟩]at HNX;obtain⟨γ,o,hin,hge⟩:=HE5.out;obtain⟨z6,J,A9,c9,e1,q1,sl,hpush⟩:=hin.y2 o hkp vb;cases e1;have hlen:=HLEN.out k;generalize hsn:s.y2.getD k []=sn at*;have hlen':sn.length≤480000000:=by omega
       have HSL:=I sl;have HPU:=I hpush;have HO:=I o;have HGE:=I hge;have HQ:=I q1;have HP6:=I p6;have HLC:=I hlc;have HSN:=I hsn;clear hlen sl hpush o hge q1 hin HP5 HE5 o1 os od orc k0 hbw5 hsn;go_wp2_with fail;go_quiet (fail);go_wp2_with fail;clear p0 p1 p2 p3 p4 p5 p6 p7 p8 p9 p10 p11 p12 p13 p14 l0 l1 l2 l3 c2;refine yP.region [2,3,4,5,6,7,8] (.step 0 (.step 1 (.step 9 (.step 10 (.step 11 (.step 12 .done)))))) (fun w'=>Below w5.heap.size w5 w') (by kernel_rfl) (by kernel_rfl) (fun _ _ _ _ _ h=>h) ⟨rfl,rfl,rfl,zm _,fun _ _=>rfl⟩ ?_;repeat
        refine Perm.xm rfl ?_ (fun w' hS=>?_) ?_;rotate_left
        ·(have r1:=Below.xT hS HQ.out;have r6:=Below.xT hS HP6.out;clear hS;go_simp;try with_reducible rfl)
        simp only[pt]
       refine Perm.xt ?_;repeat
        refine yP.xA rfl (by rfl) ?_ (fun w'=>?_) ?_;rotate_left
        ·(go_simp;try with_reducible rfl)
        simp only[pt]
       refine yP.yY rfl (by rfl) ?_;refine yP.xy rfl (.value (.slice (zb w5.heap.size) 1 1)) _ (.inl rfl) (w':=(w5.drewN nq).drew.alloc (.cells #[.i vb] 3)) (by go_simp;try with_reducible rfl) (fun _ hS=>hS.alloc hS.size _) ?_;simp only[pt];have o9:=(HO.out.xh (w':=(w5.drewN nq).drew) ⟨rfl,rfl,rfl,zm _,fun _ _=>rfl⟩).new 5 (.cells #[.i vb] 3);have HR9:Hid (Reads ((w5.drewN nq).drew.alloc (.cells #[.i vb] 3)) 1 (.slice (zb w5.heap.size) 1 1) 1 [.i vb]):=I (eI (m:=1) (xs:=[.i vb]) o9 (yQ _ _ _ _) rfl (by intro u hu;simp at hu;subst hu;rfl));have HS9:=I (HSL.out.keep (γ':=put γ 5 ((w5.drewN nq).drew).heap.size (.cells #[.i vb] 3)) (yO _ _ _ (by omega)));have O9:=I o9;clear o9;refine yP.yY rfl (by rfl) ?_;refine yP.pF rfl fun K' hK=>tN (.tmp 87) (.tmp 91) 61 rfl 3 _ 1 8 Tryz.underlying61 Tryz.tF rfl (by decide) O9.out HS9.out rfl HR9.out rfl (by unfold maxLen;omega) (by omega) fun A8 c8 w8 γ8 hA8 o8 s8 k8=>hK _ _ (Perm.xx (by kernel_rfl)) ?_;simp only[pt];obtain⟨⟨u1,u2,u3,z0⟩,zf,γ2,o2,hin2,hg2⟩:=HPU.out A8 c8 w8 γ8 o8 s8 (fun i i1 i2=>(k8 i i1).trans (yO _ _ _ i2));refine yP.yY rfl (by rfl) ?_;refine yP.rP rfl (.pointer (some (zc w3.heap.size k))) (by go_simp;try with_reducible rfl) ?_;simp only[pt];refine yP.yY rfl (by rfl) ?_;refine yP.xy rfl .skip undef (.inr ⟨rfl,rfl⟩) (w':=w8.setCell (zc w3.heap.size k) (.slice A8 (sn.length+1) c8)) (by go_simp;try with_reducible rfl) (Perm.xx (by kernel_rfl)) ?_;simp only[pt];refine yP.xC ?_;generalize w8.setCell (zc w3.heap.size k) (.slice A8 (sn.length+1) c8)=w10 at*;have hg3:=hg2.trans HGE.out;have hb10:Below w1.heap.size w1 w10:=HB3.out.trans (o2.below.mono HB3.out.size);obtain⟨hbw,-,-,c2⟩:=HB1.out w10 hb10;obtain⟨l0,l1,l2,l3⟩:=HLC.out w10 hbw;have p0:=o2.cell hg3 (i:=0) (v:=.i vd) rfl;have p10:=o2.cell hg3 (i:=10) (v:=.i 33) rfl;have p11:=o2.cell hg3 (i:=11) (v:=.i 0) rfl;have p12:=o2.cell hg3 (i:=12) (v:=.i 0) rfl;have p13:=o2.cell hg3 (i:=13) (v:=.i 0) rfl;have HF:Hid (y4 w3 pn {s with y2:=s.y2.set k (sn++[vb])} (.slice (zb w3.heap.size) pn pn) (.slice (zb (w3.heap.size+1)) pn pn) w10):=I ⟨γ2,o2,hin2⟩;clear hA8 o8 s8 k8 z0 zf o2 hin2 hg2 hg3 hb10 hbw HPU HO HGE HQ HP6 HSL HR9 HS9 O9;go_wp2_with fail;go_quiet (fail);go_wp2_with fail;go_roundw
       case rel=>exact⟨j+1,by simp,by omega,by rw[HNX.out];exact HF.out.below ⟨rfl,rfl,rfl,zm _,fun _ _=>rfl⟩⟩
       case measure=>simp[intOf];omega
     ·as_aux_lemma=>
       have zs:(vd==yy)=false:=by simpa using hdf
       have R:(ve==0)=false:=by
        by_cases e0:ve=0
        ·exact absurd (o1.1 e0) hdf
        ·simpa using e0
       rw[if_neg (fun q=>hdf q.2),if_neg (fun q=>by omega)]at HNX;have HF:=HP5;clear HP5 HE5 o1 os od orc hdf hbw5 k0 hlc;go_wp2_with fail;go_quiet (fail);go_wp2_with fail;go_quiet (fail);go_wp2_with fail;go_roundw;case rel=>exact⟨j+1,by simp,by omega,by rw[HNX.out];exact HF.out.below ⟨rfl,rfl,rfl,zm _,fun _ _=>rfl⟩⟩
       case measure=>simp[intOf];omega
    have d33:(vq==33)=false:=by simpa using q33
    rw[if_neg (fun q=>q33 q.1)]at HNX;by_cases q34:vq≠34
    ·as_aux_lemma=>
      have d34:(vq != 34)=true:=by simpa using q34
      rw[if_neg (fun q=>q34 q.1)]at HNX;have HF:=HP5;clear HP5 HE5 os od orc hbw5 k0 q33 q34 hlc;go_wp2_with fail;all_goals
       go_roundw;case rel=>exact⟨j+1,by simp,by omega,by rw[HNX.out];exact HF.out.below ⟨rfl,rfl,rfl,zm _,fun _ _=>rfl⟩⟩
       case measure=>simp[intOf];omega
    replace q34:vq=34:=zC q34;subst q34;by_cases hdt:vd≠y1
    ·as_aux_lemma=>
      have dt:(vd != y1)=true:=by simpa using hdt
      obtain rfl:ve=10:=od rfl hdt;rw[if_neg (fun q=>hdt q.2.1)]at HNX;have HF:=HP5;clear HP5 HE5 os od orc hbw5 k0 q33 hdt d33 hlc;go_wp2_with fail;all_goals(try(go_quiet (fail);go_wp2_with fail))
      all_goals
       go_roundw;case rel=>exact⟨j+1,by simp,by omega,by rw[HNX.out];exact HF.out.below ⟨rfl,rfl,rfl,zm _,fun _ _=>rfl⟩⟩
       case measure=>simp[intOf];omega
    replace hdt:vd=y1:=zC hdt;subst hdt;obtain⟨z6,J,gA,cA,A9,c9,e1,e2,zf,hrow,hset⟩:=HP5.out.row hkp;cases e1;cases e2;obtain⟨z1,z2,z3⟩:=hrow;have hlen:=HLEN.out k;have HSET:=I hset;generalize hsn:s.y2.getD k []=sn at*;generalize hat:s.at_.getD k 0=at0 at*;have hlen':sn.length≤480000000:=by omega
    have hend:=orc rfl rfl;clear hset os od orc k0 q33 HE5 hbw5 hlc hlen hsn;rcases hend with⟨rfl,hq⟩|⟨rfl,m0,a0,m1,hw,hsz⟩
    ·as_aux_lemma=>
      have dne:(at0 != (sn.length:Int))=false:=by simp[hq]
      rw[if_neg (fun q=>by omega)]at HNX;have HF:=HP5;clear hq z3 HSET hat;generalize sn.length=nn at*;go_wp2_with fail;go_quiet (fail);go_wp2_with fail;go_quiet (fail);go_wp2_with fail;go_roundw;case rel=>exact⟨j+1,by simp,by omega,by rw[HNX.out];exact HF.out.below ⟨rfl,rfl,rfl,zm _,fun _ _=>rfl⟩⟩
      case measure=>simp[intOf];omega
    ·as_aux_lemma=>
      have d0:decide (vm<0)=false:=decide_eq_false (by omega);obtain⟨nx,hnx⟩:∃nx:Nat,at0+vm=nx:=⟨(at0+vm).toNat,by omega⟩;rw[hnx]at m1 hw hsz;rw[zu]at hw;obtain⟨g9,rfl,z4⟩:=z3 nx vn hw;have hnl:nx<sn.length:=by omega
      have dn:decide ((sn.length:Int)≤nx)=false:=decide_eq_false (by omega);have dn2:decide (sn.length≤nx)=false:=decide_eq_false (by omega);rw[if_pos ⟨rfl,rfl,rfl⟩]at HNX;have HF:Hid (y4 w3 pn {s with at_:=s.at_.set k (at0+vm+1)} (.slice (zb w3.heap.size) pn pn) (.slice (zb (w3.heap.size+1)) pn pn) (w5.setCell (zc (w3.heap.size+1) k) (.i ((nx:Int)+1)))):=I (by rw[hnx];exact HSET.out _);have hq:decide (0<vm)=false∨(decide (0<vm)=true∧((sn.length:Int)-nx != ys)=false):=by
       by_cases c:0<vm
       ·exact .inr ⟨decide_eq_true c,by simp;exact hsz c⟩
       ·exact .inl (decide_eq_false c)
      clear hw hsz z3 HSET hat HP5;generalize sn.length=nn at*;rcases hq with hq|⟨hq,hq'⟩;all_goals
       go_wp2_with fail;go_quiet (fail);go_wp2_with fail;go_quiet (fail);go_wp2_with fail;clear hnx m0 a0;go_quiet (fail);go_wp2_with fail;go_roundw;case rel=>exact⟨j+1,by simp,by omega,by rw[HNX.out];exact HF.out.below ⟨rfl,rfl,rfl,zm _,fun _ _=>rfl⟩⟩
       case measure=>simp[intOf];omega
   ·obtain rfl:j=n:=by omega
    have dl:decide ((j:Int)<j)=false:=by simp
    have HB:=I hb;clear hb hpm;go_wp2_with fail;refine(NA _).mono ?_;rintro e w5 ⟨rfl,hb5⟩;have HF:Hid (Below w.heap.size w w5):=I ((HB1.out _ HB.out).1.trans (hb5.mono (HB1.out _ HB.out).1.size));clear hb5;go_wp2_with fail;go_ret;exact⟨rfl,HF.out⟩
 ·rw[decide_eq_false hE];clear HPM hE HP;go_wp2_with fail;refine(NA _).mono ?_;rintro e w5 ⟨rfl,hb5⟩;have HF:Hid (Below w.heap.size w w5):=I ((HB1.out _ HB3.out).1.trans (hb5.mono (HB1.out _ HB3.out).1.size));clear hb5;go_wp2_with fail;go_ret;exact⟨rfl,HF.out⟩
theorem wA(a:Int)(A:Option Addr)(len cap:Nat)(w:World){DA SA PA:Option Addr}{nd dc ns sc pn pc:Nat}{D:List Dv}{S:List (Int×Int)}{L:List Lk}(h:tE w DA SA PA nd dc ns sc pn pc D S L)(_:(Lit.int .i64 a).wf=true)(hr:RowsIn w A len cap Pt):Calls Tryz.prog 5 #[.agg #[.slice DA nd dc,.slice SA ns sc,.slice PA pn pc],.i a,.slice A len cap] w fun e w'=>e=.returned (.bool true)∧Below w.heap.size w w':=by obtain⟨f,hs⟩:=Nw hr;exact x4 h a hs
end
end Go.Proofs.YtkmamlifgbocgaaGreat
