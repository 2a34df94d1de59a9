/- What the program's code does, as contracts, and what follows of it, part 16: for the law's proof. -/
import Derived.Test.YtkmamlifgbocgaaGreatP00
import Derived.Test.YtkmamlifgbocgaaGreatP15
import Derived.Deep.CutBlock
import Derived.Deep.DeepCutAuto
import Derived.Shelf.Strings.Builder1
import Derived.Shelf.Strings.Builder2
import Derived.Shelf.Small.Bits
import Derived.Shelf.Strings.BuilderF
import Derived.Shelf.Strconv.Itoa0
import Derived.Shelf.Strings.Prefix
import Derived.Shelf.Bits.Mul64
import Derived.Shelf.Strings.Repeat
import Derived.Ground.Names2Prog
import Derived.Shelf.Slices.Clone
import Derived.Shelf.Slices.SearchI
import Derived.Shelf.Slices.Delete
import Derived.Shelf.Slices.Cells
import Derived.Shelf.Slices.Empties
import Derived.Ground.SlgnProg
import Derived.Shelf.SlicesE.Clone
import Derived.Test.YtkmamlifgbocgaaGreatProg
set_option linter.unusedVariables false
set_option linter.unusedSimpArgs false
set_option maxRecDepth 100000
set_option maxHeartbeats 16000000
namespace Go.Proofs.YtkmamlifgbocgaaGreat
section
open Go.RowKit Go.WideShapes
theorem fZ(P:Program)(g o:Nat)(t:TypeId)(fz:Nat×Nat):∀(vs:List Value) (i:Nat) (cur:Array Value) (w:World),w.heap[g]? =some (.cells cur t fz)→o+i+vs.length≤fz.1→o+i+vs.length≤cur.size→(∀v∈vs,v.oneCell'=true)→
 (storeCells (zc g o) vs i).run P w=.ok () (w.setRow g (cur.toList.take (o+i)++vs++cur.toList.drop (o+i+vs.length)).toArray)
 |[],i,cur,w,hg,_,_,_=>by
  simp only[storeCells,zP,zY,yv,List.take_append_drop,Array.toArray_toList]
  rw[setRow_self w g cur t fz hg]
  rfl
 |v::rest,i,cur,w,hg,hfz,hl,h1=>by
  have hi:o+i<cur.size:=by simp at hl;omega
  have hadd:((zc g o):Addr).add i=(zc g (o+i)):=by unfold Addr.add;split<;>simp_all
  have hcell:w.cell? (zc g (o+i))=some cur[o+i]:=by simp[World.cell?,hg,hi]
  have hfro:w.frozen? (zc g (o+i))=false:=by
   obtain⟨lo,hi'⟩:=fz
   simp only[World.frozen?,hg,Bool.and_eq_false_iff,decide_eq_false_iff_not]
   left
   simp at hfz
   omega
  have hst:(store (((zc g o):Addr).add i) v).run P w=.ok () (w.setRow g (cur.setIfInBounds (o+i) v)):=by
   rw[hadd,run_store P w _ v _ (h1 v (by simp)),hcell]
   simp[hfro,setCell_eq_setRow w g (o+i) cur t fz v hg]
  have ih:=fZ P g o t fz rest (i+1) (cur.setIfInBounds (o+i) v) (w.setRow g (cur.setIfInBounds (o+i) v)) (setRow_heap w g cur _ t _ hg) (by simp at hfz;omega) (by simp at hl⊢;omega) (fun x hx=>h1 x (by simp[hx]))
  simp only[storeCells,Sem.run_bind,hst,Result.andThen_ok,ih,setRow_setRow]
  congr 3
  have e:=list_seg_step cur.toList (o+i) v rest (by simp at hl⊢;omega)
  simpa[yE,Nat.add_assoc]using e
theorem Yw{w:World}{g n cap hi B:Nat}{cur:Array Value}{l k:List Int}{ad:Addr}{m c:Nat}(hg:w.heap[g]? =some (.cells cur 5 (cap,hi)))(hsz:cur.size=cap)(hnc:n≤cap)(htk:cur.toList.take n=wv l)(hl:l.length=n)(hk:k.length=m)(hm:0<m)(hnm:n+m≤1000)(hnews:∀j u,(wv k)[j]? =some u→w.cell? (ad.add j)=some u)(hB:B≤g):∃g' cap' w',(Builtin.append_ #[245,245] 245 #[.slice (zb g) n cap,.slice (some ad) m c]).run Tryz.prog w=.ok (.slice (zb g') (n+m) cap') w'∧(∀j u,(wv (l++k))[j]? =some u→w'.cell? (zc g' j)=some u)∧Below B w w':=by
 obtain⟨i,h0,hz,hsize,hby⟩:=info_parts Tryz.eF;have hgl:=(zI.1 hg).1;have hnl:(wv k).length=m:=by rw[tG];exact hk
 have hll:(wv l).length=n:=by rw[tG];exact hl
 have happ:wv (l++k)=wv l++wv k:=by simp[wv]
 by_cases hroom:n+m≤cap
 ·have hst:=fZ Tryz.prog g n 5 (cap,hi) (wv k) 0 cur w hg (by simp[hnl];omega) (by simp[hnl];omega) (eN _);simp only[yv,hnl]at hst;have hf:=run_firstCells_some (P:=Tryz.prog) w 1 m ad m c (wv k) (by omega) hnews;have hr:(Builtin.append_ #[245,245] 245 #[.slice (zb g) n cap,.slice (some ad) m c]).run Tryz.prog w=.ok (.slice (zb g) (n+m) cap) (w.setRow g (cur.toList.take n++wv k++cur.toList.drop (n+m)).toArray):=by simp[Builtin.append_,run_underlying Tryz.underlying245,sizeOf,typeInfo,h0,hsize,Builtin.lenOf,hroom,hf,Addr.add_lit,hst]
  refine⟨g,cap,_,hr,fun j u hj=>?_,(Below.refl B w).grown (row:=some g) ⟨rfl,rfl,rfl,by simp,fun k _ hk=>setRow_other w g k _ (fun e=>hk (by rw[e]))⟩ (by omega) fun k hk=>by cases hk;exact hB⟩;rw[happ]at hj;have hh:=setRow_heap w g cur (cur.toList.take n++wv k++cur.toList.drop (n+m)).toArray 5 _ hg;simp only[World.cell?,hh];rw[htk];have hjl:j<(wv l++wv k).length:=(zk.1 hj).1;simp only[List.getElem?_toArray];rw[zF hjl];exact hj
 ·have hold:∀j v,(wv l)[j]? =some v→w.cell? (((zc g 0):Addr).add j)=some v:=fun j v hj=>by
   rw[Go.WideShapes.add_plain,zy];rw[←htk,zG]at hj;split at hj
   ·simp only[World.cell?,hg];simpa using hj
   ·cases hj
  have hr:=run_append_grow (P:=Tryz.prog) w 245 245 5 i (.int .u8 0) Tryz.underlying245 h0 hz (zc g 0) n cap (wv l) (by rw[hsize,hll,yG]) hold ad m c (wv k) (by rw[hsize,hnl,yG]) hnews (by omega) (by omega) (growslice_fits (by omega) (by rw[hby];omega));refine⟨_,_,_,hr,fun j u hj=>?_,(Below.refl B w).grown (row:=none) ⟨rfl,rfl,rfl,by simp,fun k hk _=>heap_alloc_old w.drew _ hk⟩ (by omega) fun k hk=>by cases hk⟩;rw[happ]at hj;have hh:=heap_alloc_new w.drew (.cells ((wv l).toArray++(wv k).toArray++Builtin.zeroCells (Value.int .u8 0).cells (grownCap w (n+m) cap 5-(n+m))) 5);have e:(w.drew).heap.size=w.heap.size:=rfl;rw[e]at hh;simp only[World.cell?,hh];have hjl:j<(wv l++wv k).length:=(zk.1 hj).1;rw[Array.getElem?_append_left (by simpa using hjl)];simpa using hj
theorem Vc(w:World)(s:ByteArray)(hs:s.size≤1000):∃cur hi,(Go.Lib.bytesWorld w 5 s).heap[w.heap.size]? =some (.cells cur 5 (grownCap w s.size 0 5,hi))∧cur.size=grownCap w s.size 0 5∧s.size≤grownCap w s.size 0 5∧cur.toList.take s.size=wv (s.data.toList.map fun b=>(b.toNat:Int))∧Below w.heap.size w (Go.Lib.bytesWorld w 5 s):=by
 have hge:=grownCap_ge w s.size 0 5;have hsz:(Go.Lib.bytesCells w 5 s).size=grownCap w s.size 0 5:=by unfold Go.Lib.bytesCells;rw[Array.size_append,Array.size_map,Array.size_replicate];show s.size+_=_;omega
 have hn:=Go.Lib.bytesWorld_at_new w 5 s;rw[hsz]at hn;refine⟨_,_,hn,hsz,hge,?_,⟨rfl,rfl,rfl,by rw[Go.Lib.bytesWorld_size];omega,fun k hk=>Go.Lib.bytesWorld_at_old w 5 s k hk⟩⟩;unfold Go.Lib.bytesCells;rw[Array.toList_append];have e:(s.data.map fun b=>Value.int .u8 b.toNat).toList=wv (s.data.toList.map fun b=>(b.toNat:Int)):=by simp[wv]
 rw[e];refine yz ?_;rw[tG,zA];rfl
end
section
open Go.RowKit Go.WideShapes
theorem Xf{w:World}(s:ByteArray)(hs:s.size=32)(x:Rc):Calls Tryz.prog 165 #[.string s,.agg x.xq] w fun e w'=>(∃s':ByteArray,e=.returned (.string s')∧s'.size=32)∧Below w.heap.size w w':=by
 have hb1:Below w.heap.size w (w.alloc (.cells x.xq 282)):=(Below.refl _ _).alloc (zm _) _;obtain⟨cur,hi,hg,hsz,hnc,htk,hb2⟩:=Vc (w.alloc (.cells x.xq 282)) s (by omega);have hcv:=Go.Lib.run_convert_string_bytes (P:=Tryz.prog) (w.alloc (.cells x.xq 282)) 9 245 5 s Tryz.underlying9 Tryz.underlying245 Tryz.underlying5;have o2:=((Own.start w).new 1 (.cells x.xq 282)).xh hb2;have b1:=yQ (fun _=>none) 1 w.heap.size (.cells x.xq 282);have hz1:(w.alloc (.cells x.xq 282)).heap.size=w.heap.size+1:=by simp
 have hbytes:=SX (w:=Go.Lib.bytesWorld (w.alloc (.cells x.xq 282)) 5 s) x;rw[hz1]at hcv hg hb2;generalize grownCap (w.alloc (.cells x.xq 282)) s.size 0 5=cap at*;generalize Go.Lib.bytesWorld (w.alloc (.cells x.xq 282)) 5 s=W2 at*;have HC:Hid (∀(j:Nat) u,x.xq[j]? =some u→W2.cell? (zc w.heap.size j)=some u):=I fun j u hj=>o2.cell b1 hj;have HB:Hid (Below w.heap.size w W2):=I (hb1.trans (hb2.mono (by omega)));have hlt:=(zI.1 hg).1;rw[hs]at hcv hnc htk;have hlen:(s.data.toList.map fun b=>(b.toNat:Int)).length=32:=by rw[zA];exact hs
 generalize(s.data.toList.map fun b=>(b.toNat:Int))=L at*;have HG:=I hg;have HT:=I htk;have HZ:=I hsz;obtain⟨a1,a2,a3,a4,a5,a6,a7,a8,a9,a10⟩:=x;have r0:=HC.out 0 (.i a1) rfl;have r1:=HC.out 1 (.i a2) rfl;have r2:=HC.out 2 (.i a3) rfl;have r3:=HC.out 3 (.i a4) rfl;have r4:=HC.out 4 (.i a5) rfl;have r5:=HC.out 5 (.i a6) rfl;have r6:=HC.out 6 (.i a7) rfl;have r7:=HC.out 7 (.i a8) rfl;have r8:=HC.out 8 (.i a9) rfl;have r9:=HC.out 9 (.i a10) rfl;unfold Rc.xq at hcv hbytes⊢;simp only at hcv hbytes⊢;clear hb1 hb2 o2 b1 HC hg htk hsz hz1;go_in;go_wp2_with fail;refine hbytes.mono ?_;rintro e w3 ⟨g3,l3,rfl,hl3,hc3,hb3⟩;obtain⟨g5,cap5,w5,hrun,hc5,hb5⟩:=Yw (w:=w3) (B:=w.heap.size) (k:=l3) (m:=80) (c:=80) (ad:=(zc g3 0)) ((hb3.block _ hlt).trans HG.out) HZ.out hnc HT.out hlen hl3 (by omega) (by omega) (fun j u hj=>by rw[Go.WideShapes.add_plain,zy];exact hc3 j u hj) (by omega);have hR:Reads w5 1 (.slice (zb g5) 112 cap5) 112 (wv (L++l3)):=.inr ⟨_,_,rfl,by rw[tG,zr,hlen,hl3],fun j u hj=>by rw[Go.WideShapes.add_plain,zy];exact hc5 j u hj,eN _⟩;have hof:=Nn hR;have HF:Hid (Below w.heap.size w w5):=I ((HB.out.trans (hb3.mono HB.out.size)).trans hb5);have HRUN:=I hrun;clear hbytes hrun hR hc5 hc3 hb3 hb5 r0 r1 r2 r3 r4 r5 r6 r7 r8 r9 HG HT HZ HB;go_wp2_with (at_builtin;refine Go.Lib.wpList_append_run _ rfl (.tmp 6) (.tmp 8) 245 245 rfl _ _ rfl rfl _ _ HRUN.out ?_);refine hof.mono ?_;rintro e w6 ⟨⟨s',rfl,hs'⟩,hb6⟩;have HG:Hid (Below w.heap.size w w6):=I (HF.out.trans (hb6.mono HF.out.size));clear hb6 hof;go_wp2_with fail;go_ret;exact⟨⟨s',rfl,hs'⟩,HG.out⟩
end
section
open Go.RowKit Go.WideShapes
def xN.xq(x:xN):Array Value:=#[.i x.xI,.i x.clock,.i x.op,.i x.e,.i x.n,.i x.m]
def XI(w0:World)(γ:U)(b g T1 T2 gr:Nat)(rc:Rc)(W:World):Prop:=
 ∃ring dropped v rs s1 s2 γ',γ' b=some (g,.cells #[.i ring,v,.string s1,.string s2,.i dropped] 176 (0,0))∧yR γ' (b+1) 282 10 v rs.length (yW Rc.yV rs)∧1≤ring∧ring≤16∧(rs.length:Int)<ring∧s1.size=32∧s2.size=32∧Own w0 W γ'∧γ' T2=some (gr,.cells rc.xq 282 (0,0))∧∀k,(k<b∨b+2≤k)→k≠T1→k≠T2→γ' k=γ k
def LgIn(γ:U)(b g:Nat)(ring dropped:Int)(v:Value)(rs:List Rc)(s1 s2:ByteArray):Prop:=
 γ b=some (g,.cells #[.i ring,v,.string s1,.string s2,.i dropped] 176 (0,0))∧yR γ (b+1) 282 10 v rs.length (yW Rc.yV rs)∧1≤ring∧ring≤16∧(rs.length:Int)≤ring∧s1.size=32∧s2.size=32
section
variable {w0 w:World} {γ:U} {b g:Nat}
theorem Ot(h:kw γ b g)(ho:Own w0 w γ)(o:xN)(x y z:Int)(T1 T2:Nat)(ht1:T1<b∨b+2≤T1)(ht2:T2<b∨b+2≤T2)(ht:T1≠T2):Calls Tryz.prog 123 #[.p g,.agg o.xq,.i x,.i y,.i z] w fun e w'=>(∃v,e=.returned v)∧∃γ',Own w0 w' γ'∧kw γ' b g∧∀k,(k<b∨b+2≤k)→k≠T1→k≠T2→γ' k=γ k:=by
 obtain⟨ring,dropped,v,rs,s1,s2,h1,hs,hr1,hr2,hr3,hz1,hz2⟩:=h;obtain⟨o1,o2,o3,o4,o5,o6⟩:=o;have oB:=ho.new T1 (.cells (xN.xq ⟨o1,o2,o3,o4,o5,o6⟩) 41);have bB:=yQ γ T1 w.heap.size (.cells (xN.xq ⟨o1,o2,o3,o4,o5,o6⟩) 41);have kB:∀k,k≠T1→put γ T1 w.heap.size (.cells (xN.xq ⟨o1,o2,o3,o4,o5,o6⟩) 41) k=γ k:=fun k hk=>yO _ _ _ hk;generalize put γ T1 w.heap.size (.cells (xN.xq ⟨o1,o2,o3,o4,o5,o6⟩) 41)=γ1 at*;replace h1:=(kB b (by omega)).trans h1;replace hs:=hs.keep (γ':=γ1) (kB (b+1) (by omega));obtain⟨A0,c0,rfl,hc0⟩:=hs.form;have hlen16:rs.length≤16:=by omega
 have HC:Hid (∀W,Own w0 W γ1→(W.cell? (zc g 0)=some (.i ring)∧W.cell? (zc g 1)=some (.slice A0 rs.length c0)∧W.cell? (zc g 4)=some (.i dropped))∧W.cell? (zc w.heap.size 0)=some (.i o1)∧W.cell? (zc w.heap.size 1)=some (.i o2)∧W.cell? (zc w.heap.size 2)=some (.i o3)∧W.cell? (zc w.heap.size 3)=some (.i o4)∧W.cell? (zc w.heap.size 4)=some (.i o5)∧W.cell? (zc w.heap.size 5)=some (.i o6)):=I fun W hW=>⟨⟨hW.cell h1 rfl,hW.cell h1 rfl,hW.cell h1 rfl⟩,hW.cell bB rfl,hW.cell bB rfl,hW.cell bB rfl,hW.cell bB rfl,hW.cell bB rfl,hW.cell bB rfl⟩;have HO:=I oB;have H1:=I h1;have HS:=I hs;clear ho oB h1 hs bB;unfold xN.xq at HO⊢;simp only at HO⊢;go_in;go_wp2_with fail;have HD:=I HO.out.drew;refine yP.region [0,1,2,3,4,5,6,7,8,9,10,11,12,13,14] (.step 15 (.step 16 .done)) (fun w'=>Own w0 w' γ1) (by kernel_rfl) (by kernel_rfl) (fun _ _ _ _ _ h=>h) HD.out ?_;repeat
  refine Perm.xm rfl ?_ (fun w' hS=>?_) ?_;rotate_left
  ·(obtain⟨⟨q1,q2,q3⟩,q4,q5,q6,q7,q8,q9⟩:=HC.out _ hS;clear hS;go_simp;try with_reducible rfl)
  simp only[pt]
 refine Perm.xt ?_;refine yP.yY rfl (by rfl) ?_;refine yP.xy rfl (.value (.p (w.heap.size+1))) _ (.inl rfl) (w':=(w.alloc (.cells #[.i o1,.i o2,.i o3,.i o4,.i o5,.i o6] 41)).drew.alloc (.cells #[.i 0,.i 0,.i 0,.i 0,.i 0,.i 0,.i 0,.i 0,.i 0,.i 0] 282)) (by go_simp;try with_reducible rfl) (fun _ hS=>hS.xh ((Below.refl _ _).alloc (zm _) _)) ?_;simp only[pt];refine yP.yY rfl (by rfl) ?_;refine yP.xy rfl .skip undef (.inr ⟨rfl,rfl⟩) (w':=?_) ?_ (Perm.xx (by kernel_rfl)) ?_;rotate_left
 ·(go_simp;try with_reducible rfl)
 simp only[pt];refine yP.xC ?_;have oR:=(HO.out.new T2 (.cells #[.i (IntKind.i64.wrap (dropped+rs.length)),.i o1,.i o2,.i o3,.i o4,.i o5,.i o6,.i x,.i y,.i z] 282)).drew;have hzz:(w.alloc (.cells #[.i o1,.i o2,.i o3,.i o4,.i o5,.i o6] 41)).heap.size=w.heap.size+1:=by simp
 rw[hzz]at oR;have bR:=yQ γ1 T2 (w.heap.size+1) (.cells #[.i (IntKind.i64.wrap (dropped+rs.length)),.i o1,.i o2,.i o3,.i o4,.i o5,.i o6,.i x,.i y,.i z] 282);have kR:∀k,k≠T2→put γ1 T2 (w.heap.size+1) (.cells #[.i (IntKind.i64.wrap (dropped+rs.length)),.i o1,.i o2,.i o3,.i o4,.i o5,.i o6,.i x,.i y,.i z] 282) k=γ1 k:=fun k hk=>yO _ _ _ hk;generalize put γ1 T2 (w.heap.size+1) (.cells #[.i (IntKind.i64.wrap (dropped+rs.length)),.i o1,.i o2,.i o3,.i o4,.i o5,.i o6,.i x,.i y,.i z] 282)=γ2 at*;generalize IntKind.i64.wrap (dropped+rs.length)=sq at*;generalize((w.alloc (.cells #[.i o1,.i o2,.i o3,.i o4,.i o5,.i o6] 41)).alloc (.cells #[.i sq,.i o1,.i o2,.i o3,.i o4,.i o5,.i o6,.i x,.i y,.i z] 282)).drew=W2 at*;generalize hgr:w.heap.size+1=gr at*;have H1':=I ((kR b (by omega)).trans H1.out);have HS':=I (HS.out.keep (γ':=γ2) (kR (b+1) (by omega)));have OR:=I oR;have BR:=I bR;have KR:=I kR;have KB:=I kB;have q0:=oR.cell H1'.out (i:=0) (v:=.i ring) rfl;have q1:=oR.cell H1'.out (i:=1) (v:=.slice A0 rs.length c0) rfl;clear HC HO H1 HS HD oR bR kR kB hzz hgr;go_upto_if 37 with(fail);go_quiet (fail);have ON:=I (OR.out.drewN nq);generalize W2.drewN nq=W3 at*;clear q0 q1 OR;go_upto_if 37 with(fail);go_cut [66]from 37 to 66 (fun _ wx=>XI w0 γ b g T1 T2 gr ⟨sq,o1,o2,o3,o4,o5,o6,x,y,z⟩ wx)
 case first=>
  cases heq:((rs.length:Int)==ring)with
  |false=>
   have HF:Hid (XI w0 γ b g T1 T2 gr ⟨sq,o1,o2,o3,o4,o5,o6,x,y,z⟩ W3):=by
    have hne:(rs.length:Int)≠ring:=by simpa using heq
    exact I ⟨ring,dropped,_,rs,s1,s2,γ2,H1'.out,HS'.out,hr1,hr2,by omega,hz1,hz2,ON.out,BR.out,fun k q1 q2 q3=>(KR.out k q3).trans (KB.out k q2)⟩
   go_wp2_with fail;go_meet;exact HF.out
  |true=>
   have hne:(rs.length:Int)=ring:=by simpa using heq
   obtain⟨r0,rest,rfl⟩:∃r0 rest,rs=r0::rest:=by
    cases rs with
    |nil=>simp at hne;omega
    |cons a l=>exact⟨a,l,rfl⟩
   obtain⟨ga,ca,hva,-,-,-⟩:=yR.elem Rc.len HS'.out ON.out (i:=0) (x:=r0) rfl (by simp);cases hva;have HE:Hid (∀W,Own w0 W γ2→(W.cell? (zc g 1)=some (.slice (zb ga) (r0::rest).length c0)∧W.cell? (zc g 2)=some (.string s1))∧∀(j:Nat) u,r0.yV[j]? =some u→W.cell? (zc ga j)=some u):=I fun W hW=>by obtain⟨g',c',hv',-,hq,-⟩:=yR.elem Rc.len HS'.out hW (i:=0) (x:=r0) rfl (by simp);cases hv';refine⟨⟨hW.cell H1'.out rfl,hW.cell H1'.out rfl⟩,fun j u hj=>?_⟩;have:=(hq j u hj).1;rwa[Nat.zero_mul,zy]at this
   have hch:=fun W=>Xf (w:=W) s1 hz1 r0;have HCH:=I hch;have HDN:=I ON.out.drew;have hl0:(0:Int)<(r0::rest).length:=by rw[zM];omega
   have hl1:=I (show(r0::rest).length≤16 from hlen16);have hl2:=I hne;generalize hrl:(r0::rest).length=rl at*;have hrl2:rest.length+1=rl:=by rw[←hrl];rfl
   replace hrl:=I hrl;have hl3:0<rl:=by omega
   obtain⟨x1,x2,x3,x4,x5,x6,x7,x8,x9,x10⟩:=r0;unfold Rc.xq at hch HCH;simp only at hch HCH;clear hch heq hne;go_wp2_with fail;refine yP.region [0,1,2,3,4,5,6,7,8,9,10] (.step 11 (.step 12 (.step 13 (.step 14 .done)))) (fun w'=>Own w0 w' γ2) (by kernel_rfl) (by kernel_rfl) (fun _ _ _ _ _ h=>h) HDN.out ?_;repeat
    refine Perm.xm rfl ?_ (fun w' hS=>?_) ?_;rotate_left
    ·(obtain⟨⟨q1,q2⟩,q3⟩:=HE.out _ hS;have c0:=q3 0 _ rfl;have c1:=q3 1 _ rfl;have c2:=q3 2 _ rfl;have c3:=q3 3 _ rfl;have c4:=q3 4 _ rfl;have c5:=q3 5 _ rfl;have c6:=q3 6 _ rfl;have c7:=q3 7 _ rfl;have c8:=q3 8 _ rfl;have c9:=q3 9 _ rfl;clear hS q3;go_simp;try with_reducible rfl)
    simp only[pt]
   refine Perm.xt ?_;refine yP.yY rfl (by rfl) ?_;refine yP.xJ rfl 165 _ _ rfl (by kernel_rfl) _ rfl ((HCH.out _).mono ?_);rintro e w5 ⟨⟨s',rfl,hs'⟩,hb5⟩;refine⟨_,rfl,fun _ hS=>hS.xh hb5,?_⟩;simp only[pt];have O5:=I (HDN.out.xh hb5);have hfz:=O5.out.free H1'.out 2;have hcl:=O5.out.cell H1'.out (i:=2) (v:=.string s1) rfl;clear hb5 HCH HE;repeat
    refine yP.xA rfl (by rfl) ?_ (fun w'=>?_) ?_;rotate_left
    ·(go_simp;try with_reducible rfl)
    simp only[pt]
   refine yP.yY rfl (by rfl) ?_;refine yP.xy rfl .skip undef (.inr ⟨rfl,rfl⟩) (w':=w5.setCell (zc g 2) (.string s')) (by go_simp;try with_reducible rfl) (Perm.xx (by kernel_rfl)) ?_;simp only[pt];refine yP.xC ?_;have o6:=O5.out.set H1'.out 2 (.string s');have h6:=yQ γ2 b g (.cells ((#[.i ring,.slice (zb ga) rl c0,.string s1,.string s2,.i dropped]:Array Value).setIfInBounds 2 (.string s')) 176);have k6:∀k,k≠b→put γ2 b g (.cells ((#[.i ring,.slice (zb ga) rl c0,.string s1,.string s2,.i dropped]:Array Value).setIfInBounds 2 (.string s')) 176) k=γ2 k:=fun k hk=>yO _ _ _ hk;generalize put γ2 b g (.cells ((#[.i ring,.slice (zb ga) rl c0,.string s1,.string s2,.i dropped]:Array Value).setIfInBounds 2 (.string s')) 176)=γ3 at*;have S6:=HS'.out.keep (γ':=γ3) (k6 (b+1) (by omega));have q1:=o6.cell h6 (i:=1) (v:=.slice (zb ga) rl c0) rfl;have hdel:Calls Tryz.prog 166 #[.slice (zb ga) rl c0,.i 0,.i 1] _ _:=Vh (i:=0) S6 o6 (by have:=hl1.out;omega) (by omega) (si Rc.one _);have H6:=I h6;have K6:=I k6;clear hfz hcl O5 HDN ON HS' H1' S6 o6 h6 k6;generalize w5.setCell (zc g 2) (.string s')=w6 at*;go_wp2_with fail;refine hdel.mono ?_;rintro e w7 ⟨v',γ4,rfl,o7,s7,k7⟩;rw[show List.take (0*10) (yW Rc.yV (⟨x1,x2,x3,x4,x5,x6,x7,x8,x9,x10⟩::rest))++List.drop ((0+1)*10) (yW Rc.yV (⟨x1,x2,x3,x4,x5,x6,x7,x8,x9,x10⟩::rest))=yW Rc.yV rest by rw[vC,Nat.zero_mul,List.take_zero,zD];exact List.drop_left' rfl]at s7;rw[show rl-1=rest.length by omega]at s7;obtain⟨A7,c7,rfl,-⟩:=s7.form;have h7:=(k7 b (by omega)).trans H6.out;have p1:=o7.cell h7 (i:=1) (v:=.slice (zb ga) rl c0) rfl;have p4:=o7.cell h7 (i:=4) (v:=.i dropped) rfl;have f1:=o7.free h7 1;have f4:=o7.free h7 4;have o8:=o7.set h7 1 (.slice A7 rest.length c7);have h8:=yQ γ4 b g (.cells (((#[.i ring,.slice (zb ga) rl c0,.string s1,.string s2,.i dropped]:Array Value).setIfInBounds 2 (.string s')).setIfInBounds 1 (.slice A7 rest.length c7)) 176);have o9:=o8.set h8 4 (.i (wrap64 (dropped+1)));have HF:Hid (XI w0 γ b g T1 T2 gr ⟨sq,o1,o2,o3,o4,o5,o6,x,y,z⟩ ((w7.setCell (zc g 1) (.slice A7 rest.length c7)).setCell (zc g 4) (.i (wrap64 (dropped+1))))):=by
    refine I ⟨ring,_,_,rest,s',s2,_,yQ _ _ _ _,s7.keep ((yO _ _ _ (by omega)).trans (yO _ _ _ (by omega))),hr1,hr2,by have:=hl2.out;omega,hs',hz2,o9,?_,fun k q1 q2 q3=>?_⟩
    ·by_cases e:T2=b
     ·omega
     ·exact(yO _ _ _ e).trans ((yO _ _ _ e).trans ((k7 T2 (by omega)).trans ((K6.out T2 e).trans BR.out)))
    ·exact(yO _ _ _ (by omega)).trans ((yO _ _ _ (by omega)).trans ((k7 k (by omega)).trans ((K6.out k (by omega)).trans ((KR.out k q3).trans (KB.out k q2)))))
   clear o7 o8 o9 s7 k7 h7 h8 hdel q1;go_wp2_with fail;go_meet;exact HF.out
 case rest=>
  obtain⟨ring',dropped',v',rs',s1',s2',γ',h1,hs,hr1',hr2',hr3',hz1',hz2',o,bR,kk⟩:=hcut;obtain⟨A1,c1,rfl,hc1⟩:=hs.form;have HE:Hid (∀W,Own w0 W γ'→(W.cell? (zc g 1)=some (.slice A1 rs'.length c1)∧W.cell? (zc g 3)=some (.string s2'))∧∀(j:Nat) u,(Rc.xq ⟨sq,o1,o2,o3,o4,o5,o6,x,y,z⟩)[j]? =some u→W.cell? (zc gr j)=some u):=I fun W hW=>⟨⟨hW.cell h1 rfl,hW.cell h1 rfl⟩,fun j u hj=>hW.cell bR hj⟩;have HDN:=I o.drew;have H1:=I h1;have HS:=I hs;have BR':=I bR;have KK:=I kk;clear o h1 hs bR kk KR KB BR H1' HS' ON;go_wp2_with fail;refine yP.region [1,2,3,4,5] (.step 0 (.step 6 (.step 7 (.step 8 (.step 9 (.step 10 .done)))))) (fun w'=>Own w0 w' γ') (by kernel_rfl) (by kernel_rfl) (fun _ _ _ _ _ h=>h) HDN.out ?_;repeat
   refine Perm.xm rfl ?_ (fun w' hS=>?_) ?_;rotate_left
   ·(obtain⟨⟨q1,q2⟩,q3⟩:=HE.out _ hS;have c0:=q3 0 (.i sq) rfl;have c1:=q3 1 (.i o1) rfl;have c2:=q3 2 (.i o2) rfl;have c3:=q3 3 (.i o3) rfl;have c4:=q3 4 (.i o4) rfl;have c5:=q3 5 (.i o5) rfl;have c6:=q3 6 (.i o6) rfl;have c7:=q3 7 (.i x) rfl;have c8:=q3 8 (.i y) rfl;have c9:=q3 9 (.i z) rfl;clear hS q3;go_simp;try with_reducible rfl)
   simp only[pt]
  refine Perm.xt ?_;refine yP.xA rfl (by rfl) ?_ (fun w'=>?_) ?_;rotate_left
  ·(go_simp;try with_reducible rfl)
  simp only[pt];refine yP.yY rfl (by rfl) ?_;refine yP.xy rfl (.value (.slice (zb wc.heap.size) 1 1)) _ (.inl rfl) (w':=wc.drew.alloc (.cells #[.i sq,.i o1,.i o2,.i o3,.i o4,.i o5,.i o6,.i x,.i y,.i z] 282)) (by go_simp;try with_reducible rfl) (fun _ hS=>hS.xh ((Below.refl _ _).alloc (zm _) _)) ?_;simp only[pt];have o8:=HDN.out.new (T1+T2+b+5) (.cells #[.i sq,.i o1,.i o2,.i o3,.i o4,.i o5,.i o6,.i x,.i y,.i z] 282);have O8:=I (HDN.out.xh ((Below.refl _ _).alloc (zm _) (.cells #[.i sq,.i o1,.i o2,.i o3,.i o4,.i o5,.i o6,.i x,.i y,.i z] 282)));have HR:Hid (Reads (wc.drew.alloc (.cells #[.i sq,.i o1,.i o2,.i o3,.i o4,.i o5,.i o6,.i x,.i y,.i z] 282)) 10 (.slice (zb wc.heap.size) 1 1) 1 (yW Rc.yV [⟨sq,o1,o2,o3,o4,o5,o6,x,y,z⟩])):=I (.inr ⟨_,1,rfl,rfl,fun j u hj=>by
   rw[Go.WideShapes.add_plain,zy];refine o8.cell (yQ _ _ _ _) ?_;have e:yW Rc.yV [⟨sq,o1,o2,o3,o4,o5,o6,x,y,z⟩]=Rc.yV ⟨sq,o1,o2,o3,o4,o5,o6,x,y,z⟩:=by rw[vC,qp,zP]
   rw[e]at hj;simpa[Rc.yV]using hj,si Rc.one _⟩);clear o8;refine yP.yY rfl (by rfl) ?_;refine yP.pF rfl fun K hK=>tN (.tmp 71) (.tmp 73) 174 rfl 282 _ 10 80 Tryz.underlying174 Tryz.Xq rfl (by decide) O8.out HS.out rfl HR.out rfl (by unfold maxLen;omega) (by omega) fun A9 c9 w9 γ9 hA9 o9 s9 k9=>hK _ _ (Perm.xx (by kernel_rfl)) ?_;simp only[pt];rw[←v8]at s9;have h9:=(k9 b (by omega)).trans H1.out;have O9:=I o9;have hfz:=o9.free h9 1;have hcl:=o9.cell h9 (i:=1) (v:=.slice A1 rs'.length c1) rfl;have o10:=o9.set h9 1 (.slice A9 (rs'.length+1) c9);have h10:=yQ γ9 b g (.cells ((#[.i ring',.slice A1 rs'.length c1,.string s1',.string s2',.i dropped']:Array Value).setIfInBounds 1 (.slice A9 (rs'.length+1) c9)) 176);have k10:∀k,k≠b→put γ9 b g (.cells ((#[.i ring',.slice A1 rs'.length c1,.string s1',.string s2',.i dropped']:Array Value).setIfInBounds 1 (.slice A9 (rs'.length+1) c9)) 176) k=γ9 k:=fun k hk=>yO _ _ _ hk;generalize put γ9 b g (.cells ((#[.i ring',.slice A1 rs'.length c1,.string s1',.string s2',.i dropped']:Array Value).setIfInBounds 1 (.slice A9 (rs'.length+1) c9)) 176)=γ10 at*;have S10:=I (s9.keep (γ':=γ10) (k10 (b+1) (by omega)));have b10:=(k10 T2 (by omega)).trans ((k9 T2 (by omega)).trans BR'.out);have K10:Hid (∀k,(k<b∨b+2≤k)→k≠T1→k≠T2→γ10 k=γ k):=I fun k q1 q2 q3=>(k10 k (by omega)).trans ((k9 k (by omega)).trans (KK.out k q1 q2 q3));have H10:=I h10;have O10:=I o10;have HE2:Hid (∀W,Own w0 W γ10→W.cell? (zc g 3)=some (.string s2')∧∀(j:Nat) u,(Rc.xq ⟨sq,o1,o2,o3,o4,o5,o6,x,y,z⟩)[j]? =some u→W.cell? (zc gr j)=some u):=I fun W hW=>⟨hW.cell h10 rfl,fun j u hj=>hW.cell b10 hj⟩;have hch:=fun W=>Xf (w:=W) s2' hz2' ⟨sq,o1,o2,o3,o4,o5,o6,x,y,z⟩;unfold Rc.xq at hch;simp only at hch;have HCH:=I hch;clear O8 HR HE HDN HS BR' KK H1 s9 k9 h9 o9 o10 h10 k10 b10 hch O9;repeat
   refine yP.xA rfl (by rfl) ?_ (fun w'=>?_) ?_;rotate_left
   ·(go_simp;try with_reducible rfl)
   simp only[pt]
  refine yP.yY rfl (by rfl) ?_;refine yP.xy rfl .skip undef (.inr ⟨rfl,rfl⟩) (w':=w9.setCell (zc g 1) (.slice A9 (rs'.length+1) c9)) (by go_simp;try with_reducible rfl) (Perm.xx (by kernel_rfl)) ?_;simp only[pt];refine yP.xC ?_;generalize w9.setCell (zc g 1) (.slice A9 (rs'.length+1) c9)=w10 at*;clear hfz hcl;have HD10:=I O10.out.drew;go_wp2_with fail;refine yP.region [0,1,2,3,4,5] (.step 6 (.step 7 (.step 8 (.step 9 .done)))) (fun w'=>Own w0 w' γ10) (by kernel_rfl) (by kernel_rfl) (fun _ _ _ _ _ h=>h) HD10.out ?_;repeat
   refine Perm.xm rfl ?_ (fun w' hS=>?_) ?_;rotate_left
   ·(obtain⟨q2,q3⟩:=HE2.out _ hS;have c0:=q3 0 (.i sq) rfl;have c1:=q3 1 (.i o1) rfl;have c2:=q3 2 (.i o2) rfl;have c3:=q3 3 (.i o3) rfl;have c4:=q3 4 (.i o4) rfl;have c5:=q3 5 (.i o5) rfl;have c6:=q3 6 (.i o6) rfl;have c7:=q3 7 (.i x) rfl;have c8:=q3 8 (.i y) rfl;have c9:=q3 9 (.i z) rfl;clear hS q3;go_simp;try with_reducible rfl)
   simp only[pt]
  refine Perm.xt ?_;refine yP.yY rfl (by rfl) ?_;refine yP.xJ rfl 165 _ _ rfl (by kernel_rfl) _ rfl ((HCH.out _).mono ?_);rintro e w5 ⟨⟨s',rfl,hs'⟩,hb5⟩;refine⟨_,rfl,fun _ hS=>hS.xh hb5,?_⟩;simp only[pt];have O5:=I (HD10.out.xh hb5);have hfz:=O5.out.free H10.out 3;have hcl:=O5.out.cell H10.out (i:=3) (v:=.string s2') rfl;clear hb5 HCH HE2;repeat
   refine yP.xA rfl (by rfl) ?_ (fun w'=>?_) ?_;rotate_left
   ·(go_simp;try with_reducible rfl)
   simp only[pt]
  refine yP.yY rfl (by rfl) ?_;refine yP.xy rfl .skip undef (.inr ⟨rfl,rfl⟩) (w':=w5.setCell (zc g 3) (.string s')) (by go_simp;try with_reducible rfl) (Perm.xx (by kernel_rfl)) ?_;simp only[pt];refine yP.xC ?_;have HF:Hid (∃γ',Own w0 (w5.setCell (zc g 3) (.string s')) γ'∧kw γ' b g∧∀k,(k<b∨b+2≤k)→k≠T1→k≠T2→γ' k=γ k):=by refine I ⟨_,O5.out.set H10.out 3 (.string s'),⟨ring',dropped',_,rs'++[⟨sq,o1,o2,o3,o4,o5,o6,x,y,z⟩],s1',s',yQ _ _ _ _,?_,hr1',hr2',by rw[zr];show((rs'.length+1:Nat):Int)≤_;omega,hz1',hs'⟩,fun k q1 q2 q3=>(yO _ _ _ (by omega)).trans (K10.out k q1 q2 q3)⟩;rw[zr];exact S10.out.keep (yO _ _ _ (by omega))
  clear O5 hfz hcl O10 HD10;go_wp2_with fail;first|go_end0|refine bodyPost_ret (results_none rfl _ _ _) rfl ?_
  exact⟨⟨_,rfl⟩,HF.out⟩
end
end
end Go.Proofs.YtkmamlifgbocgaaGreat
section
open Go.Proofs.YtkmamlifgbocgaaGreat
namespace Go.Proofs
open Go.Shelf
def Tryz.eX:Go.Shelf.Ren:=⟨fun|105=>104|212=>140|99=>142|165=>143|166=>144|170=>145|169=>146|263=>181|264=>182|206=>183|240=>184|241=>185|276=>255|277=>256|n=>n,fun|9=>9|3=>3|4=>4|20=>20|0=>0|46=>111|109=>241|5=>5|72=>247|76=>250|51=>289|146=>290|53=>110|148=>292|70=>244|37=>245|75=>249|127=>294|164=>339|80=>173|n=>n,fun|n=>n⟩
theorem Tryz.RM:Go.Proofs.Lays.n105 Tryz.prog Tryz.eX:={mixed:=by kernel_rfl,f99:=Tryz.func142.trans (congrArg some (by kernel_rfl)),f105:=Tryz.func104.trans (congrArg some (by kernel_rfl)),f165:=Tryz.func143.trans (congrArg some (by kernel_rfl)),f166:=Tryz.func144.trans (congrArg some (by kernel_rfl)),f169:=Tryz.func146.trans (congrArg some (by kernel_rfl)),f170:=Tryz.func145.trans (congrArg some (by kernel_rfl)),f206:=Tryz.func183.trans (congrArg some (by kernel_rfl)),f212:=Tryz.func140.trans (congrArg some (by kernel_rfl)),f240:=Tryz.func184.trans (congrArg some (by kernel_rfl)),f241:=Tryz.func185.trans (congrArg some (by kernel_rfl)),f263:=Tryz.func181.trans (congrArg some (by kernel_rfl)),f264:=Tryz.func182.trans (congrArg some (by kernel_rfl)),f276:=Tryz.func255.trans (congrArg some (by kernel_rfl)),f277:=Tryz.func256.trans (congrArg some (by kernel_rfl)),t0:=Tryz.underlying0,a0:=Tryz.isAgg0,z0:=Tryz.sizeOf0,v0:=Tryz.zeroValue0,t3:=Tryz.underlying3,a3:=Tryz.isAgg3,z3:=Tryz.sizeOf3,v3:=Tryz.zeroValue3,t4:=Tryz.underlying4,a4:=Tryz.isAgg4,z4:=Tryz.sizeOf4,v4:=Tryz.zeroValue4,t5:=Tryz.underlying5,a5:=Tryz.isAgg5,z5:=Tryz.sizeOf5,v5:=Tryz.zeroValue5,t9:=Tryz.underlying9,a9:=Tryz.isAgg9,z9:=Tryz.sizeOf9,v9:=Tryz.zeroValue9,t20:=Tryz.underlying20,a20:=Tryz.isAgg20,z20:=Tryz.sizeOf20,v20:=Tryz.zeroValue20,t37:=Tryz.underlying245,a37:=Tryz.isAgg245,z37:=Tryz.sizeOf245,v37:=Tryz.zeroValue245,t46:=Tryz.underlying111,a46:=Tryz.isAgg111,z46:=Tryz.sizeOf111,v46:=Tryz.zeroValue111,t51:=Tryz.underlying289,a51:=Tryz.isAgg289,z51:=Tryz.sizeOf289,v51:=Tryz.zeroValue289,t53:=Tryz.underlying110,a53:=Tryz.isAgg110,z53:=Tryz.sizeOf110,v53:=Tryz.zeroValue110,t70:=Tryz.underlying244,a70:=Tryz.isAgg244,z70:=Tryz.sizeOf244,v70:=Tryz.zeroValue244,t72:=Tryz.underlying247,a72:=Tryz.isAgg247,z72:=Tryz.sizeOf247,v72:=Tryz.zeroValue247,t75:=Tryz.underlying249,a75:=Tryz.isAgg249,z75:=Tryz.sizeOf249,v75:=Tryz.zeroValue249,t76:=Tryz.underlying250,a76:=Tryz.isAgg250,z76:=Tryz.sizeOf250,v76:=Tryz.zeroValue250,t109:=Tryz.underlying241,a109:=Tryz.isAgg241,z109:=Tryz.sizeOf241,v109:=Tryz.zeroValue241,t127:=Tryz.underlying294,a127:=Tryz.isAgg294,z127:=Tryz.sizeOf294,v127:=Tryz.zeroValue294,t146:=Tryz.underlying290,a146:=Tryz.isAgg290,z146:=Tryz.sizeOf290,v146:=Tryz.zeroValue290,t148:=Tryz.underlying292,a148:=Tryz.isAgg292,z148:=Tryz.sizeOf292,v148:=Tryz.zeroValue292,t164:=Tryz.underlying339,a164:=Tryz.isAgg339,z164:=Tryz.sizeOf339,v164:=Tryz.zeroValue339}
theorem Tryz.eP:Builder.Extra Tryz.prog Tryz.eX:={sizeBuilder:=by kernel_rfl,liesBuilder:=by kernel_rfl,t5:=Tryz.underlying5,a5:=Tryz.isAgg5,z5:=Tryz.sizeOf5,v5:=Tryz.zeroValue5,infoByte:=by kernel_rfl,cellsByte:=by kernel_rfl,sizeByte:=by kernel_rfl,neB5:=by decide}
open Go.RowKit Go.Lib in
theorem Tryz.strings_Repeat(s:ByteArray)(c:Nat)(w:World)(hc:c≤9223372036854775807)(hlen:s.size*c≤140737488355328):Calls Tryz.prog 104 #[.string s,.i c] w fun e w'=>e=.returned (.string ⟨(Lib.repeatL s.data.toList c).toArray⟩)∧Below w.heap.size w w':=Any.strings_Repeat Tryz.RM Tryz.eP s c w hc hlen
end Go.Proofs
end
namespace Go.Proofs.YtkmamlifgbocgaaGreat
section
open Go.RowKit Go.WideShapes
theorem eY:∀c:Nat,(Lib.repeatL [(0:UInt8)] c).length=c
 |0=>rfl
 |c+1=>by
  have:=eY c
  simp[Lib.repeatL]at this⊢
  exact this
theorem Xg{w:World}:Calls Tryz.prog 78 #[] w fun e w'=>(∃s:ByteArray,e=.returned (.string s)∧s.size=32)∧Below w.heap.size w w':=by
 have hr:=Go.Proofs.Tryz.strings_Repeat ⟨#[0]⟩ 32 w (by omega) (by decide);have hsz:(ByteArray.mk (Lib.repeatL [(0:UInt8)] 32).toArray).size=32:=by show(Lib.repeatL [(0:UInt8)] 32).toArray.size=32;rw[zH];exact eY 32
 go_in;go_wp2_with fail;refine hr.mono ?_;rintro e w' ⟨rfl,hb⟩;replace hb:=I hb;go_wp2_with fail;go_ret;exact⟨⟨_,rfl,hsz⟩,hb.out⟩
section
variable {w0 w:World} {γ:U}
theorem Ou(ho:Own w0 w γ)(b:Nat)(n:Int):Calls Tryz.prog 61 #[.i n] w fun e w'=>∃g γ',e=.returned (.p g)∧Own w0 w' γ'∧kw γ' b g∧∀k,(k<b∨b+2≤k)→γ' k=γ k:=by
 have HO:=I ho;have hr1:(1:Int)≤max 1 (min n 16):=by omega
 have hr2:max 1 (min n 16)≤(16:Int):=by omega
 have HR1:=I hr1;have HR2:=I hr2;clear ho hr1 hr2;go_in;go_wp2_with fail;refine Xg.mono ?_;rintro e w1 ⟨⟨s1,rfl,h1⟩,hb1⟩;have HO1:=I (HO.out.xh hb1);clear hb1;go_wp2_with fail;refine Xg.mono ?_;rintro e w2 ⟨⟨s2,rfl,h2⟩,hb2⟩;have HO2:=I (HO1.out.xh hb2);clear hb2 HO1;go_wp2_with fail;go_ret;have o3:=HO2.out.new b (.cells #[.i (max 1 (min n 16)),.slice none 0 0,.string s1,.string s2,.i 0] 176);obtain⟨γ',ho',hs',hk'⟩:∃γ',Own w0 (w2.alloc (.cells #[.i (max 1 (min n 16)),.slice none 0 0,.string s1,.string s2,.i 0] 176)) γ'∧γ' b=some (w2.heap.size,.cells #[.i (max 1 (min n 16)),.slice none 0 0,.string s1,.string s2,.i 0] 176 (0,0))∧∀k,k≠b→γ' k=γ k:=⟨_,o3,yQ _ _ _ _,fun k hk=>yO _ _ _ hk⟩;exact⟨_,γ',rfl,ho',⟨_,_,_,[],s1,s2,hs',yR.nil _ _ _ _,HR1.out,HR2.out,by have:=HR1.out;simp;omega,h1,h2⟩,fun k hk=>hk' k (by omega)⟩
end
end
section
open Go.RowKit Go.WideShapes
theorem bQ{γ:U}{b:Nat}{v:Value}{o:Option Ob}(h:tr γ b v o)(hn:∀m,o≠some (.mu m)):∀W:World,(Instr.typeAssert v 20 217 true).run Tryz.prog W=.ok (.tuple #[.pointer none,.bool false]) W:=by
 match o,h,hn with
 |none,h,_=>exact fun W=>by rw[show v=.nilIface from h];exact jx W
 |some (.mu m),h,hn=>exact absurd rfl (hn m)
 |some (.rw m),⟨gm,h,_⟩,_=>subst h;exact fun W=>qw _ W
 |some (.sm m),⟨gm,h,_⟩,_=>subst h;exact fun W=>pP _ W
 |some (.cd ws mh),⟨gw,gm,h,_⟩,_=>subst h;exact fun W=>jw _ W
 |some (.on m),⟨gm,h,_⟩,_=>subst h;exact fun W=>jt _ W
 |some (.gp m),⟨gm,h,_⟩,_=>subst h;exact fun W=>ju _ W
theorem Xs{γ:U}{b:Nat}{v:Value}{o:Option Ob}(h:tr γ b v o)(hn:∀m,o≠some (.rw m)):∀W:World,(Instr.typeAssert v 20 218 true).run Tryz.prog W=.ok (.tuple #[.pointer none,.bool false]) W:=by
 match o,h,hn with
 |none,h,_=>exact fun W=>by rw[show v=.nilIface from h];exact jB W
 |some (.mu m),⟨gm,h,_⟩,_=>subst h;exact fun W=>UJ _ W
 |some (.rw m),h,hn=>exact absurd rfl (hn m)
 |some (.sm m),⟨gm,h,_⟩,_=>subst h;exact fun W=>pQ _ W
 |some (.cd ws mh),⟨gw,gm,h,_⟩,_=>subst h;exact fun W=>jA _ W
 |some (.on m),⟨gm,h,_⟩,_=>subst h;exact fun W=>jy _ W
 |some (.gp m),⟨gm,h,_⟩,_=>subst h;exact fun W=>jz _ W
theorem RR{γ:U}{b:Nat}{v:Value}{o:Option Ob}(h:tr γ b v o)(hn:∀m,o≠some (.sm m)):∀W:World,(Instr.typeAssert v 20 221 true).run Tryz.prog W=.ok (.tuple #[.pointer none,.bool false]) W:=by
 match o,h,hn with
 |none,h,_=>exact fun W=>by rw[show v=.nilIface from h];exact eh W
 |some (.mu m),⟨gm,h,_⟩,_=>subst h;exact fun W=>UK _ W
 |some (.rw m),⟨gm,h,_⟩,_=>subst h;exact fun W=>UL _ W
 |some (.sm m),h,hn=>exact absurd rfl (hn m)
 |some (.cd ws mh),⟨gw,gm,h,_⟩,_=>subst h;exact fun W=>ef _ W
 |some (.on m),⟨gm,h,_⟩,_=>subst h;exact fun W=>ec _ W
 |some (.gp m),⟨gm,h,_⟩,_=>subst h;exact fun W=>ed _ W
theorem bT{γ:U}{b:Nat}{v:Value}{o:Option Ob}(h:tr γ b v o)(hn:∀ws mh,o≠some (.cd ws mh)):∀W:World,(Instr.typeAssert v 20 224 true).run Tryz.prog W=.ok (.tuple #[.pointer none,.bool false]) W:=by
 match o,h,hn with
 |none,h,_=>exact fun W=>by rw[show v=.nilIface from h];exact ep W
 |some (.mu m),⟨gm,h,_⟩,_=>subst h;exact fun W=>US _ W
 |some (.rw m),⟨gm,h,_⟩,_=>subst h;exact fun W=>UT _ W
 |some (.sm m),⟨gm,h,_⟩,_=>subst h;exact fun W=>UU _ W
 |some (.cd ws mh),h,hn=>exact absurd rfl (hn ws mh)
 |some (.on m),⟨gm,h,_⟩,_=>subst h;exact fun W=>aN _ W
 |some (.gp m),⟨gm,h,_⟩,_=>subst h;exact fun W=>aO _ W
theorem RS{γ:U}{b:Nat}{v:Value}{o:Option Ob}(h:tr γ b v o)(hn:∀m,o≠some (.on m)):∀W:World,(Instr.typeAssert v 20 222 true).run Tryz.prog W=.ok (.tuple #[.pointer none,.bool false]) W:=by
 match o,h,hn with
 |none,h,_=>exact fun W=>by rw[show v=.nilIface from h];exact jF W
 |some (.mu m),⟨gm,h,_⟩,_=>subst h;exact fun W=>UM _ W
 |some (.rw m),⟨gm,h,_⟩,_=>subst h;exact fun W=>UN _ W
 |some (.sm m),⟨gm,h,_⟩,_=>subst h;exact fun W=>aL _ W
 |some (.cd ws mh),⟨gw,gm,h,_⟩,_=>subst h;exact fun W=>ei _ W
 |some (.on m),h,hn=>exact absurd rfl (hn m)
 |some (.gp m),⟨gm,h,_⟩,_=>subst h;exact fun W=>jD _ W
theorem bS{γ:U}{b:Nat}{v:Value}{o:Option Ob}(h:tr γ b v o)(hn:∀m,o≠some (.gp m)):∀W:World,(Instr.typeAssert v 20 223 true).run Tryz.prog W=.ok (.tuple #[.pointer none,.bool false]) W:=by
 match o,h,hn with
 |none,h,_=>exact fun W=>by rw[show v=.nilIface from h];exact eo W
 |some (.mu m),⟨gm,h,_⟩,_=>subst h;exact fun W=>UO _ W
 |some (.rw m),⟨gm,h,_⟩,_=>subst h;exact fun W=>UP _ W
 |some (.sm m),⟨gm,h,_⟩,_=>subst h;exact fun W=>UQ _ W
 |some (.cd ws mh),⟨gw,gm,h,_⟩,_=>subst h;exact fun W=>aM _ W
 |some (.on m),⟨gm,h,_⟩,_=>subst h;exact fun W=>UR _ W
 |some (.gp m),h,hn=>exact absurd rfl (hn m)
def Dm.pD(D:Dm)(t:Int)(x:En)(m:Rw):Dm×Int:=
 if x.op=8 then(D.xg x.a (.rw (m.wi t)),m.xP t)else if x.op=9 then((D.xg x.a (.rw (m.unlock t).1)).xH (m.unlock t).2,m.wB t)else(D.xO t x (m.wL t) (D.xg x.a (.rw (m.lock t))),x.vL D.clock (m.wL t))
def Dm.rZ(D:Dm)(t:Int)(x:En)(m:Rw):Dm×Int:=
 if x.op=12 then(D.xg x.a (.rw (m.ql t)),m.ui t)else if x.op=13 then((D.xg x.a (.rw (m.vI t).1)).xH (m.vI t).2,m.sH t)else(D.xO t x (m.se t) (D.xg x.a (.rw (m.rf t))),x.vL D.clock (m.se t))
def Dm.sV(D:Dm)(t:Int)(x:En)(m:Sm):Dm×Int:=
 if x.op=16 then(D.xg x.a (.sm (m.wi t x.b)),m.xP t x.b)else if x.op=17 then((D.xg x.a (.sm (m.rel x.b).1)).xH (m.rel x.b).2,m.jN x.b)else(D.xO t x (m.pV t x.b) (D.xg x.a (.sm (m.fx t x.b))),x.vL D.clock (m.pV t x.b))
section
variable {w0 w:World} {γ γ':U} {B g:Nat} {p:vG} {D:Dm}
theorem Vv(h:yT γ B g p D)(ho:Own w0 w γ){t:Int}(x:En)(ht:D.Live t)(hc:0≤D.clock∧D.clock≤4611686018427387904)(hx:D.Has x.a){m:Rw}(hob:D.ob x.a=some (.rw m))(hlt:m.rs.length+m.ws.length+m.rd.length<100)(hgot:((m.unlock t).2).length≤100∧∀y∈(m.unlock t).2,D.Live y):Calls Tryz.prog 174 #[.p g,.i t,x.val] w (xj 15 w0 γ B g p (D.pD t x m).1 (.i (D.pD t x m).2)):=by
 have hmf:∀(fn:Fn) (first cap:Array Value) (w:World),(Instr.makeFunc fn first cap).run Tryz.prog w=.ok (.func fn first cap) w:=fun _ _ _ _=>rfl;have hat0:=xX h hx.2;rw[hob]at hat0;obtain⟨gm,hos,-⟩:=id hat0;obtain⟨γ1,o1,b1,b2,b3,k1⟩:=rp ho (B+68) (B+69) (B+70) (by omega) (by omega) (by omega) #[.i t] x.xq #[.p gm] 3 38 218;have h1:yT γ1 B g p D:=h.wK fun k hk=>k1 k (by unfold xi at hk;omega) (by unfold xi at hk;omega) (by unfold xi at hk;omega);have kk:∀k,yU 15 B k→γ1 k=γ k:=fun k hk=>k1 k (by unfold yU at hk;omega) (by unfold yU at hk;omega) (by unfold yU at hk;omega);have hb2:Below w.heap.size w ((w.alloc (.cells #[.i t] 3)).alloc (.cells x.xq 38)):=((Below.refl _ w).alloc (zm _) _).alloc (by simp) _;have hf0:=rW (x:=x.a) h (ho.xh hb2) hx.1 hx.2 false rfl (bQ hat0 (by simp)) (by simp);have hf1:=pr (x:=x.a) h (ho.xh hb2) hx.1 hx.2 true (v:=.iface 218 (.p gm)) hos (fun W=>rH _ W) (by simp);have q0:=o1.cell b1 (i:=0) (v:=.i t) rfl;have r0:=o1.cell b2 (i:=0) (v:=.i x.kind) rfl;have r1:=o1.cell b2 (i:=1) (v:=.i x.xr) rfl;have r2:=o1.cell b2 (i:=2) (v:=.i x.pick) rfl;have r3:=o1.cell b2 (i:=3) (v:=.i x.op) rfl;have r4:=o1.cell b2 (i:=4) (v:=.i x.a) rfl;have r5:=o1.cell b2 (i:=5) (v:=.i x.b) rfl;have r6:=o1.cell b2 (i:=6) (v:=.i x.c) rfl;have s0:=o1.cell b3 (i:=0) (v:=.p gm) rfl;have hat:=xX h1 hx.2;rw[hob]at hat;obtain⟨gm',e,hat⟩:=hat;have e':=hos.symm.trans e;cases e';have htry:=eJ hat o1 t;have hun:=T0 hat o1 t (B+60) (by omega);have hen:=ku h1 o1 t x ht.1 hc 230 #[.p (w.heap.size+1+1),.p w.heap.size] (enters_of Tryz.func230 (by kernel_rfl) rfl) (m.wL t) (D.xg x.a (.rw (m.lock t))) (fun _=>ht.2) (Qz hx hob hlt hos b3 b1 (by unfold yU;omega) (by unfold yU;omega));have HT:Hid (∀w2 γ2 (m2:Rw),Own w0 w2 γ2→wZ γ2 (B+100+8*D.at_ x.a) gm m2→(∀k,(k<B+100+8*D.at_ x.a∨B+100+8*D.at_ x.a+7≤k)→k≠B+60→γ2 k=γ1 k)→yT γ2 B g p (D.xg x.a (.rw m2))∧∀k,yU 15 B k→γ2 k=γ k):=I fun w2 γ2 m2 o2 a2 k2=>⟨h1.uX hx ⟨gm,hos,a2⟩ (fun k q q2=>k2 k (by omega) q2),fun k q=>(k2 k (by unfold yU at q;have:=(xv h x.a hx.2).2;omega) (by unfold yU at q;omega)).trans (kk k q)⟩;have KK:=I kk;have HG:=I hgot;have hval:x.val=.agg #[.i x.kind,.i x.xr,.i x.pick,.i x.op,.i x.a,.i x.b,.i x.c]:=rfl;have harr:x.xq=#[.i x.kind,.i x.xr,.i x.pick,.i x.op,.i x.a,.i x.b,.i x.c]:=rfl;have hal:D.pD t x m=if x.op=8 then(D.xg x.a (.rw (m.wi t)),m.xP t)else if x.op=9 then((D.xg x.a (.rw (m.unlock t).1)).xH (m.unlock t).2,m.wB t)else(D.xO t x (m.wL t) (D.xg x.a (.rw (m.lock t))),x.vL D.clock (m.wL t)):=rfl;rw[hal];rw[hval]at hen⊢;rw[harr]at q0 r0 r1 r2 r3 r4 r5 r6 s0 hen hun htry hf0 hf1 b2 hb2;have B2b:=I b2;clear hal h ho o1 b1 b2 b3 k1 h1 kk hat hat0 e hos hob hx hlt hval harr hgot hb2;by_cases h8:x.op=8
 ·rw[if_pos h8];have d8:(x.op==8)=true:=by simpa using h8
  generalize x.op=op at*;clear h8;go_in;go_wp2_with fail;refine hf0.mono ?_;rintro e w' ⟨rfl,rfl⟩;go_wp2_with fail;refine hf1.mono ?_;rintro e w' ⟨rfl,rfl⟩;go_wp2_with fail;refine htry.mono ?_;rintro e w2 ⟨rfl,γ2,o2,a2,k2⟩;have HF:=I (And.intro o2 (HT.out w2 _ _ o2 a2 (fun k q _=>k2 k (by omega))));clear o2 a2 k2 htry hun hen;go_wp2_with fail;go_ret;exact⟨rfl,_,HF.out⟩
 ·rw[if_neg h8];have d8:(x.op==8)=false:=by simpa using h8
  by_cases h9:x.op=9
  ·rw[if_pos h9];have d9:(x.op==9)=true:=by simpa using h9
   generalize x.op=op at*;clear h8 h9;go_in;go_wp2_with fail;refine hf0.mono ?_;rintro e w' ⟨rfl,rfl⟩;go_wp2_with fail;refine hf1.mono ?_;rintro e w' ⟨rfl,rfl⟩;go_wp2_with fail;refine hun.mono ?_;rintro e w2 ⟨vg,γ2,rfl,o2,a2,hpt,k2⟩;obtain⟨h2,hk2⟩:=HT.out w2 _ _ o2 a2 k2;obtain⟨AG,cG,rfl⟩:=hpt.form;have hwa:=uy h2 o2 (q:=B+60) (by omega) hpt HG.out.1 (fun y hy=>HG.out.2 y hy);have HK2:=I hk2;clear o2 a2 k2 htry hun hen h2 hk2 hpt;go_wp2_with fail;refine hwa.mono ?_;rintro e w3 ⟨⟨r,rfl,-⟩,γ3,o3,h3,k3⟩;have HF:Hid (∃γ',Own w0 w3 γ'∧yT γ' B g p ((D.xg x.a (.rw (m.unlock t).1)).xH (m.unlock t).2)∧∀k,yU 15 B k→γ' k=γ k):=I ⟨γ3,o3,h3,fun k hk=>(k3 k hk.out).trans (HK2.out k hk)⟩;clear o3 h3 k3 hwa;go_wp2_with fail;go_ret;exact⟨rfl,HF.out⟩
  ·rw[if_neg h9];have d9:(x.op==9)=false:=by simpa using h9
   generalize x.op=op at*;go_in;go_wp2_with fail;refine hf0.mono ?_;rintro e w' ⟨rfl,rfl⟩;go_wp2_with fail;refine hf1.mono ?_;rintro e w' ⟨rfl,rfl⟩;go_wp2_with fail;refine hen.mono ?_;rintro e w2 hp2;have HF:=I ((hp2.up (m:=15) (by omega)).of KK.out);obtain⟨rfl,-⟩:=hp2;clear htry hun hen;go_wp2_with fail;go_ret;exact HF.out
theorem VA(h:yT γ B g p D)(ho:Own w0 w γ){t:Int}(x:En)(ht:D.Live t)(hc:0≤D.clock∧D.clock≤4611686018427387904)(hx:D.Has x.a){m:Rw}(hob:D.ob x.a=some (.rw m))(hlt:m.rs.length+m.ws.length+m.rd.length<100)(hgot:((m.vI t).2).length≤100∧∀y∈(m.vI t).2,D.Live y):Calls Tryz.prog 175 #[.p g,.i t,x.val] w (xj 15 w0 γ B g p (D.rZ t x m).1 (.i (D.rZ t x m).2)):=by
 have hmf:∀(fn:Fn) (first cap:Array Value) (w:World),(Instr.makeFunc fn first cap).run Tryz.prog w=.ok (.func fn first cap) w:=fun _ _ _ _=>rfl;have hat0:=xX h hx.2;rw[hob]at hat0;obtain⟨gm,hos,-⟩:=id hat0;obtain⟨γ1,o1,b1,b2,b3,k1⟩:=rp ho (B+68) (B+69) (B+70) (by omega) (by omega) (by omega) #[.i t] x.xq #[.p gm] 3 38 218;have h1:yT γ1 B g p D:=h.wK fun k hk=>k1 k (by unfold xi at hk;omega) (by unfold xi at hk;omega) (by unfold xi at hk;omega);have kk:∀k,yU 15 B k→γ1 k=γ k:=fun k hk=>k1 k (by unfold yU at hk;omega) (by unfold yU at hk;omega) (by unfold yU at hk;omega);have hb2:Below w.heap.size w ((w.alloc (.cells #[.i t] 3)).alloc (.cells x.xq 38)):=((Below.refl _ w).alloc (zm _) _).alloc (by simp) _;have hf0:=pr (x:=x.a) h (ho.xh hb2) hx.1 hx.2 true (v:=.iface 218 (.p gm)) hos (fun W=>rH _ W) (by simp);have q0:=o1.cell b1 (i:=0) (v:=.i t) rfl;have r0:=o1.cell b2 (i:=0) (v:=.i x.kind) rfl;have r1:=o1.cell b2 (i:=1) (v:=.i x.xr) rfl;have r2:=o1.cell b2 (i:=2) (v:=.i x.pick) rfl;have r3:=o1.cell b2 (i:=3) (v:=.i x.op) rfl;have r4:=o1.cell b2 (i:=4) (v:=.i x.a) rfl;have r5:=o1.cell b2 (i:=5) (v:=.i x.b) rfl;have r6:=o1.cell b2 (i:=6) (v:=.i x.c) rfl;have s0:=o1.cell b3 (i:=0) (v:=.p gm) rfl;have hat:=xX h1 hx.2;rw[hob]at hat;obtain⟨gm',e,hat⟩:=hat;have e':=hos.symm.trans e;cases e';have htry:=gi hat o1 t hlt;have hun:=Ux hat o1 t (B+60) (by omega);have hen:=ku h1 o1 t x ht.1 hc 234 #[.p (w.heap.size+1+1),.p w.heap.size] (enters_of Tryz.func234 (by kernel_rfl) rfl) (m.se t) (D.xg x.a (.rw (m.rf t))) (fun _=>ht.2) (QA hx hob hlt hos b3 b1 (by unfold yU;omega) (by unfold yU;omega));have HT:Hid (∀w2 γ2 (m2:Rw),Own w0 w2 γ2→wZ γ2 (B+100+8*D.at_ x.a) gm m2→(∀k,(k<B+100+8*D.at_ x.a∨B+100+8*D.at_ x.a+7≤k)→k≠B+60→γ2 k=γ1 k)→yT γ2 B g p (D.xg x.a (.rw m2))∧∀k,yU 15 B k→γ2 k=γ k):=I fun w2 γ2 m2 o2 a2 k2=>⟨h1.uX hx ⟨gm,hos,a2⟩ (fun k q q2=>k2 k (by omega) q2),fun k q=>(k2 k (by unfold yU at q;have:=(xv h x.a hx.2).2;omega) (by unfold yU at q;omega)).trans (kk k q)⟩;have KK:=I kk;have HG:=I hgot;have hval:x.val=.agg #[.i x.kind,.i x.xr,.i x.pick,.i x.op,.i x.a,.i x.b,.i x.c]:=rfl;have harr:x.xq=#[.i x.kind,.i x.xr,.i x.pick,.i x.op,.i x.a,.i x.b,.i x.c]:=rfl;have hal:D.rZ t x m=if x.op=12 then(D.xg x.a (.rw (m.ql t)),m.ui t)else if x.op=13 then((D.xg x.a (.rw (m.vI t).1)).xH (m.vI t).2,m.sH t)else(D.xO t x (m.se t) (D.xg x.a (.rw (m.rf t))),x.vL D.clock (m.se t)):=rfl;rw[hal];rw[hval]at hen⊢;rw[harr]at q0 r0 r1 r2 r3 r4 r5 r6 s0 hen hun htry hf0 b2 hb2;have B2b:=I b2;clear hal h ho o1 b1 b2 b3 k1 h1 kk hat hat0 e hos hob hx hlt hval harr hgot hb2;by_cases h8:x.op=12
 ·rw[if_pos h8];have d8:(x.op==12)=true:=by simpa using h8
  generalize x.op=op at*;clear h8;go_in;go_wp2_with fail;refine hf0.mono ?_;rintro e w' ⟨rfl,rfl⟩;go_wp2_with fail;refine htry.mono ?_;rintro e w2 ⟨rfl,γ2,o2,a2,k2⟩;have HF:=I (And.intro o2 (HT.out w2 _ _ o2 a2 (fun k q _=>k2 k (by omega))));clear o2 a2 k2 htry hun hen;go_wp2_with fail;go_ret;exact⟨rfl,_,HF.out⟩
 ·rw[if_neg h8];have d8:(x.op==12)=false:=by simpa using h8
  by_cases h9:x.op=13
  ·rw[if_pos h9];have d9:(x.op==13)=true:=by simpa using h9
   generalize x.op=op at*;clear h8 h9;go_in;go_wp2_with fail;refine hf0.mono ?_;rintro e w' ⟨rfl,rfl⟩;go_wp2_with fail;refine hun.mono ?_;rintro e w2 ⟨vg,γ2,rfl,o2,a2,hpt,k2⟩;obtain⟨h2,hk2⟩:=HT.out w2 _ _ o2 a2 k2;obtain⟨AG,cG,rfl⟩:=hpt.form;have hwa:=uy h2 o2 (q:=B+60) (by omega) hpt HG.out.1 (fun y hy=>HG.out.2 y hy);have HK2:=I hk2;clear o2 a2 k2 htry hun hen h2 hk2 hpt;go_wp2_with fail;refine hwa.mono ?_;rintro e w3 ⟨⟨r,rfl,-⟩,γ3,o3,h3,k3⟩;have HF:Hid (∃γ',Own w0 w3 γ'∧yT γ' B g p ((D.xg x.a (.rw (m.vI t).1)).xH (m.vI t).2)∧∀k,yU 15 B k→γ' k=γ k):=I ⟨γ3,o3,h3,fun k hk=>(k3 k hk.out).trans (HK2.out k hk)⟩;clear o3 h3 k3 hwa;go_wp2_with fail;go_ret;exact⟨rfl,HF.out⟩
  ·rw[if_neg h9];have d9:(x.op==13)=false:=by simpa using h9
   generalize x.op=op at*;go_in;go_wp2_with fail;refine hf0.mono ?_;rintro e w' ⟨rfl,rfl⟩;go_wp2_with fail;refine hen.mono ?_;rintro e w2 hp2;have HF:=I ((hp2.up (m:=15) (by omega)).of KK.out);obtain⟨rfl,-⟩:=hp2;clear htry hun hen;go_wp2_with fail;go_ret;exact HF.out
theorem X1(h:yT γ B g p D)(ho:Own w0 w γ){t:Int}(x:En)(ht:D.Live t)(hc:0≤D.clock∧D.clock≤4611686018427387904)(hx:D.Has x.a){m:Sm}(hob:D.ob x.a=some (.sm m))(hlt:m.ws.length<100)(hgot:((m.rel x.b).2).length≤100∧∀y∈(m.rel x.b).2,D.Live y):Calls Tryz.prog 176 #[.p g,.i t,x.val] w (xj 15 w0 γ B g p (D.sV t x m).1 (.i (D.sV t x m).2)):=by
 have hmf:∀(fn:Fn) (first cap:Array Value) (w:World),(Instr.makeFunc fn first cap).run Tryz.prog w=.ok (.func fn first cap) w:=fun _ _ _ _=>rfl;have hat0:=xX h hx.2;rw[hob]at hat0;obtain⟨gm,hos,-⟩:=id hat0;obtain⟨γ1,o1,b1,b2,b3,k1⟩:=rp ho (B+68) (B+69) (B+70) (by omega) (by omega) (by omega) #[.i t] x.xq #[.p gm] 3 38 221;have h1:yT γ1 B g p D:=h.wK fun k hk=>k1 k (by unfold xi at hk;omega) (by unfold xi at hk;omega) (by unfold xi at hk;omega);have kk:∀k,yU 15 B k→γ1 k=γ k:=fun k hk=>k1 k (by unfold yU at hk;omega) (by unfold yU at hk;omega) (by unfold yU at hk;omega);have hb2:Below w.heap.size w ((w.alloc (.cells #[.i t] 3)).alloc (.cells x.xq 38)):=((Below.refl _ w).alloc (zm _) _).alloc (by simp) _;have hf0:=eU (x:=x.a) h (ho.xh hb2) hx.1 hx.2 true (v:=.iface 221 (.p gm)) hos (fun W=>jC _ W) (by simp);have q0:=o1.cell b1 (i:=0) (v:=.i t) rfl;have r0:=o1.cell b2 (i:=0) (v:=.i x.kind) rfl;have r1:=o1.cell b2 (i:=1) (v:=.i x.xr) rfl;have r2:=o1.cell b2 (i:=2) (v:=.i x.pick) rfl;have r3:=o1.cell b2 (i:=3) (v:=.i x.op) rfl;have r4:=o1.cell b2 (i:=4) (v:=.i x.a) rfl;have r5:=o1.cell b2 (i:=5) (v:=.i x.b) rfl;have r6:=o1.cell b2 (i:=6) (v:=.i x.c) rfl;have s0:=o1.cell b3 (i:=0) (v:=.p gm) rfl;have hat:=xX h1 hx.2;rw[hob]at hat;obtain⟨gm',e,hat⟩:=hat;have e':=hos.symm.trans e;cases e';have htry:=SI hat o1 t x.b;have hun:=UG hat o1 x.b (B+60) (by omega);have hen:=ku h1 o1 t x ht.1 hc 239 #[.p (w.heap.size+1+1),.p w.heap.size,.p (w.heap.size+1)] (enters_of Tryz.func239 (by kernel_rfl) rfl) (m.pV t x.b) (D.xg x.a (.sm (m.fx t x.b))) (fun _=>ht.2) (QB hx hob hlt hos b3 b1 b2 (by unfold yU;omega) (by unfold yU;omega) (by unfold yU;omega));have HT:Hid (∀w2 γ2 (m2:Sm),Own w0 w2 γ2→vJ γ2 (B+100+8*D.at_ x.a) gm m2→(∀k,(k<B+100+8*D.at_ x.a∨B+100+8*D.at_ x.a+7≤k)→k≠B+60→γ2 k=γ1 k)→yT γ2 B g p (D.xg x.a (.sm m2))∧∀k,yU 15 B k→γ2 k=γ k):=I fun w2 γ2 m2 o2 a2 k2=>⟨h1.uX hx ⟨gm,hos,a2⟩ (fun k q q2=>k2 k (by omega) q2),fun k q=>(k2 k (by unfold yU at q;have:=(xv h x.a hx.2).2;omega) (by unfold yU at q;omega)).trans (kk k q)⟩;have KK:=I kk;have HG:=I hgot;have hval:x.val=.agg #[.i x.kind,.i x.xr,.i x.pick,.i x.op,.i x.a,.i x.b,.i x.c]:=rfl;have harr:x.xq=#[.i x.kind,.i x.xr,.i x.pick,.i x.op,.i x.a,.i x.b,.i x.c]:=rfl;have hal:D.sV t x m=if x.op=16 then(D.xg x.a (.sm (m.wi t x.b)),m.xP t x.b)else if x.op=17 then((D.xg x.a (.sm (m.rel x.b).1)).xH (m.rel x.b).2,m.jN x.b)else(D.xO t x (m.pV t x.b) (D.xg x.a (.sm (m.fx t x.b))),x.vL D.clock (m.pV t x.b)):=rfl;rw[hal];rw[hval]at hen⊢;rw[harr]at q0 r0 r1 r2 r3 r4 r5 r6 s0 hen hun htry hf0 b2 hb2;have B2b:=I b2;clear hal h ho o1 b1 b2 b3 k1 h1 kk hat hat0 e hos hob hx hlt hval harr hgot hb2;by_cases h8:x.op=16
 ·rw[if_pos h8];have d8:(x.op==16)=true:=by simpa using h8
  generalize x.op=op at*;clear h8;go_in;go_wp2_with fail;refine hf0.mono ?_;rintro e w' ⟨rfl,rfl⟩;go_wp2_with fail;refine htry.mono ?_;rintro e w2 ⟨rfl,γ2,o2,a2,k2⟩;have HF:=I (And.intro o2 (HT.out w2 _ _ o2 a2 (fun k q _=>k2 k (by omega))));clear o2 a2 k2 htry hun hen;go_wp2_with fail;go_ret;exact⟨rfl,_,HF.out⟩
 ·rw[if_neg h8];have d8:(x.op==16)=false:=by simpa using h8
  by_cases h9:x.op=17
  ·rw[if_pos h9];have d9:(x.op==17)=true:=by simpa using h9
   generalize x.op=op at*;clear h8 h9;go_in;go_wp2_with fail;refine hf0.mono ?_;rintro e w' ⟨rfl,rfl⟩;go_wp2_with fail;refine hun.mono ?_;rintro e w2 ⟨vg,γ2,rfl,o2,a2,hpt,k2⟩;obtain⟨h2,hk2⟩:=HT.out w2 _ _ o2 a2 k2;obtain⟨AG,cG,rfl⟩:=hpt.form;have hwa:=uy h2 o2 (q:=B+60) (by omega) hpt HG.out.1 (fun y hy=>HG.out.2 y hy);have HK2:=I hk2;clear o2 a2 k2 htry hun hen h2 hk2 hpt;go_wp2_with fail;refine hwa.mono ?_;rintro e w3 ⟨⟨r,rfl,-⟩,γ3,o3,h3,k3⟩;have HF:Hid (∃γ',Own w0 w3 γ'∧yT γ' B g p ((D.xg x.a (.sm (m.rel x.b).1)).xH (m.rel x.b).2)∧∀k,yU 15 B k→γ' k=γ k):=I ⟨γ3,o3,h3,fun k hk=>(k3 k hk.out).trans (HK2.out k hk)⟩;clear o3 h3 k3 hwa;go_wp2_with fail;go_ret;exact⟨rfl,HF.out⟩
  ·rw[if_neg h9];have d9:(x.op==17)=false:=by simpa using h9
   generalize x.op=op at*;go_in;go_wp2_with fail;refine hf0.mono ?_;rintro e w' ⟨rfl,rfl⟩;go_wp2_with fail;refine hen.mono ?_;rintro e w2 hp2;have HF:=I ((hp2.up (m:=15) (by omega)).of KK.out);obtain⟨rfl,-⟩:=hp2;clear htry hun hen;go_wp2_with fail;go_ret;exact HF.out
end
end
end Go.Proofs.YtkmamlifgbocgaaGreat
