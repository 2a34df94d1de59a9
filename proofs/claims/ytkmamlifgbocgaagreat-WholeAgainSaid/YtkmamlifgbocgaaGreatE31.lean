/- What the program's code does, as contracts, and what follows of it, part 31: for the law's proof. -/
import Derived.Test.YtkmamlifgbocgaaGreatP00
import Derived.Test.YtkmamlifgbocgaaGreatP30
set_option linter.unusedVariables false
set_option linter.unusedSimpArgs false
set_option maxRecDepth 100000
set_option maxHeartbeats 16000000
namespace Go.Proofs.YtkmamlifgbocgaaGreat
section
open Go.RowKit Go.WideShapes Go.ChangeMaps
theorem J{w:World}{DA SA PA:Option Addr}{nd dc ns sc pn pc:Nat}{D:List Dv}{S:List (Int×Int)}{L:List Lk}(h:tE w DA SA PA nd dc ns sc pn pc D S L)(start:Int){A:Option Addr}{len cap:Nat}{f:Nat→En}(hs:jc w A len cap f):Calls Tryz.prog 8 #[.agg #[.slice DA nd dc,.slice SA ns sc,.slice PA pn pc],.i start,.slice A len cap] w fun e w'=>e=.returned (.bool true)∧Below w.heap.size w w':=by
 have hb1:Below w.heap.size w (w.alloc (.cells #[.slice DA nd dc,.slice SA ns sc,.slice PA pn pc] 26)):=(Below.refl _ _).alloc (zm _) _;have hsp:=OX (hs.below hb1) 80 (by omega);have hok:=hs.Uz (xE:=80) (by omega);have HP:Hid (∀W,Below w.heap.size w W→tE W DA SA PA nd dc ns sc pn pc D S L):=I fun W hW=>h.below hW;have HOK:=I hok;have HSP:=I hsp;generalize hl:Uz f len 80=l at*;have HB1:=I (NF w (.slice DA nd dc) (.slice SA ns sc) (.slice PA pn pc));have hel:=NE D S L start hok;clear h hs hsp hok hb1 hl;generalize hw1:w.alloc (.cells #[.slice DA nd dc,.slice SA ns sc,.slice PA pn pc] 26)=w1 at*;have HW1:=I hw1;clear hw1;go_in;go_wp2_with fail;rw[HW1.out];refine HSP.out.mono ?_;rintro e w2 ⟨vl,rfl,hb2,hrd2⟩;obtain⟨hbw2,c0,c1,c2⟩:=HB1.out w2 hb2;have HEV:=I (OW (HP.out w2 hbw2) start HOK.out hrd2);have HRD:=I hrd2;have HB2:=I hb2;obtain⟨AL,cl,rfl,-,-⟩:=hrd2;clear hb2 hbw2 HSP;go_wp2_with fail;refine HEV.out.mono ?_;rintro e w3 ⟨va,rfl,hb3,hra⟩;have HB3:Hid (Below w1.heap.size w1 w3):=I (HB2.out.trans (hb3.mono HB2.out.size));obtain⟨hbw3,d0,d1,d2⟩:=HB1.out w3 HB3.out;have HEV2:=I (OW (HP.out w3 hbw3) start HOK.out (HRD.out.below hb3));have HRA:=I hra;obtain⟨AA,ca,rfl,-,-⟩:=hra;clear hb3 hbw3 HEV c0 c1 c2 HRD HB2;go_wp2_with fail;refine HEV2.out.mono ?_;rintro e w4 ⟨vb,rfl,hb4,hrb⟩;have HB4:Hid (Below w1.heap.size w1 w4):=I (HB3.out.trans (hb4.mono HB3.out.size));have HRA4:=I (HRA.out.below hb4);have HRB4:=I hrb;obtain⟨AB,cb,rfl,-,-⟩:=hrb;clear hb4 HEV2 d0 d1 d2 HB3 HRA HP HOK;generalize(VO D S L start l).1=bb at*;generalize(VO D S L start l).2=wR at*;have hne:(bb != bb)=false:=by simp
 obtain⟨n,hn⟩:∃n,wR.length=n:=⟨_,rfl⟩;have HN:=I hn;rw[hn]at hel⊢;clear hn;go_wp2_with fail;clear hne;go_loopw [12] (fun i wr=>∃j:Nat,i=.i j∧j≤n∧Below w4.heap.size w4 wr) (fun i _=>n-(intOf i).toNat);case atStart=>exact⟨0,rfl,by omega,Below.refl _ _⟩
 case round=>
  obtain⟨j,rfl,hj,hb⟩:=hrel;by_cases hlt:j<n
  ·have hlt':(j:Int)<n:=by omega
   obtain⟨x,hx⟩:∃x,wR[j]? =some x:=⟨wR[j]'(by rw[HN.out];exact hlt),zl (by rw[HN.out];exact hlt)⟩;obtain⟨A1,c1,e1,-,h1⟩:=HRA4.out.below hb;obtain⟨A2,c2,e2,-,h2⟩:=HRB4.out.below hb;cases e1;cases e2;obtain⟨g1,rfl,r1⟩:=h1 j x hx;obtain⟨g2,rfl,r2⟩:=h2 j x hx;obtain⟨p0,p1,p2,p3,p4,p5,p6,p7,p8,p9,p10,p11,p12,p13,p14⟩:=Ev.row r1;obtain⟨q0,q1,q2,q3,q4,q5,q6,q7,q8,q9,q10,q11,q12,q13,q14⟩:=Ev.row r2;have HB:=I hb;clear h1 h2 r1 r2 hx hb;go_wp2_with fail;go_quiet (fail);go_wp2_with fail;go_roundw;case rel=>exact⟨j+1,by simp,by omega,HB.out.trans ⟨rfl,rfl,rfl,zm _,fun _ _=>rfl⟩⟩
   case measure=>simp[intOf];omega
  ·obtain rfl:j=n:=by omega
   have dl:decide ((j:Int)<j)=false:=by simp
   have HB:=I hb;clear hb;go_wp2_with fail;refine(NA _).mono ?_;rintro e w5 ⟨rfl,hb5⟩;have HF:Hid (Below w.heap.size w w5):=I ((HB1.out w4 HB4.out).1.trans ((HB.out.trans (hb5.mono HB.out.size)).mono (HB1.out w4 HB4.out).1.size));clear hb5;go_wp2_with fail;go_ret;exact⟨rfl,HF.out⟩
theorem R(a:Int)(A:Option Addr)(len cap:Nat)(w:World){DA SA PA:Option Addr}{nd dc ns sc pn pc:Nat}{D:List Dv}{S:List (Int×Int)}{L:List Lk}(h:tE w DA SA PA nd dc ns sc pn pc D S L)(_:(Lit.int .i64 a).wf=true)(hr:RowsIn w A len cap Pt):Calls Tryz.prog 8 #[.agg #[.slice DA nd dc,.slice SA ns sc,.slice PA pn pc],.i a,.slice A len cap] w fun e w'=>e=.returned (.bool true)∧Below w.heap.size w w':=by obtain⟨f,hs⟩:=Nw hr;exact J h a hs
end
end Go.Proofs.YtkmamlifgbocgaaGreat
