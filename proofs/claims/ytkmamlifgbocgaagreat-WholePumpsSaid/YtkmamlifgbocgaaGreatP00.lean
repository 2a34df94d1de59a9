/- Short names for the texts that follow. -/
import Derived.ProofKit
import Derived.WalkKit
import Derived.WideShapes
import Derived.Lib.Hide
import Derived.Test.YtkmamlifgbocgaaGreatProg
namespace Go
abbrev Value.i(x:Int):Value:=.int .i64 x
abbrev Value.p(g:Nat):Value:=.pointer (some ⟨g,0,none⟩)
abbrev Lit.i(x:Int):Lit:=.int .i64 x
end Go
namespace Go.Proofs.YtkmamlifgbocgaaGreat
open Go Go.RowKit
abbrev U:=Nat→Option (Nat×Obj)
abbrev zb(g:Nat):Option Addr:=some ⟨g,0,none⟩
abbrev zc(g i:Nat):Addr:=⟨g,i,none⟩
theorem I{p:Prop}(h:p):Hid p:=Lib.hid h
abbrev zd:=@List.setIfInBounds_toArray
abbrev ze:=@List.getElem_cons_succ
abbrev zg:=@List.getElem_cons_zero
abbrev zh:=@List.getElem_toArray
abbrev zi:=@List.set_cons_succ
abbrev zj:=@List.set_cons_zero
abbrev zk:=@List.getElem?_eq_some_iff
abbrev zl:=@List.getElem?_eq_getElem
abbrev zm:=@Nat.le_refl
abbrev zn:=@List.getD_eq_getElem?_getD
abbrev zo:=@List.mem_of_getElem?
abbrev zp:=@List.getElem?_set_self
abbrev zq:=@List.length_set
abbrev zr:=@List.length_append
abbrev zt:=@List.getElem?_set_ne
abbrev zu:=@Int.toNat_natCast
abbrev zv:=@Array.getElem?_eq_getElem
abbrev zw:=@List.perm_append_singleton
abbrev zx:=@List.getElem?_map
abbrev zy:=@Nat.zero_add
abbrev zz:=@List.length_replicate
abbrev zA:=@List.length_map
abbrev zB:=@List.mem_append
abbrev zC:=@Decidable.byContradiction
abbrev zD:=@List.nil_append
abbrev zE:=@List.length_take
abbrev zF:=@List.getElem?_append_left
abbrev zG:=@List.getElem?_take
abbrev zH:=@List.size_toArray
abbrev zI:=@Array.getElem?_eq_some_iff
abbrev zJ:=@List.getElem?_eq_none
abbrev zK:=@List.mem_of_mem_erase
abbrev zL:=@Bool.and_eq_true
abbrev zM:=@List.length_cons
abbrev zN:=@List.nodup_cons
abbrev zO:=@List.take_of_length_le
abbrev zP:=@List.append_nil
abbrev zQ:=@List.getElem?_of_mem
abbrev zR:=@List.getElem?_replicate
abbrev zS:=@List.erase_of_not_mem
abbrev zT:=@List.cons_append
abbrev zU:=@List.append_assoc
abbrev zV:=@Array.replicate_succ
abbrev zW:=@Array.replicate_zero
abbrev zX:=@Array.getElem?_setIfInBounds_ne
abbrev zY:=@List.length_nil
abbrev zZ:=@List.append_toArray
abbrev z7:=@List.any_eq_true
abbrev ya:=@List.length_drop
abbrev yb:=@List.ext_getElem?
abbrev yc:=@List.mem_map
abbrev yd:=@List.nodup_append
abbrev ye:=@List.set_set
abbrev yf:=@Array.getElem?_setIfInBounds
abbrev yg:=@List.length_pos_iff
abbrev yh:=@List.length_singleton
abbrev yi:=@List.mem_append_right
abbrev yj:=@List.push_toArray
abbrev yk:=@List.take_add_one
abbrev yl:=@List.length_erase_le
abbrev ym:=@List.mem_append_left
abbrev yn:=@Nat.le_trans
abbrev yo:=@Option.map_some
abbrev yp:=@Array.length_toList
abbrev yq:=@List.foldl_append
abbrev yr:=@List.mem_singleton
abbrev yt:=@Option.getD_some
abbrev yu:=@List.getElem?_append_right
abbrev yv:=@Nat.add_zero
abbrev yw:=@List.replicate_append_replicate
abbrev yx:=@List.mem_or_eq_of_mem_set
abbrev yz:=@List.take_left'
abbrev yA:=@List.take_length
abbrev yB:=@List.erase_cons_head
abbrev yC:=@List.perm_cons_erase
abbrev yD:=@List.range_succ
abbrev yE:=@Array.toList_setIfInBounds
abbrev yF:=@List.getElem?_drop
abbrev yG:=@Nat.mul_one
abbrev yH:=@List.length_erase_of_mem
abbrev yI:=@List.map_append
abbrev yJ:=@List.mem_cons_of_mem
abbrev yK:=@List.map_cons
abbrev yL:=@List.length_eq_zero_iff
abbrev yM:=@List.getElem?_range
abbrev yN:=@List.nodup_nil
theorem pt:(∀(a:Act)(v:Value)(d:Tmp),a.put (some d) v={tmps:=a.tmps.setIfInBounds d v,defers:=a.defers})∧(∀(a:Act)(v:Value),a.put none v=a)∧(∀{α:Type}{xs:List α}{i:Nat}(h:i<xs.toArray.size),xs.toArray[i]=xs[i])∧(∀{α:Type}(a:α)(l:List α)(h:0<(a::l).length),(a::l)[0]=a)∧(∀{α:Type}(a:α)(l:List α)(i:Nat)(h:i+1<(a::l).length),(a::l)[i+1]=l[i]'(Nat.lt_of_succ_lt_succ h))∧(∀{α:Type}(l:List α)(i:Nat)(a:α),l.toArray.setIfInBounds i a=(l.set i a).toArray)∧(∀{α:Type}{x:α}{l:List α}{a:α},(x::l).set 0 a=a::l)∧∀{α:Type}{x:α}{l:List α}{i:Nat}{a:α},(x::l).set (i+1) a=x::l.set i a:=⟨fun _ _ _=>rfl,fun _ _=>rfl,fun _=>rfl,fun _ _ _=>rfl,fun _ _ _ _=>rfl,fun l i a=>List.setIfInBounds_toArray l i a,rfl,rfl⟩
end Go.Proofs.YtkmamlifgbocgaaGreat
