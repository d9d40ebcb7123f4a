/- Part. -/
import Derived.Test.YtfgjnpbffppocaaGreatDoorF0
import Derived.Test.YtfgjnpbffppocaaGreatDoorF0Q
import Derived.Test.YtfgjnpbffppocaaGreatDoorF1
import Derived.IntWalk
import Derived.WalkSmall
import Derived.Shelf.Abstract
import Derived.BigQuiet
import Derived.Deep.QuietTactic
set_option maxHeartbeats 1000000
namespace Go.Proofs.YtfgjnpbffppocaaGreatDoor
namespace Ext
open Go.RowKit Mem
set_option maxRecDepth 100000
end Ext
namespace Ext
open Go.RowKit Go.Shelf Mem
set_option maxRecDepth 100000
def Ints (w:World) (b off:Nat) (l:List Int):Prop:=∀i x,l[i]? =some x->w.cell? ⟨b,off+i,none⟩=some (.int .i64 x)
theorem Ints.below {w w':World} {B b off:Nat} {l:List Int} (h:Ints w b off l) (hB:Below B w w') (hb:b<B):Ints w' b off l:=λi x hx=>(hB.cell (p:=⟨b,off+i,none⟩) hb).trans (h i x hx)
def outs (count:Int) (x:Int):Bool:=decide (x<0)||decide (count<=x)
theorem closure_any (q:Nat) (count x:Int) (w:World) (h:w.cell? ⟨q,0,none⟩=some (.int .i64 count)):
  Calls Tryz.prog 165 #[.int .i64 x,.pointer (some ⟨q,0,none⟩)] w λe w'=>e=.returned (.bool (outs count x))/\w=w':=by
 by_cases h0:x<0
 ·have e:outs count x=true:=by simp[outs,h0]
  have d0:decide (x<0)=true:=by simpa using h0
  rw[e]
  go_enter Tryz.func165,Tryz.ntmps165
  go_wp2
  go_ret
  exact⟨rfl,rfl⟩
 ·have d0:decide (x<0)=false:=by simpa using h0
  have e:outs count x=decide (count<=x):=by simp[outs,h0]
  rw[e]
  go_enter Tryz.func165,Tryz.ntmps165
  go_wp2
  go_ret
  exact⟨rfl,rfl⟩
def firstOut (count:Int) (l:List Int):Int:=(l.findIdx? (outs count)).elim (-1) (λi=>(i:Int))
theorem firstOut_no {count:Int} {l:List Int} (h:∀(j:Nat) x,l[j]? =some x->outs count x=false):firstOut count l= -1:=by
 unfold firstOut
 rw[List.findIdx?_eq_none_iff.2 (λx hx=>by
  obtain⟨i,hi⟩:=List.getElem?_of_mem hx;exact h i x hi)]
 rfl
theorem firstOut_at {count:Int} {l:List Int} {k:Nat} {x:Int} (ht:l[k]? =some x) (hp:outs count x=true) (h:∀(j:Nat) u,j<k->l[j]? =some u->outs count u=false):firstOut count l=(k:Int):=by
 unfold firstOut;obtain⟨hk,e⟩:=jS.1 ht
 rw[List.findIdx?_eq_some_iff_getElem.2 ⟨hk,by rw[e];exact hp,λj hj=>by
  have:=h j l[j] hj (jg (by omega))
  simp[this]⟩]
 rfl
theorem index_any (q b off cap:Nat) (count:Int) (l:List Int) (w:World) (hq:w.cell? ⟨q,0,none⟩=some (.int .i64 count)) (hl:Ints w b off l) (hlen:l.length<=100000):
  Calls Tryz.prog 77 #[.slice (some ⟨b,off,none⟩) l.length cap,.func (.func 165) #[] #[.pointer (some ⟨q,0,none⟩)]] w λe w'=>e=.returned (.int .i64 (firstOut count l))/\w=w':=by
 have HQ:=jq hq;have HL:=jq hl;clear hq hl
 go_enter Tryz.func77,Tryz.ntmps77
 go_wp2_with fail
 go_loopw[8] (λi wr=>∃k:Nat,k<=l.length/\i=.int .i64 k/\Hid (∀(j:Nat) u,j<k->l[j]? =some u->outs count u=false)/\w=wr) (λi _=>l.length-(intOf i).toNat)
 case atStart=>exact⟨0,Nat.zero_le _,rfl,(λj t h=>by omega),rfl⟩
 case round=>
  obtain⟨k,hk,rfl,hno,rfl⟩:=hrel
  by_cases hlt:k<l.length
  ·obtain⟨x,hx⟩:∃x,l[k]? =some x:=⟨_,jg hlt⟩;have f1:=HL.out k x hx;have HX:=jq hx;clear hx;rcases hpt:outs count x with _|_
   ·have HP:=jq hpt
    go_wp2_with (go_at_call 165;refine(closure_any q count x _ HQ.out).mono ?_;rintro e w1 ⟨rfl,rfl⟩;rw[HP.out])
    refine⟨⟨k+1,by omega,by simp,λj u hj hu=>?_,trivial⟩,by simp[intOf];omega⟩
    by_cases e:j=k
    ·subst e;have:=HX.out.symm.trans hu;cases this;exact HP.out
    ·exact hno.out j u (by omega) hu
   ·have HP:=jq hpt
    go_wp2_with (go_at_call 165;refine(closure_any q count x _ HQ.out).mono ?_;rintro e w1 ⟨rfl,rfl⟩;rw[HP.out])
    go_ret
    exact⟨by rw[firstOut_at HX.out HP.out hno.out];rfl,rfl⟩
  ·obtain rfl:k=l.length:=by omega
   go_wp2_with fail
   go_ret
   exact⟨by rw[firstOut_no (λj x hj=>hno.out j x (jS.1 hj).1 hj)];rfl,rfl⟩
theorem firstOut_any (count:Int) (l:List Int):decide (0<=firstOut count l)=l.any (outs count):=by
 unfold firstOut;cases h:l.findIdx? (outs count)with
 |none=>
  have:=List.findIdx?_eq_none_iff.1 h;have e:l.any (outs count)=false:=by simpa using this
  rw[e];rfl
 |some i=>
  obtain⟨hi,hp,_⟩:=List.findIdx?_eq_some_iff_getElem.1 h;have e:l.any (outs count)=true:=List.any_eq_true.2 ⟨_,List.getElem_mem hi,hp⟩;rw[e]
  simp
theorem contains_any (q b off cap:Nat) (count:Int) (l:List Int) (w:World) (hq:w.cell? ⟨q,0,none⟩=some (.int .i64 count)) (hl:Ints w b off l) (hlen:l.length<=100000):
  Calls Tryz.prog 46 #[.slice (some ⟨b,off,none⟩) l.length cap,.func (.func 165) #[] #[.pointer (some ⟨q,0,none⟩)]] w λe w'=>e=.returned (.bool (l.any (outs count)))/\w=w':=by
 have HI:=jq (index_any q b off cap count l w hq hl hlen);rw[<-firstOut_any];clear hq hl
 go_enter Tryz.func46,Tryz.ntmps46
 go_wp2_with (go_at_call 77;refine HI.out.mono ?_;rintro e w1 ⟨rfl,rfl⟩)
 go_ret
 exact⟨rfl,rfl⟩
end Ext
end Go.Proofs.YtfgjnpbffppocaaGreatDoor
