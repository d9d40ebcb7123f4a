/- Part. -/
import Derived.Test.YtfgjnpbffppocaaGreatDoorF0
import Derived.Test.YtfgjnpbffppocaaGreatDoorF0Q
import Derived.Test.YtfgjnpbffppocaaGreatDoorF2
import Derived.Test.YtfgjnpbffppocaaGreatDoorF19
import Derived.Deep.AppendLies
set_option maxHeartbeats 400000
set_option maxRecDepth 100000
namespace Go.Proofs.YtfgjnpbffppocaaGreatDoor
namespace Varint
open Go.RowKit Go.Deep Mem Crc
def vput (n:Nat):List UInt8:=if n<128 then [UInt8.ofNat n]else UInt8.ofNat (n%128+128)::vput (n/128)
termination_by n
decreasing_by omega
theorem vput_low {n:Nat} (h:n<128):vput n= [UInt8.ofNat n]:=by rw[vput,if_pos h]
theorem vput_high {n:Nat} (h:128<=n):vput n=UInt8.ofNat (n%128+128)::vput (n/128):=by rw[vput,if_neg (by omega)]
theorem vput_length (k:Nat):∀n,n<128^(k+1)->(vput n).length<=k+1:=by
 induction k with
 |zero=>intro n h;rw[vput_low (by simpa using h)];simp
 |succ k ih=>
  intro n h
  by_cases hl:n<128
  ·rw[vput_low hl];simp
  ·rw[vput_high (by omega),List.length_cons];have:=ih (n/128) (Nat.div_lt_of_lt_mul (by rw[Nat.pow_succ]at h;omega))
   omega
theorem vput_pos (n:Nat):0<(vput n).length:=by
 by_cases hl:n<128
 ·rw[vput_low hl];simp
 ·rw[vput_high (by omega)];simp
theorem or_128 (n:Nat):bits .or .u8 ((n:Int)%256) 128=((n%128+128:Nat):Int):=by
 have h:bits .or .u8 (((n%256:Nat):Nat):Int) ((128:Nat):Int)=(((n%256) ||| 128:Nat):Int):=by
  rw[u8_or_nat _ _ (by omega) (by omega)]
 have e: ((n:Int)%256)=((n%256:Nat):Int):=by omega
 rw[e];refine(show bits .or .u8 (((n%256:Nat):Nat):Int) 128=(((n%256) ||| 128:Nat):Int)from h).trans ?_;have h2:∀k:Fin 256,(k.val ||| 128)=k.val%128+128:=by decide
 have h3:=h2 ⟨n%256,Nat.mod_lt _ (by decide)⟩;have h4:n%256%128=n%128:=by omega
 rw[show(n%256 ||| 128)=n%256%128+128 from h3,h4]
theorem varint_step {w wr w2:World} {v x:Value} {o:Obj} {g2 n2 c2:Nat} (h:Upon (λq=>v.ownBlock=some q) w wr) (hx:∀q,x.ownBlock=some q->v.ownBlock=some q\/w.heap.size<=q) (hg: (wr.alloc o).grownBy w2 x.ownBlock) (hat:x.ownBlock=some g2\/g2=wr.heap.size+1):
  Upon (λq=>v.ownBlock=some q) w w2/\∀q,(Value.slice (some ⟨g2,0,none⟩) n2 c2).ownBlock=some q->v.ownBlock=some q\/w.heap.size<=q:=by
 have h1:=h.alloc o;refine⟨h1.trans (Upon.of_grown (P:=λq=>x.ownBlock=some q) hg (λq hq=>.inl hq)) (λq hq=>hx q hq),λq hq=>?_⟩;have e:g2=q:=by simpa[Value.ownBlock]using hq
 rcases hat with h2|h2
 ·exact hx q (by rw[h2,e])
 ·right
  have:=h.size
  omega
theorem put_any {base:Nat} (n0:Nat) (hn0:n0<18446744073709551616) (v:Value) (bs:List UInt8) (w:World) (h:OwnB w base v bs) (hb:base<=w.heap.size) (hm:bs.length<=1000000):
  Calls Tryz.prog 140 #[v,.int .u64 (n0:Int)] w λe w'=>∃v',e=.returned v'/\OwnB w' base v' (bs++vput n0)/\Upon (λq=>v.ownBlock=some q) w w'/\∀q,v'.ownBlock=some q->v.ownBlock=some q\/w.heap.size<=q:=by
 obtain⟨i0,hi0,hz0,hz1,hz2⟩:=info_parts infoB8;have HH:=jq h;have HV:=jq (vput_length 9 n0 (by omega));clear h
 go_enter Tryz.func140,Tryz.ntmps140
 go_wp2_with fail
 go_loopw[0,1] (λx i wr=>∃(m:Nat) (bs':List UInt8),i=.int .u64 m/\m<=n0/\OwnB wr base x bs'/\bs'++vput m=bs++vput n0/\Upon (λq=>v.ownBlock=some q) w wr/\∀q,x.ownBlock=some q->v.ownBlock=some q\/w.heap.size<=q) (λ_ i _=>(intOf i).toNat)
 case atStart=>exact⟨n0,bs,rfl,Nat.le_refl _,HH.out,rfl,Upon.refl _ _,λq hq=>.inl hq⟩
 case round=>
  obtain⟨m,bs',rfl,hmn,hO,he,hB,hown⟩:=hrel;have HOWN:=jq hown;clear hown
  have hlen:bs'.length<=1000010:=by
   have h1:=congrArg List.length he;rw[jL,jL]at h1;have:=HV.out
   omega
  have hbr:base<=wr.heap.size:=Nat.le_trans hb hB.size;have HO:=jq hO;have HE:=jq he;have HB:=jq hB;clear hO he hB
  by_cases hlt:m<128
  ·have hd:decide ((127:Int) <(m:Int))=false:=by simp;omega
   have hb8:∃u:Int,u=(m:Int)/\Value.int .u8 u=bv (UInt8.ofNat m):=⟨_,rfl,bvI (by omega)⟩;obtain⟨u,hu,hub⟩:=hb8;have HOA:=jq (own_later HO.out ((Below.refl _ wr).alloc jn (.cells #[.int .u8 u] 5)));have HNA:=jq (one_at (w:=wr) (t:=5) hub);rw[hu]at HOA HNA;clear hu hub
   go_wp2_with (first|(at_builtin;refine wpList_append_lies _ rfl _ _ 27 rfl base 5 i0 (.int .u8 0) 1 1 Tryz.underlying27 hi0 hz0 hz1 hz2 rfl (by decide) _ _ _ rfl HOA.out ⟨wr.heap.size,0,none⟩ 1 1 [bv (UInt8.ofNat m)] rfl rfl HNA.out (one_cell _) (by decide) (by unfold maxLen;omega) (by omega) (by rw[World.size_alloc];omega) _ rfl ?_))
   intro g2 c2 w2 hown2 hgrow2 hat2 _;have hB2:=varint_step (n2:=bs'.length+1) (c2:=c2) HB.out HOWN.out hgrow2 hat2
   have hO2:OwnB w2 base (.slice (some ⟨g2,0,none⟩) (bs'.length+1) c2) (bs++vput n0):=by
    rw[<-HE.out,vput_low hlt];unfold OwnB;rw[jL,List.map_append];exact hown2
   have HO2:=jq hO2;have HB2:=jq hB2;clear hown2 hgrow2 hO2 hB2 hat2
   go_wp2_with fail
   go_ret
   exact⟨_,rfl,HO2.out,HB2.out.1,HB2.out.2⟩
  ·have hd:decide ((127:Int) <(m:Int))=true:=by simp;omega
   have HOA:=jq (own_later HO.out ((Below.refl _ wr).alloc jn (.cells #[.int .u8 ((m%128+128:Nat):Int)] 5)));obtain⟨y,hy⟩:=jl (UInt8.ofNat (m%128+128));have hub:Value.int .u8 ((m%128+128:Nat):Int)=bv y:=by rw[hy];exact bvI (by omega)
   have HY:=jq hy;have HNA:=jq (one_at (w:=wr) (t:=5) hub);have hor:=or_128 m;clear hub hy
   go_wp2_with (first|(at_builtin;rw[hor];refine wpList_append_lies _ rfl _ _ 27 rfl base 5 i0 (.int .u8 0) 1 1 Tryz.underlying27 hi0 hz0 hz1 hz2 rfl (by decide) _ _ _ rfl HOA.out ⟨wr.heap.size,0,none⟩ 1 1 [bv y] rfl rfl HNA.out (one_cell _) (by decide) (by unfold maxLen;omega) (by omega) (by rw[World.size_alloc];omega) _ rfl ?_)|(at_builtin;refine wpList_append_lies _ rfl _ _ 27 rfl base 5 i0 (.int .u8 0) 1 1 Tryz.underlying27 hi0 hz0 hz1 hz2 rfl (by decide) _ _ _ rfl HOA.out ⟨wr.heap.size,0,none⟩ 1 1 [bv y] rfl rfl HNA.out (one_cell _) (by decide) (by unfold maxLen;omega) (by omega) (by rw[World.size_alloc];omega) _ rfl ?_))
   intro g2 c2 w2 hown2 hgrow2 hat2 _;have hB2:=varint_step (n2:=bs'.length+1) (c2:=c2) HB.out HOWN.out hgrow2 hat2
   have hO2:OwnB w2 base (.slice (some ⟨g2,0,none⟩) (bs'.length+1) c2) (bs'++ [y]):=by
    unfold OwnB;rw[jL,List.map_append,List.length_singleton];exact hown2
   have HO2:=jq hO2;have HB2:=jq hB2;clear hown2 hgrow2 hO2 hB2 hat2 hor
   go_wp2_with fail
   go_roundw
   case rel=>exact⟨m/128,_,by simp,by omega,HO2.out,by rw[<-HE.out,vput_high (n:=m) (by omega),HY.out];simp,HB2.out.1,HB2.out.2⟩
   case measure=>simp[intOf];omega
end Varint
end Go.Proofs.YtfgjnpbffppocaaGreatDoor
