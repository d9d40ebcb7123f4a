/- Part. -/
import Derived.Test.YtndkohocgfmamaaGreatDoorF9
import Derived.Deep.AppendLies
set_option maxHeartbeats 400000
set_option maxRecDepth 100000
namespace Go.Proofs.YtndkohocgfmamaaGreatDoor
open Go.Proofs.Tryz
namespace Varint
open Go.RowKit Go.Deep Mem Crc
def aT(n:Nat):List UInt8:=if n<128 then [UInt8.ofNat n]else UInt8.ofNat (n%128+128)::aT (n/128)
termination_by n
decreasing_by omega
variable {n:Nat}
theorem qM(h:n<128):aT n= [UInt8.ofNat n]:=by rw[aT,if_pos h]
theorem vC(h:128<=n):aT n=UInt8.ofNat (n%128+128)::aT (n/128):=by rw[aT,if_neg (by omega)]
theorem fP(k:Nat):∀n,n<128^(k+1)->(aT n).length<=k+1:=by
 induction k with
 |zero=>intro n h;rw[qM (by simpa using h)];simp
 |succ k a=>
  intro n h
  by_cases hl:n<128
  ·rw[qM hl];simp
  ·rw[vC (by omega),List.length_cons];have:=a (n/128) (Nat.div_lt_of_lt_mul (by rw[iJ]at h;omega))
   omega
theorem BV(n:Nat):0<(aT n).length:=by
 by_cases hl:n<128
 ·rw[qM hl];simp
 ·rw[vC (by omega)];simp
theorem JV(n:Nat):bits .or .u8 ((n:Int)%256) 128=((n%128+128:Nat):Int):=by
 have h:bits .or .u8 (((n%256:Nat):Nat):Int) ((128:Nat):Int)=(((n%256) ||| 128:Nat):Int):=by
  rw[u8_or_nat _ _ (by omega) (by omega)]
 have e: ((n:Int)%256)=((n%256:Nat):Int):=by omega
 rw[e];refine(show bits .or .u8 (((n%256:Nat):Nat):Int) 128=(((n%256) ||| 128:Nat):Int)from h).trans ?_;have a:∀k:Fin 256,(k.val ||| 128)=k.val%128+128:=by decide
 have b:=a ⟨n%256,fJ _ (by decide)⟩;have c:n%256%128=n%128:=by omega
 rw[show(n%256 ||| 128)=n%256%128+128 from b,c]
theorem BX{w wr w2:World}{v x:Value}{o:Obj}{a n2 c2:Nat}(h:Upon (λq=>v.ownBlock=some q) w wr)(c:∀q,x.ownBlock=some q->v.ownBlock=some q\/w.heap.size<=q)(g: (wr.alloc o).grownBy w2 x.ownBlock)(f:x.ownBlock=some a\/a=wr.heap.size+1):
  Upon (λq=>v.ownBlock=some q) w w2/\∀q,(Value.slice (some ⟨a,0,none⟩) n2 c2).ownBlock=some q->v.ownBlock=some q\/w.heap.size<=q:=by
 have d:=h.alloc o;refine⟨d.trans (Upon.of_grown (P:=λq=>x.ownBlock=some q) g (λq hq=>.inl hq)) (λq hq=>c q hq),λq hq=>?_⟩;have e:a=q:=by simpa[Value.ownBlock]using hq
 rcases f with b|b
 ·exact c q (by rw[b,e])
 ·right
  have:=h.size
  omega
theorem iN{base:Nat}(a:Nat)(Z:a<18446744073709551616)(v:Value)(bs:List UInt8)(w:World)(h:ak w base v bs)(hb:base<=w.heap.size)(X:bs.length<=1000000):
  Calls prog 165 #[v,.int .u64 (a:Int)] w λe w'=>∃G,e=.returned G/\ak w' base G (bs++aT a)/\Upon (λq=>v.ownBlock=some q) w w'/\∀q,G.ownBlock=some q->v.ownBlock=some q\/w.heap.size<=q:=by
 obtain⟨F,A,C,D,E⟩:=info_parts jX;have Q:=jq h;have R:=jq (fP 9 a (by omega));clear h
 go_enter func165,ntmps165
 go_wp2_with fail
 go_loopw[0,1] (λx i wr=>∃(m:Nat) (bs':List UInt8),i=.int .u64 m/\m<=a/\ak wr base x bs'/\bs'++aT m=bs++aT a/\Upon (λq=>v.ownBlock=some q) w wr/\∀q,x.ownBlock=some q->v.ownBlock=some q\/w.heap.size<=q) (λ_ i _=>(intOf i).toNat)
 case atStart=>exact⟨a,bs,rfl,aj _,Q.out,rfl,Upon.refl _ _,λq hq=>.inl hq⟩
 case round=>
  obtain⟨m,bs',rfl,Y,M,z,s,O⟩:=hrel;have L:=jq O;clear O
  have W:bs'.length<=1000010:=by
   have T:=congrArg List.length z;rw[jL,jL]at T;have:=R.out
   omega
  have V:base<=wr.heap.size:=ax hb s.size;have J:=jq M;have I:=jq z;have H:=jq s;clear M z s
  by_cases hlt:m<128
  ·have hd:decide ((127:Int) <(m:Int))=false:=by simp;omega
   have U:∃u:Int,u=(m:Int)/\Value.int .u8 u=bv (UInt8.ofNat m):=⟨_,rfl,jo (by omega)⟩;obtain⟨u,P,o⟩:=U;have d:=jq (own_later J.out ((Below.refl _ wr).alloc jn (.cells #[.int .u8 u] 5)));have c:=jq (one_at (w:=wr) (t:=5) o);rw[P]at d c;clear P o
   go_wp2_with (first|(at_builtin;refine wpList_append_lies _ rfl _ _ 84 rfl base 5 F (.int .u8 0) 1 1 underlying84 A C D E rfl (by decide) _ _ _ rfl d.out ⟨wr.heap.size,0,none⟩ 1 1 [bv (UInt8.ofNat m)] rfl rfl c.out (one_cell _) (by decide) (by unfold maxLen;omega) (by omega) (by rw[World.size_alloc];omega) _ rfl ?_))
   intro r c2 w2 l k j _;have f:=BX (n2:=bs'.length+1) (c2:=c2) H.out L.out k j
   have g:ak w2 base (.slice (some ⟨r,0,none⟩) (bs'.length+1) c2) (bs++aT a):=by
    rw[<-I.out,qM hlt];unfold ak;rw[jL,aZ];exact l
   have p:=jq g;have b:=jq f;clear l k g f j
   go_wp2_with fail
   go_ret
   exact⟨_,rfl,p.out,b.out.1,b.out.2⟩
  ·have hd:decide ((127:Int) <(m:Int))=true:=by simp;omega
   have d:=jq (own_later J.out ((Below.refl _ wr).alloc jn (.cells #[.int .u8 ((m%128+128:Nat):Int)] 5)));obtain⟨y,B⟩:=jl (UInt8.ofNat (m%128+128));have o:Value.int .u8 ((m%128+128:Nat):Int)=bv y:=by rw[B];exact jo (by omega)
   have S:=jq B;have c:=jq (one_at (w:=wr) (t:=5) o);have N:=JV m;clear o B
   go_wp2_with (first|(at_builtin;rw[N];refine wpList_append_lies _ rfl _ _ 84 rfl base 5 F (.int .u8 0) 1 1 underlying84 A C D E rfl (by decide) _ _ _ rfl d.out ⟨wr.heap.size,0,none⟩ 1 1 [bv y] rfl rfl c.out (one_cell _) (by decide) (by unfold maxLen;omega) (by omega) (by rw[World.size_alloc];omega) _ rfl ?_)|(at_builtin;refine wpList_append_lies _ rfl _ _ 84 rfl base 5 F (.int .u8 0) 1 1 underlying84 A C D E rfl (by decide) _ _ _ rfl d.out ⟨wr.heap.size,0,none⟩ 1 1 [bv y] rfl rfl c.out (one_cell _) (by decide) (by unfold maxLen;omega) (by omega) (by rw[World.size_alloc];omega) _ rfl ?_))
   intro r c2 w2 l k j _;have f:=BX (n2:=bs'.length+1) (c2:=c2) H.out L.out k j
   have g:ak w2 base (.slice (some ⟨r,0,none⟩) (bs'.length+1) c2) (bs'++ [y]):=by
    unfold ak;rw[jL,aZ,List.length_singleton];exact l
   have p:=jq g;have b:=jq f;clear l k g f j N
   go_wp2_with fail
   go_roundw
   case rel=>exact⟨m/128,_,by simp,by omega,p.out,by rw[<-I.out,vC (n:=m) (by omega),S.out];simp,b.out.1,b.out.2⟩
   case measure=>simp[intOf];omega
end Varint
end Go.Proofs.YtndkohocgfmamaaGreatDoor
