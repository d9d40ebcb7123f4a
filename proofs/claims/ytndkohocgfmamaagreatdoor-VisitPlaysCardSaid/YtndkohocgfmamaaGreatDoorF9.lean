/- Part. -/
import Derived.Test.YtndkohocgfmamaaGreatDoorF5
import Derived.Lib.AppendZerosOnto
set_option maxHeartbeats 400000
set_option maxRecDepth 100000
namespace Go.Proofs.YtndkohocgfmamaaGreatDoor
open Go.Proofs.Tryz
namespace Mem
open Go.RowKit Go.Deep Crc
theorem JR(k:Nat): (Builtin.zeroCells #[Value.int .u8 0] k).toList=List.replicate k (.int .u8 0):=by
 apply List.ext_getElem?
 intro i;unfold Builtin.zeroCells;simp only[Array.toList_map,Array.toList_range,List.getElem?_map,List.size_toArray,List.length_cons,List.length_nil,Nat.zero_add,Nat.mul_one,Nat.mod_one,List.getElem?_replicate]
 by_cases h:i<k
 ·rw[if_pos h,List.getElem?_range h]
  rfl
 ·rw[if_neg h,vg (by simp;omega)]
  rfl
theorem Cm{base:Nat}(w:World)(s y:TypeId)(p:prog.underlying s=some (.int .i64))(g cap n:Nat)(xs:List Value)(b:w.ownsRow base 5 1 (.slice (some ⟨g,0,none⟩) n cap) n xs)(k:Nat)(h:n+k<=1000000)(hb:base<=w.heap.size):
  ∃z w',(Builtin.append_ #[84,s] y #[.slice (some ⟨g,0,none⟩) n cap,.int .i64 (k:Int)]).run prog w=.ok z w'/\w'.ownsRow base 5 1 z (n+k) (xs++List.replicate k (.int .u8 0))/\w.grownBy w' (some g):=by
 obtain⟨i,l,q,c,a⟩:=info_parts jX;have o:=underlying84;have d: (xs++List.replicate k (Value.int .u8 0)).length=(n+k)*1:=by rw[jL,b.1,List.length_replicate];omega
 have O:IntKind.i64.wrap (k:Int)=k:=by rw[IntKind.wrap_i64];omega
 have I:¬((k:Int) <0):=by omega
 have U:¬(281474976710656<(k:Int)*(i.bytes:Int)):=by rw[a];omega
 have B:¬(281474976710656<(k:Int)):=by omega
 rcases b.2 with⟨e,_⟩|⟨T,S,cur,e,C,t,H,D,hcs,M⟩
 ·cases e
 ·cases e
  by_cases x:n+k<=cap
  ·have J:∀u∈List.replicate k (Value.int .u8 0),u.oneCell'=true:=λu N=>by rw[(List.mem_replicate.1 N).2];rfl
   have f:=run_storeCells_at prog g n 5 (List.replicate k (Value.int .u8 0)) 0 cur w t (by rw[List.length_replicate,hcs];omega) J;simp only[Nat.add_zero,List.length_replicate]at f;have r: (Builtin.zeroCells (Value.int .u8 0).cells k).toList=List.replicate k (.int .u8 0):=JR k;refine⟨.slice (some ⟨g,0,none⟩) (n+k) cap,w.setRow g (cur.toList.take n++List.replicate k (Value.int .u8 0)++cur.toList.drop (n+k)).toArray,?_,⟨d,.inr ⟨g,cap,_,rfl,C,setRow_heap w g cur _ 5 _ t,x,D,?_,?_⟩⟩,⟨rfl,rfl,rfl,by simp,λj _ m=>setRow_other w g j _ (λe=>m (by rw[e]))⟩⟩
   ·by_cases v:k=0
    ·subst v;have Q:IntKind.i64.wrap 0=0:=by rw[IntKind.wrap_i64];rfl
     simp[Builtin.append_,run_underlying o,run_underlying p,sizeOf,typeInfo,zeroValue,l,q,c,a,asInt,asIntOf,Q,Addr.add_lit,H]at f⊢
     rw[f]
     rfl
    ·simp[Builtin.append_,run_underlying o,run_underlying p,sizeOf,typeInfo,zeroValue,l,q,c,a,asInt,asIntOf,O,I,v,x,B,Addr.add_lit,r,f]
   ·simp only[List.size_toArray,jL,jT,List.length_drop,Array.length_toList,List.length_replicate]
    omega
   ·have A:cur.toList.take n=xs:=by rw[<-M,Nat.mul_one]
    rw[A,<-d];exact kH
  ·have holds:∀j u,xs[j]? =some u->w.drew.cell? ((⟨g,0,none⟩:Addr).add j)=some u:=World.ownsRow.cells (w:=w) b (g:=g) rfl;have F:=run_firstCells_some (P:=prog) w.drew i.size n ⟨g,0,none⟩ n cap xs (by rw[b.1,c]) holds;have L:=Lib.run_append_grow_zeros (P:=prog) w 84 s y 5 i (.int .u8 0) .i64 .i64 o p l q (some ⟨g,0,none⟩) n cap xs F k (by omega) (by rw[c];decide) (by omega) (by omega) (by rw[a];omega) (growslice_fits (by omega) (by rw[a];omega));have G:=grownCap_ge w (n+k) cap 5;have E:grownCap w (n+k) cap 5<=maxLen:=grownCap_le_maxLen w (n+k) cap 5 (by unfold maxLen;omega);refine⟨_,_,L,⟨d,.inr ⟨w.heap.size,_,_,rfl,hb,heap_alloc_new w.drew _,G,E,?_,?_⟩⟩,⟨rfl,rfl,rfl,by simp,λj m _=>Below.heap_alloc w.drew _ j m⟩⟩
   ·have R: (Value.int IntKind.u8 0).cells.size=1:=rfl;have V:=b.1;simp only[Array.size_append,List.size_toArray,size_zeroCells,R]
    omega
   ·have r: (Builtin.zeroCells (Value.int .u8 0).cells k).toList=List.replicate k (.int .u8 0):=JR k;simp only[Array.toList_append,List.append_assoc,r];rw[<-List.append_assoc,<-d];exact kH
theorem lQ{base:Nat}(w:World)(o:TypeId)(v:Value)(bs:List UInt8)(h:ak w base v bs)(a:Option Addr)(cp:Nat)(b:List UInt8)(m:Lies w a (b.map bv))(z:bs.length+b.length<=100000000)(hb:base<=w.heap.size):
  ∃c w',(Builtin.append_ #[84,84] o #[v,.slice a b.length cp]).run prog w=.ok c w'/\ak w' base c (bs++b)/\w.grownBy w' v.ownBlock:=by
 obtain⟨i,d,y,l,r⟩:=info_parts jX;have f:=underlying84
 cases a with
 |some p=>
  obtain⟨c,w',x,t,n,_⟩:=run_append_own (P:=prog) w base 84 o 5 i (.int .u8 0) 1 1 f d y l r rfl (by decide) v bs.length (bs.map bv) h p b.length cp (b.map bv) (by simp) (λj u k=>by
   cases m with
   |inl e=>rw[e]at k;simp at k
   |inr e=>exact dQ (.inr e) j u k) (kN b) (by unfold maxLen;omega) (by omega) hb
  refine⟨c,w',x,?_,n⟩;unfold ak;rw[jL,aZ];exact t
 |none=>
  have q:b= []:=dM.1 (Ad m);subst q;refine⟨v,w,?_,by rw[List.append_nil];exact h,⟨rfl,rfl,rfl,aj _,λ_ _ _=>rfl⟩⟩;rcases h.2 with⟨rfl,e⟩|⟨g,cap,cur,rfl,_,n,s,_⟩
  ·simp[Builtin.append_,run_underlying f,sizeOf,typeInfo,d,Builtin.lenOf,Builtin.firstCells]
  ·simp[Builtin.append_,run_underlying f,sizeOf,typeInfo,d,l,Builtin.lenOf,Builtin.firstCells,s]
   rfl
def sv(nm:List UInt8):Value:=.string ⟨nm.toArray⟩
theorem JW{base:Nat}(w:World)(d:TypeId)(v:Value)(bs:List UInt8)(h:ak w base v bs)(nm:List UInt8)(n:bs.length+nm.length<=100000000)(hb:base<=w.heap.size):
  ∃a w',(Builtin.append_ #[84,9] d #[v,sv nm]).run prog w=.ok a w'/\ak w' base a (bs++nm)/\w.grownBy w' v.ownBlock:=by
 obtain⟨i,k,m,f,g⟩:=info_parts jX;have b: (⟨nm.toArray⟩:ByteArray).size=nm.length:=by show nm.toArray.size=_;simp
 obtain⟨a,w',l,c,j,_⟩:=Lib.run_append_own_string (P:=prog) w base 84 9 d 5 i underlying84 underlying9 k m f g v bs.length (bs.map bv) h ⟨nm.toArray⟩ (by rw[b];unfold maxLen;omega) (by rw[b];omega) hb;refine⟨a,w',l,?_,j⟩;rw[b]at c;unfold ak;rw[jL,aZ];have e:Lib.strCells ⟨nm.toArray⟩=nm.map bv:=by simp[Lib.strCells,bv]
 rw[<-e];exact c
theorem vD{P:Program}{i:Array Oper}{o:Oper}{a:Act}{w:World}{K:Act->World->Prop}{Q:Exit->Act->World->Prop}{E:Prop}(d:o.guard=none)(s x:Operand)(t u:TypeId)(e:o.op=.call {callee:=.builtin .append,args:=#[s,x],argTypes:=#[t,u]})(vs c:Value)(g:a.eval s=vs)(h:a.eval x=c){b:Value}{w':World}(f: (Builtin.append_ #[t,u] o.type #[vs,c]).run P w=.ok b w')(hK:K (a.put o.dst b) w'):if Region.wanted o (yielded i a.tmps)=true then Oper.wp P o a w K Q else E:=by
 rw[if_pos (by simp[Region.wanted,d])];exact Lib.wp_append_run w s x t u e vs c g h b w' f hK
end Mem
namespace kP
open Go.RowKit Go.Deep Mem Crc
open Go.Proofs.YtndkohocgfmamaaGreatDoor.Frame (mI)
def dh(file place:Nat)(b:List UInt8):List UInt8:=marked (four file++(four place++(four b.length++(b++List.replicate (112-b.length) 0))))
theorem pq{file place:Nat}{b:List UInt8}(h:b.length<=112): (dh file place b).length=128:=by
 unfold dh;rw[gG];simp only[jL,jc,List.length_replicate]
 omega
theorem BU{base:Nat}(n:Nat)(D:n<4294967296)(v:Value)(bs:List UInt8)(w:World)(h:ak w base v bs)(hb:base<=w.heap.size)(C:bs.length<=1000000):
  Calls prog 174 #[v,.int .u32 (n:Int)] w λe w'=>∃j,e=.returned j/\ak w' base j (bs++four n)/\w.grownBy w' v.ownBlock:=by
 obtain⟨B,u,x,z,A⟩:=info_parts jX;obtain⟨W,c⟩:=jl (w.alloc (.cells ((four n).map bv).toArray 5));have b:Below w.heap.size w W:=by rw[c];exact(Below.refl _ w).alloc jn _
 have d:W.ownsRow base 5 1 v bs.length (bs.map bv):=own_later h b;have hl:=dQ (xs:=(four n).map bv) (w:=W) (a:=⟨w.heap.size,0,none⟩) (by rw[c];have:=jG w 5 ((four n).map bv).toArray;simpa using this);have t:base<=W.heap.size:=ax hb b.size
 have E:=jq (show(#[.int .u8 ((n:Int)%256),.int .u8 ((n:Int)/256%256),.int .u8 ((n:Int)/65536%256),.int .u8 ((n:Int)/16777216)]:Array Value)=((four n).map bv).toArray by
  rw[jo (y:=(n:Int)%256) (n:=n) (by omega),jo (y:=(n:Int)/256%256) (n:=n/256) (by omega),jo (y:=(n:Int)/65536%256) (n:=n/65536) (by omega),jo (y:=(n:Int)/16777216) (n:=n/16777216) (by omega)]
  rfl)
 have q:=jq d;have p:=jq hl;have s:=jq c;have l:=jq (kN (four n));have m:=jq b;clear h d hl c b
 go_enter func174,ntmps174
 go_wp2_with (first|(at_builtin;rw[E.out,<-s.out];refine wpList_append_own _ rfl _ _ 84 rfl base 5 B (.int .u8 0) 1 1 underlying84 u x z A rfl (by decide) _ _ _ rfl q.out ⟨w.heap.size,0,none⟩ 4 4 ((four n).map bv) rfl (by rw[jP];rfl) p.out l.out (by unfold maxLen;omega) (by omega) t ?_))
 intro k w2 i g _
 have f:ak w2 base k (bs++four n):=by
  unfold ak;rw[jL,aZ];exact i
 have r:=jq f;have o:=jq (sj m.out g);clear i g f
 go_wp2_with fail
 go_ret
 exact⟨k,rfl,r.out,o.out⟩
theorem iN(file place:Nat)(hf:file<4294967296)(hp:place<4294967296)(a:Option Addr)(cp:Nat)(b:List UInt8)(w:World)(h:Lies w a (b.map bv))(hm:b.length<=112):
  Calls prog 146 #[.int .u32 (file:Int),.int .u32 (place:Int),.slice a b.length cp] w λe w'=>∃v,e=.returned (.tuple #[v,.int .i64 0])/\ak w' w.heap.size v (dh file place b)/\Below w.heap.size w w':=by
 obtain⟨i0,h1,h3,h4,h5⟩:=info_parts jX;obtain⟨n,y⟩:=jl b.length;have h2:n<=112:=by omega
 have W:ak w w.heap.size (.slice none 0 0) []:=World.ownsRow_nil w w.heap.size 5 1;have B:=jq (BU file hf _ _ w W jn (by simp));have Z:=jq h;have c:=jq y;rw[<-y];clear h y hm W
 go_enter func146,ntmps146
 go_wp2_with fail
 refine B.out.mono ?_;rintro e w1 ⟨v1,rfl,r,Q⟩;have o:Below w.heap.size w w1:=(Below.refl _ w).grown Q jn (λk hk=>by cases hk);have C:=jq (BU place hp _ _ w1 r o.size (by simp[jc]));have G:=jq r;have l:=jq o;clear r Q o B
 go_wp2_with fail
 refine C.out.mono ?_;rintro e w2 ⟨v2,rfl,s,R⟩;have p:Below w.heap.size w w2:=l.out.grown R l.out.size (λq hq=>(G.out.lt q hq).1);have D:=jq (BU n (by omega) _ _ w2 s p.size (by simp[jc]));have H:=jq s;have m:=jq p;clear s R p C
 go_wp2_with fail
 refine D.out.mono ?_;rintro e w3 ⟨v3,rfl,t,S⟩;have d:Below w.heap.size w w3:=m.out.grown S m.out.size (λq hq=>(H.out.lt q hq).1);obtain⟨v4,w4,j,g,T⟩:=lQ w3 84 v3 _ t a cp b (Z.out.later d) (by have:=c.out;simp[jc];omega) d.size;have f:Below w.heap.size w w4:=d.grown T d.size (λq hq=>(t.lt q hq).1);rw[<-c.out]at j;obtain⟨g4,c4,e4,_,_,_⟩:=mI g (by simp only[jL,jc];omega);subst e4;obtain⟨A,i⟩:=jl ((List.length ([]++four file++four place++four n++b)));have V:A=12+n:=by rw[i];simp[jc,<-c.out];omega
 obtain⟨v5,w5,z,O,U⟩:=Cm w4 3 84 underlying3 g4 c4 A (([]++four file++four place++four n++b).map bv) (by rw[i];exact g) (112-n) (by omega) f.size;have L:Below w.heap.size w w5:=f.grown U f.size (λq hq=>by cases hq;exact(g.lt _ rfl).1)
 have u:ak w5 w.heap.size v5 (four file++(four place++(four n++(b++List.replicate (112-n) 0)))):=by
  unfold ak
  have e1: (four file++(four place++(four n++(b++List.replicate (112-n) 0)))).length=A+(112-n):=by
   rw[V]
   simp[jc,<-c.out]
   omega
  have e2: (four file++(four place++(four n++(b++List.replicate (112-n) 0)))).map bv=([]++four file++four place++four n++b).map bv++List.replicate (112-n) (Value.int .u8 0):=by
   simp[bv]
  rw[e1,e2];exact O
 rw[<-i]at j;have I: ((112-n:Nat):Int)=112-(n:Int):=by omega
 rw[I]at z;clear I V;clear t S g T O U i D m H l G;have HP:=jq u;have E:=jq L;obtain⟨a5,c5,J,_,N,_,_⟩:=own_shape u;have x:=yu a5 c5 _ w5 N (by simp[jc];have:=c.out;omega);rw[<-J]at x;have F:=jq x;clear J N x;clear u L f d
 go_wp2_with (first|(at_builtin;refine Lib.wpList_append_run _ rfl _ _ _ _ rfl _ _ rfl rfl _ _ j ?_)|(at_builtin;refine Lib.wpList_append_run _ rfl _ _ _ _ rfl _ _ rfl rfl _ _ z ?_))
 refine F.out.mono ?_;rintro e w6 ⟨v6,rfl,P,M⟩;have X:=E.out.size;have h0:=jq (bH P X);have Y:=jq (E.out.trans (M.mono X));clear P M F j z
 go_wp2_with fail
 go_ret2
 refine⟨v6,rfl,?_,Y.out⟩;have:=h0.out;unfold dh;rw[<-c.out];exact this
def kW(blk:List UInt8):Nat:=min (blk.getD 8 0).toNat 112
def dX(blk:List UInt8):List UInt8:=(blk.drop 12).take (kW blk)
def jw(blk:List UInt8)(file place:Nat):Int:=if dh file place (dX blk)=blk then 0 else 5
theorem zL{blk:List UInt8}(h:blk.length=128): (dX blk).length=kW blk:=by
 unfold dX kW;rw[jT,List.length_drop,h]
 omega
theorem tL(file place:Nat)(hf:file<4294967296)(hp:place<4294967296)(a:Option Addr)(cp:Nat)(blk:List UInt8)(w:World)(h:Lies w a (blk.map bv))(E:blk.length=128)(h6:128<=cp):
  Calls prog 176 #[.slice a 128 cp,.int .u32 (file:Int),.int .u32 (place:Int)] w λe w'=>∃v,e=.returned (.tuple #[v,.int .i64 (jw blk file place)])/\ak w' w.heap.size v (if jw blk file place=0 then dX blk else [])/\Below w.heap.size w w':=by
 obtain⟨pe,H⟩:=jl (jw blk file place);obtain⟨pb,G⟩:=jl ((if jw blk file place=0 then dX blk else []))
 have X:Hid ((dh file place (dX blk)==blk)=true/\pe=0/\pb=dX blk\/(dh file place (dX blk)==blk)=false/\pe=5/\pb= []):=by
  refine jq ?_
  by_cases D:dh file place (dX blk)=blk
  ·have g:jw blk file place=0:=by unfold jw;rw[if_pos D]
   exact .inl ⟨by simpa using D,by rw[H,g],by rw[G,g,if_pos rfl]⟩
  ·have g:jw blk file place=5:=by unfold jw;rw[if_neg D]
   exact .inr ⟨by simpa using D,by rw[H,g],by rw[G,g,if_neg (by decide)]⟩
 rw[<-G,<-H];clear H G;obtain⟨o,p,rfl,h0,hc⟩:=h.resolve_left (λe=>by have:=congrArg List.length e;rw[jP,E]at this;cases this);obtain⟨b8,O⟩:∃b8,blk[8]? =some b8:=⟨blk[8]'(by omega),jg _⟩;have c8:=hc 8 (bv b8) (lI O);obtain⟨n,F⟩:=jl (kW blk);have h4:n=min b8.toNat 112:=by rw[F];unfold kW;rw[List.getD_eq_getElem?_getD,O];rfl
 obtain⟨x,S⟩:∃x:Nat,x=b8.toNat:=⟨_,rfl⟩;have x1:x<=255:=by rw[S];have:=b8.toNat_lt;omega
 have h3:min (x:Int) 112=(n:Int):=by omega
 have h8:n<=112:=by omega
 have Y:Lies w (some ⟨o,p+12,none⟩) ((dX blk).map bv):=by
  have g:=(Lies.drop (.inr ⟨o,p,rfl,h0,hc⟩:Lies w (some ⟨o,p,none⟩) (blk.map bv)) 12).take n;unfold dX;rw[<-F,fA,jV];exact g
 have Q: (dX blk).length=n:=by rw[zL E,F]
 have P:=lS (some ⟨o,p+12,none⟩) (cp-12) (dX blk) w Y (by omega);rw[Q]at P;have Z:bv b8=.int .u8 (b8.toNat:Int):=rfl;rw[Z,<-S]at c8;have h7:¬cp=12:=by omega
 have h9: (12:Int)+n<=cp:=by omega
 have T:112<x/\n=112\/x<=112/\n=x:=by omega
 have h5: ((12:Int)+(n:Int)).toNat-12=n:=by omega
 have C:=jq P;have m:=jq Q;have V:=jq h;have W:=jq E;clear P Q Y hc h F h4 O Z E S h3;rcases T with⟨T,R⟩|⟨T,R⟩
 ·subst R;have h2: (112:Int) <(x:Int):=by omega
  go_enter func176,ntmps176
  go_wp2_with fail
  refine C.out.mono ?_;rintro e w1 ⟨U,rfl,k,y⟩;obtain⟨M,c1,f,_,z,_,_⟩:=own_shape k;have c:=iN file place hf hp M c1 (dX blk) w1 z (by rw[m.out];omega);rw[m.out]at f c;rw[<-f]at c;have t:=jq c;have I:=jq k;have q:=jq y;clear c k y z f C
  go_wp2_with fail
  refine t.out.mono ?_;rintro e w2 ⟨v2,rfl,B,i⟩;obtain⟨N,c2,u,_,A,_,_⟩:=own_shape B;have j:=q.out.trans (i.mono q.out.size);have heq:=BD N (some ⟨o,p,none⟩) c2 cp (dh file place (dX blk)) blk w2 A (V.out.later j) (by rw[pq (by rw[m.out];omega)];decide);rw[W.out]at heq;rw[<-u]at heq;have d:=jq heq;have r:=jq j;have J:=jq (own_later I.out i);clear heq B i A u j t
  go_wp2_with fail
  refine d.out.mono ?_;rintro e w3 ⟨rfl,m3,l⟩;have b:Below w2.heap.size w2 w3:=by rw[l];exact⟨rfl,rfl,rfl,aj _,λ_ _=>rfl⟩
  have s:=jq (r.out.trans (b.mono r.out.size));have L:=jq (own_later J.out b);rcases X.out with⟨hq,rfl,rfl⟩|⟨hq,rfl,rfl⟩
  ·rw[hq];clear l b d hq
   go_wp2_with fail
   go_ret2
   exact⟨U,rfl,L.out,s.out⟩
  ·rw[hq];clear l b d hq
   go_wp2_with fail
   go_ret2
   exact⟨_,rfl,World.ownsRow_nil _ _ _ _,s.out⟩
 ·subst R;have h2:¬(112:Int) <(n:Int):=by omega
  have x0:RowKit.wrap64 (12+(n:Int))=12+(n:Int):=IntWalk.wrap64_in _ (by omega)
  go_enter func176,ntmps176
  go_wp2_with fail
  refine C.out.mono ?_;rintro e w1 ⟨U,rfl,k,y⟩;obtain⟨M,c1,f,_,z,_,_⟩:=own_shape k;have c:=iN file place hf hp M c1 (dX blk) w1 z (by rw[m.out];omega);rw[m.out]at f c;rw[<-f]at c;have t:=jq c;have I:=jq k;have q:=jq y;clear c k y z f C
  go_wp2_with fail
  refine t.out.mono ?_;rintro e w2 ⟨v2,rfl,B,i⟩;obtain⟨N,c2,u,_,A,_,_⟩:=own_shape B;have j:=q.out.trans (i.mono q.out.size);have heq:=BD N (some ⟨o,p,none⟩) c2 cp (dh file place (dX blk)) blk w2 A (V.out.later j) (by rw[pq (by rw[m.out];omega)];decide);rw[W.out]at heq;rw[<-u]at heq;have d:=jq heq;have r:=jq j;have J:=jq (own_later I.out i);clear heq B i A u j t
  go_wp2_with fail
  refine d.out.mono ?_;rintro e w3 ⟨rfl,m3,l⟩;have b:Below w2.heap.size w2 w3:=by rw[l];exact⟨rfl,rfl,rfl,aj _,λ_ _=>rfl⟩
  have s:=jq (r.out.trans (b.mono r.out.size));have L:=jq (own_later J.out b);rcases X.out with⟨hq,rfl,rfl⟩|⟨hq,rfl,rfl⟩
  ·rw[hq];clear l b d hq
   go_wp2_with fail
   go_ret2
   exact⟨U,rfl,L.out,s.out⟩
  ·rw[hq];clear l b d hq
   go_wp2_with fail
   go_ret2
   exact⟨_,rfl,World.ownsRow_nil _ _ _ _,s.out⟩
end kP
end Go.Proofs.YtndkohocgfmamaaGreatDoor
