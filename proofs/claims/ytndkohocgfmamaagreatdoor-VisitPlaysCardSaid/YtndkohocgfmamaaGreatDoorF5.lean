/- Part. -/
import Derived.Test.YtndkohocgfmamaaGreatDoorF3
import Derived.Test.YtndkohocgfmamaaGreatDoorF4
import Derived.WalkSpells
set_option maxHeartbeats 4000000
set_option maxRecDepth 100000
namespace Go.Proofs.YtndkohocgfmamaaGreatDoor
open Go.Proofs.Tryz
namespace Crc
open Go.RowKit Go.Deep Mem
abbrev ak(w:World)(base:Nat)(v:Value)(bs:List UInt8):Prop:=w.ownsRow base 5 1 v bs.length (bs.map bv)
variable {w:World}
theorem Ad{xs:List Value}(h:Lies w none xs):xs= []:=by
 rcases h with h|⟨g,off,e,_⟩
 ·exact h
 ·cases e
theorem lS(a:Option Addr)(cp:Nat)(bs:List UInt8)(w:World)(h:Lies w a (bs.map bv))(u:bs.length<=4000000000):
  Calls prog 64 #[.slice a bs.length cp] w λe w'=>∃v,e=.returned v/\ak w' w.heap.size v bs/\Below w.heap.size w w':=by
 cases a with
 |none=>
  have hb:bs= []:=by simpa using Ad h
  subst hb;have x:=λw=>Lib.run_eql_slice_nil (P:=prog) w 84 5 none 0 cp 0 0 underlying84
  clear h u
  go_enter func64,ntmps64
  go_wp2_with fail
  go_ret
  exact⟨_,rfl,World.ownsRow_nil _ _ _ _,Below.refl _ _⟩
 |some f=>
  obtain⟨C,t,z,A,B⟩:=info_parts jX;have x:=λw=>Lib.run_eql_slice_nil (P:=prog) w 84 5 (some f) bs.length cp 0 0 underlying84
  have d:=(Below.refl w.heap.size w).alloc jn (.cells #[] 5);have i:=fT w 5 1;have p:=jq (dQ (h.later d));have n:=jq (kN bs);have o:=jq d;clear h d
  go_enter func64,ntmps64
  go_wp2_with (first|(at_builtin;refine wpList_append_own _ rfl _ _ 84 rfl w.heap.size 5 C (.int .u8 0) 1 1 underlying84 t z A B rfl (by decide) _ _ _ rfl i f bs.length cp (bs.map bv) rfl ?c1 p.out n.out ?c3 ?c4 ?c5 ?_))
  case c1=>simp
  case c3=>unfold maxLen;omega
  case c4=>omega
  case c5=>simp
  intro m w1 j g y;have s:Below w.heap.size w w1:=o.out.grown g (by simp) (λq hq=>(i.lt q hq).1);have r:=jq (show ak w1 w.heap.size m bs by simpa using j);clear j g y
  go_wp2_with fail
  go_ret
  exact⟨m,rfl,r.out,s⟩
theorem BD(a b:Option Addr)(I J:Nat)(bs d:List UInt8)(w:World)(m:Lies w a (bs.map bv))(o:Lies w b (d.map bv))(Q:bs.length<=4000000000):
  Calls prog 179 #[.slice a bs.length I,.slice b d.length J] w λe w'=>e=.returned (.bool (bs==d))/\∃n,w'=w.drewN n:=by
 by_cases f:bs.length=d.length
 ·have hc:∀n,n<bs.length->∃g s j t x y,a=some ⟨g,s,none⟩/\b=some ⟨j,t,none⟩/\bs[n]? =some x/\d[n]? =some y/\w.cell? ⟨g,s+n,none⟩=some (bv x)/\w.cell? ⟨j,t+n,none⟩=some (bv y):=λn p=>by
   rcases m with m|⟨g,s,L,_,N⟩
   ·exact absurd p (by have:bs= []:=(by simpa using m);subst this;exact je _)
   ·rcases o with o|⟨j,t,M,_,O⟩
    ·exact absurd p (by have:d= []:=(by simpa using o);subst this;rw[f];exact je _)
    ·exact⟨g,s,j,t,bs[n],d[n],L,M,jg p,jg (by omega),N n _ (lI (jg p)),O n _ (lI (jg (by omega)))⟩
  have z:=jq hc;have G:=jq f;clear hc m o;rw[<-f];clear f
  go_enter func179,ntmps179
  go_wp2_with fail
  go_loopw[13] (λi wr=>∃n:Nat,n<=bs.length/\i=.int .i64 n/\Hid (bs.take n=d.take n)/\∃q,wr=w.drewN q) (λi _=>bs.length-(intOf i).toNat)
  case atStart=>exact⟨0,aC _,rfl,jq rfl,0,rfl⟩
  case round=>
   obtain⟨n,p,rfl,B,q,rfl⟩:=hrel
   by_cases hlt:n<bs.length
   ·obtain⟨g,s,j,t,x,y,rfl,rfl,C,D,c1,c2⟩:=z.out n hlt;unfold bv at c1 c2;have T: (0:Int)<=(n:Int):=by omega
    have U: (n:Int) <(bs.length:Int):=by omega
    have A:=jq C;have u:=jq D;clear z C D
    by_cases v:x=y
    ·subst v
     go_wp2_with fail
     go_quiet (fail)
     go_wp2_with fail
     refine⟨⟨n+1,by omega,by simp,jq (by rw[bF,bF,A.out,u.out,B.out]),⟨_,rfl⟩⟩,?_⟩
     simp[intOf];omega
    ·have P: ((x.toNat:Int)==(y.toNat:Int))=false:=by
      simp
      intro e;exact v (UInt8.toNat_inj.1 (by omega))
     have r: (bs==d)=false:=by
      simp
      intro e;subst e;exact v (Option.some.inj (A.out.symm.trans u.out))
     have H:=jq r;clear r
     go_wp2_with fail
     go_quiet (fail)
     go_wp2_with fail
     go_ret
     exact⟨by rw[H.out];rfl,q+nq,by rw[World.drewN_drewN]⟩
   ·have e:n=bs.length:=by omega
    have E: (bs==d)=true:=by
     have h:=B.out;rw[e,jW jn,G.out,jW jn]at h
     simp[h]
    have u:=jq E;clear E e
    go_wp2_with fail
    go_ret
    exact⟨by rw[u.out];rfl,q,rfl⟩
 ·have R:decide (bs.length=d.length)=false:=by simpa using f
  have S: ((bs.length:Int)==(d.length:Int))=false:=by simp;omega
  have r: (bs==d)=false:=by
   simp
   intro e;exact f (by rw[e])
  rw[r];clear m o f r
  go_enter func179,ntmps179
  go_wp2_with fail
  go_ret
  exact⟨rfl,0,rfl⟩
def four(n:Nat):List UInt8:=[UInt8.ofNat n,UInt8.ofNat (n/256),UInt8.ofNat (n/65536),UInt8.ofNat (n/16777216)]
theorem jc(n:Nat): (four n).length=4:=rfl
def marked(bs:List UInt8):List UInt8:=bs++four (ko bs)
theorem gG(bs:List UInt8): (marked bs).length=bs.length+4:=by unfold marked;rw[jL,jc]
theorem BF(n:Nat):Value.int .u8 ((n%256:Nat):Int)=bv (UInt8.ofNat n):=by unfold bv;simp
theorem jo{y:Int}{n:Nat}(h:y=((n%256:Nat):Int)):Value.int .u8 y=bv (UInt8.ofNat n):=by rw[h,BF]
theorem one_at{t:TypeId}{u v:Value}(h:u=v):∀j x,[v][j]? =some x->(w.alloc (.cells #[u] t)).cell? ((⟨w.heap.size,0,none⟩:Addr).add j)=some x:=λj x a=>by
 subst h
 match j,a with
 |0,a=>
  have e:u=x:=by simpa using a
  subst e;exact(Blk.new w t #[u]).cell 0
theorem one_cell(b:UInt8):∀u∈[bv b],u.oneCell'=true:=λu a=>by simp at a;subst a;rfl
theorem yu(a:Option Addr)(cp:Nat)(bs:List UInt8)(w:World)(h:Lies w a (bs.map bv))(hm:bs.length<=3000000):
  Calls prog 164 #[.slice a bs.length cp] w λe w'=>∃v,e=.returned v/\ak w' w.heap.size v (marked bs)/\Below w.heap.size w w':=by
 obtain⟨G,A,C,D,E⟩:=info_parts jX;have J:=jq (lS a cp bs w h (by omega));have V:=jq h;clear h
 go_enter func164,ntmps164
 go_wp2_with fail
 refine J.out.mono ?_;rintro e w1 ⟨v,rfl,u,t⟩;have z:=(Below.refl w1.heap.size w1).alloc jn (.cells #[.slice a bs.length cp] 84);have N:=(V.out.later t).later z;have O:=rD (some ⟨w1.heap.size,0,none⟩) a 1 cp bs (w1.alloc (.cells #[.slice a bs.length cp] 84)) N (jG w1 _ _) (by omega);have M:=jq O;have L:=jq (own_later u z);have I:=jq (t.trans (z.mono t.size));have h0:=t.size;clear z N O u t
 go_wp2_with fail
 refine M.out.mono ?_;rintro e w2 ⟨rfl,H⟩;have X:=jq (own_later L.out H);have T:=jq (I.out.trans (H.mono (by simp;omega)));obtain⟨x,B⟩:=jl (ko bs);have h1:x<2^32:=by rw[B];exact Ry bs
 have W:=jq (show marked bs=bs++four x by rw[B];rfl);rw[<-B];clear H M L I J B
 go_wp2_with fail
 go_loopw[3,5] (λo i wr=>∃k:Nat,k<=4/\i=.int .i64 k/\Hid (ak wr w.heap.size o (bs++(four x).take k))/\Hid (Below w.heap.size w wr)) (λ_ i _=>4-(intOf i).toNat)
 case atStart=>exact⟨0,by omega,rfl,jq (by simpa using X.out),T⟩
 case round=>
  obtain⟨k,Z,rfl,u,s⟩:=hrel;have y:=s.out.size;have g:=u.out;have hl: (bs++(four x).take k).length=bs.length+k:=by rw[jL,jT,jc];omega
  by_cases Y:k<4
  ·rcases(show k=0\/k=1\/k=2\/k=3 by omega)with rfl|rfl|rfl|rfl
   ·have P:=jq (show Value.int .u8 ((x:Int)%256)=bv (UInt8.ofNat x)from jo (by omega))
    go_wp2_with (first|(at_builtin;refine wpList_append_own _ rfl _ _ 84 rfl w.heap.size 5 G (.int .u8 0) 1 1 underlying84 A C D E rfl (by decide) _ _ _ rfl (g.alloc _) ⟨wr.heap.size,0,none⟩ 1 1 [bv (UInt8.ofNat x)] rfl rfl (one_at P.out) (one_cell _) ?c03 ?BG ?BH ?_))
    case c03=>rw[hl];unfold maxLen;omega
    case BG=>rw[hl];omega
    case BH=>simp;omega
    intro r w3 m j _;have d:Below w.heap.size w w3:=(s.out.alloc y _).grown j (by simp;omega) (λq hq=>(g.lt q hq).1)
    have f:ak w3 w.heap.size r (bs++(four x).take 1):=by
     have e:bs++(four x).take 1=(bs++(four x).take 0)++ [UInt8.ofNat x]:=by rw[List.append_assoc];rfl
     rw[e];unfold ak;rw[aZ,jL];exact(show w3.ownsRow _ _ _ _ _ _ by simpa[jc]using m)
    have n:=jq d;have p:=jq f;clear m j d f
    go_wp2_with fail
    go_roundw
    case rel=>exact⟨1,by omega,rfl,p,n⟩
    case measure=>simp[intOf]
   ·have Q:=jq (show Value.int .u8 ((x:Int)/256%256)=bv (UInt8.ofNat (x/256))from jo (by omega))
    go_wp2_with (first|(at_builtin;refine wpList_append_own _ rfl _ _ 84 rfl w.heap.size 5 G (.int .u8 0) 1 1 underlying84 A C D E rfl (by decide) _ _ _ rfl (g.alloc _) ⟨wr.heap.size,0,none⟩ 1 1 [bv (UInt8.ofNat (x/256))] rfl rfl (one_at Q.out) (one_cell _) ?c13 ?c14 ?c15 ?_))
    case c13=>rw[hl];unfold maxLen;omega
    case c14=>rw[hl];omega
    case c15=>simp;omega
    intro r w3 m j _;have d:Below w.heap.size w w3:=(s.out.alloc y _).grown j (by simp;omega) (λq hq=>(g.lt q hq).1)
    have f:ak w3 w.heap.size r (bs++(four x).take 2):=by
     have e:bs++(four x).take 2=(bs++(four x).take 1)++ [UInt8.ofNat (x/256)]:=by rw[List.append_assoc];rfl
     rw[e];unfold ak;rw[aZ,jL];exact(show w3.ownsRow _ _ _ _ _ _ by simpa[jc]using m)
    have n:=jq d;have p:=jq f;clear m j d f
    go_wp2_with fail
    go_roundw
    case rel=>exact⟨2,by omega,rfl,p,n⟩
    case measure=>simp[intOf]
   ·have R:=jq (show Value.int .u8 ((x:Int)/65536%256)=bv (UInt8.ofNat (x/65536))from jo (by omega))
    go_wp2_with (first|(at_builtin;refine wpList_append_own _ rfl _ _ 84 rfl w.heap.size 5 G (.int .u8 0) 1 1 underlying84 A C D E rfl (by decide) _ _ _ rfl (g.alloc _) ⟨wr.heap.size,0,none⟩ 1 1 [bv (UInt8.ofNat (x/65536))] rfl rfl (one_at R.out) (one_cell _) ?c23 ?c24 ?BI ?_))
    case c23=>rw[hl];unfold maxLen;omega
    case c24=>rw[hl];omega
    case BI=>simp;omega
    intro r w3 m j _;have d:Below w.heap.size w w3:=(s.out.alloc y _).grown j (by simp;omega) (λq hq=>(g.lt q hq).1)
    have f:ak w3 w.heap.size r (bs++(four x).take 3):=by
     have e:bs++(four x).take 3=(bs++(four x).take 2)++ [UInt8.ofNat (x/65536)]:=by rw[List.append_assoc];rfl
     rw[e];unfold ak;rw[aZ,jL];exact(show w3.ownsRow _ _ _ _ _ _ by simpa[jc]using m)
    have n:=jq d;have p:=jq f;clear m j d f
    go_wp2_with fail
    go_roundw
    case rel=>exact⟨3,by omega,rfl,p,n⟩
    case measure=>simp[intOf]
   ·have S:=jq (show Value.int .u8 ((x:Int)/16777216)=bv (UInt8.ofNat (x/16777216))from jo (by omega))
    go_wp2_with (first|(at_builtin;refine wpList_append_own _ rfl _ _ 84 rfl w.heap.size 5 G (.int .u8 0) 1 1 underlying84 A C D E rfl (by decide) _ _ _ rfl (g.alloc _) ⟨wr.heap.size,0,none⟩ 1 1 [bv (UInt8.ofNat (x/16777216))] rfl rfl (one_at S.out) (one_cell _) ?BJ ?c34 ?BK ?_))
    case BJ=>rw[hl];unfold maxLen;omega
    case c34=>rw[hl];omega
    case BK=>simp;omega
    intro r w3 m j _;have d:Below w.heap.size w w3:=(s.out.alloc y _).grown j (by simp;omega) (λq hq=>(g.lt q hq).1)
    have f:ak w3 w.heap.size r (bs++(four x).take 4):=by
     have e:bs++(four x).take 4=(bs++(four x).take 3)++ [UInt8.ofNat (x/16777216)]:=by rw[List.append_assoc];rfl
     rw[e];unfold ak;rw[aZ,jL];exact(show w3.ownsRow _ _ _ _ _ _ by simpa[jc]using m)
    have n:=jq d;have p:=jq f;clear m j d f
    go_wp2_with fail
    go_roundw
    case rel=>exact⟨4,by omega,rfl,p,n⟩
    case measure=>simp[intOf]
  ·obtain rfl:k=4:=by omega
   rw[jW (by rw[jc];exact aj _),<-W.out]at g;have U:=jq g;clear g u
   go_wp2_with fail
   go_ret
   exact⟨_,rfl,U.out,s.out⟩
def aB(bs:List UInt8):List UInt8:=bs.take (bs.length-4)
def gQ(bs:List UInt8):List UInt8:=if 4<=bs.length/\marked (aB bs)=bs then aB bs else []
def fZ(bs:List UInt8):Int:=if bs.length<4 then 2 else if marked (aB bs)=bs then 0 else 5
theorem uf(bs:List UInt8): (aB bs).length=bs.length-4:=by unfold aB;rw[jT];omega
theorem uq(bs:List UInt8):aB (marked bs)=bs:=by
 unfold aB;rw[gG,Nat.add_sub_cancel];unfold marked;rw[rT jn,jW jn]
theorem wT(bs:List UInt8):gQ (marked bs)=bs/\fZ (marked bs)=0:=by
 unfold gQ fZ;rw[uq,gG];exact⟨by rw[if_pos ⟨by omega,rfl⟩],by rw[if_neg (by omega),if_pos rfl]⟩
theorem JC(a:Option Addr)(cp:Nat)(bs:List UInt8)(w:World)(h:Lies w a (bs.map bv))(Z:bs.length<=cp)(hm:bs.length<=3000000):
  Calls prog 158 #[.slice a bs.length cp] w λe w'=>∃v,e=.returned (.tuple #[v,.int .i64 (fZ bs)])/\ak w' w.heap.size v (gQ bs)/\Below w.heap.size w w':=by
 by_cases p:bs.length<4
 ·have f:fZ bs=2:=if_pos p;have o:gQ bs= []:=if_neg (by omega);rw[f,o];clear h f o
  go_enter func158,ntmps158
  go_wp2_with fail
  go_ret2
  exact⟨_,rfl,World.ownsRow_nil _ _ _ _,Below.refl _ _⟩
 ·obtain⟨g,off,rfl,J,hc⟩:=h.resolve_left (λe=>by
   rw[dM]at e;subst e;exact p (by decide))
  have y:Lies w (some ⟨g,off,none⟩) (bs.map bv):=.inr ⟨g,off,rfl,J,hc⟩;have I:Lies w (some ⟨g,off,none⟩) ((aB bs).map bv):=by unfold aB;rw[fA];exact y.take _
  obtain⟨m,N⟩:∃m,bs.length=m+4:=⟨bs.length-4,by omega⟩;have B: (aB bs).length=m:=by rw[uf];omega
  have z:=lS (some ⟨g,off,none⟩) cp (aB bs) w I (by omega);rw[B]at z;have R:=jq z;have S:=jq y;have u:=jq B;have H:=jq N;have hw:IntKind.i64.wrap ((m:Int)+4-4)=m:=by rw[show(m:Int)+4-4=m by omega];exact IntWalk.i64_in _ (by omega)
  have h0:m<=cp:=by omega
  have f:fZ bs=if marked (aB bs)=bs then 0 else 5:=if_neg p
  have D:=jq f;rw[N];clear hc J y I B z f p
  go_enter func158,ntmps158
  go_wp2_with fail
  refine R.out.mono ?_;rintro e w1 ⟨v,rfl,P,x⟩;have C:ak w1 w.heap.size v (aB bs):=P;obtain⟨W,c1,f,_,L,_,_⟩:=own_shape C;subst f;have O:=yu W c1 (aB bs) w1 L (by rw[u.out];omega);have T:=jq O;have V:=jq C;have E:=jq x;have Y:=x.size;clear P C L O x
  go_wp2_with fail
  refine T.out.mono ?_;rintro e w2 ⟨v2,rfl,Q,n⟩;obtain⟨X,c2,o,_,M,_,_⟩:=own_shape Q;subst o;have h1:=n.size;have heq:=BD X (some ⟨g,off,none⟩) c2 cp (marked (aB bs)) bs w2 M ((S.out.later E.out).later n) (by rw[gG,u.out];omega);have A: (marked (aB bs)).length=m+4:=by rw[gG,u.out]
  rw[A,H.out]at heq;rw[A];have t:=jq heq;have G:=jq (E.out.trans (n.mono Y));have U:=jq (own_later V.out n);clear M heq n Q A
  go_wp2_with fail
  refine t.out.mono ?_;rintro e w3 ⟨rfl,q,rfl⟩
  by_cases d:marked (aB bs)=bs
  ·have hb: (marked (aB bs)==bs)=true:=by simpa using d
   have i:fZ bs=0:=by rw[D.out,if_pos d]
   have j:gQ bs=aB bs:=if_pos ⟨by rw[H.out];omega,d⟩;rw[hb];have r:=jq i;have s:=jq j;clear d hb i j t
   go_wp2_with fail
   go_ret2
   refine⟨_,by rw[r.out];rfl,?_,below_drewN G.out q⟩;rw[s.out];exact U.out
  ·have hb: (marked (aB bs)==bs)=false:=by simpa using d
   have i:fZ bs=5:=by rw[D.out,if_neg d]
   have j:gQ bs= []:=if_neg (λh=>d h.2);rw[hb];have r:=jq i;have s:=jq j;clear d hb i j t
   go_wp2_with fail
   go_ret2
   refine⟨_,by rw[r.out];rfl,?_,below_drewN G.out q⟩;rw[s.out];exact World.ownsRow_nil _ _ _ _
end Crc
namespace Frame
open Go.RowKit Go.Deep Mem Crc
def head(kind:UInt8)(n:Nat):List UInt8:=[kind,UInt8.ofNat n,UInt8.ofNat (n/256),UInt8.ofNat (n/65536),UInt8.ofNat (n/16777216)]
def bq(kind:UInt8)(body:List UInt8):List UInt8:=marked (head kind body.length)++marked body
theorem jY(kind:UInt8)(body:List UInt8): (bq kind body).length=body.length+13:=by
 unfold bq;rw[jL,gG,gG]
 simp[head]
 omega
variable {w:World}{bs:List UInt8}
theorem mI{base:Nat}{v:Value}(h:ak w base v bs)(a:0<bs.length):∃g cap,v=.slice (some ⟨g,0,none⟩) bs.length cap/\bs.length<=cap/\base<=g/\g<w.heap.size:=by
 rcases h.2 with⟨_,e⟩|⟨g,cap,cur,e,r⟩
 ·omega
 ·subst e;exact⟨g,cap,rfl,r.2.2.1,World.ownsRow.lt h g rfl⟩
theorem sF(kind:UInt8)(a:Option Addr)(cp:Nat)(body:List UInt8)(w:World)(h:Lies w a (body.map bv))(hm:body.length<=1048576):
  Calls prog 126 #[.slice none 0 0,.agg #[.int .u8 (kind.toNat:Int),.slice a body.length cp]] w λe w'=>∃v,e=.returned (.tuple #[v,.int .i64 0])/\ak w' w.heap.size v (bq kind body)/\Below w.heap.size w w':=by
 obtain⟨i0,U,h2,h3,h4⟩:=info_parts jX;have d:=(Below.refl w.heap.size w).alloc jn (.cells #[.int .u8 (kind.toNat:Int),.slice a body.length cp] 136);have m:=Blk.new w 136 #[.int .u8 (kind.toNat:Int),.slice a body.length cp];obtain⟨n,o⟩:=jl body.length;obtain⟨W,x⟩:=jl (w.alloc (.cells #[.int .u8 (kind.toNat:Int),.slice a body.length cp] 136));rw[<-x]at d m;rw[<-o]at m;have T:=d.alloc (by have:=d.size;exact this) (.cells ((head kind n).map bv).toArray 5);have B:=yu (some ⟨W.heap.size,0,none⟩) 5 (head kind n) (W.alloc (.cells ((head kind n).map bv).toArray 5)) (by have:=jG W 5 ((head kind n).map bv).toArray;simpa using this) (by simp[head]);have Q:W.heap.size=w.heap.size+1:=by rw[x];simp
 rw[Q,show(head kind n).length=5 from rfl]at B;have M:=jq B;have HL:=jq h;have h5:=jq d;have L:=jq T;have I:=jq (m.alloc (.cells ((head kind n).map bv).toArray 5));have g:=jq x;have f:=jq o;have z1:=d.size;have y6:n<=1048576:=by omega
 have y7:decide ((1048576:Int) <(n:Int))=false:=by simp;omega
 have E:=jq (show(#[.int .u8 (kind.toNat:Int),.int .u8 ((n:Int)%256),.int .u8 ((n:Int)/256%256),.int .u8 ((n:Int)/65536),.int .u8 ((n:Int)/16777216)]:Array Value)=((head kind n).map bv).toArray by
  rw[jo (y:=(n:Int)%256) (n:=n) (by omega),jo (y:=(n:Int)/256%256) (n:=n/256) (by omega),jo (y:=(n:Int)/65536) (n:=n/65536) (by omega),jo (y:=(n:Int)/16777216) (n:=n/16777216) (by omega)]
  rfl)
 rw[<-o]at g⊢;clear h d T B m o hm Q
 go_enter func126,ntmps126
 go_wp2_with fail
 rw[E.out,<-g.out];refine M.out.mono ?_;rintro e w1 ⟨v1,rfl,G,i⟩;obtain⟨g1,c1,e1,y0,_,y2⟩:=mI G (by rw[gG];omega);subst e1;have y9:=i.size;have y8:w.heap.size+2<=(W.alloc (.cells ((head kind n).map bv).toArray 5)).heap.size:=by rw[g.out];simp
 have t:Below w.heap.size w w1:=L.out.trans (i.mono (by omega));obtain⟨a1,x8,x4,_,V,_,_⟩:=own_shape G;cases x4;have D: (marked (head kind n)).length=9:=by rw[gG];rfl
 rw[D];have h8:=jq (dQ V);have H1:=jq (kN (marked (head kind n)));have z:=I.out.below i I.out.lt;have x1:=z.cell 1
 simp at x1
 have r:=jq D;have h7:=jq t;have J:=jq z;have Y:=World.ownsRow_nil w1 w.heap.size 5 1;have h1:=t.size;clear G V D z t i M L h5 E g
 go_wp2_with (first|(at_builtin;refine wpList_append_own _ rfl _ _ 84 rfl w.heap.size 5 i0 (.int .u8 0) 1 1 underlying84 U h2 h3 h4 rfl (by decide) _ _ _ rfl Y ⟨g1,0,none⟩ 9 c1 ((marked (head kind n)).map bv) rfl ?c1 h8.out H1.out ?c3 ?c4 ?c5 ?_))
 case c1=>rw[jP,r.out]
 case c3=>decide
 case c4=>decide
 case c5=>exact h1
 intro v2 w2 Z R _;have s:Below w1.heap.size w1 w2:=(Below.refl _ w1).grown R jn (λk hk=>by cases hk);have A:=J.out.below s J.out.lt;have x2:=A.cell 1
 simp at x2
 have p:=jq (h7.out.trans (s.mono h1));have O:ak w2 w.heap.size v2 (marked (head kind n)):=by unfold ak;rw[r.out];exact Z
 have C:=yu a cp body w2 (HL.out.later p.out) (by have:=f.out;omega);rw[<-f.out]at C;have N:=jq C;have x0:=jq O;have x7:=p.out.size;have y5:=A.lt;clear Z R A s O C x1 Y
 go_wp2_with fail
 refine N.out.mono ?_;rintro e w3 ⟨v3,rfl,H,j⟩;obtain⟨g3,c3,e3,y1,_,y3⟩:=mI H (by rw[gG];omega);subst e3;obtain⟨a3,x9,x5,_,X,_,_⟩:=own_shape H;cases x5;have z0:=j.size;have h9:=jq (dQ X);have H3:=jq (kN (marked body));have u:=own_later x0.out j;have h6:=jq (p.out.trans (j.mono x7));have y4: (marked (head kind n)).length+(marked body).length<=1048600:=by rw[r.out,gG,<-f.out];omega
 clear H X j N x2
 go_wp2_with (first|(at_builtin;refine wpList_append_own _ rfl _ _ 84 rfl w.heap.size 5 i0 (.int .u8 0) 1 1 underlying84 U h2 h3 h4 rfl (by decide) _ _ _ rfl u ⟨g3,0,none⟩ (marked body).length c3 ((marked body).map bv) rfl ?d1 h9.out H3.out ?d3 ?d4 ?d5 ?_))
 case d1=>simp
 case d3=>unfold maxLen;omega
 case d4=>omega
 case d5=>omega
 intro v4 w4 h0 S _;have x6:=h6.out.grown S (by omega) (λq hq=>(u.lt q hq).1)
 have P:ak w4 w.heap.size v4 (bq kind body):=by
  unfold ak bq;rw[aZ,jL,<-f.out];exact h0
 have x3:=jq P;clear h0 S P u
 go_wp2_with fail
 go_ret2
 exact⟨v4,rfl,x3.out,x6⟩
def num(h:List UInt8):Nat:=(h.getD 1 0).toNat+(h.getD 2 0).toNat*256+(h.getD 3 0).toNat*65536+(h.getD 4 0).toNat*16777216
def got(bs:List UInt8):UInt8×List UInt8×Nat×Int:=
 if bs.length<9 then(0,[],0,2)
 else if fZ (bs.take 9)=5 then(0,[],0,5)
 else if 1048576<num (aB (bs.take 9))then(0,[],0,4)
 else if bs.length<13+num (aB (bs.take 9))then(0,[],0,2)
 else if fZ ((bs.drop 9).take (num (aB (bs.take 9))+4))=5 then(0,[],0,5)
 else((bs.take 9).getD 0 0,aB ((bs.drop 9).take (num (aB (bs.take 9))+4)),13+num (aB (bs.take 9)),0)
theorem wM(h:4<=bs.length):fZ bs=0\/fZ bs=5:=by
 unfold fZ;rw[if_neg (by omega)]
 split
 ·exact .inl rfl
 ·exact .inr rfl
theorem wN(h:4<=bs.length)(a:fZ bs=0):gQ bs=aB bs:=by
 unfold fZ at a;rw[if_neg (by omega)]at a;unfold gQ
 by_cases d:marked (aB bs)=bs
 ·rw[if_pos ⟨h,d⟩]
 ·rw[if_neg d]at a;cases a
theorem BM(a b:Nat)(ha:a<9223372036854775808)(hb:b<9223372036854775808):bits .or .i64 (a:Int) (b:Int)=((a ||| b:Nat):Int):=by
 have d:a ||| b<2^63:=Nat.or_lt_two_pow (by omega) (by omega)
 show IntKind.i64.wrap ((BitVec.ofInt 64 (a:Int) ||| BitVec.ofInt 64 (b:Int)).toNat:Int)=_;rw[BitVec.toNat_or,ofInt_u64 a (by omega),ofInt_u64 b (by omega)];exact IntWalk.i64_in _ (by omega)
theorem Va(a b c d:Nat)(ha:a<256)(hb:b<256)(hc:c<256)(hd:d<256):
  bits .or .i64 (bits .or .i64 (bits .or .i64 (a:Int) ((b:Int)*256)) ((c:Int)*65536)) ((d:Int)*16777216)=((a+b*256+c*65536+d*16777216:Nat):Int):=by
 have e:bits .or .i64 (a:Int) ((b:Int)*256)=((a+b*256:Nat):Int):=by
  have:=BM a (b*256) (by omega) (by omega);rw[Nat.or_comm,nat_join 8 (b*256) a (by omega) (by omega)]at this;rw[show((b:Int)*256)=((b*256:Nat):Int)by omega,this]
  congr 1
  omega
 have f:bits .or .i64 ((a+b*256:Nat):Int) ((c:Int)*65536)=((a+b*256+c*65536:Nat):Int):=by
  have:=BM (a+b*256) (c*65536) (by omega) (by omega);rw[Nat.or_comm,nat_join 16 (c*65536) (a+b*256) (by omega) (by omega)]at this;rw[show((c:Int)*65536)=((c*65536:Nat):Int)by omega,this]
  congr 1
  omega
 have:=BM (a+b*256+c*65536) (d*16777216) (by omega) (by omega);rw[Nat.or_comm,nat_join 24 (d*16777216) (a+b*256+c*65536) (by omega) (by omega)]at this;rw[e,f,show((d:Int)*16777216)=((d*16777216:Nat):Int)by omega,this]
 congr 1
 omega
theorem lV{b:Nat}{t:TypeId}{p q:Value}(h:Blk w b t #[p,q])(x y:Value):Blk ((w.setCell ⟨b,0,none⟩ x).setCell ⟨b,1,none⟩ y) b t #[x,y]:=(h.set 0 x).set 1 y
structure Got(bs:List UInt8)(w:World)(e:Ending)(w':World):Prop where
 out:∃v,e=.returned (.tuple #[.agg #[bv (got bs).1,v],.int .i64 (got bs).2.2.1,.int .i64 (got bs).2.2.2])/\ak w' w.heap.size v (got bs).2.1
 below:Below w.heap.size w w'
theorem tL(a:Option Addr)(cp:Nat)(bs:List UInt8)(w:World)(h:Lies w a (bs.map bv))(z5:bs.length<=cp)(hm:bs.length<=3000000):
  Calls prog 124 #[.slice a bs.length cp] w λe w'=>Got bs w e w':=by
 by_cases A:bs.length<9
 ·have d:got bs=(0,[],0,2):=if_pos A;clear h z5
  go_enter func124,ntmps124
  go_wp2_with fail
  refine bodyPost_ret (v:=.tuple #[.agg #[.int .u8 0,.slice none 0 0],.int .i64 0,.int .i64 2]) (by simp[results,results124,go_sem]) rfl ⟨⟨.slice none 0 0,by rw[d];rfl,by rw[d];exact World.ownsRow_nil _ _ _ _⟩,(Below.refl _ w).alloc jn _⟩
 ·obtain⟨g,off,rfl,hg,hc⟩:=h.resolve_left (λe=>by
   rw[dM]at e;subst e;exact A (by decide))
  have W:Lies w (some ⟨g,off,none⟩) (bs.map bv):=.inr ⟨g,off,rfl,hg,hc⟩;obtain⟨h,L⟩:=jl (bs.take 9);have z7:h.length=9:=by rw[L,jT];omega
  have h8:Lies (w.alloc (.cells #[.int .u8 0,.slice none 0 0] 136)) (some ⟨g,off,none⟩) (h.map bv):=by
   rw[L,fA];exact(W.later ((Below.refl _ w).alloc jn _)).take _
  have h0:=JC (some ⟨g,off,none⟩) cp h _ h8 (by omega) (by omega);rw[z7]at h0;have HF:=jq h0;have a4: (9:Nat)<=cp:=by omega
  have a6:decide ((bs.length:Int) <9)=false:=by simp;omega
  have HL:=jq W;have x3:=(Below.refl w.heap.size w).alloc jn (.cells #[.int .u8 0,.slice none 0 0] 136);have x4:=Blk.new w 136 #[.int .u8 0,.slice none 0 0];have y5:=jq x3;have h4:=jq x4;have m:=jq L;clear hc hg W h8 h0 x3 x4 L
  go_enter func124,ntmps124
  go_wp2_with fail
  refine HF.out.mono ?_;rintro e w1 ⟨v1,rfl,y2,U⟩;have B:=h4.out.below U h4.out.lt;have x0:=B.cell 0;have x1:=B.cell 1
  simp at x0 x1
  have z0:=B.frozen 0;have z1:=B.frozen 1;have a9:=B.lt;have D:=jq B;have u:=jq (y5.out.trans (U.mono (by simp)));have z2:=jq y2;clear B U y2 HF;have x5:∀(w2:World) (x y:Value),Below w.heap.size w w2->Below w.heap.size w ((w2.setCell ⟨w.heap.size,0,none⟩ x).setCell ⟨w.heap.size,1,none⟩ y):=λw2 x y hb=>(hb.setCell jn _).setCell jn _
  have E:=jq x5;clear x5;rcases wM (bs:=h) (by omega)with f|f
  ·have G:gQ h=aB h:=wN (by omega) f;have Z: (aB h).length=5:=by rw[uf];omega
   have O:=z2.out;rw[G]at O;obtain⟨g1,c1,S,a7,a8,z6⟩:=mI O (by omega);obtain⟨a1,a0,h7,_,x6,_,_⟩:=own_shape O;rw[S]at h7;cases h7;rw[Z]at S
   have hcell:∀j,j<5->w1.cell? ⟨g1,j,none⟩=some (.int .u8 (((aB h).getD j 0).toNat:Int)):=λj hj=>by
    obtain⟨q,o,e,_,hq⟩:=x6.resolve_left (by intro e;rw[dM]at e;rw[e]at Z;cases Z);cases e;have:=hq j _ (lI (jg (by omega)));rw[Nat.zero_add]at this;rw[this,List.getD_eq_getElem?_getD,jg (by omega)]
    rfl
   have b1:=hcell 1 (by omega);have b2:=hcell 2 (by omega);have b3:=hcell 3 (by omega);have b4:=hcell 4 (by omega);obtain⟨n1,P⟩:=jl (((aB h).getD 1 0).toNat);obtain⟨n2,m2⟩:=jl (((aB h).getD 2 0).toNat);obtain⟨n3,Q⟩:=jl (((aB h).getD 3 0).toNat);obtain⟨n4,R⟩:=jl (((aB h).getD 4 0).toNat);have l1:n1<256:=by rw[P];exact nJ _
   have l2:n2<256:=by rw[m2];exact nJ _
   have l3:n3<256:=by rw[Q];exact nJ _
   have l4:n4<256:=by rw[R];exact nJ _
   rw[<-P]at b1;rw[<-m2]at b2;rw[<-Q]at b3;rw[<-R]at b4;obtain⟨N,X⟩:=jl (n1+n2*256+n3*65536+n4*16777216);have z8:=Va n1 n2 n3 n4 l1 l2 l3 l4;rw[<-X]at z8;have x8:num (aB h)=N:=by rw[X,P,m2,Q,R];rfl
   have t:=jq x8;have a5:N<4294967296:=by omega
   have y6:=jq hcell;have I:=jq f;rw[f];subst S;clear O x6 hcell P m2 Q R X x8 f G
   go_wp2_with fail
   go_quiet (fail)
   have b5:IntKind.i64.wrap (9+(N:Int))=9+N:=IntWalk.i64_in _ (by omega);have b6:IntKind.i64.wrap (9+(N:Int)+4)=9+N+4:=IntWalk.i64_in _ (by omega)
   by_cases J:1048576<N
   ·have d:got bs=(0,[],0,4):=by
     unfold got;rw[if_neg A,if_neg (by rw[<-m.out,I.out];decide),if_pos (by rw[<-m.out,t.out];exact J)]
    have i:=jq d;have q:=lV (D.out.drewN nq) (.int .u8 0) (.slice none 0 0);have n:=q.cell 0;have r:=q.cell 1
    simp at n r
    have s:=E.out (w1.drewN nq) (.int .u8 0) (.slice none 0 0) (below_drewN u.out nq);clear d q;have d0:decide ((1048576:Int) <(N:Int))=true:=by simp;omega
    go_wp2_with fail
    refine bodyPost_ret (v:=.tuple #[.agg #[.int .u8 0,.slice none 0 0],.int .i64 0,.int .i64 4]) (by simp[results,results124,go_sem,n,r]) rfl ⟨⟨.slice none 0 0,by rw[i.out];rfl,by rw[i.out];exact World.ownsRow_nil _ _ _ _⟩,s⟩
   ·have d0:decide ((1048576:Int) <(N:Int))=false:=by simp;omega
    by_cases Y:bs.length<13+N
    ·have d:got bs=(0,[],0,2):=by
      unfold got;rw[if_neg A,if_neg (by rw[<-m.out,I.out];decide),if_neg (by rw[<-m.out,t.out];exact J),if_pos (by rw[<-m.out,t.out];exact Y)]
     have i:=jq d;have q:=lV (D.out.drewN nq) (.int .u8 0) (.slice none 0 0);have n:=q.cell 0;have r:=q.cell 1
     simp at n r
     have s:=E.out (w1.drewN nq) (.int .u8 0) (.slice none 0 0) (below_drewN u.out nq);clear d q;have d1:decide ((bs.length:Int) <9+(N:Int)+4)=true:=by simp;omega
     go_wp2_with fail
     refine bodyPost_ret (v:=.tuple #[.agg #[.int .u8 0,.slice none 0 0],.int .i64 0,.int .i64 2]) (by simp[results,results124,go_sem,n,r]) rfl ⟨⟨.slice none 0 0,by rw[i.out];rfl,by rw[i.out];exact World.ownsRow_nil _ _ _ _⟩,s⟩
    ·have d1:decide ((bs.length:Int) <9+(N:Int)+4)=false:=by simp;omega
     obtain⟨o,M⟩:=jl ((bs.drop 9).take (N+4));have x9:o.length=N+4:=by rw[M,jT,List.length_drop];omega
     have x2:Lies (w1.drewN nq) (some ⟨g,off+9,none⟩) (o.map bv):=by
      rw[M,fA];refine Lies.take ?_ _;rw[jV];exact((HL.out.later u.out).drop 9).drewN nq
     have h1:=JC (some ⟨g,off+9,none⟩) (cp-9) o (w1.drewN nq) x2 (by omega) (by omega);rw[show o.length=9+N-5 by omega]at h1;have y7:=jq h1;have HO:=jq M;have h6:=jq x9;have a3:13+N<=cp:=by omega
     clear h1 x2 M x9
     go_wp2_with fail
     refine y7.out.mono ?_;rintro e w2 ⟨v2,rfl,y3,s⟩;have C:=(D.out.drewN nq).below s D.out.lt;have y0:=C.cell 0;have y1:=C.cell 1
     simp at y0 y1
     have u0:=C.frozen 0;have u1:=C.frozen 1;have b0:=C.lt;have c0:=((below_drewN (Below.refl w1.heap.size w1) nq).trans s).cell (p:=⟨g1,0,none⟩) z6 |>.trans (y6.out 0 (by omega))
     obtain⟨kd,h2⟩:=jl (((aB h).getD 0 0).toNat);rw[<-h2]at c0;have y8:=jq h2;have h5:=jq C;have h3:=jq ((below_drewN u.out nq).trans (s.mono u.out.size));have z3:=jq y3;have z9:=u.out.size;clear C s y3 x0 x1 h2;rcases wM (bs:=o) (by rw[h6.out];omega)with f|f
     ·have d:got bs=((aB h).getD 0 0,aB o,13+N,0):=by
       unfold got;rw[if_neg A,if_neg (by rw[<-m.out,I.out];decide),if_neg (by rw[<-m.out,t.out];exact J),if_neg (by rw[<-m.out,t.out];exact Y),<-m.out,t.out,<-HO.out,if_neg (by rw[f];decide)]
       have T: (aB h).getD 0 0=h.getD 0 0:=by
        unfold aB;rw[List.getD_eq_getElem?_getD,List.getD_eq_getElem?_getD,jh,if_pos (by omega)]
       rw[T]
      have G:gQ o=aB o:=wN (by rw[h6.out];omega) f;have H:=z3.out;rw[G]at H;have i:=jq d;obtain⟨z,c2,e2,_,_,z4,_⟩:=own_shape H;subst e2;have q:=lV h5.out (.int .u8 (kd:Int)) (.slice z (aB o).length c2);have n:=q.cell 0;have r:=q.cell 1
      simp at n r
      have V:=E.out w2 (.int .u8 (kd:Int)) (.slice z (aB o).length c2) h3.out
      have y4:ak ((w2.setCell ⟨w.heap.size,0,none⟩ (.int .u8 (kd:Int))).setCell ⟨w.heap.size,1,none⟩ (.slice z (aB o).length c2)) w.heap.size (.slice z (aB o).length c2) (aB o):=by
       have x7: (Value.slice z (aB o).length c2).ownBlock≠some w.heap.size:=λe=>by
        have:=(H.lt _ e).1
        simp at this
        omega
       exact bH (dU (dU H x7 _) x7 _) z9
      have y9:=jq y4;rw[f];clear d G H q f z4 y4
      go_wp2_with fail
      have T: (9+(N:Int)+4)=((13+N:Nat):Int):=by omega
      refine bodyPost_ret (v:=.tuple #[.agg #[.int .u8 (kd:Int),.slice z (aB o).length c2],.int .i64 (9+(N:Int)+4),.int .i64 0]) (by simp[results,results124,go_sem,n,r]) rfl ⟨⟨.slice z (aB o).length c2,?_,by rw[i.out];exact y9.out⟩,V⟩;rw[i.out,T,y8.out]
      rfl
     ·have d:got bs=(0,[],0,5):=by
       unfold got;rw[if_neg A,if_neg (by rw[<-m.out,I.out];decide),if_neg (by rw[<-m.out,t.out];exact J),if_neg (by rw[<-m.out,t.out];exact Y),<-m.out,t.out,<-HO.out,if_pos f]
      have i:=jq d;have q:=lV h5.out (.int .u8 0) (.slice none 0 0);have n:=q.cell 0;have r:=q.cell 1
      simp at n r
      have V:=E.out w2 (.int .u8 0) (.slice none 0 0) h3.out;rw[f];clear d q f
      go_wp2_with fail
      refine bodyPost_ret (v:=.tuple #[.agg #[.int .u8 0,.slice none 0 0],.int .i64 0,.int .i64 5]) (by simp[results,results124,go_sem,n,r]) rfl ⟨⟨.slice none 0 0,by rw[i.out];rfl,by rw[i.out];exact World.ownsRow_nil _ _ _ _⟩,V⟩
  ·rw[f];have d:got bs=(0,[],0,5):=by unfold got;rw[if_neg A,if_pos (by rw[<-m.out];exact f)]
   have i:=jq d;have q:=lV D.out (.int .u8 0) (.slice none 0 0);have n:=q.cell 0;have r:=q.cell 1
   simp at n r
   have s:=E.out w1 (.int .u8 0) (.slice none 0 0) u.out;clear d f q
   go_wp2_with fail
   refine bodyPost_ret (v:=.tuple #[.agg #[.int .u8 0,.slice none 0 0],.int .i64 0,.int .i64 5]) (by simp[results,results124,go_sem,n,r]) rfl ⟨⟨.slice none 0 0,by rw[i.out];rfl,by rw[i.out];exact World.ownsRow_nil _ _ _ _⟩,s⟩
end Frame
namespace Runs
open Go.RowKit Go.Deep Mem Crc Merge
def eT(w:World)(v:Value)(b:B):Prop:=∃a c,v=.slice a b.length c/\b.length<=c/\Lies w a (b.map bv)
theorem eT.later{w w':World}{v:Value}{b:B}(h:eT w v b)(g:Below w.heap.size w w'):eT w' v b:=by
 obtain⟨a,c,e,d,f⟩:=h;exact⟨a,c,e,d,f.later g⟩
structure bY(w:World)(vs:List Value)(l:List B):Prop where
 len:vs.length=l.length
 at_:∀(i:Nat) (v:Value) (b:B),vs[i]? =some v->l[i]? =some b->eT w v b
theorem bY.later{w w':World}{vs:List Value}{l:List B}(h:bY w vs l)(e:Below w.heap.size w w'):bY w' vs l:=⟨h.len,λi v b a d=>(h.at_ i v b a d).later e⟩
theorem rA(w:World):bY w [] []:=⟨rfl,λi v b a=>by simp at a⟩
theorem bY.snoc{w:World}{vs:List Value}{l:List B}(h:bY w vs l){v:Value}{b:B}(g:eT w v b):bY w (vs++ [v]) (l++ [b]):=by
 refine⟨by simp[h.len],λi u c a d=>?_⟩
 by_cases e:i<vs.length
 ·rw[iK e]at a;rw[iK (by rw[<-h.len];exact e)]at d;exact h.at_ i u c a d
 ·have hl:=h.len;rw[iL (by omega)]at a;rw[iL (by omega),<-hl]at d
  have f:i-vs.length=0:=by
   have:=(jS.1 a).1
   simp at this
   omega
  rw[f]at a d
  simp at a d
  rw[<-a,<-d];exact g
theorem bY.drop{w:World}{vs:List Value}{l:List B}(h:bY w vs l)(n:Nat):bY w (vs.drop n) (l.drop n):=
 ⟨by simp[h.len],λi v b a d=>h.at_ (n+i) v b (by rwa [List.getElem?_drop]at a) (by rwa [List.getElem?_drop]at d)⟩
def FO(w:World)(v:Value)(l:List B):Prop:=∃a c vs,v=.slice a l.length c/\l.length<=c/\Lies w a vs/\bY w vs l
def iV(a b:B):Int:=if a<b then -1 else if b<a then 1 else 0
theorem Ag(a b:B):iV a b<0↔a<b:=by
 unfold iV
 by_cases h:a<b
 ·simp[h]
 ·by_cases k:b<a <;> simp[h,k]
theorem Qo(b:B):iV [] b=if b= []then 0 else -1:=by
 cases b with
 |nil=>rfl
 |cons x t=>simp[iV]
theorem Qp(a:B):iV a []=if a= []then 0 else 1:=by
 cases a with
 |nil=>rfl
 |cons x t=>simp[iV]
theorem Qq(x y:UInt8)(s t:B):iV (x ::s) (y ::t)=if x<y then -1 else if y<x then 1 else iV s t:=by
 unfold iV
 by_cases h:x<y
 ·simp[List.cons_lt_cons_iff,h]
 ·by_cases k:y<x
  ·have a:¬x=y:=λe=>by subst e;exact UInt8.lt_irrefl _ k
   have d:¬y=x:=λe=>a e.symm
   simp[List.cons_lt_cons_iff,h,k,a,d]
  ·have e:x=y:=UInt8.le_antisymm (UInt8.not_lt.1 k) (UInt8.not_lt.1 h);subst e
   simp[UInt8.lt_irrefl]
end Runs
namespace Text
open Go.RowKit Go.Deep Mem Crc
def dA(n:Nat):UInt8:=UInt8.ofNat (48+n%10)
def dK:Nat->Nat->List UInt8->List UInt8
 |0,_,acc=>acc
 |f+1,n,acc=>if n/10=0 then dA n ::acc else dK f (n/10) (dA n ::acc)
def dec(n:Nat):List UInt8:=dK 20 n []
theorem AY:∀(f n:Nat) (acc:List UInt8),(dK f n acc).length<=acc.length+f
 |0,_,_=>aj _
 |f+1,n,acc=>by
  unfold dK
  split
  ·simp
  ·have:=AY f (n/10) (dA n ::acc)
   simp at this
   omega
theorem AZ(n:Nat): (dA n).toNat=48+n%10:=by unfold dA;simp;omega
abbrev z20:Array Value:=#[.int .u8 0,.int .u8 0,.int .u8 0,.int .u8 0,.int .u8 0,.int .u8 0,.int .u8 0,.int .u8 0,.int .u8 0,.int .u8 0,.int .u8 0,.int .u8 0,.int .u8 0,.int .u8 0,.int .u8 0,.int .u8 0,.int .u8 0,.int .u8 0,.int .u8 0,.int .u8 0]
theorem JD:z20.toList=List.replicate 20 (Value.int .u8 0):=rfl
structure BN(g k:Nat)(acc:List UInt8)(w:World):Prop where
 len:acc.length=k
 top:k<=20
 blk:∃cs,Blk w g 225 cs/\cs.size=20/\(∀j,j<20-k->cs[j]? =some (.int .u8 0))/\∀j x,acc[j]? =some x->cs[20-k+j]? =some (bv x)
theorem BO:prog.arrayLen 225=20:=by kernel_rfl
theorem JE:prog.elem 225=5:=by kernel_rfl
theorem Vb:prog.underlying 225=some (.array (prog.arrayLen 225) (prog.elem 225)):=by rw[BO,JE];exact underlying225
theorem Vd(w:World): (sizeOf 5).run prog w=.ok 1 w:=by kernel_rfl
theorem Ve(g j:Nat)(a:j<20)(w:World): (Instr.sliceAt 225 (.pointer (some ⟨g,0,none⟩)) (some (.int .i64 (j:Int))) none none).run prog w=.ok (.slice (some ⟨g,j,none⟩) (20-j) (20-j)) w:=by
 rw[run_sliceAt_array_l w 225 ⟨g,0,none⟩ Vb .i64 (j:Int) (by omega) (by rw[BO];omega),JE,Vd,BO];have:¬20=j:=by omega
 simp[slicedAt,Addr.add,Result.andThen,this]
 omega
theorem sF(n:Nat)(w:World)(hn:n<18446744073709551616):
  Calls prog 89 #[.slice none 0 0,.int .u64 n] w λe w'=>∃v,e=.returned v/\ak w' w.heap.size v (dec n)/\Below w.heap.size w w':=by
 obtain⟨i0,h9,x3,x4,x5⟩:=info_parts jX;have U:z20.size=20:=by rw[<-Array.length_toList,JD,List.length_replicate]
 have C:=(Below.refl w.heap.size w).alloc jn (.cells z20 225)
 have E:BN w.heap.size 0 [] (w.alloc (Obj.cells z20 225)):=by
  refine⟨rfl,by omega,_,Blk.new w _ _,U,λj r=>?_,λj x a=>by simp at a⟩;rw[<-mo,JD,List.getElem?_replicate,if_pos r]
 have X:=jq C;have Y:=jq E;clear C E U
 go_enter func89,ntmps89
 go_wp2_with fail
 go_loopw[1,6] (λx i wr=>∃(k m:Nat) (acc:List UInt8),k<20/\i=.int .i64 ((20-k:Nat):Int)/\x=.int .u64 m/\m<18446744073709551616/\m*10^k<18446744073709551616/\(k=0\/0<m)/\Hid (dec n=dK (20-k) m acc)/\Hid (BN w.heap.size k acc wr)/\Hid (Below w.heap.size w wr)) (λx _ _=>(intOf x).toNat)
 case atStart=>exact⟨0,n,[],by omega,rfl,rfl,hn,by omega,.inl rfl,jq rfl,Y,X⟩
 case round=>
  obtain⟨k,m,acc,hk,rfl,rfl,hm,O,x7,hd,hD,hB⟩:=hrel;obtain⟨h8,_,cs,hcs,t,g,p⟩:=hD.out;obtain⟨j,r⟩:=jl (19-k);have s:20-k=j+1:=by omega
  have c0:=(hcs.cell j).trans (g j (by omega));have fz:=hcs.frozen j;rw[s];have I:=AZ m;have HC:=jq hcs;have HZ:=jq g;have HA:=jq p;have HS:=jq t;have y0:IntKind.i64.wrap (((j+1:Nat):Int)-1)=j:=by rw[show((j+1:Nat):Int)-1=j by omega];exact IntWalk.i64_in _ (by omega)
  have S:=(hcs.set j (.int .u8 (48+(m:Int)%10)));have G:=hB.out.setCell (show w.heap.size<=(⟨w.heap.size,j,none⟩:Addr).block from aj _) (.int .u8 (48+(m:Int)%10))
  have A:BN w.heap.size (k+1) (dA m ::acc) (wr.setCell ⟨w.heap.size,j,none⟩ (.int .u8 (48+(m:Int)%10))):=by
   refine⟨by simp[h8],by omega,_,S,by rw[Array.size_setIfInBounds];exact t,λq hq=>?_,λq x a=>?_⟩
   ·rw[kI,if_neg (by omega)];exact g q (by omega)
   ·cases q with
    |zero=>
     have e:dA m=x:=by simpa using a
     subst e;rw[kI,if_pos (by omega),if_pos (by omega)];unfold bv;rw[I]
     congr 2
    |succ q=>
     have x2:acc[q]? =some x:=by simpa using a
     rw[kI,if_neg (by omega)];have:=p q x x2;rw[show 20-(k+1)+(q+1)=20-k+q by omega];exact this
  have y:=jq A;have h:=jq G;clear S G A hcs g p t I r
  by_cases M:m/10=0
  ·have hq: ((m:Int)/10==0)=true:=by simp;omega
   have x9:=λw'=>Ve w.heap.size j (by omega) w'
   obtain⟨x0,_,x6,H,x1,_,D⟩:=y.out
   have N:∀q u,((dA m ::acc).map bv)[q]? =some u->(wr.setCell ⟨w.heap.size,j,none⟩ (.int .u8 (48+(m:Int)%10))).cell? ((⟨w.heap.size,j,none⟩:Addr).add q)=some u:=λq u f=>by
    have e: (⟨w.heap.size,j,none⟩:Addr).add q=⟨w.heap.size,j+q,none⟩:=by unfold Addr.add;split <;> simp_all
    rw[List.getElem?_map]at f
    cases a: (dA m ::acc)[q]? with
    |none=>rw[a]at f;cases f
    |some x=>
     rw[a]at f;have:=D q x a;rw[e,H.cell,show j+q=20-(k+1)+q by omega,this];exact f
   have Z:=jq N;have W:=jq (kN (dA m ::acc));have P:=World.ownsRow_nil (wr.setCell ⟨w.heap.size,j,none⟩ (.int .u8 (48+(m:Int)%10))) w.heap.size 5 1
   have d:dec n=dA m ::acc:=by
    rw[hd.out,s];unfold dK;rw[if_pos M]
   have o:=jq d;have L: (dA m ::acc).length=20-j:=by rw[x0];omega
   have z:=jq L;have T:=h.out.size;clear N d L H D x1
   go_wp2_with (first|(at_builtin;refine wpList_append_own _ rfl _ _ 84 rfl w.heap.size 5 i0 (.int .u8 0) 1 1 underlying84 h9 x3 x4 x5 rfl (by decide) _ _ _ rfl P ⟨w.heap.size,j,none⟩ (20-j) (20-j) ((dA m ::acc).map bv) rfl ?c1 Z.out W.out ?c3 ?c4 ?c5 ?_))
   case c1=>rw[jP,z.out,Nat.mul_one]
   case c3=>unfold maxLen;omega
   case c4=>omega
   case c5=>exact T
   intro V w2 Q J _;have h7:=h.out.grown J T (λq hq=>by cases hq)
   have B:ak w2 w.heap.size V (dec n):=by
    unfold ak;rw[o.out,z.out]
    simpa using Q
   have h0:=jq B;clear Q J B P
   go_wp2_with fail
   go_ret
   exact⟨V,rfl,h0.out,h7⟩
  ·have hq: ((m:Int)/10==0)=false:=by simp;omega
   have x8:k<19:=by
    apply Nat.lt_of_not_le
    intro h6;have h1:10^19<=10^k:=mq (by decide) h6;have h2:10<=m:=by omega
    have h3:10*10^19<=m*10^k:=Nat.mul_le_mul h2 h1;have h4: (10:Nat)*10^19=100000000000000000000:=by decide
    omega
   have R:m/10*10^(k+1) <18446744073709551616:=by
    rw[iJ,iy (10^k) 10,<-mG];exact Nat.lt_of_le_of_lt (jD _ (Nat.div_mul_le_self m 10)) O
   have d:dec n=dK (20-(k+1)) (m/10) (dA m ::acc):=by
    rw[hd.out,s]
    conv=>lhs;unfold dK
    rw[if_neg M,show 20-(k+1)=j by omega]
   have o:=jq d;have h5:=jq R;clear d R O
   go_wp2_with fail
   refine⟨⟨k+1,m/10,dA m ::acc,by omega,?_,by simp,by omega,h5.out,.inr (by omega),o,y,h⟩,?_⟩
   ·rw[show 20-(k+1)=j by omega]
   ·simp[intOf];omega
end Text
namespace Frame
open Go.RowKit Go.Deep Mem Crc
def bA:Nat->List UInt8->List (UInt8×List UInt8)×Int
 |0,_=>([],0)
 |f+1,bs=>
  if bs= []then([],0)
  else if(got bs).2.2.2=0 then
   let r:=bA f (bs.drop (got bs).2.2.1)
   if r.2=0 then(((got bs).1,(got bs).2.1)::r.1,0)else([],r.2)
  else([],(got bs).2.2.2)
structure bJ where
 kind:UInt8
 body:List UInt8
 a:Option Addr
 cp:Nat
def bJ.vs(s:bJ):List Value:=[bv s.kind,.slice s.a s.body.length s.cp]
def gu(l:List bJ):List Value:=l.flatMap bJ.vs
theorem EX(l:List bJ)(s:bJ):gu (l++ [s])=gu l++s.vs:=by unfold gu;rw[ig];simp
def bJ.kb(s:bJ):UInt8×List UInt8:=(s.kind,s.body)
def Bodies(B:Nat)(w:World)(l:List bJ):Prop:=∀s∈l,ak w B (.slice s.a s.body.length s.cp) s.body
variable {bs:List UInt8}{F:Nat}
theorem wO(h: (got bs).2.2.2=0):13<=(got bs).2.2.1/\(got bs).2.2.1<=bs.length:=by
 unfold got at h⊢
 split at h
 ·cases h
 ·rename_i a
  rw[if_neg a]
  split at h
  ·cases h
  ·rename_i d
   rw[if_neg d]
   split at h
   ·cases h
   ·rename_i e
    rw[if_neg e]
    split at h
    ·cases h
    ·rename_i f
     rw[if_neg f]
     split at h
     ·cases h
     ·rename_i g
      rw[if_neg g]
      constructor
      ·show 13<=13+_;omega
      ·show 13+_<=_;omega
theorem JF:∀(f a:Nat) (bs:List UInt8),bs.length<f->bs.length<a->bA f bs=bA a bs
 |0,_,_,h,_=>absurd h (je _)
 |_+1,0,_,_,h=>absurd h (je _)
 |f+1,a+1,bs,h,h'=>by
  unfold bA
  split
  ·rfl
  ·rename_i e
   split
   ·rename_i d
    have g:=wO d;have hl: (bs.drop (got bs).2.2.1).length<bs.length:=by rw[List.length_drop];omega
    rw[JF f a _ (by omega) (by omega)]
   ·rfl
def glue(l:List (UInt8×List UInt8))(r:List (UInt8×List UInt8)×Int):List (UInt8×List UInt8)×Int:=if r.2=0 then(l++r.1,0)else([],r.2)
theorem zY(F:Nat):bA F []=([],0):=by cases F <;> rfl
theorem EZ(hF:bs.length<F)(a:bs≠[])(h:¬(got bs).2.2.2=0):bA F bs=([],(got bs).2.2.2):=by
 cases F with
 |zero=>omega
 |succ f=>unfold bA;rw[if_neg a,if_neg h]
theorem EY(hF:bs.length<F)(d:bs≠[])(h: (got bs).2.2.2=0)(l:List (UInt8×List UInt8)):glue l (bA F bs)=glue (l++ [((got bs).1,(got bs).2.1)]) (bA F (bs.drop (got bs).2.2.1)):=by
 cases F with
 |zero=>omega
 |succ f=>
  have i:=wO h;have hl: (bs.drop (got bs).2.2.1).length<bs.length:=by rw[List.length_drop];omega
  have e:bA (f+1) bs=if(bA (f+1) (bs.drop (got bs).2.2.1)).2=0 then(((got bs).1,(got bs).2.1)::(bA (f+1) (bs.drop (got bs).2.2.1)).1,0)else([],(bA (f+1) (bs.drop (got bs).2.2.1)).2):=by
   rw[JF (f+1) f (bs.drop (got bs).2.2.1) (by omega) (by omega)]
   conv=>lhs;unfold bA
   rw[if_neg d,if_pos h]
  rw[e];generalize bA (f+1) (bs.drop (got bs).2.2.1)=r;obtain⟨j,g⟩:=r;unfold glue
  by_cases a:g=0
  ·subst a
   simp
  ·simp[a]
theorem ET: (prog.info? 136).map (λi=>(i.zero,i.size,i.bytes))=some (some (.agg #[.int .u8 0,.slice none 0 0]),2,32):=by kernel_rfl
def lenOf:Value->Nat
 |.slice _ n _=>n
 |_=>0
theorem EU(r:List (UInt8×List UInt8)×Int)(h:r.2=0\/r.1= []):glue [] r=r:=by
 obtain⟨e,d⟩:=r;unfold glue
 by_cases a:d=0
 ·subst a;simp
 ·rcases h with h|h
  ·exact absurd h a
  ·simp at h;subst h;simp[a]
theorem EW(F:Nat)(bs:List UInt8): (bA F bs).2=0\/(bA F bs).1= []:=by
 cases F with
 |zero=>exact .inl rfl
 |succ f=>
  unfold bA
  split
  ·exact .inl rfl
  ·split
   ·dsimp only
    split
    ·exact .inl rfl
    ·exact .inr rfl
   ·exact .inr rfl
structure ES(bs:List UInt8)(w:World)(e:Ending)(w':World):Prop where
 out:∃v l,e=.returned (.tuple #[v,.int .i64 (bA (bs.length+1) bs).2])/\w'.ownsRow w.heap.size 136 2 v l.length (gu l)/\l.map bJ.kb=(bA (bs.length+1) bs).1/\Bodies w.heap.size w' l
 below:Below w.heap.size w w'
theorem uL(a:Option Addr)(cp:Nat)(bs:List UInt8)(w:World)(h:Lies w a (bs.map bv))(y7:bs.length<=cp)(hm:bs.length<=3000000):
  Calls prog 109 #[.slice a bs.length cp] w λe w'=>ES bs w e w':=by
 obtain⟨i0,y9,z3,z4,z5⟩:=info_parts ET;have HL:=jq h;clear h
 go_enter func109,ntmps109
 go_wp2_with fail
 go_loopw[0,4] (λb o wr=>∃(a':Option Addr) (cp':Nat) (l:List bJ) (rest:List UInt8),b=.slice a' rest.length cp'/\rest.length<=cp'/\l.length+rest.length<=bs.length/\Hid (Lies w a' (rest.map bv))/\Hid (wr.ownsRow w.heap.size 136 2 o l.length (gu l))/\Hid (Bodies w.heap.size wr l)/\Hid (bA (bs.length+1) bs=glue (l.map bJ.kb) (bA (bs.length+1) rest))/\Hid (Below w.heap.size w wr)) (λb _ _=>lenOf b)
 case atStart=>exact⟨a,cp,[],bs,rfl,y7,by simp,HL,jq (World.ownsRow_nil _ _ _ _),jq (λs hs=>by simp at hs),jq (EU _ (EW _ _)).symm,jq (Below.refl _ _)⟩
 case round=>
  obtain⟨a',cp',l,rest,rfl,y6,z1,hL,hO,h7,I,i⟩:=hrel;have L:=i.out.size;obtain⟨n,d⟩:=jl rest.length;rw[<-d]at y6 z1⊢;have z:=jq d
  by_cases h0:0<n
  ·have C:rest≠[]:=λe=>by subst e;simp at d;omega
   have Q:=tL a' cp' rest wr (hL.out.later i.out) (by omega) (by omega);rw[<-d]at Q;have HG:=jq Q;have G:=jq C;have z9:decide ((0:Int) <(n:Int))=true:=by simp;omega
   clear Q C d
   go_wp2_with fail
   refine HG.out.mono ?_;rintro e w1 ⟨⟨v,rfl,T⟩,h5⟩;obtain⟨va,vc,ev,z2,U,y0,_⟩:=own_shape T;subst ev;obtain⟨kd,R⟩:=jl ((got rest).1);obtain⟨bd,p⟩:=jl ((got rest).2.1);obtain⟨m,S⟩:=jl ((got rest).2.2.1);obtain⟨H,N⟩:=jl ((got rest).2.2.2);rw[<-p]at z2 U;rw[<-R,<-p,<-S,<-N];unfold bv;have y5:=jq (show ak w1 wr.heap.size (.slice va bd.length vc) bd by rw[p];exact T);have z7:=jq U;have z6:=jq y0;have y3:=jq R;have y2:=jq p;have E:=jq S;have y:=jq N;have g:=jq h5;clear T U y0 R p S N h5
   by_cases B:H=0
   ·subst B;have O:=wO (bs:=rest) (by rw[<-y.out]);have a2:13<=m:=by rw[E.out];exact O.1
    have a4:m<=n:=by rw[E.out,z.out];exact O.2
    have x2:=(Below.refl w1.heap.size w1).alloc jn (.cells #[.int .u8 (kd.toNat:Int),.slice va bd.length vc] 136);have M:=x2.alloc (by simp) (.cells #[.int .u8 (kd.toNat:Int),.slice va bd.length vc] 136);have A:=own_later (own_later hO.out g.out) M;have z8:=g.out.size
    have x5:∀j u,([.int .u8 (kd.toNat:Int),.slice va bd.length vc]:List Value)[j]? =some u->((w1.alloc (.cells #[.int .u8 (kd.toNat:Int),.slice va bd.length vc] 136)).alloc (.cells #[.int .u8 (kd.toNat:Int),.slice va bd.length vc] 136)).cell? ((⟨w1.heap.size+1,0,none⟩:Addr).add j)=some u:=λj u D=>by
     have h9:=dQ (jG (w1.alloc (.cells #[.int .u8 (kd.toNat:Int),.slice va bd.length vc] 136)) 136 #[.int .u8 (kd.toNat:Int),.slice va bd.length vc]) j u D;rw[World.size_alloc]at h9;exact h9
    have Z:=jq x5;have r:=jq M;clear x5 x2 M
    go_wp2_with (first|(at_builtin;refine wpList_append_own _ rfl _ _ 196 rfl w.heap.size 136 i0 (.agg #[.int .u8 0,.slice none 0 0]) 2 32 underlying196 y9 z3 z4 z5 rfl (by decide) _ _ _ rfl A ⟨w1.heap.size+1,0,none⟩ 1 1 [.int .u8 (kd.toNat:Int),.slice va bd.length vc] rfl rfl Z.out ?c2 ?c3 ?c4 ?c5 ?_))
    case c2=>intro u D;simp at D;rcases D with rfl|rfl <;> rfl
    case c3=>unfold maxLen;omega
    case c4=>omega
    case c5=>simp;omega
    intro v' w2 x9 P _;have h6:Below w.heap.size w w2:=((i.out.trans (g.out.mono L)).trans (r.out.mono (by omega))).grown P (by simp;omega) (λq hq=>(A.lt q hq).1)
    have h8:Bodies w.heap.size w2 (l++ [⟨(got rest).1,bd,va,vc⟩]):=λx f=>by
     have h1:ak ((w1.alloc (.cells #[.int .u8 (kd.toNat:Int),.slice va bd.length vc] 136)).alloc (.cells #[.int .u8 (kd.toNat:Int),.slice va bd.length vc] 136)) w.heap.size (.slice x.a x.body.length x.cp) x.body:=by
      rcases List.mem_append.1 f with f|f
      ·exact own_later (own_later (h7.out x f) g.out) r.out
      ·obtain rfl:x=(⟨(got rest).1,bd,va,vc⟩:bJ):=by simpa using f
       exact bH (own_later y5.out r.out) L
     exact World.ownsRow.kept h1 P (vR h1 A (by decide))
    have x1:w2.ownsRow w.heap.size 136 2 v' (l++ [(⟨(got rest).1,bd,va,vc⟩:bJ)]).length (gu (l++ [(⟨(got rest).1,bd,va,vc⟩:bJ)])):=by
     rw[jL,EX,bJ.vs,<-y3.out];exact x9
    have h4:bA (bs.length+1) bs=glue ((l++ [(⟨(got rest).1,bd,va,vc⟩:bJ)]).map bJ.kb) (bA (bs.length+1) (rest.drop m)):=by
     have C:rest≠[]:=G.out;rw[I.out,EY (by have:=z.out;omega) C y.out.symm,aZ,<-E.out,<-y2.out]
     rfl
    have x6: (rest.drop m).length=n-m:=by rw[List.length_drop,<-z.out]
    obtain⟨ga,oa,ea,y8,x4⟩:=hL.out.resolve_left (λe=>G.out (by simpa using e))
    have x0:Lies w (some ⟨ga,oa+m,none⟩) ((rest.drop m).map bv):=by
     rw[jV];exact Lies.drop (.inr ⟨ga,oa,rfl,y8,x4⟩) m
    have y4:=jq x0;have Y:=jq h8;have h3:=jq x1;have V:=jq h4;have W:=jq h6;have t:=jq x6;subst ea;clear x9 P A h6 h8 x1 h4 x6 x0 x4 O r Z;have a3:m<=cp':=by omega
    by_cases z0:m=cp'
    ·subst z0;obtain rfl:n=m:=by omega
     have x8:rest.drop n= []:=iw (by rw[t.out];omega);have J:=V.out;rw[x8]at J;have y1:=jq J;clear x8 J
     go_wp2_with fail
     go_roundw
     case rel=>exact⟨_,_,l++ [(⟨(got rest).1,bd,va,vc⟩:bJ)],[],by simp;exact⟨rfl,rfl⟩,aC _,by simp;omega,jq (.inl rfl),h3,Y,y1,W⟩
     case measure=>simp[lenOf];omega
    ·have a1:m<cp':=by omega
     go_wp2_with fail
     go_roundw
     case rel=>exact⟨_,_,l++ [(⟨(got rest).1,bd,va,vc⟩:bJ)],rest.drop m,by rw[t.out],by rw[t.out];omega,by rw[t.out];simp;omega,y4,h3,Y,V,W⟩
     case measure=>simp[lenOf];omega
   ·have x3:bA (bs.length+1) bs=([],H):=by
     rw[I.out,EZ (by have:=z.out;omega) G.out (by rw[<-y.out];exact B),<-y.out];unfold glue;rw[if_neg B]
    have X:=jq x3;have a5:=g.out.size;have a0: (H==0)=false:=by simpa using B
    clear x3
    go_wp2_with fail
    go_ret2
    refine⟨⟨_,[],by rw[X.out];rfl,World.ownsRow_nil _ _ _ _,by rw[X.out];rfl,λx f=>by simp at f⟩,?_⟩;exact(i.out.trans (g.out.mono L)).trans ((Below.refl w1.heap.size w1).alloc jn _ |>.mono (by omega))
  ·obtain rfl:n=0:=by omega
   have hr:rest= []:=iw d.symm
   have x7:bA (bs.length+1) bs=(l.map bJ.kb,0):=by
    rw[I.out,hr,zY];unfold glue
    simp
   have h2:=jq x7;clear x7 hr d
   go_wp2_with fail
   go_ret2
   exact⟨⟨_,l,by rw[h2.out];rfl,hO.out,by rw[h2.out],h7.out⟩,i.out⟩
end Frame
namespace Frame
open Mem Crc
theorem Aa(k:UInt8)(n:Nat)(h:n<=1048576):num (head k n)=n:=by
 unfold num head;simp only[List.getD_cons_succ,List.getD_cons_zero,UInt8.toNat_ofNat']
 omega
theorem Vf(k:UInt8)(b:List UInt8)(hb:b.length<=1048576):got (bq k b)=(k,b,13+b.length,0):=by
 have hl:=jY k b;have i: (marked (head k b.length)).length=9:=by rw[gG];rfl
 have a: (bq k b).take 9=marked (head k b.length):=by
  unfold bq;rw[rT (by omega),jW (by omega)]
 have d: (bq k b).drop 9=marked b:=by
  unfold bq;rw[List.drop_append,List.drop_eq_nil_of_le (by omega),i]
  simp
 have g:=(wT (head k b.length)).2;have h:=(wT b).2;have e: (marked b).take (b.length+4)=marked b:=jW (by rw[gG];omega);have f:aB (marked (head k b.length))=head k b.length:=uq _;unfold got;rw[a,d,f,Aa k b.length hb,e,g,h,uq,hl];rw[if_neg (by omega),if_neg (by decide),if_neg (by omega),if_neg (by omega),if_neg (by decide)]
 rfl
theorem Uw(k:UInt8)(b:List UInt8)(hb:b.length<=1048576):bA ((bq k b).length+1) (bq k b)=([(k,b)],0):=by
 have hl:=jY k b;have d:bq k b≠[]:=λe=>by rw[e]at hl;simp at hl
 have a:=Vf k b hb;unfold bA;rw[if_neg d,a];have hd: (bq k b).drop (13+b.length)= []:=List.drop_eq_nil_of_le (by omega);simp only[hd,zY]
 rfl
end Frame
namespace Runs
open Merge Go.Proofs.YtndkohocgfmamaaGreatDoor.Frame Crc
def gT(wd:Nat):Nat->B->List B
 |0,_=>[]
 |m+1,b=>b.take wd ::gT wd m (b.drop wd)
theorem uh(wd:Nat):∀(m:Nat) (b:B),(gT wd m b).length=m
 |0,_=>rfl
 |m+1,b=>congrArg Nat.succ (uh wd m (b.drop wd))
theorem Fe(wd:Nat):∀(m:Nat) (b:B) (k:Nat),k<m->(gT wd m b)[k]? =some ((b.drop (k*wd)).take wd)
 |0,_,_,h=>absurd h (je _)
 |m+1,b,0,_=>by simp[gT]
 |m+1,b,k+1,h=>by
  unfold gT;rw[jb,Fe wd m (b.drop wd) k (by omega),List.drop_drop,show wd+k*wd=(k+1)*wd by rw[eY,Nat.add_comm]]
theorem uj{wd:Nat}:∀{m:Nat} {b:B},b.length=m*wd->∀x∈gT wd m b,x.length=wd
 |0,_,_,x,a=>by cases a
 |m+1,b,h,x,a=>by
  rw[eY]at h;rcases List.mem_cons.1 a with rfl|a
  ·rw[jT];omega
  ·exact uj (b:=b.drop wd) (by rw[List.length_drop];omega) x a
theorem AR{wd:Nat}:∀{m:Nat} {b:B},b.length=m*wd->(gT wd m b).flatten=b
 |0,b,h=>by
  rw[Nat.zero_mul]at h;rw[iw h]
  rfl
 |m+1,b,h=>by
  rw[eY]at h;unfold gT;rw[List.flatten_cons,AR (b:=b.drop wd) (by rw[List.length_drop];omega),iq]
def iT(wd:Nat)(k:UInt8)(body:B):Option (List B):=
 if k=82/\body.length%wd=0/\aS (gT wd (body.length/wd) body)then some (gT wd (body.length/wd) body)else none
def readR(wd:Nat)(b:List UInt8):Option (List B):=
 if(bA (b.length+1) b).2=0 then
  match (bA (b.length+1) b).1 with
  | [(k,body)]=>iT wd k body
  |_=>none
 else none
variable {b:List UInt8}{k:UInt8}{body:B}{l:List B}
theorem Fa{wd:Nat}(h:¬(bA (b.length+1) b).2=0):readR wd b=none:=if_neg h
theorem Fb{wd:Nat}(h: (bA (b.length+1) b).1.length≠1):readR wd b=none:=by
 unfold readR
 split
 ·split
  ·rename_i e
   rw[e]at h;exact absurd rfl h
  ·rfl
 ·rfl
theorem wP{wd:Nat}(h: (bA (b.length+1) b).2=0)(a: (bA (b.length+1) b).1= [(k,body)]):readR wd b=iT wd k body:=by
 unfold readR;rw[if_pos h,a]
theorem Vg{bs:List UInt8}(h: (got bs).2.2.2=0): (got bs).2.1.length<=bs.length:=by
 unfold got at h⊢
 split at h
 ·cases h
 ·rename_i a
  rw[if_neg a]
  split at h
  ·cases h
  ·rename_i d
   rw[if_neg d]
   split at h
   ·cases h
   ·rename_i e
    rw[if_neg e]
    split at h
    ·cases h
    ·rename_i f
     rw[if_neg f]
     split at h
     ·cases h
     ·rename_i g
      rw[if_neg g];dsimp only;unfold aB;simp only[jT,List.length_drop]
      omega
theorem wQ:∀(f:Nat) (bs:List UInt8),∀x∈(bA f bs).1,x.2.length<=bs.length
 |0,_,x,a=>by cases a
 |f+1,bs,x,a=>by
  unfold bA at a
  split at a
  ·cases a
  ·split at a
   ·rename_i d
    dsimp only at a
    split at a
    ·rcases List.mem_cons.1 a with rfl|a
     ·dsimp only;have:=Vg d
      omega
     ·have:=wQ f _ x a;rw[List.length_drop]at this
      omega
    ·cases a
   ·cases a
theorem wR:aS l↔∀i a b,l[i]? =some a->l[i+1]? =some b->a<=b:=by
 constructor
 ·intro h i a b ha hb;obtain⟨f,rfl⟩:=jS.1 ha;obtain⟨g,rfl⟩:=jS.1 hb;exact qJ.1 h i (i+1) f g (Nat.lt_succ_self i)
 ·induction l with
  |nil=>exact λ_=>List.Pairwise.nil
  |cons a t m=>
   intro h;have e:aS t:=m (λi x y d j=>h (i+1) x y (by simpa using d) (by simpa using j));refine eF.2 ⟨λx d=>?_,e⟩
   cases t with
   |nil=>cases d
   |cons c r=>
    have hc:a<=c:=h 0 a c rfl rfl;rcases List.mem_cons.1 d with rfl|d
    ·exact hc
    ·exact mE hc ((eF.1 e).1 x d)
theorem Pq{b:B}(h:aS l)(hb:∀x,l.getLast? =some x->x<=b):aS (l++ [b]):=by
 refine gM.2 ⟨h,List.pairwise_singleton _ _,λx a y e=>?_⟩;rw[jE.1 e];rcases nK l with rfl|⟨t,z,rfl⟩
 ·cases a
 ·have d:=hb z (by simp);rw[nL]at a h;rcases List.mem_append.1 a with a|a
  ·exact mE ((gM.1 h).2.2 x a z (by simp)) d
  ·rw[jE.1 a];exact d
theorem BP{wd:Nat}(h:readR wd b=some l):∃k body,(bA (b.length+1) b).1= [(k,body)]/\iT wd k body=some l:=by
 unfold readR at h
 split at h
 ·split at h
  ·rename_i k body e
   exact⟨k,body,e,h⟩
  ·cases h
 ·cases h
theorem BQ{wd:Nat}(h:iT wd k body=some l):body.length=body.length/wd*wd/\aS l/\l=gT wd (body.length/wd) body:=by
 unfold iT at h
 split at h
 ·rename_i a
  injection h with h;have d:=Nat.div_add_mod' body.length wd;exact⟨by omega,by rw[<-h];exact a.2.2,h.symm⟩
 ·cases h
theorem readR_wide{wd:Nat}(h:readR wd b=some l):∀x∈l,x.length=wd:=by
 obtain⟨k,body,_,a⟩:=BP h;obtain⟨d,_,rfl⟩:=BQ a;exact uj d
theorem readR_rises{wd:Nat}(h:readR wd b=some l):aS l:=by
 obtain⟨k,body,_,a⟩:=BP h;exact(BQ a).2.1
theorem readR_len{wd:Nat}(_:0<wd)(h:readR wd b=some l):l.length<=b.length:=by
 obtain⟨k,body,e,a⟩:=BP h;obtain⟨d,_,rfl⟩:=BQ a;rw[uh];have:=wQ (b.length+1) b (k,body) (by rw[e];simp);dsimp only at this;have:=Nat.div_le_self body.length wd
 omega
end Runs
namespace aX
open Go.RowKit Go.Deep Mem Crc
theorem Vh(a b:Nat)(w:World): (callFunc 76 #[.int .u64 (a:Int),.int .u64 (b:Int),.int .u64 0]).run prog w=.ok (.value (.tuple #[.int .u64 (((a+b)%18446744073709551616:Nat):Int),.int .u64 (((a+b)/18446744073709551616:Nat):Int)])) w:=by
 rw[run_callFunc_extern func76 (by kernel_rfl) (by kernel_rfl) (by kernel_rfl) (e:=add64Entry) (by kernel_rfl),run_add64 a b 0 (by omega) (by omega) (by omega) (by omega)];simp only[Result.andThen]
 congr 5 <;> omega
theorem rD(a b:Nat)(ha:a<=av)(hb:b<=av)(w:World):
  Calls prog 42 #[.int .u64 (a:Int),.int .u64 (b:Int)] w λe w'=>e=.returned (.int .u64 ((sat (a+b):Nat):Int))/\w=w':=by
 have f:=Vh a b w;unfold av at ha hb
 by_cases h:a+b<=18446744073709551615
 ·rw[oP (by omega),Nat.div_eq_of_lt (by omega)]at f;have d:sat (a+b)=a+b:=uO h;rw[d];clear ha hb h d
  go_enter func42,ntmps42
  go_wp2_with fail
  go_ret
  exact⟨rfl,rfl⟩
 ·have hd: (a+b)/18446744073709551616=1:=by omega
  rw[hd]at f;have d:sat (a+b)=18446744073709551615:=by unfold sat av;rw[if_neg (by omega)]
  rw[d];clear ha hb h d hd
  go_enter func42,ntmps42
  go_wp2_with fail
  go_ret
  exact⟨rfl,rfl⟩
theorem TY(a b:Nat)(ha:a<=av)(hb:b<=av)(w:World):
  Calls prog 90 #[.int .u64 (a:Int),.int .u64 (b:Int)] w λe w'=>e=.returned (.int .u64 ((sat (a+b):Nat):Int))/\w=w':=by
 unfold av at ha hb
 by_cases h:a+b<=18446744073709551615
 ·have d:sat (a+b)=a+b:=uO h;have f:decide (18446744073709551615-(b:Int) <(a:Int))=false:=by simp;omega
  have g:¬18446744073709551615-(b:Int) <(a:Int):=by omega
  rw[d];clear d
  go_enter func90,ntmps90
  go_wp2_with fail
  go_ret
  exact⟨by push_cast;rfl,rfl⟩
 ·have d:sat (a+b)=18446744073709551615:=by unfold sat av;rw[if_neg (by omega)]
  have f:decide (18446744073709551615-(b:Int) <(a:Int))=true:=by simp;omega
  have g:18446744073709551615-(b:Int) <(a:Int):=by omega
  rw[d];clear d h
  go_enter func90,ntmps90
  go_wp2_with fail
  go_ret
  exact⟨rfl,rfl⟩
theorem Vi(s v k:Nat)(a:k=s*4294967296+v)(e:s<4294967296)(d:v<4294967296):bits .or .u64 ((s:Int)*4294967296) (v:Int)=(k:Int):=by
 have:=u64_or_nat (s*4294967296) v (by omega) (by omega);rw[nat_join 32 (s*4294967296) v (by simp) (by simpa using d)]at this;rw[a]
 simpa using this
theorem qA(x m:Nat):Value.int .u8 ((x:Int)/(m:Int)%256)=bv (UInt8.ofNat (x/m)):=by
 rw[<-BF]
 congr 1
theorem Vj(x:Nat):Value.int .u8 ((x:Int)%256)=bv (UInt8.ofNat x):=by
 rw[<-BF]
 congr 1
theorem Vk(x:Nat)(h:x<18446744073709551616):Value.int .u8 ((x:Int)/72057594037927936)=bv (UInt8.ofNat (x/72057594037927936)):=by
 rw[<-qA]
 congr 1
 omega
variable {b:UInt8}{k c q:Nat}
theorem mg{l:List UInt8}{n:Nat}(h:l[n]? =some b):l.take (n+1)=l.take n++ [b]:=by rw[bF,h];rfl
theorem Vl(k c:Nat)(j:Nat)(d:j<2)(q:Nat)(hq:q<8): (ai (k,c))[8*j+q]? =some (UInt8.ofNat ((if j=0 then k else c)/256^(7-q))):=by
 have a:∀(x:Nat),(bB 8 x)[q]? =some (UInt8.ofNat (x/256^(7-q))):=λx=>by
  rcases(show q=0\/q=1\/q=2\/q=3\/q=4\/q=5\/q=6\/q=7 by omega)with rfl|rfl|rfl|rfl|rfl|rfl|rfl|rfl <;> rfl
 unfold ai;rcases(show j=0\/j=1 by omega)with rfl|rfl
 ·rw[iK (by rw[gJ];omega)]
  simpa using a k
 ·rw[iL (by rw[gJ];omega),gJ,show 8*1+q-8=q by omega]
  simpa using a c
theorem Il(s v c k:Nat)(J:k=s*4294967296+v)(S:s<4294967296)(T:v<4294967296)(hc:c<18446744073709551616)(w:World):
  Calls prog 66 #[.agg #[.int .u32 (s:Int),.int .u32 (v:Int)],.int .u64 (c:Int)] w λe w'=>∃val,e=.returned val/\ak w' w.heap.size val (ai (k,c))/\Below w.heap.size w w':=by
 obtain⟨D,z,A,B,C⟩:=info_parts jX;have Q:=Vi s v k J S T;have X:k<18446744073709551616:=by omega
 clear J
 go_enter func66,ntmps66
 go_wp2_with fail
 clear Q;have N:=jq ((Below.refl w.heap.size w).alloc jn (.cells #[.int .u32 (s:Int),.int .u32 (v:Int)] 99));have O:=jq (World.ownsRow_nil (w.alloc (.cells #[.int .u32 (s:Int),.int .u32 (v:Int)] 99)) w.heap.size 5 1)
 go_loopw[5,19] (λo i wr=>∃j:Nat,j<=2/\i=.int .i64 j/\Hid (ak wr w.heap.size o ((ai (k,c)).take (8*j)))/\Hid (Below w.heap.size w wr)) (λ_ i _=>2-(intOf i).toNat)
 case atStart=>exact⟨0,by omega,rfl,O,N⟩
 case round=>
  obtain⟨j,W,rfl,L,I⟩:=hrel;obtain⟨M,rfl⟩:∃M:World,M=wr:=⟨_,rfl⟩
  by_cases hlt:j<2
  ·obtain⟨x,H⟩:∃x:Nat,x=(if j=0 then k else c):=⟨_,rfl⟩;have U:x<18446744073709551616:=by rw[H];split <;> omega
   have u:=jq (λq hq=>(Vl k c j hlt q hq));rw[<-H]at u
   have V:∀w:World,(Instr.index 190 (.agg #[.int .u64 (k:Int),.int .u64 (c:Int)]) (.int .i64 (j:Int))).run prog w=.ok (.int .u64 (x:Int)) w:=λw=>by
    rw[H];rcases(show j=0\/j=1 by omega)with rfl|rfl
    ·kernel_rfl
    ·kernel_rfl
   clear H;have P:decide ((j:Int) <2)=true:=by simp;omega
   go_wp2_with fail
   clear P
   go_loopw[5,22] (λo i wr=>∃q:Nat,q<=8/\i=.int .i64 q/\Hid (ak wr w.heap.size o ((ai (k,c)).take (8*j+q)))/\Hid (Below w.heap.size w wr)) (λ_ i _=>8-(intOf i).toNat)
   case atStart=>exact⟨0,by omega,rfl,L,I⟩
   case round=>
    obtain⟨q,Y,rfl,R,t⟩:=hrel;have y:=t.out.size;have h:=R.out;have hl: ((ai (k,c)).take (8*j+q)).length=8*j+q:=by rw[jT,dZ];omega
    by_cases hq:q<8
    ·rcases(show q=0\/q=1\/q=2\/q=3\/q=4\/q=5\/q=6\/q=7 by omega)with rfl|rfl|rfl|rfl|rfl|rfl|rfl|rfl
     ·have m:=jq (mg (u.out 0 (by omega)));have E:=jq (Vk x U);simp only[Nat.add_zero]at h hl m
      go_wp2_with (first|(at_builtin;refine wpList_append_own _ rfl _ _ 84 rfl w.heap.size 5 D (.int .u8 0) 1 1 underlying84 z A B C rfl (by decide) _ _ _ rfl (h.alloc _) ⟨wr.heap.size,0,none⟩ 1 1 [bv (UInt8.ofNat (x/256^(7-0)))] rfl rfl (one_at E.out) (one_cell _) ?c03 ?BG ?BH ?_))
      case c03=>rw[hl];unfold maxLen;omega
      case BG=>rw[hl];omega
      case BH=>simp;omega
      intro r w3 g f _;have a:Below w.heap.size w w3:=(t.out.alloc y _).grown f (by simp;omega) (λq hq=>(h.lt q hq).1)
      have d:ak w3 w.heap.size r ((ai (k,c)).take (8*j+(0+1))):=by
       unfold ak;rw[show 8*j+(0+1)=8*j+0+1 by omega,m.out,aZ,jL,hl,fA];exact g
      have n:=jq a;have p:=jq d;clear g f a d
      go_wp2_with fail
      go_roundw
      case rel=>exact⟨0+1,by omega,rfl,p,n⟩
      case measure=>simp[intOf]
     ·have m:=jq (mg (u.out 1 (by omega)));have E:=jq (qA x 281474976710656)
      go_wp2_with (first|(at_builtin;refine wpList_append_own _ rfl _ _ 84 rfl w.heap.size 5 D (.int .u8 0) 1 1 underlying84 z A B C rfl (by decide) _ _ _ rfl (h.alloc _) ⟨wr.heap.size,0,none⟩ 1 1 [bv (UInt8.ofNat (x/256^(7-1)))] rfl rfl (one_at E.out) (one_cell _) ?c13 ?c14 ?c15 ?_))
      case c13=>rw[hl];unfold maxLen;omega
      case c14=>rw[hl];omega
      case c15=>simp;omega
      intro r w3 g f _;have a:Below w.heap.size w w3:=(t.out.alloc y _).grown f (by simp;omega) (λq hq=>(h.lt q hq).1)
      have d:ak w3 w.heap.size r ((ai (k,c)).take (8*j+(1+1))):=by
       unfold ak;rw[show 8*j+(1+1)=8*j+1+1 by omega,m.out,aZ,jL,hl,fA];exact g
      have n:=jq a;have p:=jq d;clear g f a d
      go_wp2_with fail
      go_roundw
      case rel=>exact⟨1+1,by omega,rfl,p,n⟩
      case measure=>simp[intOf]
     ·have m:=jq (mg (u.out 2 (by omega)));have E:=jq (qA x 1099511627776)
      go_wp2_with (first|(at_builtin;refine wpList_append_own _ rfl _ _ 84 rfl w.heap.size 5 D (.int .u8 0) 1 1 underlying84 z A B C rfl (by decide) _ _ _ rfl (h.alloc _) ⟨wr.heap.size,0,none⟩ 1 1 [bv (UInt8.ofNat (x/256^(7-2)))] rfl rfl (one_at E.out) (one_cell _) ?c23 ?c24 ?BI ?_))
      case c23=>rw[hl];unfold maxLen;omega
      case c24=>rw[hl];omega
      case BI=>simp;omega
      intro r w3 g f _;have a:Below w.heap.size w w3:=(t.out.alloc y _).grown f (by simp;omega) (λq hq=>(h.lt q hq).1)
      have d:ak w3 w.heap.size r ((ai (k,c)).take (8*j+(2+1))):=by
       unfold ak;rw[show 8*j+(2+1)=8*j+2+1 by omega,m.out,aZ,jL,hl,fA];exact g
      have n:=jq a;have p:=jq d;clear g f a d
      go_wp2_with fail
      go_roundw
      case rel=>exact⟨2+1,by omega,rfl,p,n⟩
      case measure=>simp[intOf]
     ·have m:=jq (mg (u.out 3 (by omega)));have E:=jq (qA x 4294967296)
      go_wp2_with (first|(at_builtin;refine wpList_append_own _ rfl _ _ 84 rfl w.heap.size 5 D (.int .u8 0) 1 1 underlying84 z A B C rfl (by decide) _ _ _ rfl (h.alloc _) ⟨wr.heap.size,0,none⟩ 1 1 [bv (UInt8.ofNat (x/256^(7-3)))] rfl rfl (one_at E.out) (one_cell _) ?BJ ?c34 ?BK ?_))
      case BJ=>rw[hl];unfold maxLen;omega
      case c34=>rw[hl];omega
      case BK=>simp;omega
      intro r w3 g f _;have a:Below w.heap.size w w3:=(t.out.alloc y _).grown f (by simp;omega) (λq hq=>(h.lt q hq).1)
      have d:ak w3 w.heap.size r ((ai (k,c)).take (8*j+(3+1))):=by
       unfold ak;rw[show 8*j+(3+1)=8*j+3+1 by omega,m.out,aZ,jL,hl,fA];exact g
      have n:=jq a;have p:=jq d;clear g f a d
      go_wp2_with fail
      go_roundw
      case rel=>exact⟨3+1,by omega,rfl,p,n⟩
      case measure=>simp[intOf]
     ·have m:=jq (mg (u.out 4 (by omega)));have E:=jq (qA x 16777216)
      go_wp2_with (first|(at_builtin;refine wpList_append_own _ rfl _ _ 84 rfl w.heap.size 5 D (.int .u8 0) 1 1 underlying84 z A B C rfl (by decide) _ _ _ rfl (h.alloc _) ⟨wr.heap.size,0,none⟩ 1 1 [bv (UInt8.ofNat (x/256^(7-4)))] rfl rfl (one_at E.out) (one_cell _) ?Vm ?Vn ?Vo ?_))
      case Vm=>rw[hl];unfold maxLen;omega
      case Vn=>rw[hl];omega
      case Vo=>simp;omega
      intro r w3 g f _;have a:Below w.heap.size w w3:=(t.out.alloc y _).grown f (by simp;omega) (λq hq=>(h.lt q hq).1)
      have d:ak w3 w.heap.size r ((ai (k,c)).take (8*j+(4+1))):=by
       unfold ak;rw[show 8*j+(4+1)=8*j+4+1 by omega,m.out,aZ,jL,hl,fA];exact g
      have n:=jq a;have p:=jq d;clear g f a d
      go_wp2_with fail
      go_roundw
      case rel=>exact⟨4+1,by omega,rfl,p,n⟩
      case measure=>simp[intOf]
     ·have m:=jq (mg (u.out 5 (by omega)));have E:=jq (qA x 65536)
      go_wp2_with (first|(at_builtin;refine wpList_append_own _ rfl _ _ 84 rfl w.heap.size 5 D (.int .u8 0) 1 1 underlying84 z A B C rfl (by decide) _ _ _ rfl (h.alloc _) ⟨wr.heap.size,0,none⟩ 1 1 [bv (UInt8.ofNat (x/256^(7-5)))] rfl rfl (one_at E.out) (one_cell _) ?c53 ?Vq ?Vr ?_))
      case c53=>rw[hl];unfold maxLen;omega
      case Vq=>rw[hl];omega
      case Vr=>simp;omega
      intro r w3 g f _;have a:Below w.heap.size w w3:=(t.out.alloc y _).grown f (by simp;omega) (λq hq=>(h.lt q hq).1)
      have d:ak w3 w.heap.size r ((ai (k,c)).take (8*j+(5+1))):=by
       unfold ak;rw[show 8*j+(5+1)=8*j+5+1 by omega,m.out,aZ,jL,hl,fA];exact g
      have n:=jq a;have p:=jq d;clear g f a d
      go_wp2_with fail
      go_roundw
      case rel=>exact⟨5+1,by omega,rfl,p,n⟩
      case measure=>simp[intOf]
     ·have m:=jq (mg (u.out 6 (by omega)));have E:=jq (qA x 256)
      go_wp2_with (first|(at_builtin;refine wpList_append_own _ rfl _ _ 84 rfl w.heap.size 5 D (.int .u8 0) 1 1 underlying84 z A B C rfl (by decide) _ _ _ rfl (h.alloc _) ⟨wr.heap.size,0,none⟩ 1 1 [bv (UInt8.ofNat (x/256^(7-6)))] rfl rfl (one_at E.out) (one_cell _) ?Vs ?c64 ?Vt ?_))
      case Vs=>rw[hl];unfold maxLen;omega
      case c64=>rw[hl];omega
      case Vt=>simp;omega
      intro r w3 g f _;have a:Below w.heap.size w w3:=(t.out.alloc y _).grown f (by simp;omega) (λq hq=>(h.lt q hq).1)
      have d:ak w3 w.heap.size r ((ai (k,c)).take (8*j+(6+1))):=by
       unfold ak;rw[show 8*j+(6+1)=8*j+6+1 by omega,m.out,aZ,jL,hl,fA];exact g
      have n:=jq a;have p:=jq d;clear g f a d
      go_wp2_with fail
      go_roundw
      case rel=>exact⟨6+1,by omega,rfl,p,n⟩
      case measure=>simp[intOf]
     ·have m:=jq (mg (u.out 7 (by omega)));have E:=jq (show Value.int .u8 ((x:Int)%256)=bv (UInt8.ofNat (x/256^(7-7)))by rw[Vj];simp)
      go_wp2_with (first|(at_builtin;refine wpList_append_own _ rfl _ _ 84 rfl w.heap.size 5 D (.int .u8 0) 1 1 underlying84 z A B C rfl (by decide) _ _ _ rfl (h.alloc _) ⟨wr.heap.size,0,none⟩ 1 1 [bv (UInt8.ofNat (x/256^(7-7)))] rfl rfl (one_at E.out) (one_cell _) ?Vu ?Vv ?c75 ?_))
      case Vu=>rw[hl];unfold maxLen;omega
      case Vv=>rw[hl];omega
      case c75=>simp;omega
      intro r w3 g f _;have a:Below w.heap.size w w3:=(t.out.alloc y _).grown f (by simp;omega) (λq hq=>(h.lt q hq).1)
      have d:ak w3 w.heap.size r ((ai (k,c)).take (8*j+(7+1))):=by
       unfold ak;rw[show 8*j+(7+1)=8*j+7+1 by omega,m.out,aZ,jL,hl,fA,show UInt8.ofNat (x/256^(7-7))=UInt8.ofNat x by simp];exact g
      have n:=jq a;have p:=jq d;clear g f a d
      go_wp2_with fail
      go_roundw
      case rel=>exact⟨7+1,by omega,rfl,p,n⟩
      case measure=>simp[intOf]
    ·obtain rfl:q=8:=by omega
     have G:=jq h;clear h hl
     go_wp2_with fail
     go_roundw
     case rel=>exact⟨j+1,by omega,by simp,by rw[show 8*(j+1)=8*j+8 by omega];exact G,t⟩
     case measure=>simp[intOf];omega
  ·obtain rfl:j=2:=by omega
   have G:=jq L.out;rw[jW (by rw[dZ];exact aj _)]at G
   go_wp2_with fail
   go_ret
   exact⟨_,rfl,G.out,I.out⟩
theorem ou(l:List UInt8):∀n,bO l n<(n+1)*256^l.length:=by
 induction l with
 |nil=>intro n;simp[bO]
 |cons c l a=>
  intro n;unfold bO;refine aD (a _) ?_;have hc:=c.toNat_lt;rw[List.length_cons,iJ,iy (256^l.length) 256,<-mG];refine jD _ ?_;simp only[Nat.reducePow]at hc
  omega
def x0(k c q:Nat):Nat:=bO ((ai (k,c)).take (min q 8)) 0
def x1(k c q:Nat):Nat:=bO (((ai (k,c)).drop 8).take (q-8)) 0
theorem Vw(k c q:Nat)(a:k<18446744073709551616)(hq:8<=q):x0 k c q=k:=by
 unfold x0;rw[Nat.min_eq_right hq];unfold ai;rw[rT (by rw[gJ];exact aj _),jW (by rw[gJ];exact aj _),xM 8 k 0 (by rw[show(256:Nat)^8=18446744073709551616 by decide];exact a)]
 omega
theorem BR(k c q:Nat)(hq:q<=8):x1 k c q=0:=by
 unfold x1;rw[show q-8=0 by omega]
 rfl
theorem Vx(k c:Nat)(hc:c<18446744073709551616):x1 k c 16=c:=by
 unfold x1 ai;rw[List.drop_append_of_le_length (by rw[gJ];exact aj _),rQ (by rw[gJ];exact aj _),List.nil_append,jW (by rw[gJ];omega),xM 8 c 0 (by rw[show(256:Nat)^8=18446744073709551616 by decide];exact hc)]
 omega
theorem xJ(l:List UInt8)(b:UInt8)(n:Nat):bO (l++ [b]) n=256*bO l n+b.toNat:=by rw[Ip];rfl
theorem Vy(hq:q<8)(hb: (ai (k,c))[q]? =some b):x0 k c (q+1)=x0 k c q*256+b.toNat/\x0 k c q<72057594037927936:=by
 unfold x0;rw[qC (by omega),qC (by omega),mg hb,xJ];refine⟨by omega,aD (ou _ _) ?_⟩;rw[jT,dZ,qC (by omega),Nat.zero_add,Nat.one_mul];exact ax (mq (by decide) (show q<=7 by omega)) (by decide)
theorem Vz(hq:8<=q):x0 k c (q+1)=x0 k c q:=by
 unfold x0;rw[Nat.min_eq_right (by omega),Nat.min_eq_right (by omega)]
theorem VA(d:8<=q)(hq:q<16)(hb: (ai (k,c))[q]? =some b):x1 k c (q+1)=x1 k c q*256+b.toNat/\x1 k c q<72057594037927936:=by
 unfold x1;have a: ((ai (k,c)).drop 8)[q-8]? =some b:=by rw[List.getElem?_drop,show 8+(q-8)=q by omega];exact hb
 rw[show q+1-8=(q-8)+1 by omega,mg a,xJ];refine⟨by omega,aD (ou _ _) ?_⟩;rw[jT,List.length_drop,dZ,qC (by omega),Nat.zero_add,Nat.one_mul];exact ax (mq (by decide) (show q-8<=7 by omega)) (by decide)
theorem JG(x:Nat)(a:x<72057594037927936)(b:UInt8):bits .or .u64 ((x:Int)*256) (b.toNat:Int)=((x*256+b.toNat:Nat):Int):=by
 have hb:=b.toNat_lt;simp only[Nat.reducePow]at hb;have:=u64_or_nat (x*256) b.toNat (by omega) (by omega);rw[nat_join 8 (x*256) b.toNat (by simp) (by simpa using hb)]at this
 simpa using this
def aH(p:KC):List Value:=[.int .u32 ((p.1/4294967296:Nat):Int),.int .u32 ((p.1%4294967296:Nat):Int),.int .u64 (p.2:Int)]
theorem mK(a:Option Addr)(cp k c:Nat)(O:k<18446744073709551616)(hc:c<18446744073709551616)(w:World)(L:Lies w a ((ai (k,c)).map bv)):
  Calls prog 73 #[.slice a 16 cp] w λe w'=>e=.returned (.agg (aH (k,c)).toArray)/\Below w.heap.size w w':=by
 obtain⟨g,off,rfl,N,M⟩:=L.resolve_left (λe=>by
  have:=congrArg List.length e;rw[jP,dZ]at this;cases this)
 have H:=jq O;have R:=jq hc;have S:=jq M;have G:=jq N;clear O hc L M N
 go_enter func73,ntmps73
 go_wp2_with fail
 obtain⟨W0,r⟩:=jl ((w.alloc (.cells #[.int .u32 0,.int .u32 0,.int .u64 0] 49)).alloc (.cells #[.int .u64 0,.int .u64 0] 190));have I:Below w.heap.size w W0:=by rw[r];exact((Below.refl _ w).alloc jn _).alloc (by simp) _
 have E:Blk W0 w.heap.size 49 #[.int .u32 0,.int .u32 0,.int .u64 0]:=by rw[r];exact(Blk.new w _ _).alloc _
 have D:Blk W0 (w.heap.size+1) 190 #[.int .u64 0,.int .u64 0]:=by
  have:=Blk.new (w.alloc (.cells #[.int .u32 0,.int .u32 0,.int .u64 0] 49)) 190 #[.int .u64 0,.int .u64 0];rw[World.size_alloc]at this;rw[r];exact this
 rw[<-r];obtain⟨d,z⟩:=jl w.heap.size;rw[<-z]at E D⊢;have h1:=jq (show g<d by rw[z];exact G.out);have n:=jq z;have Q:=jq I;have T:=jq E;have P:Hid (Blk W0 (d+1) 190 #[.int .u64 ((x0 k c 0:Nat):Int),.int .u64 ((x1 k c 0:Nat):Int)]):=jq (by rw[BR k c 0 (by omega)];exact D);clear r I E D z
 go_loopw[8] (λi wr=>∃q:Nat,q<=16/\i=.int .i64 q/\Hid (Blk wr (d+1) 190 #[.int .u64 ((x0 k c q:Nat):Int),.int .u64 ((x1 k c q:Nat):Int)])/\Hid (Blk wr d 49 #[.int .u32 0,.int .u32 0,.int .u64 0])/\Hid (Below w.heap.size w wr)) (λi _=>16-(intOf i).toNat)
 case atStart=>exact⟨0,by omega,rfl,P,T,Q⟩
 case round=>
  obtain⟨q,h4,rfl,f,h,x⟩:=hrel
  by_cases hlt:q<16
  ·obtain⟨b,hb⟩:∃b,(ai (k,c))[q]? =some b:=⟨_,jg (by rw[dZ];exact hlt)⟩;have Z:=b.toNat_lt;simp only[Nat.reducePow]at Z;have h2:wr.cell? ⟨g,off+q,none⟩=some (.int .u8 (b.toNat:Int)):=(x.out.cell (p:=⟨g,off+q,none⟩) G.out).trans (S.out q _ (lI hb))
   by_cases V:q<8
   ·obtain⟨m,s⟩:=Vy V hb;have t:x1 k c (q+1)=x1 k c q:=by rw[BR k c (q+1) (by omega),BR k c q (by omega)]
    obtain⟨X,j⟩:=jl (x0 k c q);rw[<-j]at m s f;have h0:=JG X s b;have o:=f.out.cell 0;have f0:=f.out.frozen 0
    simp at o
    have hd: (q:Int)/8=0:=by omega
    have B:=jq m;have C:=jq t;have U:=jq j;have u:d≠d+1:=by omega
    have A:=jq u;clear m t j hb u
    go_wp2_with fail
    go_roundw
    case rel=>exact⟨q+1,by omega,by simp,jq (by
     have:=f.out.set 0 (.int .u64 ((X*256+b.toNat:Nat):Int));rw[B.out,C.out]
     simpa using this),jq (h.out.far (p:=⟨d+1,0,none⟩) A.out _),jq (x.out.setCell (p:=⟨d+1,0,none⟩) (by rw[n.out];exact Nat.le_succ _) _)⟩
    case measure=>simp[intOf];omega
   ·obtain⟨m,s⟩:=VA (by omega) hlt hb;have t:x0 k c (q+1)=x0 k c q:=Vz (by omega);obtain⟨X,j⟩:=jl (x1 k c q);rw[<-j]at m s f;have h0:=JG X s b;have o:=f.out.cell 1;have f0:=f.out.frozen 1
    simp at o
    have hd: (q:Int)/8=1:=by omega
    have B:=jq m;have C:=jq t;have U:=jq j;have u:d≠d+1:=by omega
    have A:=jq u;clear m t j hb u
    go_wp2_with fail
    go_roundw
    case rel=>exact⟨q+1,by omega,by simp,jq (by
     have:=f.out.set 1 (.int .u64 ((X*256+b.toNat:Nat):Int));rw[B.out,C.out]
     simpa using this),jq (h.out.far (p:=⟨d+1,1,none⟩) A.out _),jq (x.out.setCell (p:=⟨d+1,1,none⟩) (by rw[n.out];exact Nat.le_succ _) _)⟩
    case measure=>simp[intOf];omega
  ·obtain rfl:q=16:=by omega
   have f:=f.out;rw[Vw k c 16 H.out (by decide),Vx k c R.out]at f;have o:=f.cell 0;have c1:=f.cell 1
   simp at o c1
   have f0:=h.out.frozen 0;have f1:=h.out.frozen 1;have f2:=h.out.frozen 2;have v0:=h.out.cell 0;have v1:=h.out.cell 1;have v2:=h.out.cell 2
   simp at v0 v1 v2
   have h3:k/4294967296<4294967296:=by have:=H.out;omega
   go_wp2_with fail
   have y:=((h.out.set 0 (.int .u32 ((k:Int)/4294967296))).set 1 (.int .u32 ((k:Int)%4294967296))).set 2 (.int .u64 (c:Int))
   have J:Below w.heap.size w (((wr.setCell ⟨d,0,none⟩ (.int .u32 ((k:Int)/4294967296))).setCell ⟨d,1,none⟩ (.int .u32 ((k:Int)%4294967296))).setCell ⟨d,2,none⟩ (.int .u64 (c:Int))):=
    ((x.out.setCell (p:=⟨d,0,none⟩) (by rw[n.out];exact aj _) _).setCell (p:=⟨d,1,none⟩) (by rw[n.out];exact aj _) _).setCell (p:=⟨d,2,none⟩) (by rw[n.out];exact aj _) _
   obtain⟨W,Y⟩:=jl ((((wr.setCell ⟨d,0,none⟩ (.int .u32 ((k:Int)/4294967296))).setCell ⟨d,1,none⟩ (.int .u32 ((k:Int)%4294967296))).setCell ⟨d,2,none⟩ (.int .u64 (c:Int))));rw[<-Y]at y J⊢;have w0:=y.cell 0;have w1:=y.cell 1;have w2:=y.cell 2
   simp at w0 w1 w2
   refine bodyPost_ret (v:=.agg #[.int .u32 ((k:Int)/4294967296),.int .u32 ((k:Int)%4294967296),.int .u64 (c:Int)]) (by simp[results,results73,go_sem,w0,w1,w2]) rfl ⟨?_,J⟩
   simp[aH]
end aX
end Go.Proofs.YtndkohocgfmamaaGreatDoor
