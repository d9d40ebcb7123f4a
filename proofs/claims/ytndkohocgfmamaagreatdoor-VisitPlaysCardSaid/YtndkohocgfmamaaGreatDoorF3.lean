/- Part. -/
import Derived.Test.YtndkohocgfmamaaGreatDoorF0Q
import Derived.Test.YtndkohocgfmamaaGreatDoorF2
import Derived.Laws.CopyOwn
set_option maxHeartbeats 1000000
set_option maxRecDepth 100000
namespace Go.Proofs.YtndkohocgfmamaaGreatDoor
open Go.Proofs.Tryz
namespace Crc
open Go.RowKit Go.Deep Mem
def iF(x:Nat):Nat:=x/2 ^^^ 3988292384*(x%2)
def steps:Nat->Nat->Nat
 |0,x=>x
 |n+1,x=>iF (steps n x)
def pU(i:Nat):Nat:=steps 8 i
variable {x:Nat}
theorem Rt(h:x<2^32):iF x<2^32:=rV (by omega) (by omega)
theorem wJ{x:Nat}(h:x<2^32):∀n,steps n x<2^32
 |0=>h
 |n+1=>Rt (wJ h n)
def eU:List Value:=(List.range 256).map (λi=>.int .u32 (pU i:Int))
theorem Ru(x:Nat)(h:x<2^32):bits .xor .u32 ((x:Int)/2) (3988292384*bits .and .u32 (x:Int) 1%4294967296)=(iF x:Int):=by
 have a:bits .and .u32 (x:Int) 1=((x%2:Nat):Int):=by
  have:=u32_and_nat x 1 h (by decide);rw[nat_mask1]at this;exact this
 rw[a,show(3988292384*((x%2:Nat):Int)%4294967296)=((3988292384*(x%2):Nat):Int)by omega,show(x:Int)/2=((x/2:Nat):Int)by omega];exact u32_xor_nat _ _ (by omega) (by omega)
theorem zeros:Tryz.zeroCells298.toList=List.replicate 256 (Value.int .u32 0):=by kernel_rfl
structure Gj(g k:Nat)(w:World):Prop where
 blk:∃cs,Blk w g 298 cs/\cs.size=256/\∀j,j<256->cs[j]? =some (.int .u32 (if j<k then(pU j:Int)else 0))
theorem Rv(w:World):Calls prog 207 #[] w λe w'=>e=.returned (.agg eU.toArray)/\Below w.heap.size w w':=by
 have A:Tryz.zeroCells298.size=256:=by rw[<-Array.length_toList,zeros,List.length_replicate]
 have s:Blk ((w.alloc (Obj.cells Tryz.zeroCells298 298)).alloc (Obj.cells Tryz.zeroCells298 298)) w.heap.size 298 Tryz.zeroCells298:=(Blk.new w _ _).alloc _
 have t:Gj (w.heap.size+1) 0 ((w.alloc (Obj.cells Tryz.zeroCells298 298)).alloc (Obj.cells Tryz.zeroCells298 298)):=by
  refine⟨_,Blk.at_ (by simp),A,λj a=>?_⟩;rw[<-mo,zeros,List.getElem?_replicate,if_pos a]
  rfl
 have c:Below w.heap.size w ((w.alloc (Obj.cells Tryz.zeroCells298 298)).alloc (Obj.cells Tryz.zeroCells298 298)):=((Below.refl _ w).alloc jn _).alloc (by simp) _;have D:=jq s;have E:=jq t;have C:=jq c;clear s t c A
 go_enter func207,ntmps207
 go_wp2_with fail
 go_loopw[5] (λi wr=>∃k:Nat,k<=256/\i=.int .i64 k/\Hid (Blk wr w.heap.size 298 Tryz.zeroCells298)/\Hid (Gj (w.heap.size+1) k wr)/\Hid (Below w.heap.size w wr)) (λi _=>256-(intOf i).toNat)
 case atStart=>exact⟨0,by omega,rfl,D,E,C⟩
 case round=>
  obtain⟨k,T,rfl,h,l,c⟩:=hrel
  by_cases hlt:k<256
  ·obtain⟨q,hcs,f,b⟩:=l.out.blk;have J:=(hcs.cell k).trans (b k hlt);have S:=hcs.frozen k;rw[if_neg (qK k)]at J
   have U:IntKind.u32.wrap (k:Int)=k:=by
    have:IntKind.u32.wrap (k:Int)=(k:Int)%4294967296:=by simp[IntKind.wrap,IntKind.bits,IntKind.signed]
    omega
   have G:=jq hcs;have B:=jq b;have o:=jq f;clear hcs b f
   go_wp2_with fail
   go_loopw[3,10] (λx i R=>∃n:Nat,n<=8/\i=.int .i64 n/\x=.int .u32 (steps n k:Int)/\wr=R) (λ_ i _=>8-(intOf i).toNat)
   case atStart=>exact⟨0,by omega,rfl,rfl,rfl⟩
   case round=>
    obtain⟨n,W,rfl,rfl,rfl⟩:=hrel
    by_cases V:n<8
    ·obtain⟨x,g⟩:=jl (steps n k);have P:x<2^32:=by rw[g];exact wJ (by omega) n
     rw[<-g];have O:iF x=steps (n+1) k:=by rw[g];rfl
     clear g
     go_wp2_with fail
     refine⟨⟨n+1,by omega,by simp,?_,trivial⟩,?_⟩
     ·rw[Ru x P,O]
     ·simp[intOf];omega
    ·obtain rfl:n=8:=by omega
     have y:=Blk.set G.out k (.int .u32 (steps 8 k:Int));have v:=h.out.far (p:=⟨w.heap.size+1,k,none⟩) (by show w.heap.size≠w.heap.size+1;omega) (.int .u32 (steps 8 k:Int));have d:=c.out.setCell (show w.heap.size<=(⟨w.heap.size+1,k,none⟩:Addr).block from Nat.le_succ _) (.int .u32 (steps 8 k:Int));have I:=jq y;have H:=jq v;have F:=jq d;clear y v d
     go_wp2_with fail
     refine⟨⟨k+1,by omega,by simp,H,jq ⟨_,I.out,by rw[Array.size_setIfInBounds];exact o.out,λj a=>?_⟩,F⟩,?_⟩
     ·rw[kI]
      by_cases e:k=j
      ·subst e;rw[if_pos rfl,if_pos (by rw[o.out];exact a),if_pos (by omega)]
       rfl
      ·rw[if_neg e,B.out j a]
       by_cases r:j<k
       ·rw[if_pos r,if_pos (by omega)]
       ·rw[if_neg r,if_neg (by omega)]
     ·simp[intOf];omega
  ·obtain rfl:k=256:=by omega
   obtain⟨q,hcs,f,b⟩:=l.out.blk
   have L:q=eU.toArray:=by
    apply Array.ext_getElem?
    intro j
    by_cases a:j<256
    ·rw[b j a,if_pos a]
     simp[eU,a]
    ·rw[Array.getElem?_eq_none (by omega),Array.getElem?_eq_none (by simp[eU];omega)]
   subst L
   have M: (eU.toArray).all (·.oneCell')=true:=by
    rw[Array.all_eq_true_iff_forall_mem];intro u z
    simp[eU]at z
    obtain⟨j,_,rfl⟩:=z
    rfl
   have Q:Tryz.zeroCells298.size=256:=by rw[<-Array.length_toList,zeros,List.length_replicate]
   have d:Below w.heap.size w (wr.setRow w.heap.size eU.toArray):=below_setRow c.out jn _;have m:=h.out;have N:Tryz.zeroCells298.size=eU.toArray.size:=by rw[Q];simp[eU]
   clear b f h l
   go_wp2_with (first|(refine wpList_load_row rfl 298 _ rfl (w.heap.size+1) rfl 298 eU.toArray (0,0) _ hcs underlying298 rfl (by kernel_rfl) ?_)|(refine wpList_store_row rfl 298 _ _ rfl w.heap.size eU.toArray rfl rfl 298 _ m (by kernel_rfl) N M ?_))
   refine bodyPost_ret (results_cell_row results207 _ _ w.heap.size 298 eU.toArray (0,0) _ rfl (setRow_heap _ _ _ _ _ _ m) underlying298 rfl (by kernel_rfl)) rfl ⟨rfl,d⟩
def rC(x:Nat)(c:UInt8):Nat:=pU (x%256 ^^^ c.toNat) ^^^ x/256
def jK(x:Nat)(bs:List UInt8):Nat:=bs.foldl rC x
def ko(bs:List UInt8):Nat:=4294967295-jK 4294967295 bs
theorem Gl{i:Nat}(h:i<256):pU i<2^32:=wJ (by omega) 8
theorem Gm(x:Nat)(c:UInt8):x%256 ^^^ c.toNat<256:=rV (n:=8) (fJ _ (by decide)) c.toNat_lt
theorem Rw(h:x<2^32)(c:UInt8):rC x c<2^32:=rV (Gl (Gm x c)) (by omega)
theorem wI:∀(bs:List UInt8) {x:Nat},x<2^32->jK x bs<2^32
 | [],_,h=>h
 |c ::r,_,h=>wI r (Rw h c)
theorem Rx(x:Nat)(bs:List UInt8)(n:Nat)(c:UInt8)(h:bs[n]? =some c):jK x (bs.take (n+1))=rC (jK x (bs.take n)) c:=by
 unfold jK;rw[bF,h,kG]
 rfl
theorem Ry(bs:List UInt8):ko bs<2^32:=by unfold ko;omega
theorem EN(y:Nat)(h:y<2^32):bits .xor .u32 IntKind.u32.max (y:Int)=((4294967295-y:Nat):Int):=by
 have:=u32_xor_nat 4294967295 y (by decide) h;show bits .xor .u32 ((4294967295:Nat):Int) (y:Int)=_;rw[this]
 congr 1
 apply Nat.eq_of_testBit_eq
 intro i;have a:=yx (x:=y) (n:=32) h i;rw[show 2^32-(y+1)=4294967295-y by omega]at a;rw[a,Nat.testBit_xor,show(4294967295:Nat)=2^32-1 by decide,yA]
 by_cases b:i<32
 ·simp[b]
 ·simp[b]
  exact Nat.testBit_lt_two_pow (aD h (mq (by decide) (by omega)))
theorem rD(a b:Option Addr)(cp N:Nat)(bs:List UInt8)(w:World)(hb:Lies w b (bs.map bv))(ha:Lies w a [.slice b bs.length N])(h0:bs.length<=4000000000):
  Calls prog 183 #[.slice a 1 cp] w λe w'=>e=.returned (.int .u32 (ko bs:Int))/\Below w.heap.size w w':=by
 have J:=jq (Rv w);have E:=jq hb;have D:=jq ha;clear hb ha
 go_enter func183,ntmps183
 go_wp2_with fail
 refine J.out.mono ?_;rintro e w1 ⟨rfl,f⟩;have W:Tryz.zeroCells298.size=eU.toArray.size:=by rw[<-Array.length_toList,zeros,List.length_replicate];simp[eU]
 have U: (eU.toArray).all (·.oneCell')=true:=by
  rw[Array.all_eq_true_iff_forall_mem];intro u A
  simp[eU]at A
  obtain⟨j,_,rfl⟩:=A
  rfl
 have r:=heap_alloc_new w1 (.cells Tryz.zeroCells298 298);have q:=(Below.refl w1.heap.size w1).alloc jn (.cells Tryz.zeroCells298 298);have G:=jq (show Blk ((w1.alloc (.cells Tryz.zeroCells298 298)).setRow w1.heap.size eU.toArray) w1.heap.size 298 eU.toArray from setRow_heap _ _ _ _ _ _ r);have F:=jq (below_setRow (f.trans (q.mono f.size)) f.size eU.toArray);have h2:=f.size;clear q f
 go_wp2_with (first|(refine wpList_store_row rfl 298 _ _ rfl w1.heap.size eU.toArray rfl rfl 298 Tryz.zeroCells298 r (by kernel_rfl) W U ?_))
 go_loopw[4,12] (λx i wr=>∃k:Nat,k<=1/\i=.int .i64 k/\x=.int .u32 ((if k=0 then 4294967295 else jK 4294967295 bs:Nat):Int)/\Hid (Blk wr w1.heap.size 298 eU.toArray)/\Hid (Below w.heap.size w wr)) (λ_ i _=>1-(intOf i).toNat)
 case atStart=>exact⟨0,by omega,rfl,rfl,G,F⟩
 case round=>
  obtain⟨k,hk,rfl,rfl,o,g⟩:=hrel
  by_cases s:k=0
  ·subst s;obtain⟨O,X,rfl,S,Q⟩:=D.out.resolve_left (by simp);have c0:=(g.out.cell (p:=⟨O,X,none⟩) S).trans (Q 0 _ rfl);simp only[if_pos]
   go_wp2_with fail
   go_loopw[4,18] (λx i Z=>∃n:Nat,n<=bs.length/\i=.int .i64 n/\x=.int .u32 (jK 4294967295 (bs.take n):Int)/\wr=Z) (λ_ i _=>bs.length-(intOf i).toNat)
   case atStart=>exact⟨0,aC _,rfl,rfl,rfl⟩
   case round=>
    obtain⟨n,hn,rfl,rfl,rfl⟩:=hrel;obtain⟨x,d⟩:=jl (jK 4294967295 (bs.take n));have B:x<2^32:=by rw[d];exact wI _ (by decide)
    rw[<-d]
    by_cases hlt:n<bs.length
    ·obtain⟨c,hc⟩:∃c,bs[n]? =some c:=⟨_,jg hlt⟩;have m:=Rx 4294967295 bs n c hc;rw[<-d]at m;obtain⟨P,Y,rfl,T,R⟩:=E.out.resolve_left (by intro e;rw[dM]at e;subst e;exact absurd hlt (je _));have c1:=(g.out.cell (p:=⟨P,Y+n,none⟩) T).trans (R n _ (lI hc));unfold bv at c1;obtain⟨j,h⟩:=jl (x%256 ^^^ c.toNat);have C:j<256:=by rw[h];exact Gm x c
     have c2:=(o.out.cell j).trans (show eU.toArray[j]? =some (.int .u32 (pU j:Int))by simp[eU,C]);obtain⟨t,l⟩:=jl (pU j);have V:t<2^32:=by rw[l];exact Gl C
     rw[<-l]at c2
     have b1:bits .xor .u8 ((x:Int)%256) (c.toNat:Int)=(j:Int):=by
      rw[h,show(x:Int)%256=((x%256:Nat):Int)by omega];exact u8_xor_nat _ _ (fJ _ (by decide)) c.toNat_lt
     have M:bits .xor .u32 (t:Int) ((x:Int)/256)=((t ^^^ x/256:Nat):Int):=by
      rw[show(x:Int)/256=((x/256:Nat):Int)by omega];exact u32_xor_nat _ _ V (by omega)
     have y:t ^^^ x/256=rC x c:=by rw[l,h];rfl
     rw[y]at M;have H:=jq m;clear y h l d hc m
     go_wp2_with fail
     refine⟨⟨n+1,by omega,by simp,?_,trivial⟩,?_⟩
     ·rw[H.out]
     ·simp[intOf];omega
    ·have e:n=bs.length:=by omega
     rw[e,jW jn]at d;have h1:bs.length<=n:=by omega
     have L:=jq d;clear d e
     go_wp2_with fail
     refine⟨⟨1,by omega,by simp,?_,o,g⟩,?_⟩
     ·rw[if_neg (by decide),L.out]
     ·simp[intOf]
  ·obtain rfl:k=1:=by omega
   simp only[if_neg s];obtain⟨x,d⟩:=jl (jK 4294967295 bs);have B:x<2^32:=by rw[d];exact wI _ (by decide)
   have v:ko bs=4294967295-x:=by rw[d];rfl
   rw[<-d];have I:=jq v;clear d v
   go_wp2_with fail
   go_ret
   refine⟨?_,g.out⟩;rw[I.out];exact congrArg (λz=>Ending.returned (Value.int .u32 z)) (EN x B)
end Crc
namespace EM
open Go.RowKit Mem Crc
theorem Gn(a b c:Nat):a ^^^ (b ^^^ c)=b ^^^ (a ^^^ c):=by rw[<-Nat.xor_assoc,Nat.xor_comm a b,Nat.xor_assoc]
theorem Rz(a b:Nat):iF (a ^^^ b)=iF a ^^^ iF b:=by
 have d: (a ^^^ b)/2=a/2 ^^^ b/2:=by
  have:=Nat.xor_div_two_pow (a:=a) (b:=b) (n:=1)
  simpa using this
 have f: (a ^^^ b)%2=(a%2 ^^^ b%2):=by
  have:=Nat.xor_mod_two_pow (a:=a) (b:=b) (n:=1)
  simpa using this
 have g:3988292384*(a%2 ^^^ b%2)=3988292384*(a%2) ^^^ 3988292384*(b%2):=by
  rcases ve a with e|e <;> rcases ve b with c|c <;> rw[e,c] <;> simp
 unfold Crc.iF;rw[d,f,g];simp only[Nat.xor_assoc,Nat.xor_comm,Gn]
theorem Gp:∀(n a b:Nat),steps n (a ^^^ b)=steps n a ^^^ steps n b
 |0,_,_=>rfl
 |n+1,a,b=>by
  show iF (steps n (a ^^^ b))=_;rw[Gp n a b,Rz]
  rfl
theorem Gq:∀(n m:Nat),steps n (m*2^n)=m
 |0,m=>by show m*1=m;omega
 |n+1,m=>by
  show iF (steps n (m*2^(n+1)))=m;rw[show m*2^(n+1)=(m*2)*2^n by rw[iJ,mG,iy 2],Gq n (m*2)];unfold Crc.iF;rw[show m*2/2=m by omega,show m*2%2=0 by omega]
  simp
theorem RA(x:Nat): (x%256) ^^^ (x/256*2^8)=x:=by
 apply Nat.eq_of_testBit_eq
 intro i;rw[Nat.testBit_xor,show(256:Nat)=2^8 from rfl,Nat.testBit_mod_two_pow,Nat.testBit_mul_two_pow,Nat.testBit_div_two_pow]
 by_cases h:i<8
 ·rw[jd h,jf (by omega)]
  simp
 ·rw[jf h,jd (by omega),show i-8+8=i by omega]
  simp
theorem Pb(x:Nat)(c:UInt8):rC x c=steps 8 (x ^^^ c.toNat):=by
 have h:x ^^^ c.toNat=(x%256 ^^^ c.toNat) ^^^ (x/256*2^8):=by
  conv=>lhs;rw[<-RA x]
  simp only[Nat.xor_assoc,Nat.xor_comm,Gn]
 unfold Crc.rC Crc.pU;rw[h,Gp 8 (x%256 ^^^ c.toNat) (x/256*2^8),Gq]
end EM
end Go.Proofs.YtndkohocgfmamaaGreatDoor
