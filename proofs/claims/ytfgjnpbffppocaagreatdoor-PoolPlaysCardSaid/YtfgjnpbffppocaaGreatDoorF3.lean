/- Part. -/
import Derived.Test.YtfgjnpbffppocaaGreatDoorF0
import Derived.Test.YtfgjnpbffppocaaGreatDoorF0Q
import Derived.Test.YtfgjnpbffppocaaGreatDoorF2
import Derived.Laws.CopyOwn
import Derived.Laws.Tables
set_option maxHeartbeats 1000000
set_option maxRecDepth 100000
namespace Go.Proofs.YtfgjnpbffppocaaGreatDoor
namespace Crc
open Go.RowKit Go.Deep Mem
def tabStep (x:Nat):Nat:=x/2 ^^^ 3988292384*(x%2)
def steps:Nat->Nat->Nat
 |0,x=>x
 |n+1,x=>tabStep (steps n x)
def tabF (i:Nat):Nat:=steps 8 i
theorem tabStep_lt {x:Nat} (h:x<2^32):tabStep x<2^32:=Nat.xor_lt_two_pow (by omega) (by omega)
theorem steps_lt {x:Nat} (h:x<2^32):∀n,steps n x<2^32
 |0=>h
 |n+1=>tabStep_lt (steps_lt h n)
def tabV:List Value:=(List.range 256).map (λi=>.int .u32 (tabF i:Int))
theorem tab_int (x:Nat) (h:x<2^32):bits .xor .u32 ((x:Int)/2) (3988292384*bits .and .u32 (x:Int) 1%4294967296)=(tabStep x:Int):=by
 have e1:bits .and .u32 (x:Int) 1=((x%2:Nat):Int):=by
  have:=u32_and_nat x 1 h (by decide);rw[nat_mask1]at this;exact this
 rw[e1,show(3988292384*((x%2:Nat):Int)%4294967296)=((3988292384*(x%2):Nat):Int)by omega,show(x:Int)/2=((x/2:Nat):Int)by omega];exact u32_xor_nat _ _ (by omega) (by omega)
theorem zeros:Tryz.zeroCells239.toList=List.replicate 256 (Value.int .u32 0):=by kernel_rfl
structure Tabbed (g k:Nat) (w:World):Prop where
 blk:∃cs,Blk w g 239 cs/\cs.size=256/\∀j,j<256->cs[j]? =some (.int .u32 (if j<k then(tabF j:Int)else 0))
theorem table_any (w:World):Calls Tryz.prog 156 #[] w λe w'=>e=.returned (.agg tabV.toArray)/\Below w.heap.size w w':=by
 have hz:Tryz.zeroCells239.size=256:=by rw[<-Array.length_toList,zeros,List.length_replicate]
 have hb0:Blk ((w.alloc (Obj.cells Tryz.zeroCells239 239)).alloc (Obj.cells Tryz.zeroCells239 239)) w.heap.size 239 Tryz.zeroCells239:=(Blk.new w _ _).alloc _
 have hb1:Tabbed (w.heap.size+1) 0 ((w.alloc (Obj.cells Tryz.zeroCells239 239)).alloc (Obj.cells Tryz.zeroCells239 239)):=by
  refine⟨_,Blk.at_ (by simp),hz,λj hj=>?_⟩;rw[<-Array.getElem?_toList,zeros,List.getElem?_replicate,if_pos hj]
  rfl
 have hB:Below w.heap.size w ((w.alloc (Obj.cells Tryz.zeroCells239 239)).alloc (Obj.cells Tryz.zeroCells239 239)):=((Below.refl _ w).alloc jn _).alloc (by simp) _;have HB0:=jq hb0;have HB1:=jq hb1;have HB:=jq hB;clear hb0 hb1 hB hz
 go_enter Tryz.func156,Tryz.ntmps156
 go_wp2_with fail
 go_loopw[5] (λi wr=>∃k:Nat,k<=256/\i=.int .i64 k/\Hid (Blk wr w.heap.size 239 Tryz.zeroCells239)/\Hid (Tabbed (w.heap.size+1) k wr)/\Hid (Below w.heap.size w wr)) (λi _=>256-(intOf i).toNat)
 case atStart=>exact⟨0,by omega,rfl,HB0,HB1,HB⟩
 case round=>
  obtain⟨k,hk,rfl,h0,h1,hB⟩:=hrel
  by_cases hlt:k<256
  ·obtain⟨cs,hcs,hsz,hat⟩:=h1.out.blk;have c0:=(hcs.cell k).trans (hat k hlt);have fz:=hcs.frozen k;rw[if_neg (Nat.lt_irrefl k)]at c0
   have hk32:IntKind.u32.wrap (k:Int)=k:=by
    have:IntKind.u32.wrap (k:Int)=(k:Int)%4294967296:=by simp[IntKind.wrap,IntKind.bits,IntKind.signed]
    omega
   have HCS:=jq hcs;have HAT:=jq hat;have HSZ:=jq hsz;clear hcs hat hsz
   go_wp2_with fail
   go_loopw[3,10] (λx i wq=>∃n:Nat,n<=8/\i=.int .i64 n/\x=.int .u32 (steps n k:Int)/\wr=wq) (λ_ i _=>8-(intOf i).toNat)
   case atStart=>exact⟨0,by omega,rfl,rfl,rfl⟩
   case round=>
    obtain⟨n,hn,rfl,rfl,rfl⟩:=hrel
    by_cases hl8:n<8
    ·obtain⟨x,hx⟩:=jl (steps n k);have hx32:x<2^32:=by rw[hx];exact steps_lt (by omega) n
     rw[<-hx];have hx1:tabStep x=steps (n+1) k:=by rw[hx];rfl
     clear hx
     go_wp2_with fail
     refine⟨⟨n+1,by omega,by simp,?_,trivial⟩,?_⟩
     ·rw[tab_int x hx32,hx1]
     ·simp[intOf];omega
    ·obtain rfl:n=8:=by omega
     have hst:=Blk.set HCS.out k (.int .u32 (steps 8 k:Int));have hfar:=h0.out.far (p:=⟨w.heap.size+1,k,none⟩) (by show w.heap.size≠w.heap.size+1;omega) (.int .u32 (steps 8 k:Int));have hbel:=hB.out.setCell (show w.heap.size<=(⟨w.heap.size+1,k,none⟩:Addr).block from Nat.le_succ _) (.int .u32 (steps 8 k:Int));have HST:=jq hst;have HFA:=jq hfar;have HBE:=jq hbel;clear hst hfar hbel
     go_wp2_with fail
     refine⟨⟨k+1,by omega,by simp,HFA,jq ⟨_,HST.out,by rw[Array.size_setIfInBounds];exact HSZ.out,λj hj=>?_⟩,HBE⟩,?_⟩
     ·rw[Array.getElem?_setIfInBounds]
      by_cases e:k=j
      ·subst e;rw[if_pos rfl,if_pos (by rw[HSZ.out];exact hj),if_pos (by omega)]
       rfl
      ·rw[if_neg e,HAT.out j hj]
       by_cases e2:j<k
       ·rw[if_pos e2,if_pos (by omega)]
       ·rw[if_neg e2,if_neg (by omega)]
     ·simp[intOf];omega
  ·obtain rfl:k=256:=by omega
   obtain⟨cs,hcs,hsz,hat⟩:=h1.out.blk
   have hcs2:cs=tabV.toArray:=by
    apply Array.ext_getElem?
    intro j
    by_cases hj:j<256
    ·rw[hat j hj,if_pos hj]
     simp[tabV,hj]
    ·rw[Array.getElem?_eq_none (by omega),Array.getElem?_eq_none (by simp[tabV];omega)]
   subst hcs2
   have hone: (tabV.toArray).all (·.oneCell')=true:=by
    rw[Array.all_eq_true_iff_forall_mem];intro u hu
    simp[tabV]at hu
    obtain⟨j,_,rfl⟩:=hu
    rfl
   have hzs:Tryz.zeroCells239.size=256:=by rw[<-Array.length_toList,zeros,List.length_replicate]
   have hbel:Below w.heap.size w (wr.setRow w.heap.size tabV.toArray):=below_setRow hB.out jn _;have H0:=h0.out;have hsz2:Tryz.zeroCells239.size=tabV.toArray.size:=by rw[hzs];simp[tabV]
   clear hat hsz h0 h1
   go_wp2_with (first|(refine wpList_load_row rfl 239 _ rfl (w.heap.size+1) rfl 239 tabV.toArray (0,0) _ hcs Tryz.underlying239 rfl (by kernel_rfl) ?_)|(refine wpList_store_row rfl 239 _ _ rfl w.heap.size tabV.toArray rfl rfl 239 _ H0 (by kernel_rfl) hsz2 hone ?_))
   refine bodyPost_ret (results_cell_row Tryz.results156 _ _ w.heap.size 239 tabV.toArray (0,0) _ rfl (setRow_heap _ _ _ _ _ _ H0) Tryz.underlying239 rfl (by kernel_rfl)) rfl ⟨rfl,hbel⟩
def crcStep (x:Nat) (c:UInt8):Nat:=tabF (x%256 ^^^ c.toNat) ^^^ x/256
def crcRun (x:Nat) (bs:List UInt8):Nat:=bs.foldl crcStep x
def sumF (bs:List UInt8):Nat:=4294967295-crcRun 4294967295 bs
theorem tabF_lt {i:Nat} (h:i<256):tabF i<2^32:=steps_lt (by omega) 8
theorem idx_lt (x:Nat) (c:UInt8):x%256 ^^^ c.toNat<256:=Nat.xor_lt_two_pow (n:=8) (Nat.mod_lt _ (by decide)) c.toNat_lt
theorem step_lt {x:Nat} (h:x<2^32) (c:UInt8):crcStep x c<2^32:=Nat.xor_lt_two_pow (tabF_lt (idx_lt x c)) (by omega)
theorem run_lt:∀(bs:List UInt8) {x:Nat},x<2^32->crcRun x bs<2^32
 | [],_,h=>h
 |c ::r,_,h=>run_lt r (step_lt h c)
theorem run_snoc (x:Nat) (bs:List UInt8) (n:Nat) (c:UInt8) (h:bs[n]? =some c):crcRun x (bs.take (n+1))=crcStep (crcRun x (bs.take n)) c:=by
 unfold crcRun;rw[List.take_add_one,h,List.foldl_append]
 rfl
theorem sumF_lt (bs:List UInt8):sumF bs<2^32:=by unfold sumF;omega
theorem not_u32 (y:Nat) (h:y<2^32):bits .xor .u32 IntKind.u32.max (y:Int)=((4294967295-y:Nat):Int):=by
 have:=u32_xor_nat 4294967295 y (by decide) h;show bits .xor .u32 ((4294967295:Nat):Int) (y:Int)=_;rw[this]
 congr 1
 apply Nat.eq_of_testBit_eq
 intro i;have h1:=Nat.testBit_two_pow_sub_succ (x:=y) (n:=32) h i;rw[show 2^32-(y+1)=4294967295-y by omega]at h1;rw[h1,Nat.testBit_xor,show(4294967295:Nat)=2^32-1 by decide,Nat.testBit_two_pow_sub_one]
 by_cases hi:i<32
 ·simp[hi]
 ·simp[hi]
  exact Nat.testBit_lt_two_pow (Nat.lt_of_lt_of_le h (Nat.pow_le_pow_right (by decide) (by omega)))
theorem sum_any (a b:Option Addr) (cp cb:Nat) (bs:List UInt8) (w:World) (hb:Lies w b (bs.map bv)) (ha:Lies w a [.slice b bs.length cb]) (hlen:bs.length<=4000000000):
  Calls Tryz.prog 134 #[.slice a 1 cp] w λe w'=>e=.returned (.int .u32 (sumF bs:Int))/\Below w.heap.size w w':=by
 have HT:=jq (table_any w);have HB:=jq hb;have HA:=jq ha;clear hb ha
 go_enter Tryz.func134,Tryz.ntmps134
 go_wp2_with fail
 refine HT.out.mono ?_;rintro e w1 ⟨rfl,hB1⟩;have hzs:Tryz.zeroCells239.size=tabV.toArray.size:=by rw[<-Array.length_toList,zeros,List.length_replicate];simp[tabV]
 have hone: (tabV.toArray).all (·.oneCell')=true:=by
  rw[Array.all_eq_true_iff_forall_mem];intro u hu
  simp[tabV]at hu
  obtain⟨j,_,rfl⟩:=hu
  rfl
 have hg:=heap_alloc_new w1 (.cells Tryz.zeroCells239 239);have hal:=(Below.refl w1.heap.size w1).alloc jn (.cells Tryz.zeroCells239 239);have HBT:=jq (show Blk ((w1.alloc (.cells Tryz.zeroCells239 239)).setRow w1.heap.size tabV.toArray) w1.heap.size 239 tabV.toArray from setRow_heap _ _ _ _ _ _ hg);have HBB:=jq (below_setRow (hB1.trans (hal.mono hB1.size)) hB1.size tabV.toArray);have hs1:=hB1.size;clear hal hB1
 go_wp2_with (first|(refine wpList_store_row rfl 239 _ _ rfl w1.heap.size tabV.toArray rfl rfl 239 Tryz.zeroCells239 hg (by kernel_rfl) hzs hone ?_))
 go_loopw[4,12] (λx i wr=>∃k:Nat,k<=1/\i=.int .i64 k/\x=.int .u32 ((if k=0 then 4294967295 else crcRun 4294967295 bs:Nat):Int)/\Hid (Blk wr w1.heap.size 239 tabV.toArray)/\Hid (Below w.heap.size w wr)) (λ_ i _=>1-(intOf i).toNat)
 case atStart=>exact⟨0,by omega,rfl,rfl,HBT,HBB⟩
 case round=>
  obtain⟨k,hk,rfl,rfl,hT,hB⟩:=hrel
  by_cases hk0:k=0
  ·subst hk0;obtain⟨ga,oa,rfl,hga,hca⟩:=HA.out.resolve_left (by simp);have c0:=(hB.out.cell (p:=⟨ga,oa,none⟩) hga).trans (hca 0 _ rfl);simp only[if_pos]
   go_wp2_with fail
   go_loopw[4,18] (λx i wq=>∃n:Nat,n<=bs.length/\i=.int .i64 n/\x=.int .u32 (crcRun 4294967295 (bs.take n):Int)/\wr=wq) (λ_ i _=>bs.length-(intOf i).toNat)
   case atStart=>exact⟨0,Nat.zero_le _,rfl,rfl,rfl⟩
   case round=>
    obtain⟨n,hn,rfl,rfl,rfl⟩:=hrel;obtain⟨x,hx⟩:=jl (crcRun 4294967295 (bs.take n));have hx32:x<2^32:=by rw[hx];exact run_lt _ (by decide)
    rw[<-hx]
    by_cases hlt:n<bs.length
    ·obtain⟨c,hc⟩:∃c,bs[n]? =some c:=⟨_,jg hlt⟩;have hrun:=run_snoc 4294967295 bs n c hc;rw[<-hx]at hrun;obtain⟨gb,ob,rfl,hgb,hcb⟩:=HB.out.resolve_left (by intro e;rw[List.map_eq_nil_iff]at e;subst e;exact absurd hlt (Nat.not_lt_zero _));have c1:=(hB.out.cell (p:=⟨gb,ob+n,none⟩) hgb).trans (hcb n _ (bv_at hc));unfold bv at c1;obtain⟨j,hj⟩:=jl (x%256 ^^^ c.toNat);have i1:j<256:=by rw[hj];exact idx_lt x c
     have c2:=(hT.out.cell j).trans (show tabV.toArray[j]? =some (.int .u32 (tabF j:Int))by simp[tabV,i1]);obtain⟨t,ht⟩:=jl (tabF j);have ht32:t<2^32:=by rw[ht];exact tabF_lt i1
     rw[<-ht]at c2
     have b1:bits .xor .u8 ((x:Int)%256) (c.toNat:Int)=(j:Int):=by
      rw[hj,show(x:Int)%256=((x%256:Nat):Int)by omega];exact u8_xor_nat _ _ (Nat.mod_lt _ (by decide)) c.toNat_lt
     have b2:bits .xor .u32 (t:Int) ((x:Int)/256)=((t ^^^ x/256:Nat):Int):=by
      rw[show(x:Int)/256=((x/256:Nat):Int)by omega];exact u32_xor_nat _ _ ht32 (by omega)
     have hst:t ^^^ x/256=crcStep x c:=by rw[ht,hj];rfl
     rw[hst]at b2;have HR:=jq hrun;clear hst hj ht hx hc hrun
     go_wp2_with fail
     refine⟨⟨n+1,by omega,by simp,?_,trivial⟩,?_⟩
     ·rw[HR.out]
     ·simp[intOf];omega
    ·have e:n=bs.length:=by omega
     rw[e,jW jn]at hx;have hn2:bs.length<=n:=by omega
     have HX:=jq hx;clear hx e
     go_wp2_with fail
     refine⟨⟨1,by omega,by simp,?_,hT,hB⟩,?_⟩
     ·rw[if_neg (by decide),HX.out]
     ·simp[intOf]
  ·obtain rfl:k=1:=by omega
   simp only[if_neg hk0];obtain⟨x,hx⟩:=jl (crcRun 4294967295 bs);have hx32:x<2^32:=by rw[hx];exact run_lt _ (by decide)
   have hs:sumF bs=4294967295-x:=by rw[hx];rfl
   rw[<-hx];have HS:=jq hs;clear hx hs
   go_wp2_with fail
   go_ret
   refine⟨?_,hB.out⟩;rw[HS.out];exact congrArg (λz=>Ending.returned (Value.int .u32 z)) (not_u32 x hx32)
end Crc
namespace Spoil
open Go.RowKit Mem Crc
theorem xor_left (a b c:Nat):a ^^^ (b ^^^ c)=b ^^^ (a ^^^ c):=by rw[<-Nat.xor_assoc,Nat.xor_comm a b,Nat.xor_assoc]
theorem tabStep_xor (a b:Nat):tabStep (a ^^^ b)=tabStep a ^^^ tabStep b:=by
 have h1: (a ^^^ b)/2=a/2 ^^^ b/2:=by
  have:=Nat.xor_div_two_pow (a:=a) (b:=b) (n:=1)
  simpa using this
 have h2: (a ^^^ b)%2=(a%2 ^^^ b%2):=by
  have:=Nat.xor_mod_two_pow (a:=a) (b:=b) (n:=1)
  simpa using this
 have h3:3988292384*(a%2 ^^^ b%2)=3988292384*(a%2) ^^^ 3988292384*(b%2):=by
  rcases Nat.mod_two_eq_zero_or_one a with e|e <;> rcases Nat.mod_two_eq_zero_or_one b with e2|e2 <;> rw[e,e2] <;> simp
 unfold Crc.tabStep;rw[h1,h2,h3];simp only[Nat.xor_assoc,Nat.xor_comm,xor_left]
theorem steps_xor:∀(n a b:Nat),steps n (a ^^^ b)=steps n a ^^^ steps n b
 |0,_,_=>rfl
 |n+1,a,b=>by
  show tabStep (steps n (a ^^^ b))=_;rw[steps_xor n a b,tabStep_xor]
  rfl
theorem steps_mul:∀(n m:Nat),steps n (m*2^n)=m
 |0,m=>by show m*1=m;omega
 |n+1,m=>by
  show tabStep (steps n (m*2^(n+1)))=m;rw[show m*2^(n+1)=(m*2)*2^n by rw[Nat.pow_succ,Nat.mul_assoc,Nat.mul_comm 2],steps_mul n (m*2)];unfold Crc.tabStep;rw[show m*2/2=m by omega,show m*2%2=0 by omega]
  simp
theorem split8 (x:Nat): (x%256) ^^^ (x/256*2^8)=x:=by
 apply Nat.eq_of_testBit_eq
 intro i;rw[Nat.testBit_xor,show(256:Nat)=2^8 from rfl,Nat.testBit_mod_two_pow,Nat.testBit_mul_two_pow,Nat.testBit_div_two_pow]
 by_cases h:i<8
 ·rw[jd h,jf (by omega)]
  simp
 ·rw[jf h,jd (by omega),show i-8+8=i by omega]
  simp
theorem crcStep_eq (x:Nat) (c:UInt8):crcStep x c=steps 8 (x ^^^ c.toNat):=by
 have h:x ^^^ c.toNat=(x%256 ^^^ c.toNat) ^^^ (x/256*2^8):=by
  conv=>lhs;rw[<-split8 x]
  simp only[Nat.xor_assoc,Nat.xor_comm,xor_left]
 unfold Crc.crcStep Crc.tabF;rw[h,steps_xor 8 (x%256 ^^^ c.toNat) (x/256*2^8),steps_mul]
end Spoil
end Go.Proofs.YtfgjnpbffppocaaGreatDoor
