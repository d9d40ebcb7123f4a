/- Part. -/
import Derived.Test.YtfgjnpbffppocaaGreatDoorF0
import Derived.Test.YtfgjnpbffppocaaGreatDoorF0Q
import Derived.Test.YtfgjnpbffppocaaGreatDoorF2
import Derived.Test.YtfgjnpbffppocaaGreatDoorF4
import Derived.Test.YtfgjnpbffppocaaGreatDoorF5
import Derived.StillTailTactics
set_option maxHeartbeats 1000000
set_option maxRecDepth 100000
namespace Go.Proofs.YtfgjnpbffppocaaGreatDoor
namespace Walk
open Go.RowKit Go.Deep Mem Crc
def at0 (bs:List UInt8) (i:Nat):Nat:=(bs.getD i 0).toNat
def part (bs:List UInt8) (q:Nat):Nat->Nat
 |0=>0
 |m+1=>part bs q m+at0 bs (q*4+m)*256^m
def seven (bs:List UInt8):List Nat:=(List.range 7).map (λq=>part bs q 4)
def unall:Nat->List UInt8->List (List Nat)
 |0,_=>[]
 |n+1,bs=>seven bs ::unall n (bs.drop 28)
theorem at0_lt (bs:List UInt8) (i:Nat):at0 bs i<256:=UInt8.toNat_lt _
theorem part_lt (bs:List UInt8) (q:Nat):∀m,part bs q m<256^m
 |0=>Nat.one_pos
 |m+1=>by
  have h1:=part_lt bs q m;have h2:=at0_lt bs (q*4+m);have h3: (at0 bs (q*4+m)+1)*256^m<=256*256^m:=Nat.mul_le_mul_right _ (by omega);rw[Nat.add_mul,Nat.one_mul]at h3;rw[Nat.pow_succ,Nat.mul_comm (256^m) 256];show part bs q m+at0 bs (q*4+m)*256^m<_
  omega
theorem seven_ok (bs:List UInt8):ok (seven bs):=by
 refine⟨by simp[seven],λn hn=>?_⟩;obtain⟨q,_,rfl⟩:=List.mem_map.1 hn;exact part_lt bs q 4
theorem unall_ok:∀(n:Nat) (bs:List UInt8),∀x∈unall n bs,ok x
 |0,_,x,h=>by simp[unall]at h
 |n+1,bs,x,h=>by
  rcases List.mem_cons.1 h with rfl|h
  ·exact seven_ok bs
  ·exact unall_ok n _ x h
theorem unall_length:∀(n:Nat) (bs:List UInt8),(unall n bs).length=n
 |0,_=>rfl
 |n+1,bs=>by simp[unall,unall_length n]
theorem unall_snoc:∀(n:Nat) (bs:List UInt8),unall (n+1) bs=unall n bs++ [seven (bs.drop (n*28))]
 |0,bs=>by simp[unall]
 |n+1,bs=>by
  have:=unall_snoc n (bs.drop 28)
  conv=>lhs;unfold unall
  rw[this];show _=unall (n+1) bs++_
  conv=>rhs;unfold unall
  rw[List.drop_drop,List.cons_append,show 28+n*28=(n+1)*28 by omega]
theorem four_at (n:Nat) (h:n<4294967296) (rest pre:List UInt8) (q:Nat) (hp:pre.length=q*4):part (pre++four n++rest) q 4=n:=by
 have h1:∀m,m<4->at0 (pre++four n++rest) (q*4+m)=((four n).getD m 0).toNat:=λm hm=>by
  unfold at0;rw[List.getD_eq_getElem?_getD,List.getD_eq_getElem?_getD,List.append_assoc,List.getElem?_append_right (by omega),hp,Nat.add_sub_cancel_left,List.getElem?_append_left (by rw[four_length];exact hm)]
 simp only[part];rw[h1 0 (by omega),h1 1 (by omega),h1 2 (by omega),h1 3 (by omega)]
 simp[four]
 omega
theorem seven_bytes (x:List Nat) (h:ok x) (rest:List UInt8):seven (bytes x++rest)=x:=by
 obtain⟨a,b,c,d,e,f,g,rfl⟩:=ok_seven h;have hl:=h.2;have e0:bytes [a,b,c,d,e,f,g]=four a++four b++four c++four d++four e++four f++four g:=by simp[bytes]
 have p0:=four_at a (hl a (by simp)) (four b++four c++four d++four e++four f++four g++rest) [] 0 rfl;have p1:=four_at b (hl b (by simp)) (four c++four d++four e++four f++four g++rest) (four a) 1 rfl;have p2:=four_at c (hl c (by simp)) (four d++four e++four f++four g++rest) (four a++four b) 2 rfl;have p3:=four_at d (hl d (by simp)) (four e++four f++four g++rest) (four a++four b++four c) 3 rfl;have p4:=four_at e (hl e (by simp)) (four f++four g++rest) (four a++four b++four c++four d) 4 rfl;have p5:=four_at f (hl f (by simp)) (four g++rest) (four a++four b++four c++four d++four e) 5 rfl;have p6:=four_at g (hl g (by simp)) rest (four a++four b++four c++four d++four e++four f) 6 rfl;have e1:seven (bytes [a,b,c,d,e,f,g]++rest)= [part (bytes [a,b,c,d,e,f,g]++rest) 0 4,part (bytes [a,b,c,d,e,f,g]++rest) 1 4,part (bytes [a,b,c,d,e,f,g]++rest) 2 4,part (bytes [a,b,c,d,e,f,g]++rest) 3 4,part (bytes [a,b,c,d,e,f,g]++rest) 4 4,part (bytes [a,b,c,d,e,f,g]++rest) 5 4,part (bytes [a,b,c,d,e,f,g]++rest) 6 4]:=rfl;rw[e1,e0];simp only[List.append_assoc,List.nil_append]at p0 p1 p2 p3 p4 p5 p6⊢;rw[p0,p1,p2,p3,p4,p5,p6]
theorem unall_all:∀(l:List (List Nat)),(∀x∈l,ok x)->unall l.length (all l)=l
 | [],_=>rfl
 |x ::r,h=>by
  have hx:=h x (List.mem_cons_self ..);have e:all (x ::r)=bytes x++all r:=by simp[all]
  rw[e];show seven (bytes x++all r)::unall r.length ((bytes x++all r).drop 28)=_;rw[seven_bytes x hx,List.drop_append_of_le_length (by rw[bytes_length x hx];exact Nat.le_refl _),show(bytes x).drop 28= []from List.drop_eq_nil_of_le (by rw[bytes_length x hx];exact Nat.le_refl _),List.nil_append,unall_all r (λy hy=>h y (List.mem_cons_of_mem _ hy))]
theorem infoW7: (Tryz.prog.info? 26).map (λi=>(i.zero,i.size,i.bytes))=some (some (.agg #[.int .u32 0,.int .u32 0,.int .u32 0,.int .u32 0,.int .u32 0,.int .u32 0,.int .u32 0]),7,28):=by kernel_rfl
def fill (bs:List UInt8) (m:Nat):List Nat:=(List.range 7).map (λq=>part bs q (min 4 (m-q*4)))
theorem fill_end (bs:List UInt8):fill bs 28=seven bs:=by
 unfold fill seven
 apply List.map_congr_left
 intro q hq;have:q<7:=List.mem_range.1 hq;rw[show min 4 (28-q*4)=4 by omega]
theorem fill_at (bs:List UInt8) (m q:Nat) (hq:q<7): (fill bs m)[q]? =some (part bs q (min 4 (m-q*4))):=by
 unfold fill
 simp[hq]
theorem fill_next (bs:List UInt8) (m:Nat) (hm:m<28):fill bs (m+1)=(fill bs m).set (m/4) (part bs (m/4) (m%4)+at0 bs m*256^(m%4)):=by
 apply List.ext_getElem?
 intro q;rw[List.getElem?_set]
 by_cases hq:q<7
 ·rw[fill_at bs (m+1) q hq]
  by_cases e:m/4=q
  ·subst e;have hlen: (fill bs m).length=7:=by simp[fill]
   rw[if_pos rfl,if_pos (by rw[hlen];omega)];have e1:min 4 (m+1-m/4*4)=m%4+1:=by omega
   rw[e1];show some (part bs (m/4) (m%4)+at0 bs (m/4*4+m%4)*256^(m%4))=_;rw[show m/4*4+m%4=m by omega]
  ·rw[if_neg e,fill_at bs m q hq]
   congr 2
   omega
 ·rw[List.getElem?_eq_none (by simp[fill];omega)]
  split
  ·rename_i e
   omega
  ·rw[List.getElem?_eq_none (by simp[fill];omega)]
theorem or_byte (a b r:Nat) (hr:r<4) (ha:a<256^r) (hb:b<256):bits .or .u32 (a:Int) ((b*256^r:Nat):Int)=((a+b*256^r:Nat):Int):=by
 have hp:256^r=2^(8*r):=by rw[show 256=2^8 by decide,<-Nat.pow_mul]
 have h1:b*256^r<4294967296:=by
  have h2:256^r<=256^3:=Nat.pow_le_pow_right (by decide) (by omega);have h3:b*256^r<=255*256^3:=Nat.mul_le_mul (by omega) h2;have h4: (255:Nat)*256^3=4278190080:=by decide
  omega
 have h5:a<4294967296:=by
  have h2:256^r<=256^3:=Nat.pow_le_pow_right (by decide) (by omega);have h4: (256:Nat)^3=16777216:=by decide
  omega
 have:=u32_or_nat a (b*256^r) h5 h1;rw[Nat.or_comm,nat_join (8*r) (b*256^r) a (by rw[hp];exact Nat.mul_mod_left _ _) (by rw[<-hp];exact ha)]at this;rw[this]
 congr 1
 omega
end Walk
namespace Walk
open Go.RowKit Go.Deep Mem Crc
def lenOf:Value->Nat
 |.slice _ n _=>n
 |_=>0
theorem flatW_snoc (l:List (List Nat)) (x:List Nat):flatW (l++ [x])=flatW l++vals x:=by unfold flatW;rw[List.flatMap_append];simp
theorem shl_byte (b r:Nat) (hr:r<4) (hb:b<256):IntKind.u32.wrap ((b:Int)*2^(8*(r:Int)).toNat)=((b*256^r:Nat):Int):=by
 have e1: (8*(r:Int)).toNat=8*r:=by omega
 have hp:256^r=2^(8*r):=by rw[show 256=2^8 by decide,<-Nat.pow_mul]
 have h2:256^r<=256^3:=Nat.pow_le_pow_right (by decide) (by omega);have h3:b*256^r<=255*256^3:=Nat.mul_le_mul (by omega) h2;have h4: (255:Nat)*256^3=4278190080:=by decide
 rw[e1,show(b:Int)*2^(8*r)=((b*256^r:Nat):Int)by rw[hp];push_cast;rfl];exact IntWalk.u32_in _ (by omega)
theorem all_ok (a:Option Addr) (cp N:Nat) (bs:List UInt8) (w:World) (h:Lies w a (bs.map bv)) (hcp:bs.length<=cp) (hN:bs.length=N*28) (hm:N<=100000):
  Calls Tryz.prog 56 #[.slice a bs.length cp] w λe w'=>∃v,e=.returned (.tuple #[v,.int .i64 0])/\w'.ownsRow w.heap.size 26 7 v N (flatW (unall N bs))/\Below w.heap.size w w':=by
 obtain⟨i0,hi0,hz0,hz1,hz2⟩:=info_parts infoW7;obtain⟨n,hn⟩:=jl bs.length;have hmod: ((n:Int)%28==0)=true:=by simp;omega
 have hmod2: ((n:Int)%28 !=0)=false:=by simp;omega
 have HL:=jq h;have HN:=jq hn;have HNN:=jq hN;rw[<-hn]at hcp⊢;have hn28:n<=2800000:=by omega
 clear h hn hN
 go_enter Tryz.func56,Tryz.ntmps56
 go_wp2_with fail
 go_loopw[0,4] (λb o wr=>∃(k:Nat) (a':Option Addr) (cp':Nat),k<=N/\b=.slice a' ((N-k)*28) cp'/\(N-k)*28<=cp'/\Hid (Lies w a' ((bs.drop (k*28)).map bv))/\Hid (wr.ownsRow w.heap.size 26 7 o k (flatW (unall k bs)))/\Hid (Below w.heap.size w wr)) (λb _ _=>lenOf b)
 case atStart=>exact⟨0,a,cp,Nat.zero_le _,by rw[Nat.sub_zero,HN.out,HNN.out],by rw[Nat.sub_zero,<-HNN.out,<-HN.out];exact hcp,jq (by simpa using HL.out),jq (World.ownsRow_nil _ _ _ _),jq (Below.refl _ _)⟩
 case round=>
  obtain⟨k,a',cp',hk,rfl,hc',hL,hO,hB⟩:=hrel;obtain⟨m,hm'⟩:=jl ((N-k)*28);rw[<-hm']at hc'⊢;have hBs:=hB.out.size
  by_cases hlt:k<N
  ·have hm28:28<=m:=by omega
   have hd0:decide (0<m)=true:=by simp;omega
   obtain⟨ds,hds⟩:=jl (bs.drop (k*28));have hdl:ds.length=m:=by rw[hds,List.length_drop,HNN.out,hm',Nat.sub_mul]
   rw[<-hds]at hL
   obtain⟨g,off,rfl,hg,hc⟩:=hL.out.resolve_left (λe=>by
    rw[List.map_eq_nil_iff]at e;rw[e]at hdl
    simp at hdl
    omega)
   have HC:=jq hc;have HDS:=jq hds;have HDL:=jq hdl;have HM':=jq hm';have hal:=(Below.refl wr.heap.size wr).alloc jn (.cells #[.int .u32 0,.int .u32 0,.int .u32 0,.int .u32 0,.int .u32 0,.int .u32 0,.int .u32 0] 165)
   have hbl:Blk (wr.alloc (.cells #[.int .u32 0,.int .u32 0,.int .u32 0,.int .u32 0,.int .u32 0,.int .u32 0,.int .u32 0] 165)) wr.heap.size 165 (vals (fill ds 0)).toArray:=by
    have e: (vals (fill ds 0)).toArray=#[.int .u32 0,.int .u32 0,.int .u32 0,.int .u32 0,.int .u32 0,.int .u32 0,.int .u32 0]:=rfl;rw[e];exact Blk.new _ _ _
   have HB1:=jq (hB.out.trans (hal.mono hBs));have HO1:=jq (own_later hO.out hal);have HBL:=jq hbl;have HSB:=jq hBs;clear hal hbl hc hds hdl hm' hL
   go_wp2_with fail
   go_loopw[16] (λi wq=>∃j:Nat,j<=28/\i=.int .i64 j/\Hid (Blk wq wr.heap.size 165 (vals (fill ds j)).toArray)/\Hid (wq.ownsRow w.heap.size 26 7 u4 k (flatW (unall k bs)))/\Hid (Below w.heap.size w wq)) (λi _=>28-(intOf i).toNat)
   case atStart=>exact⟨0,by omega,rfl,HBL,HO1,HB1⟩
   case round=>
    obtain⟨j,hj,rfl,hb,hO,hB⟩:=hrel
    by_cases hj28:j<28
    ·obtain⟨q,hq⟩:=jl (j/4);obtain⟨r,hr⟩:=jl (j%4);have hq7:q<7:=by omega
     have hr4:r<4:=by omega
     obtain⟨bt,hbt⟩:=jl (at0 ds j);have hbt8:bt<256:=by rw[hbt];exact at0_lt _ _
     have hjl:j<ds.length:=by rw[HDL.out];omega
     have c0:=(hB.out.cell (p:=⟨g,off+j,none⟩) hg).trans (HC.out j _ (bv_at (jg hjl)))
     have ec:bv ds[j]=.int .u8 (bt:Int):=by
      rw[hbt];unfold bv at0;rw[List.getD_eq_getElem?_getD,jg hjl]
      rfl
     rw[ec]at c0;obtain⟨pv,hpv⟩:=jl (part ds q r)
     have hpv2: (fill ds j)[q]? =some pv:=by
      rw[fill_at ds j q hq7,hpv]
      congr 2
      omega
     have hplt:pv<256^r:=by rw[hpv];exact part_lt ds q r
     have c1:=(hb.out.cell q).trans (show(vals (fill ds j)).toArray[q]? =some (.int .u32 (pv:Int))by simp[vals,hpv2]);have fz:=hb.out.frozen q;have hor:=or_byte pv bt r hr4 hplt hbt8;obtain⟨nv,hnv⟩:=jl (pv+bt*256^r);have hsh:IntKind.u32.wrap ((bt:Int)*2^(8*(r:Int)).toNat)=((bt*256^r:Nat):Int):=shl_byte bt r hr4 hbt8;obtain⟨sv,hsv⟩:=jl (bt*256^r);rw[<-hnv,<-hsv]at hor;rw[<-hsv]at hsh;clear hsv;have hset:=hb.out.set q (.int .u32 (nv:Int))
     have hnext: (vals (fill ds j)).toArray.setIfInBounds q (.int .u32 (nv:Int))=(vals (fill ds (j+1))).toArray:=by
      rw[fill_next ds j hj28,<-hq,<-hr,<-hpv,<-hbt,<-hnv]
      simp[vals]
     rw[hnext]at hset;have hofar:=own_past hO.out hb.out (by decide) q (.int .u32 (nv:Int));have hbel:Below w.heap.size w (wr.setCell ⟨_,q,none⟩ (.int .u32 (nv:Int))):=hB.out.setCell HSB.out (.int .u32 (nv:Int));have e1: (j:Int)/4=(q:Int):=by omega
     have HOR:=jq hor;have HSET:=jq hset;have HFAR:=jq hofar;have HBEL:=jq hbel;have HQ:=jq hq;have hd28:decide ((j:Int) <28)=true:=by simp;omega
     clear hset hofar hbel hnext hpv2 ec hbt hpv hq hnv;have wq:IntKind.i64.wrap (q:Int)=q:=IntWalk.i64_in _ (by omega);have hq7': (q:Int) <7:=by omega
     have hjm:j<m:=by omega
     have hd1:decide ((0:Int)<=8*(r:Int))=true:=by simp;omega
     have e2: (j:Int).tmod 4=(r:Int):=by rw[Int.tmod_eq_emod_of_nonneg (by omega)];omega
     have w8:IntKind.i64.wrap (8*(r:Int))=8*(r:Int):=IntWalk.i64_in _ (by omega);have wb:IntKind.u32.wrap (bt:Int)=bt:=IntWalk.u32_in _ (by omega);clear hr
     go_wp2_with fail
     go_still_tail 14,(by kernel_rfl)
     change wpList _ _ _ _ _ wr.drew
     have fz':=(hb.out.drew).frozen q
     go_wp2_with fail
     exact⟨⟨j+1,by omega,by simp,jq HSET.out.drew,jq (own_later HFAR.out ((Below.refl _ _).drew)),jq HBEL.out.drew⟩,by simp[intOf];omega⟩
    ·obtain rfl:j=28:=by omega
     obtain⟨x0,x1,x2,x3,x4,x5,x6,hx⟩:=ok_seven (seven_ok ds);have hok7:=seven_ok ds;have hb7:=hb.out;rw[fill_end,hx]at hb7;rw[hx]at hok7;have HX:=jq hx;have c0:=hb7.cell 0;have c1:=hb7.cell 1;have c2:=hb7.cell 2;have c3:=hb7.cell 3;have c4:=hb7.cell 4;have c5:=hb7.cell 5;have c6:=hb7.cell 6
     simp[vals]at c0 c1 c2 c3 c4 c5 c6
     have hd28:decide ((28:Int) <28)=false:=by decide
     have HT:=jq (together_any [x0,x1,x2,x3,x4,x5,x6] wr hok7);clear hx hb7 hb hok7
     go_wp2_with fail
     refine HT.out.mono ?_;rintro e w1 ⟨rfl,hB1⟩;simp only[vals,List.map];have HB1:=jq hB1;have hs1:=hB1.size;have hs0:=hB.out.size;have halA:=(Below.refl w1.heap.size w1).alloc jn (.cells #[.int .u32 x0,.int .u32 x1,.int .u32 x2,.int .u32 x3,.int .u32 x4,.int .u32 x5,.int .u32 x6] 26);have hO1:=own_later (own_later hO.out hB1) halA
     have hcel:∀j u,([.int .u32 x0,.int .u32 x1,.int .u32 x2,.int .u32 x3,.int .u32 x4,.int .u32 x5,.int .u32 x6]:List Value)[j]? =some u->(w1.alloc (.cells #[.int .u32 x0,.int .u32 x1,.int .u32 x2,.int .u32 x3,.int .u32 x4,.int .u32 x5,.int .u32 x6] 26)).cell? ((⟨w1.heap.size,0,none⟩:Addr).add j)=some u:=λj u hu=>
      lies_add (new_lies w1 26 #[.int .u32 x0,.int .u32 x1,.int .u32 x2,.int .u32 x3,.int .u32 x4,.int .u32 x5,.int .u32 x6]) j u hu
     have HCEL:=jq hcel;have HALA:=jq halA;clear hcel halA hB1
     go_wp2_with (first|(at_builtin;refine wpList_append_own _ rfl _ _ 54 rfl w.heap.size 26 i0 (.agg #[.int .u32 0,.int .u32 0,.int .u32 0,.int .u32 0,.int .u32 0,.int .u32 0,.int .u32 0]) 7 28 Tryz.underlying54 hi0 hz0 hz1 hz2 rfl (by decide) _ _ _ rfl hO1 ⟨w1.heap.size,0,none⟩ 1 1 [.int .u32 x0,.int .u32 x1,.int .u32 x2,.int .u32 x3,.int .u32 x4,.int .u32 x5,.int .u32 x6] rfl rfl HCEL.out ?c2 ?c3 ?c4 ?c5 ?_))
     case c2=>intro u hu;simp at hu;rcases hu with rfl|rfl|rfl|rfl|rfl|rfl|rfl <;> rfl
     case c3=>unfold maxLen;omega
     case c4=>omega
     case c5=>simp;omega
     intro v' w2 hown2 hgrow2 _;have hB2:Below w.heap.size w w2:=((hB.out.trans (HB1.out.mono hs0)).trans (HALA.out.mono (by omega))).grown hgrow2 (by simp;omega) (λq hq=>(hO1.lt q hq).1)
     have hO2:w2.ownsRow w.heap.size 26 7 v' (k+1) (flatW (unall (k+1) bs)):=by
      rw[unall_snoc,flatW_snoc,<-HDS.out,HX.out];exact hown2
     have hdl: (ds.drop 28)=bs.drop ((k+1)*28):=by rw[HDS.out,List.drop_drop,Nat.succ_mul]
     have hLd:Lies w (some ⟨g,off+28,none⟩) ((bs.drop ((k+1)*28)).map bv):=by
      rw[<-hdl,List.map_drop];exact Lies.drop (.inr ⟨g,off,rfl,hg,HC.out⟩) 28
     have HLD:=jq hLd;have HO2:=jq hO2;have HB2:=jq hB2;clear hown2 hgrow2 hO1 hB2 hO2 hdl hLd HALA HCEL
     have hmN:m-28=(N-(k+1))*28:=by
      have:=HM'.out
      omega
     by_cases hlast:28=cp'
     ·subst hlast;obtain rfl:m=28:=by omega
      have hnil:bs.drop ((k+1)*28)= []:=List.eq_nil_of_length_eq_zero (by rw[List.length_drop,HNN.out,<-Nat.sub_mul];omega);have h00: (N-(k+1))*28=0:=by omega
      have HMN:=jq h00;have HNIL:=jq hnil;clear hmN h00 hnil
      go_wp2_with fail
      go_roundw
      case rel=>exact⟨k+1,_,_,hlt,by rw[HMN.out],by rw[HMN.out];exact Nat.zero_le _,by rw[HNIL.out];exact jq (.inl rfl),HO2,HB2⟩
      case measure=>simp[lenOf]
     ·have hlt9:28<cp':=by omega
      have HMN:=jq hmN;clear hmN
      go_wp2_with fail
      go_roundw
      case rel=>exact⟨k+1,_,_,hlt,by rw[<-HMN.out],by rw[<-HMN.out];omega,HLD,HO2,HB2⟩
      case measure=>simp[lenOf];omega
  ·obtain rfl:k=N:=by omega
   have hm0:m=0:=by rw[hm',Nat.sub_self,Nat.zero_mul]
   subst hm0;clear hm'
   go_wp2_with fail
   go_ret2
   exact⟨_,rfl,hO.out,hB.out⟩
end Walk
namespace Walk
open Go.RowKit Go.Deep Mem Crc
abbrev OwnW (w:World) (base:Nat) (v:Value) (l:List (List Nat)):Prop:=w.ownsRow base 26 7 v l.length (flatW l)
theorem flatW_nil {l:List (List Nat)} (hok:∀x∈l,ok x) (h:flatW l= []):l= []:=by
 have:=flatW_length l hok;rw[h]at this;exact List.eq_nil_of_length_eq_zero (by simp at this;omega)
theorem oneCell_flatW (l:List (List Nat)):∀u∈flatW l,u.oneCell'=true:=λu hu=>by
 obtain⟨x,_,hx⟩:=List.mem_flatMap.1 hu;obtain⟨n,_,rfl⟩:=List.mem_map.1 hx
 rfl
theorem clone_walkers (a:Option Addr) (cp:Nat) (l:List (List Nat)) (w:World) (h:Lies w a (flatW l)) (hok:∀x∈l,ok x) (hm:l.length<=1000000):
  Calls Tryz.prog 44 #[.slice a l.length cp] w λe w'=>∃v,e=.returned v/\OwnW w' w.heap.size v l/\Below w.heap.size w w':=by
 cases a with
 |none=>
  have hb:l= []:=flatW_nil hok (by simpa using lies_none h);subst hb;have hne:=λw=>Lib.run_eql_slice_nil (P:=Tryz.prog) w 54 26 none 0 cp 0 0 Tryz.underlying54
  clear h hm
  go_enter Tryz.func44,Tryz.ntmps44
  go_wp2_with fail
  go_ret
  exact⟨_,rfl,World.ownsRow_nil _ _ _ _,Below.refl _ _⟩
 |some ad=>
  obtain⟨i0,hi0,hz0,hz1,hz2⟩:=info_parts infoW7;have hne:=λw=>Lib.run_eql_slice_nil (P:=Tryz.prog) w 54 26 (some ad) l.length cp 0 0 Tryz.underlying54
  have hal:=(Below.refl w.heap.size w).alloc jn (.cells #[] 26);have hown:=own_empty w 26 7;have HC:=jq (lies_add (h.later hal));have H1:=jq (oneCell_flatW l);have HA:=jq hal;have HLN:=jq (flatW_length l hok);clear h hal hok
  go_enter Tryz.func44,Tryz.ntmps44
  go_wp2_with (first|(at_builtin;refine wpList_append_own _ rfl _ _ 54 rfl w.heap.size 26 i0 (.agg #[.int .u32 0,.int .u32 0,.int .u32 0,.int .u32 0,.int .u32 0,.int .u32 0,.int .u32 0]) 7 28 Tryz.underlying54 hi0 hz0 hz1 hz2 rfl (by decide) _ _ _ rfl hown ad l.length cp (flatW l) rfl ?c1 HC.out H1.out ?c3 ?c4 ?c5 ?_))
  case c1=>exact HLN.out
  case c3=>unfold maxLen;omega
  case c4=>omega
  case c5=>simp
  intro v' w1 hown1 hgrow1 hv;have hB1:Below w.heap.size w w1:=HA.out.grown hgrow1 (by simp) (λq hq=>(hown.lt q hq).1);have HO:=jq (show OwnW w1 w.heap.size v' l by simpa using hown1);clear hown1 hgrow1 hv
  go_wp2_with fail
  go_ret
  exact⟨v',rfl,HO.out,hB1⟩
end Walk
namespace Pool
open Go.RowKit Go.Deep Mem Crc Walk
abbrev Loc:=Nat->Option Addr×Nat
def slv (f:Loc) (R:Rows) (i:Nat):Value:=.slice (f i).1 (R i).length (f i).2
def slvs (f:Loc) (R:Rows) (n:Nat):List Value:=(List.range n).map (slv f R)
theorem slvs_len (f:Loc) (R:Rows) (n:Nat): (slvs f R n).length=n:=by simp[slvs]
theorem slvs_at {f:Loc} {R:Rows} {n i:Nat} (h:i<n): (slvs f R n)[i]? =some (slv f R i):=by simp[slvs,h]
def RwB (a:Option Addr) (f:Loc) (n:Nat) (k:Nat):Prop:=blk a=some k\/∃i,i<n/\blk (f i).1=some k
structure RwK (w:World) (a:Option Addr) (f:Loc) (R:Rows) (n:Nat):Prop where
 row:Lies w a (slvs f R n)
 each:∀i,i<n->Lies w (f i).1 (flatW (R i))/\(R i).length<=(f i).2
 lt:∀k,RwB a f n k->k<w.heap.size
theorem RwK.later {w w':World} {a:Option Addr} {f:Loc} {R:Rows} {n:Nat} (h:RwK w a f R n) (hB:Below w.heap.size w w'):RwK w' a f R n:=
 ⟨h.row.later hB,λi hi=>⟨(h.each i hi).1.later hB,(h.each i hi).2⟩,λk hk=>Nat.lt_of_lt_of_le (h.lt k hk) hB.size⟩
theorem RwK.upon {P:Nat->Prop} {w w':World} {a:Option Addr} {f:Loc} {R:Rows} {n:Nat} (h:RwK w a f R n) (hu:Upon P w w') (hP:∀k,RwB a f n k->¬P k):RwK w' a f R n:=
 ⟨h.row.upon hu (λk hk=>hP k (.inl hk)),λi hi=>⟨(h.each i hi).1.upon hu (λk hk=>hP k (.inr ⟨i,hi,hk⟩)),(h.each i hi).2⟩,λk hk=>Nat.lt_of_lt_of_le (h.lt k hk) hu.size⟩
theorem RwK.at {w:World} {a:Option Addr} {f:Loc} {R:Rows} {n:Nat} (h:RwK w a f R n) {i:Nat} (hi:i<n):∃g o,a=some ⟨g,o,none⟩/\g<w.heap.size/\w.cell? ⟨g,o+i,none⟩=some (.slice (f i).1 (R i).length (f i).2):=by
 have hs:=slvs_at (f:=f) (R:=R) hi;obtain⟨g,o,rfl,hg,hc⟩:=h.row.resolve_left (λe=>by rw[e]at hs;simp at hs);exact⟨g,o,rfl,hg,hc _ _ hs⟩
def updl (f:Loc) (i:Nat) (p:Option Addr×Nat):Loc:=λj=>if j=i then p else f j
theorem updl_same (f:Loc) (i:Nat) (p:Option Addr×Nat):updl f i p i=p:=if_pos rfl
theorem updl_other {f:Loc} {i j:Nat} (p:Option Addr×Nat) (h:j≠i):updl f i p j=f j:=if_neg h
theorem slvs_upd {f:Loc} {R:Rows} {n i:Nat} (hi:i<n) (l:List (List Nat)) (va:Option Addr) (vc:Nat): (slvs f R n).set i (.slice va l.length vc)=slvs (updl f i (va,vc)) (upd R i l) n:=by
 apply List.ext_getElem?
 intro j;rw[List.getElem?_set]
 by_cases e:i=j
 ·subst e;rw[if_pos rfl,if_pos (by rw[slvs_len];exact hi),slvs_at hi];unfold slv;rw[updl_same,upd_same]
 ·rw[if_neg e]
  by_cases hj:j<n
  ·rw[slvs_at hj,slvs_at hj];unfold slv;rw[updl_other _ (Ne.symm e),upd_other _ (Ne.symm e)]
  ·rw[List.getElem?_eq_none (by rw[slvs_len];omega),List.getElem?_eq_none (by rw[slvs_len];omega)]
theorem infoSW: (Tryz.prog.info? 54).map (λi=>(i.zero,i.size,i.bytes))=some (some (.slice none 0 0),1,24):=by kernel_rfl
theorem with_any {w:World} {a:Option Addr} {f:Loc} {R:Rows} {n:Nat} (h:RwK w a f R n) (c i:Nat) (hi:i<n) (hn:n<=4096) (va:Option Addr) (vc:Nat) (l:List (List Nat)) (hl:Lies w va (flatW l)) (hc:l.length<=vc) (hv:∀k,blk va=some k->k<w.heap.size):
  Calls Tryz.prog 60 #[.slice a n c,.int .i64 (i:Int),.slice va l.length vc] w λe w'=>∃a' c',e=.returned (.slice a' n c')/\RwK w' a' (updl f i (va,vc)) (upd R i l) n/\(∀k,blk a'=some k->w.heap.size<=k)/\n<=c'/\Below w.heap.size w w':=by
 obtain⟨i0,hi0,hz0,hz1,hz2⟩:=info_parts infoSW;have hal:=(Below.refl w.heap.size w).alloc jn (.cells #[] 54);have hown:=own_empty w 54 1;obtain⟨g,o,rfl,_,hcell⟩:=h.at hi;have HC:=jq (lies_add (h.row.later hal))
 have H1:Hid (∀u∈slvs f R n,u.oneCell'=true):=jq (λu hu=>by
  obtain⟨j,_,rfl⟩:=List.mem_map.1 hu
  rfl)
 have HLN:=jq (slvs_len f R n);have HA:=jq hal;have H:=jq h;have HL:=jq hl;have HV:=jq hv;obtain⟨m,hm⟩:=jl l.length;have HM:=jq hm;rw[<-hm]at hc⊢;clear h hl hal hm hcell hv
 go_enter Tryz.func60,Tryz.ntmps60
 go_wp2_with (first|(at_builtin;refine wpList_append_own _ rfl _ _ 38 rfl w.heap.size 54 i0 (.slice none 0 0) 1 24 Tryz.underlying38 hi0 hz0 hz1 hz2 rfl (by decide) _ _ _ rfl hown ⟨g,o,none⟩ n c (slvs f R n) rfl ?c1 HC.out H1.out ?c3 ?c4 ?c5 ?_))
 case c1=>rw[HLN.out];omega
 case c3=>unfold maxLen;omega
 case c4=>omega
 case c5=>simp
 intro v' w1 hown1 hgrow1 hv;have hB1:Below w.heap.size w w1:=HA.out.grown hgrow1 (by simp) (λq hq=>(hown.lt q hq).1)
 obtain⟨g1,c1,rfl,hnc,hg1,hg2⟩:∃g1 c1,v'=.slice (some ⟨g1,0,none⟩) n c1/\n<=c1/\w.heap.size<=g1/\g1<w1.heap.size:=by
  have hown1':=hown1;rcases hown1'.2 with⟨_,h0⟩|⟨g1,cap,cur,rfl,hb,hg,hnc,_⟩
  ·omega
  ·exact⟨g1,cap,rfl,hnc,hb,(hown1.lt g1 rfl).2⟩
 obtain⟨hst,hgr⟩:=hown1.stored i (.slice va m vc);have hB2:Below w.heap.size w (w1.setCell ⟨g1,i,none⟩ (.slice va m vc)):=hB1.grown hgr hB1.size (λq hq=>by cases hq;exact hg1);have fz:=hown1.frozenAt i
 have cz:w1.cell? ⟨g1,i,none⟩=some (.slice (f i).1 (R i).length (f i).2):=by
  obtain⟨_,_,e1,_,hL1,_,_⟩:=own_shape hown1;injection e1 with e1;subst e1;have hs:=slvs_at (f:=f) (R:=R) hi;obtain⟨g2,o2,e2,_,hc2⟩:=hL1.resolve_left (λe=>by rw[e]at hs;simp at hs);injection e2 with e2;injection e2 with e2 e3;subst e2 e3;have:=hc2 _ _ hs
  rwa [Nat.zero_add]at this
 have HST:=jq hst;have HB2:=jq hB2;clear hown1 hgrow1 hv hB1 hst hgr hB2
 go_wp2_with fail
 go_ret
 have hrow:=HST.out
 have hse: (slvs f R n).set i (.slice va m vc)=slvs (updl f i (va,vc)) (upd R i l) n:=by
  rw[HM.out];exact slvs_upd hi l va vc
 rw[hse]at hrow;obtain⟨_,_,e1,_,hL1,hb1,_⟩:=own_shape hrow;injection e1 with e1;subst e1;refine⟨_,_,rfl,⟨hL1,λj hj=>?_,λk hk=>?_⟩,λk hk=>(hb1 k hk).1,hnc,HB2.out⟩
 rotate_left
 ·rcases hk with hk|⟨j,hj,hk⟩
  ·exact(hb1 k hk).2
  ·have hz:=HB2.out.size
   by_cases e:j=i
   ·subst e;rw[updl_same]at hk;exact Nat.lt_of_lt_of_le (HV.out k hk) hz
   ·rw[updl_other _ e]at hk;exact Nat.lt_of_lt_of_le (H.out.lt k (.inr ⟨j,hj,hk⟩)) hz
 by_cases e:j=i
 ·subst e;rw[updl_same,upd_same];exact⟨HL.out.later HB2.out,by rw[<-HM.out];exact hc⟩
 ·rw[updl_other _ e,upd_other _ e];exact⟨(H.out.each j hj).1.later HB2.out,(H.out.each j hj).2⟩
end Pool
namespace Pool
open Mem Crc Walk
open Go.Proofs.YtfgjnpbffppocaaGreatDoor.Frame
theorem byte_of (b:UInt8) (n:Nat) (h:n%256=b.toNat):UInt8.ofNat n=b:=by
 apply UInt8.toNat_inj.1
 rw[UInt8.toNat_ofNat'];exact h
theorem four_part (bs:List UInt8) (q:Nat) (h:q*4+4<=bs.length):four (Walk.part bs q 4)=(bs.drop (q*4)).take 4:=by
 have ha:∀m,at0 bs m<256:=at0_lt bs
 have hd: (bs.drop (q*4)).take 4= [bs[q*4],bs[q*4+1],bs[q*4+2],bs[q*4+3]]:=by
  apply List.ext_getElem?
  intro j
  by_cases hj:j<4
  ·rw[List.getElem?_take,if_pos hj,List.getElem?_drop,jg (by omega)];rcases(show j=0\/j=1\/j=2\/j=3 by omega)with rfl|rfl|rfl|rfl <;> rfl
  ·rw[List.getElem?_eq_none (by simp;omega),List.getElem?_eq_none (by simp;omega)]
 have e:∀j,(hj:q*4+j<bs.length)->at0 bs (q*4+j)=(bs[q*4+j]).toNat:=λj hj=>by
  unfold at0;rw[List.getD_eq_getElem?_getD,jg hj]
  rfl
 rw[hd];have e0:=e 0 (by omega);have e1:=e 1 (by omega);have e2:=e 2 (by omega);have e3:=e 3 (by omega);have a0:=ha (q*4+0);have a1:=ha (q*4+1);have a2:=ha (q*4+2);have a3:=ha (q*4+3)
 have hp:Walk.part bs q 4=at0 bs (q*4+0)+at0 bs (q*4+1)*256+at0 bs (q*4+2)*65536+at0 bs (q*4+3)*16777216:=by
  simp only[Walk.part]
  omega
 unfold four;rw[hp];rw[byte_of bs[q*4] _ (by have:at0 bs (q*4+0)=(bs[q*4]).toNat:=e0;omega),byte_of bs[q*4+1] _ (by omega),byte_of bs[q*4+2] _ (by omega),byte_of bs[q*4+3] _ (by omega)]
theorem take_four (l:List UInt8):∀n,(List.range n).flatMap (λq=>(l.drop (q*4)).take 4)=l.take (n*4)
 |0=>by simp
 |n+1=>by
  rw[List.range_succ,List.flatMap_append,take_four l n,jC,List.flatMap_nil,List.append_nil,Nat.add_mul,List.take_add]
theorem bytes_seven (bs:List UInt8) (h:28<=bs.length):Walk.bytes (seven bs)=bs.take 28:=by
 unfold Walk.bytes seven;rw[List.flatMap_map]
 have: (List.range 7).flatMap (λq=>four (Walk.part bs q 4))=(List.range 7).flatMap (λq=>(bs.drop (q*4)).take 4):=by
  rw[List.flatMap_def,List.flatMap_def]
  congr 1
  exact List.map_congr_left (λq hq=>four_part bs q (by have:=List.mem_range.1 hq;omega))
 rw[this,take_four]
theorem all_unall:∀(n:Nat) (bs:List UInt8),bs.length=n*28->all (unall n bs)=bs
 |0,bs,h=>by
  obtain rfl:bs= []:=List.eq_nil_of_length_eq_zero (by omega)
  rfl
 |n+1,bs,h=>by
  unfold unall all;rw[jC];have:=all_unall n (bs.drop 28) (by rw[List.length_drop];omega);unfold all at this;rw[this,bytes_seven bs (by omega),List.take_append_drop]
theorem allF_more {f:Nat} {bs:List UInt8} (hne:bs≠[]) (h: (allF (f+1) bs).2=0): (allF (f+1) bs).1≠[]:=by
 unfold allF at h⊢;rw[if_neg hne]at h⊢
 by_cases h1: (got bs).2.2.2=0
 ·rw[if_pos h1]at h⊢;dsimp only at h⊢
  by_cases h2: (allF f (bs.drop (got bs).2.2.1)).2=0
  ·rw[if_pos h2]
   simp
  ·rw[if_neg h2]at h;exact absurd h h2
 ·rw[if_neg h1]at h;exact absurd h h1
theorem head_num (l:List UInt8) (h:l.length=5) (k:UInt8) (hk:l.getD 0 0=k):head k (num l)=l:=by
 obtain⟨a,b,c,d,e,rfl⟩:∃a b c d e,l= [a,b,c,d,e]:=by
  match l,h with
  | [a,b,c,d,e],_=>exact⟨a,b,c,d,e,rfl⟩
 have hb:=UInt8.toNat_lt b;have hc:=UInt8.toNat_lt c;have hd:=UInt8.toNat_lt d;have he:=UInt8.toNat_lt e;have hk':k=a:=hk.symm;subst hk';have hn:num [k,b,c,d,e]=b.toNat+c.toNat*256+d.toNat*65536+e.toNat*16777216:=rfl;unfold head;rw[hn,byte_of b _ (by omega),byte_of c _ (by omega),byte_of d _ (by omega),byte_of e _ (by omega)]
theorem frame_got {bs:List UInt8} {k:UInt8} {body:List UInt8} {n:Nat} (h:got bs=(k,body,n,0)):n=13+body.length/\body.length<=1048576/\bs.take n=frameL k body/\n<=bs.length:=by
 unfold got at h
 by_cases c1:bs.length<9
 ·rw[if_pos c1]at h
  simp at h
 rw[if_neg c1]at h
 by_cases c2:fitsE (bs.take 9)=5
 ·rw[if_pos c2]at h
  simp at h
 rw[if_neg c2]at h
 by_cases c3:1048576<num (bodyOf (bs.take 9))
 ·rw[if_pos c3]at h
  simp at h
 rw[if_neg c3]at h
 by_cases c4:bs.length<13+num (bodyOf (bs.take 9))
 ·rw[if_pos c4]at h
  simp at h
 rw[if_neg c4]at h
 by_cases c5:fitsE ((bs.drop 9).take (num (bodyOf (bs.take 9))+4))=5
 ·rw[if_pos c5]at h
  simp at h
 rw[if_neg c5]at h;obtain⟨m,hm⟩:=jl (num (bodyOf (bs.take 9)));rw[<-hm]at c3 c4 c5 h;simp only[Prod.mk.injEq]at h;obtain⟨h1,h2,h3,_⟩:=h;have t9: (bs.take 9).length=9:=by rw[jT];omega
 have tb: ((bs.drop 9).take (m+4)).length=m+4:=by rw[jT,List.length_drop];omega
 have m1:marked (bodyOf (bs.take 9))=bs.take 9:=by
  have:=(fitsE_cases (bs:=bs.take 9) (by omega)).resolve_right c2;unfold fitsE at this;rw[if_neg (by omega)]at this
  by_cases e:marked (bodyOf (bs.take 9))=bs.take 9
  ·exact e
  ·rw[if_neg e]at this;cases this
 have m2:marked (bodyOf ((bs.drop 9).take (m+4)))=(bs.drop 9).take (m+4):=by
  have:=(fitsE_cases (bs:=(bs.drop 9).take (m+4)) (by omega)).resolve_right c5;unfold fitsE at this;rw[if_neg (by omega)]at this
  by_cases e:marked (bodyOf ((bs.drop 9).take (m+4)))=(bs.drop 9).take (m+4)
  ·exact e
  ·rw[if_neg e]at this;cases this
 have hbl:body.length=m:=by rw[<-h2,bodyOf_length,tb];omega
 have h5: (bodyOf (bs.take 9)).length=5:=by rw[bodyOf_length,t9]
 have hk: (bodyOf (bs.take 9)).getD 0 0=k:=by
  rw[<-h1];unfold bodyOf;rw[List.getD_eq_getElem?_getD,List.getD_eq_getElem?_getD,List.getElem?_take,if_pos (by omega)]
 have hh:=head_num _ h5 k hk;rw[<-hm]at hh;refine⟨by omega,by omega,?_,by omega⟩;unfold frameL;rw[hbl,hh,m1,<-h2,m2,<-h3];have:bs.take (9+(m+4))=bs.take 9++(bs.drop 9).take (m+4):=List.take_add;rw[<-this]
 congr 1
 omega
def rdS (b:List UInt8):Option (List (List Nat)):=match allF (b.length+1) b with
 |([(k,body)],_)=>if k=80/\body≠[]/\body.length%28=0 then some (unall (body.length/28) body)else none
 |_=>none
theorem rdS_one {b:List UInt8} {l:List (List Nat)} (h:rdS b=some l):∃body:List UInt8,allF (b.length+1) b=([(80,body)],0)/\body≠[]/\body.length%28=0/\l=unall (body.length/28) body:=by
 unfold rdS at h
 split at h
 ·next k body e heq=>
  by_cases hc:k=80/\body≠[]/\body.length%28=0
  ·rw[if_pos hc]at h;injection h with h
   have he:e=0:=by
    rcases allF_shape (b.length+1) b with h1|h1
    ·rw[heq]at h1;exact h1
    ·rw[heq]at h1;cases h1
   exact⟨body,by rw[heq,hc.1,he],hc.2.1,hc.2.2,h.symm⟩
  ·rw[if_neg hc]at h;cases h
 ·cases h
theorem allF_one {b:List UInt8} {k:UInt8} {body:List UInt8} (ha:allF (b.length+1) b=([(k,body)],0)):b=frameL k body:=by
 have hne:b≠[]:=λe=>by rw[e,allF_nil]at ha;cases ha
 unfold allF at ha;rw[if_neg hne]at ha
 by_cases h1: (got b).2.2.2=0
 ·rw[if_pos h1]at ha;dsimp only at ha
  by_cases h2: (allF b.length (b.drop (got b).2.2.1)).2=0
  ·rw[if_pos h2]at ha;injection ha with ha _;injection ha with ha hr;obtain⟨k',bd,n,er,hg⟩:∃k bd n er,got b=(k,bd,n,er):=⟨_,_,_,_,rfl⟩;rw[hg]at ha h1 hr h2;dsimp only at ha h1 hr h2;injection ha with e1 e2;subst e1 e2 h1;obtain⟨g1,g2,g3,g4⟩:=frame_got hg
   have hd:b.drop n= []:=by
    refine Classical.byContradiction (λe=>?_);have hpos:0<b.length:=List.length_pos_iff.2 hne;obtain⟨f,hf⟩:∃f,b.length=f+1:=⟨b.length-1,by omega⟩;rw[hf]at hr h2;exact allF_more e h2 hr
   have hn:b.length<=n:=by
    have:=congrArg List.length hd;rw[List.length_drop]at this
    simp at this
    omega
   rwa [jW hn]at g3
  ·rw[if_neg h2]at ha;injection ha with ha _;cases ha
 ·rw[if_neg h1]at ha;injection ha with ha _;cases ha
theorem rdS_file {b:List UInt8} {l:List (List Nat)} (h:rdS b=some l):b=frameL 80 (all l)/\l≠[]/\(∀x∈l,ok x)/\b.length=l.length*28+13:=by
 obtain⟨body,ha,hb,hm,rfl⟩:=rdS_one h;have hf:=allF_one ha;have hl:body.length=body.length/28*28:=by omega
 have hpos:=List.length_pos_iff.2 hb;refine⟨by rw[all_unall _ _ hl];exact hf,λe=>?_,unall_ok _ _,?_⟩
 ·have:=congrArg List.length e;rw[unall_length]at this
  simp at this
  omega
 ·rw[unall_length,<-hl,hf,frameL_length]
theorem rdS_all {l:List (List Nat)} (hne:l≠[]) (hok:∀x∈l,ok x) (hm:l.length<=30000):rdS (frameL 80 (all l))=some l:=by
 have hl:=all_length l hok;have hpos:=List.length_pos_iff.2 hne;unfold rdS;rw[all_frame 80 (all l) (by omega)];dsimp only;rw[if_pos ⟨rfl,λe=>by rw[e]at hl;simp at hl;omega,by omega⟩,hl,Nat.mul_div_cancel _ (by decide),unall_all l hok]
end Pool
end Go.Proofs.YtfgjnpbffppocaaGreatDoor
