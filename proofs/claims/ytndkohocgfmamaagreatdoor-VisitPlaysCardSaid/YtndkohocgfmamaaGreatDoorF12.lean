/- Part. -/
import Derived.Test.YtndkohocgfmamaaGreatDoorF6
import Derived.Test.YtndkohocgfmamaaGreatDoorF11
set_option maxHeartbeats 2000000
set_option maxRecDepth 100000
namespace Go.Proofs.YtndkohocgfmamaaGreatDoor
open Go.Proofs.Tryz
namespace aA
open Go.RowKit Go.Deep Mem Crc Varint Go.Maps
def many(size:Nat):Nat:=if size=0 then 0 else(size-1)/112+1
theorem yE(size:Nat)(d:size<=4294967296)(w:World):Calls prog 96 #[.int .i64 (size:Int)] w λe w'=>e=.returned (.int .i64 (many size:Int))/\w'=w:=by
 unfold many
 by_cases a:size=0
 ·subst a;rw[if_pos rfl]
  go_enter func96,ntmps96
  go_wp2_with fail
  go_ret
  exact⟨rfl,rfl⟩
 ·rw[if_neg a];have hd:decide ((size:Int)<=0)=false:=by simp;omega
  obtain⟨k,rfl⟩:∃k,size=k+1:=⟨size-1,by omega⟩;have e: ((k+1:Nat):Int)-1=(k:Int):=by omega
  have c: (k+1-1)/112+1=k/112+1:=by omega
  rw[c]
  go_enter func96,ntmps96
  go_wp2_with fail
  go_ret
  exact⟨by simp,rfl⟩
def cB(w:World)(t:TypeId)(k:IntKind)(b:Nat)(L:List Nat):Prop:=∃f,aY w t b f/\(∀x,f x≠none->∃n∈L,x=.int k (n:Int))/\∀n∈L,f (.int k (n:Int))=some (.agg #[])
theorem cB.keep{w w':World}{t:TypeId}{k:IntKind}{b:Nat}{L:List Nat}(h:cB w t k b L)(hb:w'.heap[b]? =w.heap[b]?):cB w' t k b L:=by
 obtain⟨f,a,c,d⟩:=h;exact⟨f,a.keep hb,c,d⟩
theorem cB.lt{w:World}{t:TypeId}{k:IntKind}{b:Nat}{L:List Nat}(h:cB w t k b L):b<w.heap.size:=by
 obtain⟨f,a,_⟩:=h;exact a.lt
variable {w:World}{t m:TypeId}{k:IntKind}{b:Nat}{L:List Nat}
theorem cB.yF{d:TypeId}{g:Nat}{a:Array Value}(h:cB w t k b L)(hb:Blk w g d a):g≠b:=λe=>by
 obtain⟨f,⟨D,n,⟨j,i,c,_⟩,_⟩,_⟩:=h;unfold Blk at hb;rw[e,c]at hb;cases hb
theorem cB.far(h:cB w t k b L){a:Option Addr}{xs:List Value}(i:Lies w a xs)(c:xs≠[]):Mem.blk a≠some b:=λe=>by
 obtain⟨f,⟨D,n,⟨p,l,j,_⟩,_⟩,_⟩:=h;obtain⟨g,o,rfl,_,hc⟩:=i.resolve_left c;have d:g=b:=by simpa[Mem.blk]using e
 subst d
 cases xs with
 |nil=>exact c rfl
 |cons x r=>
  have:=hc 0 x (by simp)
  simp[World.cell?,j]at this
theorem cB.made(w:World)(t:TypeId)(k:IntKind):cB (w.alloc (.map #[] 0)) t k w.heap.size []:=⟨_,aY.made w t,λ_ h=>absurd rfl h,λ_ h=>by cases h⟩
theorem cB.is{f:Lit->Option Value}(h:∀x,f x≠none->∃n∈L,x=.int k (n:Int))(d:∀n∈L,f (.int k (n:Int))=some (.agg #[]))(n:Nat): (f (.int k (n:Int))).isSome=L.contains n/\(f (.int k (n:Int))).getD (.agg #[])=.agg #[]:=by
 cases hc:f (.int k (n:Int))with
 |none=>
  refine⟨?_,rfl⟩
  symm
  rw[Option.isSome_none,Bool.eq_false_iff];intro c;have:=d n (by simpa using c);rw[hc]at this;cases this
 |some v=>
  obtain⟨m,c,g⟩:=h _ (by rw[hc];simp);have e:m=n:=by injection g with _ g;omega
  subst e;have a:=d m c;rw[hc]at a;injection a with a;exact⟨by simpa using c,by rw[a];rfl⟩
theorem JX(w:World): (zeroValue 267).run prog w=.ok (.agg #[]) w:=by kernel_rfl
theorem cB.look(h:cB w t k b L)(K:Keyed prog t)(j:prog.underlying m=some (.map t 267))(n:Nat)(i:keyOf prog t (.int k (n:Int))=some (.int k (n:Int))):
  (Instr.lookup m (.map (some b)) (.int k (n:Int)) true).run prog w=.ok (.tuple #[.agg #[],.bool (L.contains n)]) w:=by
 obtain⟨f,d,e,g⟩:=h;have:=d.look_ok K j JX i;obtain⟨a,c⟩:=cB.is e g n;rw[a,c]at this;exact this
theorem cB.put(h:cB w t k b L)(K:Keyed prog t)(r:prog.underlying m=some (.map t 267))(n:Nat)(p:keyOf prog t (.int k (n:Int))=some (.int k (n:Int)))(u:L.length<=1000000):
  ∃w',(Instr.mapUpdate m (.map (some b)) (.int k (n:Int)) (.agg #[])).run prog w=.ok () w'/\cB w' t k b (n ::L)/\w.grownBy w' (some b)/\w'.heap.size=w.heap.size:=by
 obtain⟨f,d,c,g⟩:=h
 obtain⟨w',s,i,j,l⟩:=d.update K r (L.map (λn:Nat=>Lit.int k (n:Int))) (λx a=>by
  obtain⟨q,hq,rfl⟩:=c x a;exact List.mem_map.2 ⟨q,hq,rfl⟩) (by rw[jP];unfold maxLen;omega) p (.agg #[])
 refine⟨w',s,⟨_,i,λx a=>?_,λq hq=>?_⟩,j,l⟩
 ·by_cases e:x=.int k (n:Int)
  ·exact⟨n,by simp,e⟩
  ·rw[fQ _ e]at a;obtain⟨q,hq,o⟩:=c x a;exact⟨q,by simp[hq],o⟩
 ·by_cases e: (Lit.int k (q:Int))=.int k (n:Int)
  ·rw[e,kK]
  ·rw[fQ _ e];rcases List.mem_cons.1 hq with rfl|hq
   ·exact absurd rfl e
   ·exact g q hq
theorem Cc(n:Nat)(h:n<9223372036854775808):keyOf prog 3 (.int .i64 (n:Int))=some (.int .i64 (n:Int)):=keyOf_int_mk underlying3 (by simp[Lit.wf,IntKind.min,IntKind.max,IntKind.signed,IntKind.bits];omega)
theorem Ce(n:Nat)(h:n<4294967296):keyOf prog 46 (.int .u32 (n:Int))=some (.int .u32 (n:Int)):=keyOf_int_mk underlying46 (by simp[Lit.wf,IntKind.min,IntKind.max,IntKind.signed,IntKind.bits];omega)
theorem Cf:Keyed prog 3:=int_keyed underlying3
theorem Cg:Keyed prog 46:=int_keyed underlying46
def kL(aJ:List Nat):List Nat->Bool
 | []=>true
 |i ::r=> !(aJ.contains i)&&decide (32<=i)&&decide (i<65536)&&kL (i ::aJ) r
def sw(f:af)(next:Nat):Bool:=decide (1<=f.name.length)&&decide (f.name.length<=32)&&decide (f.id<next)&&decide (many f.size=f.blocks.length)
def iO(f:af)(next:Nat)(ids aJ:List Nat):Bool:=sw f next&& !(ids.contains f.id)&&kL aJ f.blocks
theorem JY{aJ bl:List Nat}{j i:Nat}(h:bl[j]? =some i):kL ((bl.take j).reverse++aJ) (bl.drop j)=(!(((bl.take j).reverse++aJ).contains i)&&decide (32<=i)&&decide (i<65536)&&kL ((bl.take (j+1)).reverse++aJ) (bl.drop (j+1))):=by
 have hd:bl.drop j=i ::bl.drop (j+1):=by
  rw[uX (jS.1 h).1,(jS.1 h).2]
 rw[hd,bF,h]
 simp[kL]
theorem JZ(nm:List UInt8)(id d:Nat)(bl:List Nat)(ba:Option Addr)(bc next f kb:Nat)(ids aJ:List Nat)(w:World)(hL:Lies w ba (bl.map iv))(d0:bl.length<=bc)(hid:id<4294967296)(e6:d<4294967296)(z6:∀i∈bl,i<4294967296)(_:next<4294967296)(hi:cB w 46 .u32 f ids)(hk:cB w 3 .i64 kb aJ)(a6:f≠kb)(d4:nm.length<=1000000)(d2:ids.length<=1000000)(c9:aJ.length+bl.length<=1000000):
  Calls prog 145 #[.agg #[sv nm,.int .u32 (id:Int),.int .i64 (d:Int),.slice ba bl.length bc],.int .u32 (next:Int),.map (some f),.map (some kb)] w λe w'=>e=.returned (.bool (iO ⟨nm,id,d,bl⟩ next ids aJ))/\(iO ⟨nm,id,d,bl⟩ next ids aJ=true->cB w' 46 .u32 f (id ::ids)/\cB w' 3 .i64 kb (bl.reverse++aJ))/\Upon (λq=>q=f\/q=kb) w w':=by
 obtain⟨c,h1⟩:∃c:ByteArray,.string c=sv nm:=⟨_,rfl⟩
 have a8:c.size=nm.length:=by
  have e:c=⟨nm.toArray⟩:=by unfold sv at h1;injection h1
  rw[e];show nm.toArray.size=_
  simp
 obtain⟨bn,R⟩:=jl bl.length;obtain⟨W,l⟩:=jl (w.alloc (.cells #[.string c,.int .u32 (id:Int),.int .i64 (d:Int),.slice ba bn bc] 113));have z:Below w.heap.size w W:=by rw[l];exact(Below.refl _ w).alloc jn _
 have s:Blk W w.heap.size 113 #[.string c,.int .u32 (id:Int),.int .i64 (d:Int),.slice ba bn bc]:=by rw[l];exact Blk.new w _ _
 obtain⟨o,n⟩:=jl w.heap.size;rw[<-h1,<-R];rw[<-n]at s;obtain⟨res,B⟩:=jl (iO ⟨nm,id,d,bl⟩ next ids aJ);rw[<-B];have c0:W.cell? ⟨o,0,none⟩=some (.string c):=s.cell 0;have c1:W.cell? ⟨o,1,none⟩=some (.int .u32 (id:Int)):=s.cell 1;have c2:W.cell? ⟨o,2,none⟩=some (.int .i64 (d:Int)):=s.cell 2;have c3:W.cell? ⟨o,3,none⟩=some (.slice ba bn bc):=s.cell 3;have h8:=jq (λm=>yE d (by omega) (W.drewN m));have x:=jq (show sw ⟨nm,id,d,bl⟩ next=(decide (1<=c.size)&&decide (c.size<=32)&&decide (id<next)&&decide (many d=bn))from by unfold sw;rw[a8,R]);have p:=jq B;have h3:=jq s;have b2:=jq z;have HI:=jq (hi.keep (z.block f hi.lt));have HK:=jq (hk.keep (z.block kb hk.lt));have HL:=jq (hL.later z);have b1:=jq z6;have h2:=jq R;have y:Hid (Upon (λq=>q=f\/q=kb) w W):=jq (Upon.of_below z);have e5:c.size<=1000000:=by omega
 have d8:bn<=1000000:=by omega
 have d9:bn<=bc:=by omega
 have y5:=jq a6;have b0:Hid (aJ.length+bn<=1000000):=jq (by omega);clear hL d0 z6 hi hk a6 d4 c9 h1 a8 R s B z
 by_cases M:c.size=0
 ·have a:res=false:=by rw[p.out];unfold iO;rw[x.out];simp[M]
  have z7: ((c.size:Int)==0)=true:=by simp[M]
  subst a
  go_enter func145,ntmps145
  go_wp2_with fail
  rw[<-l,<-n];clear l n
  go_quiet (fail)
  go_wp2_with fail
  go_ret
  exact⟨rfl,λh=>(by cases h),y.out.drewN _⟩
 have z7: ((c.size:Int)==0)=false:=by simp[M]
 by_cases g1:32<c.size
 ·have a:res=false:=by rw[p.out];unfold iO;rw[x.out];simp;omega
  have S:decide ((32:Int) <(c.size:Int))=true:=by simp;omega
  have T:decide (32<c.size)=true:=by simp;omega
  subst a
  go_enter func145,ntmps145
  go_wp2_with fail
  rw[<-l,<-n];clear l n
  go_quiet (fail)
  go_wp2_with fail
  go_ret
  exact⟨rfl,λh=>(by cases h),y.out.drewN _⟩
 have S:decide ((32:Int) <(c.size:Int))=false:=by simp;omega
 have T:decide (32<c.size)=false:=by simp;omega
 by_cases g2:next<=id
 ·have a:res=false:=by rw[p.out];unfold iO;rw[x.out];simp;omega
  have U:decide ((next:Int)<=(id:Int))=true:=by simp;omega
  have X:decide (next<=id)=true:=by simp;omega
  subst a
  go_enter func145,ntmps145
  go_wp2_with fail
  rw[<-l,<-n];clear l n
  go_quiet (fail)
  go_wp2_with fail
  go_ret
  exact⟨rfl,λh=>(by cases h),y.out.drewN _⟩
 have U:decide ((next:Int)<=(id:Int))=false:=by simp;omega
 have X:decide (next<=id)=false:=by simp;omega
 have d1:decide ((d:Int) <0)=false:=by simp
 by_cases g3:many d≠bn
 ·have a:res=false:=by rw[p.out];unfold iO;rw[x.out];simp;omega
  have z8: ((many d:Int)==(bn:Int))=false:=by simp;omega
  have z9: (many d==bn)=false:=by simp;omega
  subst a
  go_enter func145,ntmps145
  go_wp2_with fail
  rw[<-l,<-n];clear l n
  go_quiet ((go_at_call 96;refine Calls.quiet_of_same (h8.out _)))
  go_wp2_with fail
  go_ret
  exact⟨rfl,λh=>(by cases h),y.out.drewN _⟩
 have y8:many d=bn:=by omega
 have z8: ((many d:Int)==(bn:Int))=true:=by simp;omega
 have z9: (many d==bn)=true:=by simp;omega
 have a:res=(!(ids.contains id)&&kL aJ bl):=by
  rw[p.out];unfold iO;rw[x.out];have e1:decide (1<=c.size)=true:=by simp;omega
  have e2:decide (c.size<=32)=true:=by simp;omega
  have e3:decide (id<next)=true:=by simp;omega
  have e4:decide (many d=bn)=true:=by simp[y8]
  rw[e1,e2,e3,e4]
  rfl
 have C:=jq a;clear a p
 go_enter func145,ntmps145
 go_wp2_with fail
 rw[<-l,<-n];clear l n
 go_quiet ((go_at_call 96;refine Calls.quiet_of_same (h8.out _)))
 obtain⟨V,O⟩:=jl (W.drewN nq);have E:Below W.heap.size W V:=by rw[O];exact⟨rfl,rfl,rfl,aj _,λ_ _=>rfl⟩
 have z3:Upon (λq=>q=f\/q=kb) w V:=by rw[O];exact y.out.drewN _
 rw[<-O];have x3:Blk V o 113 #[.string c,.int .u32 (id:Int),.int .i64 (d:Int),.slice ba bn bc]:=h3.out.below E h3.out.lt;have h9:cB V 46 .u32 f ids:=HI.out.keep (E.block f HI.out.lt);have y9:cB V 3 .i64 kb aJ:=HK.out.keep (E.block kb HK.out.lt);have z0:=HL.out.later E;have k1:V.cell? ⟨o,1,none⟩=some (.int .u32 (id:Int)):=x3.cell 1;have Z:=h9.look Cg underlying238 id (Ce id hid);have y4:=jq x3;have h5:=jq h9;have h6:=jq y9;have h7:=jq z0;have y7:=jq z3;clear O E z3 x3 h9 y9 z0 c0 c1 c2 c3 z7 S T U X d1 z8 z9 M g1 g2 g3 y8 h8 x HI HK HL h3 b2 y;have a7:∀q,Mem.blk ba=some q->bl≠[]->q≠f/\q≠kb:=λq hq h0=>⟨λe=>h5.out.far h7.out (by simpa using h0) (by rw[hq,e]),λe=>h6.out.far h7.out (by simpa using h0) (by rw[hq,e])⟩
 have b9:=jq a7;clear a7
 cases hcon:ids.contains id with
 |true=>
  rw[hcon]at Z C;clear hcon;have a:=C.out
  simp at a
  subst a
  go_wp2_with fail
  go_ret
  exact⟨rfl,λh=>(by cases h),y7.out.alloc _⟩
 |false=>
  rw[hcon]at Z C;clear hcon;have B:res=kL aJ bl:=by rw[C.out];rfl
  have p:=jq B;clear B C;obtain⟨V1,x1⟩:=jl (V.alloc (.cells #[] 267));have D:Below V.heap.size V V1:=by rw[x1];exact(Below.refl _ V).alloc jn _
  have Q:=y4.out.below D y4.out.lt;have y3:V1.cell? ⟨o,1,none⟩=some (.int .u32 (id:Int)):=Q.cell 1;have x5:=h5.out.keep (D.block f h5.out.lt);have x8:=h6.out.keep (D.block kb h6.out.lt);obtain⟨V2,y2,a1,Y,d5⟩:=x5.put Cg underlying238 id (Ce id hid) d2
  have z5:Blk V2 o 113 _:=Q.grown Y (λe=>by
   injection e with e;exact x5.yF Q e)
  have k3:V2.cell? ⟨o,3,none⟩=some (.slice ba bn bc):=z5.cell 3;have a3:=x8.keep (Y.block kb x8.lt (λe=>y5.out (by injection e with e;exact e.symm)));have z1:Upon (λq=>q=f\/q=kb) V V2:=(Upon.of_below D).trans (Upon.of_grown (P:=λq=>q=f) Y (λq e=>.inl (by injection e with e;exact e.symm))) (λq hq=>.inl (.inl hq));rw[x1]at y2 y3;have b3:=jq a1;have b6:=jq a3;have c4:=jq z1;clear x1 D Q x5 x8 z5 Y d5 a1 a3 z1
  go_wp2_with fail
  go_loopw[60] (λi wr=>∃j,j<=bn/\i=.int .i64 j/\cB wr 46 .u32 f (id ::ids)/\cB wr 3 .i64 kb ((bl.take j).reverse++aJ)/\Upon (λq=>q=f\/q=kb) V wr/\res=kL ((bl.take j).reverse++aJ) (bl.drop j)) (λi _=>bn-(intOf i).toNat)
  case atStart=>exact⟨0,aC _,rfl,b3.out,by simpa using b6.out,c4.out,by simpa using p.out⟩
  case round=>
   obtain⟨j,hj,rfl,x0,r,F,v⟩:=hrel;have h4:=jq x0;have J:=jq (y7.out.trans F (λq hq=>.inl hq));have c6:=jq F
   by_cases d3:j<bn
   ·obtain⟨q,hq⟩:∃q,bl[j]? =some q:=⟨bl[j]'(by rw[<-h2.out];exact d3),jg _⟩;have e0:=b1.out q (jM hq);have A:=JY (aJ:=aJ) hq;have y1: (bl.take (j+1)).reverse++aJ=q ::((bl.take j).reverse++aJ):=by rw[bF,hq];simp
    have y0: ((bl.take j).reverse++aJ).length<=1000000:=by
     have:=b0.out;rw[jL,List.length_reverse,jT]
     omega
    obtain⟨acc,z4⟩:=jl ((bl.take j).reverse++aJ);rw[<-z4]at r v A y1 y0
    obtain⟨bg,bo,rfl,cq⟩:=iB (h7.out.upon F (λg hg G=>by
     have:=b9.out g hg (λe=>by rw[e]at hq;simp at hq);rcases G with G|G
     ·exact this.1 G
     ·exact this.2 G)) (k:=j) (u:=.int .i64 (q:Int)) (by simp[hq,iv])
    have a5:=r.look Cf underlying239 q (Cc q (by omega));have H:=jq v;have I:=jq r;have y6:=jq y1;have b8:=jq y0;clear x0 r F v y1 y0 hq z4 Z y2 k3 y3 k1
    cases hc2:acc.contains q with
    |true=>
     rw[hc2]at a5;have a:res=false:=by rw[H.out,A,hc2];rfl
     subst a
     go_wp2_with fail
     go_ret
     exact⟨rfl,λh=>(by cases h),J.out.alloc _⟩
    |false=>
     rw[hc2]at a5
     by_cases c7:q<32
     ·have S:decide ((q:Int) <32)=true:=by simp;omega
      have T:decide (q<32)=true:=by simp;omega
      have a:res=false:=by
       have e:decide (32<=q)=false:=by simp;omega
       rw[H.out,A,e]
       simp
      subst a
      go_wp2_with fail
      go_ret
      exact⟨rfl,λh=>(by cases h),J.out.alloc _⟩
     have S:decide ((q:Int) <32)=false:=by simp;omega
     have T:decide (q<32)=false:=by simp;omega
     by_cases c8:65536<=q
     ·have U:decide ((65536:Int)<=(q:Int))=true:=by simp;omega
      have X:decide (65536<=q)=true:=by simp;omega
      have a:res=false:=by
       have e:decide (q<65536)=false:=by simp;omega
       rw[H.out,A,e]
       simp
      subst a
      go_wp2_with fail
      go_ret
      exact⟨rfl,λh=>(by cases h),J.out.alloc _⟩
     have U:decide ((65536:Int)<=(q:Int))=false:=by simp;omega
     have X:decide (65536<=q)=false:=by simp;omega
     obtain⟨V3,x2⟩:=jl (wr.alloc (.cells #[] 267));have N:Below wr.heap.size wr V3:=by rw[x2];exact(Below.refl _ wr).alloc jn _
     have a4:=I.out.keep (N.block kb I.out.lt);have x6:=h4.out.keep (N.block f h4.out.lt);obtain⟨V4,d7,x9,x4,d6⟩:=a4.put Cf underlying239 q (Cc q (by omega)) b8.out;have a2:=x6.keep (x4.block f x6.lt (λe=>y5.out (by injection e with e)));have z2:Upon (λq=>q=f\/q=kb) V V4:=(c6.out.trans (Upon.of_below (P:=λ_=>False) N) (λ_ h=>h.elim)).trans (Upon.of_grown (P:=λq=>q=kb) x4 (λq e=>.inl (by injection e with e;exact e.symm))) (λq hq=>.inl (.inr hq));have x7:res=kL (q ::acc) (bl.drop (j+1)):=by rw[H.out,A,y6.out,hc2];simp;omega
     rw[x2]at d7;rw[<-y6.out]at x9 x7;have b7:=jq x9;have b4:=jq a2;have c5:=jq z2;have b5:=jq x7;clear x2 N a4 x6 x9 x4 d6 a2 z2 x7 A hc2 c7 c8
     go_wp2_with fail
     go_roundw
     case rel=>exact⟨j+1,by omega,by simp,b4.out,b7.out,c5.out,b5.out⟩
     case measure=>simp[intOf];omega
   ·obtain rfl:j=bn:=by omega
    have a9:bl.take j=bl:=by rw[h2.out,lC]
    have a0:bl.drop j= []:=by rw[h2.out,List.drop_length]
    rw[a9]at r v;rw[a0]at v;have a:res=true:=v;subst a;have I:=jq r;clear x0 r F v a9 a0 Z y2 k3 y3 k1
    go_wp2_with fail
    go_ret
    exact⟨rfl,⟨h4.out,I.out⟩,J.out⟩
end aA
end Go.Proofs.YtndkohocgfmamaaGreatDoor
