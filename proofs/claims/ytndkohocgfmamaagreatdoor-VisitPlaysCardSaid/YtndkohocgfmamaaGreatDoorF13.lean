/- Part. -/
import Derived.Test.YtndkohocgfmamaaGreatDoorF12
import Derived.Sort.Walk0
set_option maxHeartbeats 2000000
set_option maxRecDepth 100000
namespace Go.Proofs.YtndkohocgfmamaaGreatDoor
open Go.Proofs.Tryz
namespace aA
open Go.RowKit Go.Deep Mem Crc Varint Go.Maps
def lF(next:Nat):Option (List UInt8)->List Nat->List Nat->List af->Bool
 |_,_,_,[]=>true
 |prev,ids,aJ,f ::r=>(prev.all (λp=>decide (p<f.name)))&&iO f next ids aJ&&lF next (some f.name) (f.id ::ids) (f.blocks.reverse++aJ) r
def dw(ver next:Nat)(l:List af):Bool:=lF next none [] [] l&&decide ((bN ver next l).length<=2035)
theorem sD{b c:List UInt8}{d e:ByteArray}(hb:.string d=sv b)(hc:.string e=sv c): (Op.bytesLess d.toList e.toList||d.toList==e.toList)=decide (b<=c):=by
 unfold sv at hb hc;injection hb with hb;injection hc with hc;subst hb hc;rw[Lib.toList_data,Lib.toList_data,bytesLess_eq];show(decide (b<c)||b==c)=decide (b<=c)
 by_cases h:b=c
 ·subst h
  simp
 ·have g: (b==c)=false:=by simpa using h
  rw[g,Bool.or_false];refine decide_eq_decide.2 ⟨λh=>List.le_of_lt h,λf=>?_⟩;rcases oJ.1 f with a|a
  ·exact a
  ·exact absurd a h
theorem yG(t:TypeId)(a b:ByteArray):binOp .leq t (.string a) (.string b)=pure (.bool (Op.bytesLess a.toList b.toList||a.toList==b.toList)):=by simp[binOp,Op.stringOp]
attribute [local go_sem] yG
def kM(fs:List af):Nat->Option (List UInt8)
 |0=>none
 |k+1=>(fs[k]?).map af.name
theorem Ch(nm:List UInt8):∃a:ByteArray,.string a=sv nm/\a.size=nm.length:=by
 refine⟨⟨nm.toArray⟩,rfl,?_⟩;show nm.toArray.size=_
 simp
theorem J2{next k:Nat}{fs:List af}{f:af}{ids aJ:List Nat}(h:fs[k]? =some f):lF next (kM fs k) ids aJ (fs.drop k)=((kM fs k).all (λp=>decide (p<f.name))&&iO f next ids aJ&&lF next (kM fs (k+1)) (f.id ::ids) (f.blocks.reverse++aJ) (fs.drop (k+1))):=by
 have hd:fs.drop k=f ::fs.drop (k+1):=by
  rw[uX (jS.1 h).1,(jS.1 h).2]
 rw[hd];have e:kM fs (k+1)=some f.name:=by show(fs[k]?).map af.name=_;rw[h];rfl
 rw[e]
 rfl
def aI(l:List af):List Nat:=l.flatMap af.blocks
theorem Ci(f:af):f.name.length+f.blocks.length+1<=(bW f).length:=by
 have a:=BZ f.blocks;have b:=BV f.id;unfold bW;simp only[jL]
 omega
theorem yH(l:List af): (aI l).length+l.length<=(l.flatMap bW).length:=by
 induction l with
 |nil=>exact aj _
 |cons x r a=>
  have:=Ci x;unfold aI at a⊢;simp only[jC,jL,List.length_cons]
  omega
theorem mH(ver next:Nat)(a:Option Addr)(c:Nat)(l:List FR)(w:World)(h:bV w a l)(hv:ver<18446744073709551616)(hn:next<4294967296)(hf:∀x∈l,x.f.fits)(hm: (bN ver next (l.map FR.f)).length<=900000):
  Calls prog 99 #[.agg #[.int .u64 (ver:Int),.int .u32 (next:Int),.slice a l.length c]] w λe w'=>e=.returned (.bool (dw ver next (l.map FR.f)))/\Below w.heap.size w w':=by
 have e0:=yH (l.map FR.f);have g5: ((l.map FR.f).flatMap bW).length<=900000:=by unfold bN at hm;simp only[jL]at hm;omega
 obtain⟨n,a8⟩:=jl l.length;have i4:n<=1000000:=by rw[jP]at e0;omega
 obtain⟨fs,y3⟩:=jl (l.map FR.f);obtain⟨W,Y⟩:=jl (((w.alloc (.cells #[.int .u64 (ver:Int),.int .u32 (next:Int),.slice a n c] 108)).alloc (.map #[] 0)).alloc (.map #[] 0));obtain⟨xb,h5⟩:=jl w.heap.size;have c9:Below w.heap.size w W:=by rw[Y];exact(((Below.refl _ w).alloc jn _).alloc (by simp) _).alloc (by simp;omega) _
 have z:Blk W xb 108 #[.int .u64 (ver:Int),.int .u32 (next:Int),.slice a n c]:=by rw[Y,h5];exact((Blk.new w _ _).alloc _).alloc _
 have d4:cB W 46 .u32 (xb+1) []:=by
  have:=cB.made (w.alloc (.cells #[.int .u64 (ver:Int),.int .u32 (next:Int),.slice a n c] 108)) 46 .u32;rw[World.size_alloc]at this;rw[Y,h5];exact this.keep (Below.heap_alloc _ _ _ (by simp))
 have d5:cB W 3 .i64 (xb+1+1) []:=by
  have:=cB.made ((w.alloc (.cells #[.int .u64 (ver:Int),.int .u32 (next:Int),.slice a n c] 108)).alloc (.map #[] 0)) 3 .i64;rw[World.size_alloc,World.size_alloc]at this;rw[Y,h5];exact this
 rw[<-a8,<-y3];obtain⟨res,f1⟩:=jl (lF next none [] [] fs);have HF:=jq h;have b6:=jq hf;have U:=jq a8;have F:=jq y3;have f3:=jq c9;have f4:=jq z;have f5:=jq d4;have f6:=jq d5;have z6:=jq h5;have h7:=jq f1;have HM:=jq hm;have f2:Hid ((aI fs).length<=900000):=jq (by rw[y3];omega);have g6:=run_makeMap (P:=prog) 238 (w.alloc (.cells #[.int .u64 (ver:Int),.int .u32 (next:Int),.slice a n c] 108));have g7:=run_makeMap (P:=prog) 239 ((w.alloc (.cells #[.int .u64 (ver:Int),.int .u32 (next:Int),.slice a n c] 108)).alloc (.map #[] 0));have m2:W.cell? ⟨xb,2,none⟩=some (.slice a n c):=z.cell 2;clear h hf a8 y3 c9 z d4 d5 f1 hm e0 g5
 go_enter func99,ntmps99
 go_wp2_with fail
 rw[<-Y,<-h5];clear Y h5 g6 g7
 go_loopw[14] (λi wr=>∃k ids,k<=n/\i=.int .i64 k/\Below w.heap.size w wr/\Blk wr xb 108 #[.int .u64 (ver:Int),.int .u32 (next:Int),.slice a n c]/\cB wr 46 .u32 (xb+1) ids/\cB wr 3 .i64 (xb+1+1) (aI (fs.take k)).reverse/\ids.length=k/\res=lF next (kM fs k) ids (aI (fs.take k)).reverse (fs.drop k)) (λi _=>n-(intOf i).toNat)
 case atStart=>exact⟨0,[],aC _,rfl,f3.out,f4.out,f5.out,by simpa[aI]using f6.out,rfl,by simpa[aI,kM]using h7.out⟩
 case round=>
  obtain⟨k,ids,hk,rfl,G,z,hI,hK,a6,x6⟩:=hrel
  by_cases hlt:k<n
  ·obtain⟨x,hx⟩:∃x,l[k]? =some x:=⟨l[k]'(by rw[<-U.out];exact hlt),jg _⟩;have y4:fs[k]? =some x.f:=by rw[F.out,List.getElem?_map,hx];rfl
   obtain⟨g,o,rfl,c0,c1,c2,X⟩:=(HF.out.later G).cells hx;have y6:=jM hx;obtain⟨z8,a2⟩:=HF.out.blocks x y6;have x4:=b6.out x y6
   have x3: (aI (fs.take (k+1))).reverse=x.f.blocks.reverse++(aI (fs.take k)).reverse:=by
    unfold aI;rw[yC af.blocks y4,List.reverse_append]
   have f9: (aI (fs.take (k+1))).length<=900000:=by
    have j:=yD af.blocks fs (k+1);have C:=f2.out;unfold aI at C⊢
    omega
   have h0:=J2 (next:=next) (ids:=ids) (aJ:=(aI (fs.take k)).reverse) y4
   have e8:x.f.name.length<=900000:=by
    have j:x.f∈fs:=by rw[F.out];exact List.mem_map.2 ⟨x,y6,rfl⟩
    have C:=Ci x.f
    have h3: (bW x.f).length<=(fs.flatMap bW).length:=by
     obtain⟨s,t,e⟩:=rP j;rw[e,ig,jC];simp only[jL]
     omega
    have h4:=HM.out;rw[<-F.out]at h4;unfold bN at h4;simp only[jL]at h4
    omega
   obtain⟨aJ,e5⟩:=jl ((aI (fs.take k)).reverse);rw[<-e5]at hK h0 x6 x3
   have e6:aJ.length+x.f.blocks.length<=900000:=by
    have j:=congrArg List.length x3;rw[List.length_reverse,jL,List.length_reverse]at j
    omega
   obtain⟨⟨nm,id,r,bl⟩,ba,y⟩:=x;dsimp only at c0 c1 c2 X z8 a2 x4 x3 h0 e8 e6 y4;obtain⟨m,y5,g8⟩:=Ch nm;obtain⟨bn,a0⟩:=jl bl.length;unfold iv at c2;rw[<-y5]at c0;rw[<-a0]at X;obtain⟨W1,y0⟩:=jl (wr.alloc (.cells #[.string m,.int .u32 (id:Int),.int .i64 (r:Int),.slice ba bn y] 113));obtain⟨b,a5⟩:=jl wr.heap.size;have h9:Below wr.heap.size wr W1:=by rw[y0];exact(Below.refl _ wr).alloc jn _
   have y1:Blk W1 b 113 #[.string m,.int .u32 (id:Int),.int .i64 (r:Int),.slice ba bn y]:=by rw[y0,a5];exact Blk.new wr _ _
   have y2:=z.below h9 z.lt;have x8:=hI.keep (h9.block _ hI.lt);have x9:=hK.keep (h9.block _ hK.lt);have z7:Below w.heap.size w W1:=G.trans (h9.mono G.size)
   have d9:Calls prog 145 #[.agg #[.string m,.int .u32 (id:Int),.int .i64 (r:Int),.slice ba bn y],.int .u32 (next:Int),.map (some (xb+1)),.map (some (xb+1+1))] W1.drew λe w'=>e=.returned (.bool (iO ⟨nm,id,r,bl⟩ next ids aJ))/\(iO ⟨nm,id,r,bl⟩ next ids aJ=true->cB w' 46 .u32 (xb+1) (id ::ids)/\cB w' 3 .i64 (xb+1+1) (bl.reverse++aJ))/\Upon (λq=>q=xb+1\/q=xb+1+1) W1.drew w':=by
    have:=JZ nm id r bl ba y next (xb+1) (xb+1+1) ids aJ W1.drew ((z8.later z7).later ((Below.refl _ W1).drew)) a2 x4.id x4.size x4.blocks hn (x8.keep rfl) (x9.keep rfl) (by omega) (by omega) (by omega) (by omega);rw[<-y5,<-a0]at this;exact this
   have V:=jq d9;have c6:=jq y5;have R:=jq y1;have x7:=jq y2;have i0:=jq x8;have i1:=jq x9;have u:=jq z7;have b4:=jq x3;have h6:=jq x6;have b7:=jq a6;have g9:=jq y4;have T:Hid (b≠xb+1/\b≠xb+1+1/\xb≠xb+1/\xb≠xb+1+1):=jq ⟨x8.yF y1,x9.yF y1,by omega,by omega⟩;have h8:=jq h0;have i5:m.size<=1000000:=by omega
   clear d9 y5 g8 y1 x8 x9 z7 x3 f9 x6 a6 z8 a2 x4 a0 hI hK z G e5 e8 e6 hx y6;have d0:W1.cell? ⟨b,0,none⟩=some (.string m):=R.out.cell 0;have d1:W1.cell? ⟨b,1,none⟩=some (.int .u32 (id:Int)):=R.out.cell 1;have d2:W1.cell? ⟨b,2,none⟩=some (.int .i64 (r:Int)):=R.out.cell 2;have d3:W1.cell? ⟨b,3,none⟩=some (.slice ba bn y):=R.out.cell 3;have e1:W1.cell? ⟨xb,1,none⟩=some (.int .u32 (next:Int)):=y2.cell 1;have e2:W1.cell? ⟨xb,2,none⟩=some (.slice (some ⟨g,o,none⟩) n c):=y2.cell 2;clear y2
   go_wp2_with fail
   rw[<-y0,<-a5];clear y0 a5 h9 c0 c1 c2 X m2
   by_cases a7:k=0
   ·have g0:decide ((0:Int) <(k:Int))=false:=by simp;omega
    have g1:decide (0<k)=false:=by simp;omega
    have H:W1.drew.cell? ⟨b,0,none⟩=some (.string m)/\W1.drew.cell? ⟨b,1,none⟩=some (.int .u32 (id:Int))/\W1.drew.cell? ⟨b,2,none⟩=some (.int .i64 (r:Int))/\W1.drew.cell? ⟨b,3,none⟩=some (.slice ba bn y)/\W1.drew.cell? ⟨xb,1,none⟩=some (.int .u32 (next:Int)):=⟨d0,d1,d2,d3,e1⟩
    have z3:Hid (∀w3,Upon (λq=>q=xb+1\/q=xb+1+1) W1.drew w3->w3.cell? ⟨b,0,none⟩=some (.string m)/\w3.cell? ⟨b,1,none⟩=some (.int .u32 (id:Int))/\w3.cell? ⟨b,2,none⟩=some (.int .i64 (r:Int))/\w3.cell? ⟨b,3,none⟩=some (.slice ba bn y)/\w3.cell? ⟨xb,1,none⟩=some (.int .u32 (next:Int))):=jq (λw3 hu=>by
     have j:Blk w3 b 113 _:=Blk.upon (w:=W1.drew) R.out hu (by have:=T.out;omega);have C:Blk w3 xb 108 _:=Blk.upon (w:=W1.drew) x7.out hu (by have:=T.out;omega);exact⟨j.cell 0,j.cell 1,j.cell 2,j.cell 3,C.cell 1⟩)
    have y8:Hid ((kM fs k).all (λp=>decide (p<nm))=true):=jq (by rw[a7];rfl);clear d0 d1 d2 d3 e1 e2 h0;refine wp_region_noPanic ?_;refine wp_region_held_drew (S:=λw'=>w'.cell? ⟨b,0,none⟩=some (.string m)/\w'.cell? ⟨b,1,none⟩=some (.int .u32 (id:Int))/\w'.cell? ⟨b,2,none⟩=some (.int .i64 (r:Int))/\w'.cell? ⟨b,3,none⟩=some (.slice ba bn y)/\w'.cell? ⟨xb,1,none⟩=some (.int .u32 (next:Int))) (by kernel_rfl) H (λhHeld=>?_);refine' jk 0 ?_
    try simp only[Act.put,ji,js,ju]
    refine' jk 1 ?_
    try simp only[Act.put,ji,js,ju]
    refine' jk 2 ?_
    try simp only[Act.put,ji,js,ju]
    refine' jj 3 ?_
    try simp only[Act.put,ji,js,ju]
    refine' jj 4 ?_
    try simp only[Act.put,ji,js,ju]
    refine' jj 5 ?_
    try simp only[Act.put,ji,js,ju]
    refine' jj 6 ?_
    try simp only[Act.put,ji,js,ju]
    refine' jj 7 ?_
    try simp only[Act.put,ji,js,ju]
    refine' jj 8 ?_
    try simp only[Act.put,ji,js,ju]
    refine' jj 9 ?_
    try simp only[Act.put,ji,js,ju]
    refine' jj 10 ?_
    try simp only[Act.put,ji,js,ju]
    refine' jj 11 ?_
    try simp only[Act.put,ji,js,ju]
    refine' jj 12 ?_
    try simp only[Act.put,ji,js,ju]
    refine' jk 13 ?_
    try simp only[Act.put,ji,js,ju]
    refine' jk 14 ?_
    try simp only[Act.put,ji,js,ju]
    refine' jk 15 ?_
    try simp only[Act.put,ji,js,ju]
    refine' jk 16 ?_
    try simp only[Act.put,ji,js,ju]
    refine' jk 17 ?_
    try simp only[Act.put,ji,js,ju]
    refine' jk 18 ?_
    try simp only[Act.put,ji,js,ju]
    refine' jk 19 ?_
    try simp only[Act.put,ji,js,ju]
    refine wpAnyH_ready (rs:=[20]) (by kernel_rfl) (by simp) ?_;refine' AllReadyH.cons (o:=?J3) ?yI (λK hK=>?yJ) ?J4
    case yI=>(simp only[jt,jb,ja];rfl)
    case yJ=>
     go_simp
     (go_at_call 145;refine V.out.mono ?_;rintro e w3 ⟨rfl,O,A⟩;have I:=z3.out w3 A;dsimp only)
     refine hK.out _ _ ?_ (λhHeld=>?_)
     ·exact I
     clear hK K
     try simp only[Act.put,ji,js,ju]
     refine' jk 21 ?_
     try simp only[Act.put,ji,js,ju]
     refine' jk 22 ?_
     try simp only[Act.put,ji,js,ju]
     refine wpAnyH_done (by kernel_rfl) ?_ _;refine NoPanic.normal ?_
     rename_i hHeld
     clear hHeld;have J:Blk w3 xb 108 _:=Blk.upon (w:=W1.drew) x7.out A (by have:=T.out;omega);have B:Below w.heap.size w w3:=u.out.drew.trans (A.below (w:=W1.drew) u.out.size (λq hq=>by have:=z6.out;omega))
     cases hrb:iO ⟨nm,id,r,bl⟩ next ids aJ with
     |false=>
      have D:res=false:=by rw[h6.out,h8.out,hrb,Bool.and_false,Bool.false_and]
      subst D;have E:=jq B;clear O A I J B hrb H V
      go_wp2_with fail
      go_ret
      exact⟨by unfold dw;rw[<-h7.out];rfl,E.out⟩
     |true=>
      obtain⟨x5,N⟩:=O hrb;have M:res=lF next (kM fs (k+1)) (id ::ids) (bl.reverse++aJ) (fs.drop (k+1)):=by rw[h6.out,h8.out,hrb,y8.out,Bool.and_true,Bool.true_and]
      rw[<-b4.out]at N M;have z0:=jq x5;have z2:=jq N;have z1:=jq M;have E:=jq B;have y9:=jq J;clear O A I J B hrb H V x5 N M
      go_wp2_with fail
      go_roundw
      case rel=>exact⟨k+1,id ::ids,by omega,(by simp[a7]),E.out,y9.out,z0.out,z2.out,by rw[List.length_cons,b7.out],z1.out⟩
      case measure=>simp[intOf];omega
    exact AllReadyH.nil
   ·obtain⟨d,rfl⟩:∃d,k=d+1:=⟨k-1,by omega⟩;obtain⟨pf,b0⟩:∃pf,l[d]? =some pf:=⟨l[d]'(by rw[<-U.out];omega),jg _⟩;obtain⟨pg,po,f8,y7,_,_,_⟩:=(HF.out.later u.out).cells b0;cases f8;obtain⟨Q,a9,_⟩:=Ch pf.f.name;rw[<-a9]at y7;have b8:=jq a9;have f0:kM fs (d+1)=some pf.f.name:=by show(fs[d]?).map af.name=_;rw[F.out,List.getElem?_map,b0];rfl
    have e7:g<w.heap.size:=by
     rcases HF.out.row with e|⟨g',o',e,g3,_⟩
     ·have j:=jr l;rw[e]at j;have C:=U.out;simp only[List.length_nil]at j
      omega
     ·cases e;exact g3
    have g0:decide ((0:Int) <((d+1:Nat):Int))=true:=by simp only[decide_eq_true_eq];omega
    have g1:decide (0<d+1)=true:=by simp
    have c5:=jq f0;clear b0 a9 f0 a7
    by_cases Z:nm<=pf.f.name
    ·have g4: (Op.bytesLess m.toList Q.toList||m.toList==Q.toList)=true:=by rw[sD c6.out b8.out];simpa using Z
     have D:res=false:=by
      have e:decide (pf.f.name<nm)=false:=by
       simp only[decide_eq_false_iff_not];exact iM.2 Z
      rw[h6.out,h8.out,c5.out];simp only[Option.all_some,e,Bool.false_and]
     subst D;clear Z h0 e7
     go_quiet (fail)
     go_wp2_with fail
     go_ret
     exact⟨by unfold dw;rw[<-h7.out];rfl,⟨u.out.os,u.out.tape,u.out.output,u.out.size,u.out.block⟩⟩
    ·have g4: (Op.bytesLess m.toList Q.toList||m.toList==Q.toList)=false:=by rw[sD c6.out b8.out];simpa using Z
     have y8:Hid ((kM fs (d+1)).all (λp=>decide (p<nm))=true):=jq (by
      rw[c5.out];simp only[Option.all_some,decide_eq_true_eq];exact List.not_le.1 Z)
     have H:W1.drew.cell? ⟨b,0,none⟩=some (.string m)/\W1.drew.cell? ⟨b,1,none⟩=some (.int .u32 (id:Int))/\W1.drew.cell? ⟨b,2,none⟩=some (.int .i64 (r:Int))/\W1.drew.cell? ⟨b,3,none⟩=some (.slice ba bn y)/\W1.drew.cell? ⟨xb,1,none⟩=some (.int .u32 (next:Int))/\W1.drew.cell? ⟨xb,2,none⟩=some (.slice (some ⟨g,o,none⟩) n c)/\W1.drew.cell? ⟨g,o+d*4,none⟩=some (.string Q):=⟨d0,d1,d2,d3,e1,e2,y7⟩
     have z3:Hid (∀w3,Upon (λq=>q=xb+1\/q=xb+1+1) W1.drew w3->w3.cell? ⟨b,0,none⟩=some (.string m)/\w3.cell? ⟨b,1,none⟩=some (.int .u32 (id:Int))/\w3.cell? ⟨b,2,none⟩=some (.int .i64 (r:Int))/\w3.cell? ⟨b,3,none⟩=some (.slice ba bn y)/\w3.cell? ⟨xb,1,none⟩=some (.int .u32 (next:Int))/\w3.cell? ⟨xb,2,none⟩=some (.slice (some ⟨g,o,none⟩) n c)/\w3.cell? ⟨g,o+d*4,none⟩=some (.string Q)):=jq (λw3 hu=>by
      have j:Blk w3 b 113 _:=Blk.upon (w:=W1.drew) R.out hu (by have:=T.out;omega);have C:Blk w3 xb 108 _:=Blk.upon (w:=W1.drew) x7.out hu (by have:=T.out;omega);refine⟨j.cell 0,j.cell 1,j.cell 2,j.cell 3,C.cell 1,C.cell 2,?_⟩;have h3:=hu.block g (aD e7 u.out.size) (by have:=z6.out;omega);rw[<-y7];exact World.cell?_of_block h3)
     clear Z h0 d0 d1 d2 d3 e1 e2 y7;have i2:d<n:=by omega
     have i6:IntKind.i64.wrap (d:Int)=(d:Int):=by rw[IntKind.wrap_i64];omega
     refine wp_region_noPanic ?_;refine wp_region_held_drew (S:=λw'=>w'.cell? ⟨b,0,none⟩=some (.string m)/\w'.cell? ⟨b,1,none⟩=some (.int .u32 (id:Int))/\w'.cell? ⟨b,2,none⟩=some (.int .i64 (r:Int))/\w'.cell? ⟨b,3,none⟩=some (.slice ba bn y)/\w'.cell? ⟨xb,1,none⟩=some (.int .u32 (next:Int))/\w'.cell? ⟨xb,2,none⟩=some (.slice (some ⟨g,o,none⟩) n c)/\w'.cell? ⟨g,o+d*4,none⟩=some (.string Q)) (by kernel_rfl) H (λhHeld=>?_);refine' jk 0 ?_
     try simp only[Act.put,ji,js,ju]
     refine' jk 1 ?_
     try simp only[Act.put,ji,js,ju]
     refine' jk 2 ?_
     try simp only[Act.put,ji,js,ju]
     refine' jk 3 ?_
     try simp only[Act.put,ji,js,ju]
     refine' jk 4 ?_
     try simp only[Act.put,ji,js,ju]
     refine' jk 5 ?_
     try simp only[Act.put,ji,js,ju]
     refine' jk 6 ?_
     try simp only[Act.put,ji,js,ju]
     refine' jk 7 ?_
     try simp only[Act.put,ji,js,ju]
     refine' jk 8 ?_
     try simp only[Act.put,ji,js,ju]
     refine' jk 9 ?_
     try simp only[Act.put,ji,js,ju]
     refine' jk 10 ?_
     try simp only[Act.put,ji,js,ju]
     refine' jk 11 ?_
     try simp only[Act.put,ji,js,ju]
     refine' jk 12 ?_
     try simp only[Act.put,ji,js,ju]
     refine' jk 13 ?_
     try simp only[Act.put,ji,js,ju]
     refine' jk 14 ?_
     try simp only[Act.put,ji,js,ju]
     refine' jk 15 ?_
     try simp only[Act.put,ji,js,ju]
     refine' jk 16 ?_
     try simp only[Act.put,ji,js,ju]
     refine' jk 17 ?_
     try simp only[Act.put,ji,js,ju]
     refine' jk 18 ?_
     try simp only[Act.put,ji,js,ju]
     refine' jk 19 ?_
     try simp only[Act.put,ji,js,ju]
     refine wpAnyH_ready (rs:=[20]) (by kernel_rfl) (by simp) ?_;refine' AllReadyH.cons (o:=?V6) ?J5 (λK hK=>?J6) ?V7
     case J5=>(simp only[jt,jb,ja];rfl)
     case J6=>
      go_simp
      (go_at_call 145;refine V.out.mono ?_;rintro e w3 ⟨rfl,O,A⟩;have I:=z3.out w3 A;dsimp only)
      refine hK.out _ _ ?_ (λhHeld=>?_)
      ·exact I
      clear hK K
      try simp only[Act.put,ji,js,ju]
      refine' jk 21 ?_
      try simp only[Act.put,ji,js,ju]
      refine' jk 22 ?_
      try simp only[Act.put,ji,js,ju]
      refine wpAnyH_done (by kernel_rfl) ?_ _;refine NoPanic.normal ?_
      rename_i hHeld
      clear hHeld;have J:Blk w3 xb 108 _:=Blk.upon (w:=W1.drew) x7.out A (by have:=T.out;omega);have B:Below w.heap.size w w3:=u.out.drew.trans (A.below (w:=W1.drew) u.out.size (λq hq=>by have:=z6.out;omega))
      cases hrb:iO ⟨nm,id,r,bl⟩ next ids aJ with
      |false=>
       have D:res=false:=by rw[h6.out,h8.out,hrb,Bool.and_false,Bool.false_and]
       subst D;have E:=jq B;clear O A I J B hrb H V
       go_wp2_with fail
       go_ret
       exact⟨by unfold dw;rw[<-h7.out];rfl,E.out⟩
      |true=>
       obtain⟨x5,N⟩:=O hrb;have M:res=lF next (kM fs (d+1+1)) (id ::ids) (bl.reverse++aJ) (fs.drop (d+1+1)):=by rw[h6.out,h8.out,hrb,y8.out,Bool.and_true,Bool.true_and]
       rw[<-b4.out]at N M;have z0:=jq x5;have z2:=jq N;have z1:=jq M;have E:=jq B;have y9:=jq J;clear O A I J B hrb H V x5 N M
       go_wp2_with fail
       go_roundw
       case rel=>exact⟨d+1+1,id ::ids,by omega,(by simp),E.out,y9.out,z0.out,z2.out,by rw[List.length_cons,b7.out],z1.out⟩
       case measure=>simp[intOf];omega
     exact AllReadyH.nil
  ·obtain rfl:k=n:=by omega
   have D:res=true:=by
    rw[x6,rQ (by rw[F.out,jP,<-U.out];exact aj _)]
    rfl
   have HB:=jq G;have a1:=Ca ver next a c l wr (HF.out.later G) hv hn b6.out HM.out (by rw[<-U.out];omega);rw[<-U.out,<-F.out]at a1;have b5:=jq a1;have x0:wr.cell? ⟨xb,0,none⟩=some (.int .u64 (ver:Int)):=z.cell 0;have x1:wr.cell? ⟨xb,1,none⟩=some (.int .u32 (next:Int)):=z.cell 1;have x2:wr.cell? ⟨xb,2,none⟩=some (.slice a k c):=z.cell 2;have z5:Hid (dw ver next fs=decide ((bN ver next fs).length<=2035)):=jq (by unfold dw;rw[<-h7.out,D];rfl);have z4:Hid ((bN ver next fs).length<=900000):=jq (by rw[F.out];exact HM.out);clear G a1 z hI hK a6 x6 D m2 hk hlt
   go_wp2_with fail
   refine b5.out.mono ?_;rintro e w3 ⟨v3,rfl,d7,c7⟩;obtain⟨a3,X,e3,_,d6,_,_⟩:=own_shape d7;have e9:=Go.Proofs.YtndkohocgfmamaaGreatDoor.Frame.sF 77 a3 X (bN ver next fs) w3 d6 (by have:=z4.out;omega);subst e3;have b1:Calls prog 126 #[.slice none 0 0,.agg #[.int .u8 77,.slice a3 (bN ver next fs).length X]] w3 λe w'=>∃v,e=.returned (.tuple #[v,.int .i64 0])/\ak w' w3.heap.size v (Go.Proofs.YtndkohocgfmamaaGreatDoor.Frame.bq 77 (bN ver next fs))/\Below w3.heap.size w3 w':=e9
   obtain⟨L,z9⟩:=jl ((bN ver next fs).length);rw[<-z9]at b1 z5 z4⊢;have b9:=jq b1;have f7:=jq z9;have b2:=jq (HB.out.trans (c7.mono HB.out.size));clear d7 c7 d6 e9 b1 z9 b5
   go_wp2_with fail
   refine b9.out.mono ?_;rintro e w4 ⟨v4,rfl,d8,c8⟩;obtain⟨a4,c4,e4,_,_,_,_⟩:=own_shape d8;rw[Go.Proofs.YtndkohocgfmamaaGreatDoor.Frame.jY,<-f7.out]at e4;subst e4;have b3:=jq (b2.out.trans (c8.mono b2.out.size));have i3:=z4.out;clear d8 c8 b9
   by_cases hs:L<=2035
   ·have hd:decide ((L:Int)+13<=2048)=true:=by simp;omega
    have g2:decide (L+13<=2048)=true:=by simp;omega
    go_wp2_with fail
    go_ret
    exact⟨by rw[z5.out];simp;omega,b3.out⟩
   ·have hd:decide ((L:Int)+13<=2048)=false:=by simp;omega
    have g2:decide (L+13<=2048)=false:=by simp;omega
    go_wp2_with fail
    go_ret
    exact⟨by rw[z5.out];simp;omega,b3.out⟩
end aA
namespace aA
open Go.RowKit Go.Deep Mem Crc Varint
theorem Cj(a:ByteArray)(w:World):Calls prog 172 #[.string a] w λe w'=>e=.returned (.bool false)/\w'=w:=by
 go_enter func172,ntmps172
 go_wp2_with fail
 go_ret
 exact⟨by simp,rfl⟩
theorem J7(t:TypeId)(a b:ByteArray):binOp .lss t (.string a) (.string b)=pure (.bool (Op.bytesLess a.toList b.toList)):=by simp[binOp,Op.stringOp]
theorem J8(t:TypeId)(a b:ByteArray):binOp .gtr t (.string a) (.string b)=pure (.bool (!Op.bytesLess a.toList b.toList&& !(a.toList==b.toList))):=by simp[binOp,Op.stringOp]
attribute [local go_sem] J7 J8
def cZ(sb sc:ByteArray):Int:=if Op.bytesLess sb.toList sc.toList=true then -1 else if(sb.toList==sc.toList)=false then 1 else 0
theorem J9(a b:ByteArray)(w:World):
  Calls prog 142 #[.string a,.string b] w λe w'=>e=.returned (.int .i64 (cZ a b))/\w'=w:=by
 obtain⟨z,c⟩:=jl (cZ a b);rw[<-c];unfold cZ at c;have g:=jq c;clear c;have i:=jq (Cj a w);have j:=jq (Cj b w)
 go_enter func142,ntmps142
 go_wp2_with fail
 refine i.out.mono ?_;rintro e w1 ⟨rfl,rfl⟩
 go_wp2_with fail
 refine j.out.mono ?_;rintro e w2 ⟨rfl,rfl⟩
 by_cases d:Op.bytesLess a.toList b.toList=true
 ·have h:=g.out;rw[if_pos d]at h;subst h
  go_wp2_with fail
  go_ret
  exact⟨rfl,rfl⟩
 ·have h:=g.out;rw[if_neg d]at h;have k:Op.bytesLess a.toList b.toList=false:=by simpa using d
  by_cases f: (a.toList==b.toList)=false
  ·rw[if_pos f]at h;subst h
   go_wp2_with fail
   go_ret
   exact⟨rfl,rfl⟩
  ·rw[if_neg f]at h;subst h;have m: (a.toList==b.toList)=true:=by simpa using f
   go_wp2_with fail
   go_ret
   exact⟨rfl,rfl⟩
theorem Ck(a b:ByteArray)(d f g:Value)(w:World):
  Calls prog 141 #[.agg #[.string a,d,f,g],.string b] w λe w'=>e=.returned (.int .i64 (cZ a b))/\Below w.heap.size w w':=by
 have h:Hid (Below w.heap.size w (w.alloc (.cells #[.string a,d,f,g] 113))):=jq ((Below.refl _ w).alloc jn _);obtain⟨z,c⟩:=jl (cZ a b);have i:Hid (∀w,Calls prog 142 #[.string a,.string b] w λe w'=>e=.returned (.int .i64 z)/\w'=w):=jq (λw=>by rw[c];exact J9 a b w);rw[<-c];clear c
 go_enter func141,ntmps141
 go_wp2_with fail
 refine(i.out _).mono ?_;rintro e w1 ⟨rfl,rfl⟩
 go_wp2_with fail
 go_ret
 exact⟨rfl,h.out⟩
end aA
namespace aA
open Go.RowKit Go.Deep Mem Crc Varint
theorem Ka(l:List FR)(b:Nat->ByteArray)(a:Option Addr)(c:Nat)(d:ByteArray)(w:World)(h:bV w a l)(hn:l.length<=100000)(W:∀k x,l[k]? =some x->sv x.f.name=.string (b k))(M:∀k P,k<=P->P<l.length->cZ (b P) d<0->cZ (b k) d<0):
  Calls prog 140 #[.slice a l.length c,.string d,.func (.func 141) #[] #[]] w λe w'=>∃i,i<=l.length/\(∀k,k<i->cZ (b k) d<0)/\(∀k,i<=k->k<l.length->0<=cZ (b k) d)/\e=.returned (.tuple #[.int .i64 (i:Int),.bool (decide (i<l.length)&&decide (cZ (b i) d=0))])/\Below w.heap.size w w':=by
 obtain⟨n,N⟩:=jl l.length;rw[<-N]at hn M⊢;have Q:=jq h;have S:=jq W;have R:=jq M;have T:=jq N;clear h W M N
 go_enter func140,ntmps140
 go_wp2_with fail
 go_loopw[9,10] (λi j wr=>∃p q:Nat,i=.int .i64 p/\j=.int .i64 q/\p<=q/\q<=n/\Hid (∀k,k<p->cZ (b k) d<0)/\Hid (∀k,q<=k->k<n->0<=cZ (b k) d)/\Below w.heap.size w wr)
  (λi j _=>(intOf j).toNat-(intOf i).toNat)
 case atStart=>exact⟨0,n,rfl,rfl,aC _,aj _,jq (λk V=>absurd V (je _)),jq (λk I J=>absurd I (Nat.not_le.2 J)),Below.refl _ _⟩
 case round=>
  obtain⟨p,q,rfl,rfl,h5,X,D,E,U⟩:=hrel;have r:=jq U;clear U
  by_cases hlt:p<q
  ·obtain⟨m,L⟩:=jl ((p+q)/2);have h4:p<=m:=by omega
   have h9:m<q:=by omega
   have h8: (p+q)/2=m:=L.symm;have h6:=jq L;clear L;obtain⟨x,y⟩:∃x,l[m]? =some x:=⟨l[m]'(by have:=T.out;omega),jg _⟩;obtain⟨g,o,rfl,u,F,G,H⟩:=(Q.out.later r.out).cells y;rw[S.out m x y]at u;have t:=jq (Ck (b m) d (.int .u32 (x.f.id:Int)) (iv x.f.size) (.slice x.a x.f.blocks.length x.c) wr);have h7: ((p:Int)+(q:Int))/2=(m:Int):=by omega
   have Y:Hid (m<n):=jq (by omega);obtain⟨z,s⟩:=jl (cZ (b m) d);rw[<-s]at t;have B:=jq s;clear s
   go_wp2_with fail
   refine t.out.mono ?_;rintro e w1 ⟨rfl,v⟩;have A:=jq (r.out.trans (v.mono r.out.size));clear u F G H v
   by_cases C:z<0
   ·have h0:decide (z<0)=true:=jd C;have hw:IntKind.i64.wrap ((m:Int)+1)=(m:Int)+1:=by rw[IntKind.wrap_i64];omega
    go_wp2_with fail
    go_roundw
    case rel=>exact⟨m+1,q,by simp,rfl,by omega,X,jq (λk V=>R.out k m (by omega) Y.out (by rw[<-B.out];exact C)),jq E.out,A.out⟩
    case measure=>simp[intOf];omega
   ·have h0:decide (z<0)=false:=jf C
    go_wp2_with fail
    go_roundw
    case rel=>exact⟨p,m,rfl,rfl,h4,by omega,jq D.out,jq (λk I J=>Int.not_lt.1 (λZ=>Int.not_lt.2 C (by rw[B.out];exact R.out m k I J Z))),A.out⟩
    case measure=>simp[intOf];omega
  ·obtain rfl:p=q:=Nat.le_antisymm h5 (Nat.not_lt.1 hlt)
   by_cases O:p<n
   ·obtain⟨x,y⟩:∃x,l[p]? =some x:=⟨l[p]'(by have:=T.out;omega),jg _⟩;obtain⟨g,o,rfl,u,F,G,H⟩:=(Q.out.later r.out).cells y;rw[S.out p x y]at u;have t:=jq (Ck (b p) d (.int .u32 (x.f.id:Int)) (iv x.f.size) (.slice x.a x.f.blocks.length x.c) wr);obtain⟨z,s⟩:=jl (cZ (b p) d);rw[<-s]at t;have B:=jq s;clear s
    go_wp2_with fail
    refine t.out.mono ?_;rintro e w1 ⟨rfl,v⟩;have A:=jq (r.out.trans (v.mono r.out.size));clear u F G H v
    go_wp2_with fail
    go_ret2
    exact⟨p,kF O,D.out,E.out,by rw[<-B.out];simp[O];rfl,A.out⟩
   ·go_wp2_with fail
    go_ret2
    exact⟨p,X,D.out,E.out,by simp[O],r.out⟩
theorem nM(ver next:Nat)(l:List FR)(b:Nat->ByteArray)(a:Option Addr)(c:Nat)(d:ByteArray)(w:World)(h:bV w a l)(p:l.length<=100000)(v:∀k x,l[k]? =some x->sv x.f.name=.string (b k))(o:∀k q,k<=q->q<l.length->cZ (b q) d<0->cZ (b k) d<0):
  Calls prog 97 #[.agg #[.int .u64 (ver:Int),.int .u32 (next:Int),.slice a l.length c],.string d] w λe w'=>∃i,i<=l.length/\(∀k,k<i->cZ (b k) d<0)/\(∀k,i<=k->k<l.length->0<=cZ (b k) d)/\e=.returned (.tuple #[.int .i64 (i:Int),.bool (decide (i<l.length)&&decide (cZ (b i) d=0))])/\Below w.heap.size w w':=by
 obtain⟨W,g⟩:=jl (w.alloc (.cells #[.int .u64 (ver:Int),.int .u32 (next:Int),.slice a l.length c] 108));have j:Below w.heap.size w W:=by rw[g];exact(Below.refl _ w).alloc jn _
 have s:=jq (Ka l b a c d W (h.later j) p v o);have r:=jq j;obtain⟨n,y⟩:=jl l.length;rw[<-y]at s p o g⊢;clear h v o y j p
 go_enter func97,ntmps97
 go_wp2_with fail
 rw[<-g];refine s.out.mono ?_;rintro e w1 ⟨i,D,t,u,rfl,hb⟩;have B:=jq (r.out.trans (hb.mono r.out.size));have z:=jq t;have A:=jq u;obtain⟨E,m⟩:=jl ((decide (i<n)&&decide (cZ (b i) d=0)));rw[<-m];have C:=jq m;clear t u hb m g
 go_wp2_with fail
 go_ret2
 exact⟨i,D,z.out,A.out,by rw[<-C.out];rfl,B.out⟩
def bI(ver next:Nat)(l:List af):List UInt8:=Go.Proofs.YtndkohocgfmamaaGreatDoor.Frame.bq 77 (bN ver next l)++List.replicate (2035-(bN ver next l).length) 0
variable {ver:Nat}{l:List af}
theorem vE{next:Nat}(h:dw ver next l=true): (bN ver next l).length<=2035:=by
 unfold dw at h;simp only[Bool.and_eq_true,decide_eq_true_eq]at h;exact h.2
theorem yK{next:Nat}(h:dw ver next l=true): (bI ver next l).length=2048:=by
 have:=vE h;unfold bI;rw[jL,Go.Proofs.YtndkohocgfmamaaGreatDoor.Frame.jY,List.length_replicate]
 omega
theorem Kc(ver next:Nat)(a:Option Addr)(c:Nat)(l:List FR)(w:World)(h:bV w a l)(hv:ver<18446744073709551616)(hn:next<4294967296)(F:∀x∈l,x.f.fits)(G:dw ver next (l.map FR.f)=true):
  Calls prog 82 #[.agg #[.int .u64 (ver:Int),.int .u32 (next:Int),.slice a l.length c]] w λe w'=>∃v,e=.returned (.tuple #[v,.int .i64 0])/\ak w' w.heap.size v (bI ver next (l.map FR.f))/\Below w.heap.size w w':=by
 have i:=vE G;have h5:=yH (l.map FR.f)
 have x4:l.length<=2035:=by
  have k: ((l.map FR.f).flatMap bW).length<=2035:=by unfold bN at i;simp only[jL]at i;omega
  rw[jP]at h5
  omega
 obtain⟨W,g⟩:=jl (w.alloc (.cells #[.int .u64 (ver:Int),.int .u32 (next:Int),.slice a l.length c] 108));have p:Below w.heap.size w W:=by rw[g];exact(Below.refl _ w).alloc jn _
 have d:Blk W w.heap.size 108 #[.int .u64 (ver:Int),.int .u32 (next:Int),.slice a l.length c]:=by rw[g];exact Blk.new w _ _
 have t:=mH ver next a c l W (h.later p) hv hn F (by omega);rw[G]at t;obtain⟨fs,s⟩:=jl (l.map FR.f);obtain⟨n,H⟩:=jl l.length;obtain⟨xb,u⟩:=jl w.heap.size;rw[<-H]at g d t⊢;rw[<-s]at i⊢
 have N:Hid (∀b,Below W.heap.size W b->Calls prog 127 #[.agg #[.int .u64 (ver:Int),.int .u32 (next:Int),.slice a n c]] b λe w'=>∃v,e=.returned v/\ak w' b.heap.size v (bN ver next fs)/\Below b.heap.size b w'):=jq (λb x3=>by
  have:=Ca ver next a c l b ((h.later p).later x3) hv hn F (by rw[<-s];omega) (by omega);rw[<-H,<-s]at this;exact this)
 have P:=jq t;have O:=jq p;have z:=jq d;have B:=jq i;have x0:W.cell? ⟨w.heap.size,0,none⟩=some (.int .u64 (ver:Int)):=d.cell 0;have x1:W.cell? ⟨w.heap.size,1,none⟩=some (.int .u32 (next:Int)):=d.cell 1;have x2:W.cell? ⟨w.heap.size,2,none⟩=some (.slice a n c):=d.cell 2;rw[<-u]at z x0 x1 x2;have x5:=jq u;clear h F G i h5 x4 p d t s H
 go_enter func82,ntmps82
 go_wp2_with fail
 rw[<-g,<-u];clear g u
 go_wp2_with fail
 refine P.out.mono ?_;rintro e w1 ⟨rfl,m⟩;have r:=z.out.below m z.out.lt;have y0:w1.cell? ⟨xb,0,none⟩=some (.int .u64 (ver:Int)):=r.cell 0;have y1:w1.cell? ⟨xb,1,none⟩=some (.int .u32 (next:Int)):=r.cell 1;have y2:w1.cell? ⟨xb,2,none⟩=some (.slice a n c):=r.cell 2;have M:=jq (N.out w1 m);have J:=jq (O.out.trans (m.mono O.out.size));clear m r x0 x1 x2 P N
 go_wp2_with fail
 refine M.out.mono ?_;rintro e j ⟨v3,rfl,h3,Y⟩;obtain⟨R,S,e3,_,h2,_,_⟩:=own_shape h3;have h7:=Go.Proofs.YtndkohocgfmamaaGreatDoor.Frame.sF 77 R S (bN ver next fs) j h2 (by have:=B.out;omega);subst e3;have I:Calls prog 126 #[.slice none 0 0,.agg #[.int .u8 77,.slice R (bN ver next fs).length S]] j λe w'=>∃v,e=.returned (.tuple #[v,.int .i64 0])/\ak w' j.heap.size v (Go.Proofs.YtndkohocgfmamaaGreatDoor.Frame.bq 77 (bN ver next fs))/\Below j.heap.size j w':=h7
 obtain⟨L,C⟩:=jl ((bN ver next fs).length);rw[<-C]at I B⊢;have Q:=jq I;have A:=jq C;have y:=jq (J.out.trans (Y.mono J.out.size));clear h3 Y h2 h7 I C M y0 y1 y2
 go_wp2_with fail
 refine Q.out.mono ?_;rintro e w4 ⟨v4,rfl,D,Z⟩;have o:=y.out.trans (Z.mono y.out.size);obtain⟨X,T,V,_,_,_⟩:=Go.Proofs.YtndkohocgfmamaaGreatDoor.Frame.mI D (by rw[Go.Proofs.YtndkohocgfmamaaGreatDoor.Frame.jY];omega);rw[Go.Proofs.YtndkohocgfmamaaGreatDoor.Frame.jY,<-A.out]at V;subst V;have E:ak w4 w.heap.size (.slice (some ⟨X,0,none⟩) (L+13) T) (Go.Proofs.YtndkohocgfmamaaGreatDoor.Frame.bq 77 (bN ver next fs)):=bH D y.out.size;have x6:=B.out
 obtain⟨v5,w5,h8,h4,h6⟩:=Cm w4 3 84 underlying3 X T (L+13) ((Go.Proofs.YtndkohocgfmamaaGreatDoor.Frame.bq 77 (bN ver next fs)).map bv) (by
  have k:=E;unfold ak at k;rw[Go.Proofs.YtndkohocgfmamaaGreatDoor.Frame.jY,<-A.out]at k;exact k) (2035-L) (by omega) o.size
 have h0:Below w.heap.size w w5:=o.grown h6 o.size (λq hq=>by cases hq;exact(E.lt _ rfl).1)
 have hP:ak w5 w.heap.size v5 (bI ver next fs):=by
  unfold ak bI;rw[jL,Go.Proofs.YtndkohocgfmamaaGreatDoor.Frame.jY,List.length_replicate,aZ,<-A.out];have e: (List.replicate (2035-L) (0:UInt8)).map bv=List.replicate (2035-L) (Value.int .u8 0):=by simp[bv]
  rw[e];exact h4
 have U: ((2035-L:Nat):Int)=2048-((L:Int)+13):=by omega
 rw[U]at h8;have HP:=jq hP;have h9:=jq h0;clear D Z o E h4 h6 h0 hP U Q
 go_wp2_with (first|(at_builtin;refine Lib.wpList_append_run _ rfl _ _ _ _ rfl _ _ rfl rfl _ _ h8 ?_))
 go_ret2
 exact⟨v5,rfl,HP.out,h9.out⟩
end aA
end Go.Proofs.YtndkohocgfmamaaGreatDoor
