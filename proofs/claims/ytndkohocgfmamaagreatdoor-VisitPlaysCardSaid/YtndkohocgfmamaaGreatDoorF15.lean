/- Part. -/
import Derived.Test.YtndkohocgfmamaaGreatDoorF14
import Derived.Great.BuildSlice
set_option maxHeartbeats 1000000
set_option maxRecDepth 100000
namespace Go.Proofs.YtndkohocgfmamaaGreatDoor
open Go.Proofs.Tryz
namespace Dk
open Go.RowKit Go.Deep Mem Crc
theorem yN: (prog.info? 222).map (λi=>(i.zero,i.size,i.bytes))=some (some (.agg (#[Value.int .i64 0]++Array.replicate 128 (.int .u8 0))),129,136):=by kernel_rfl
theorem sG: (prog.info? 220).map (·.size)=some 128:=by kernel_rfl
theorem Kg:prog.arrayLen 220=128:=by kernel_rfl
theorem Kh:prog.elem 220=5:=by kernel_rfl
theorem Ki:prog.underlying 220=some (.array (prog.arrayLen 220) (prog.elem 220)):=by rw[Kg,Kh];exact underlying220
theorem run_arrayAt(a:Option Addr)(cp:Nat)(w:World): (Instr.arrayAt 220 (.slice a 128 cp)).run prog w=.ok (.pointer a) w:=by
 unfold Instr.arrayAt;rw[Sem.run_bind,run_underlying underlying220 w]
 simp[Sem.run_pure]
theorem Kj(off:Nat)(l:List Value)(b:Array Value)(h:off+l.length<=b.size): (l.zipIdx 0).foldl (λb (x:Value×Nat)=>b.setIfInBounds (off+x.2) x.1) b=(b.toList.take off++(l++b.toList.drop (off+l.length))).toArray:=by
 obtain⟨i,c⟩:=Great.foldl_set off l 0 b
 apply Array.ext_getElem?
 intro k;rw[c k];refine Eq.trans ?_ (List.getElem?_toArray (xs:=b.toList.take off++(l++b.toList.drop (off+l.length)))).symm
 by_cases f:k<off
 ·rw[if_neg (by omega),iK (by simp;omega),jh,if_pos f,mo]
 ·rw[iL (by simp;omega)];have e: (b.toList.take off).length=off:=by simp;omega
  rw[e]
  by_cases j:k<off+l.length
  ·rw[if_pos ⟨by omega,by omega,by omega⟩,iK (by omega)]
   simp
  ·rw[if_neg (by omega),iL (by omega),List.getElem?_drop,mo]
   congr 1
   omega
theorem yO{place:Nat->Option (Nat×Nat)}{cells:Array Value}{i off size:Nat}{v:Value}{rest:List (Nat×Value)}(e:place i=some (off,size))(b:v.cells.size=size)(c:off+size<=cells.size):
  Instr.fill place cells ((i,v)::rest)=Instr.fill place (cells.toList.take off++(v.cells.toList++cells.toList.drop (off+size))).toArray rest:=by
 have:=Kj off v.cells.toList cells (by rw[Array.length_toList,b];exact c);rw[Array.length_toList,b]at this;rw[<-this]
 conv=>lhs;unfold Instr.fill
 rw[e];dsimp only;rw[if_neg (by rw[b];simp;omega)]
 congr 1
 rw[<-Array.foldl_toList]
 simp
def placesOf(P:Program)(t:TypeId):Option (List (Nat×Nat)):=match P.underlying t with
 |some (.struct fields)=>fields.toList.mapM (λf=>(P.info? f.type).map λi=>(f.offset,i.size))
 |_=>none
theorem Kk{P:Program}{t:TypeId}{c:TypeInfo}{z:Value}{pl:List (Nat×Nat)}(e:P.info? t=some c)(f:c.zero=some z)(b:placesOf P t=some pl)(parts:List (Nat×Value)):P.built t parts=Instr.fill (pl.toArray[·]?) z.cells parts:=by
 unfold Program.built;unfold placesOf at b;rw[e]
 cases hu:P.underlying t with
 |none=>rw[hu]at b;cases b
 |some d=>
  rw[hu]at b;cases d <;> first|(dsimp only at b⊢;rw[f,b])|cases b
theorem Kl(i:Int)(b:List Value)(hc:b.length=128):prog.built 222 [(0,.int .i64 i),(1,.agg b.toArray)]=some (Value.int .i64 i ::b).toArray:=by
 obtain⟨j,c,e,f,h⟩:=info_parts yN;rw[Kk c e (pl:=[(0,1),(1,128)]) (by kernel_rfl)];rw[yO (off:=0) (size:=1) rfl rfl (by simp[Value.cells])];rw[yO (off:=1) (size:=128) rfl (by simp[Value.cells,hc]) (by simp[Value.cells])]
 simp[Instr.fill,Value.cells]
theorem Km(i:Int)(b:List Value)(hc:b.length=128)(w:World): (Instr.build 222 #[(0,.int .i64 i),(1,.agg b.toArray)]).run prog w=.ok (.agg (Value.int .i64 i ::b).toArray) w:=run_build w _ _ _ (Kl i b hc)
theorem Kn(vs:List Value)(hc:vs.length=129)(w:World): (Instr.buildSlice 103 1 #[(0,.agg vs.toArray)]).run prog w=.ok (.slice (some ⟨w.heap.size,0,none⟩) 1 1) (w.alloc (.cells vs.toArray 222)):=by
 obtain⟨f,c,e,b,h⟩:=info_parts yN;refine run_buildSlice w _ _ 1 _ _ f _ underlying103 c e (by rw[b];decide) (by rw[b];decide) ?_;rw[yO (off:=0) (size:=129) (by rw[b]) (by simp[Value.cells,hc]) (by rw[b];simp)];rw[b]
 simp[Instr.fill,Value.cells]
theorem Ko{w:World}{d g:Nat}{wv:Value}{m:DM}(h:Dk w d g wv m){a:Option Addr}{b:List UInt8}(hb:b≠[])(l:Lies w a (b.map bv)):blk a≠some d:=by
 rcases l with j|⟨k,off,rfl,_,hc⟩
 ·exact absurd (dM.1 j) hb
 ·intro e;have i:k=d:=by simpa[blk]using e
  subst i
  cases b with
  |nil=>exact hb rfl
  |cons x r=>
   have f:=hc 0 (bv x) (by simp);rw[h.disk.cell]at f;generalize off+0=q at f
   match q,f with
   |0,f=>simp[bv]at f
   |1,f=>
    simp at f
    obtain⟨a,c,e,_⟩:=own_shape h.wt;rw[e]at f;cases f
   |2,f=>simp[bv]at f
   |3,f=>simp[bv]at f
   |n+4,f=>simp at f
section
variable {P:Program}{ops:Array Oper}{o:Oper}{a:Act}{w:World}{K:Act->World->Prop}{Q:Exit->Act->World->Prop}{E:Prop}
variable {v:Value}
theorem nN(b:o.guard=none)(t:TypeId)(x:Operand)(c:o.op=.load t x)(e: (Instr.loadAt t (a.eval x)).run P w=.ok v w)(hK:K (a.put o.dst v) w):if Region.wanted o (yielded ops a.tmps)=true then Oper.wp P o a w K Q else E:=by
 rw[if_pos (by simp[Region.wanted,b])];unfold Oper.wp execOp;simp only[c,Sem.run_bind,e,Result.andThen_ok];exact hK
theorem vF(b:o.guard=none)(t:TypeId)(parts:Array (Nat×Operand))(c:o.op=.build t parts)(e: (Instr.build t (parts.map fun(i,x)=>(i,a.eval x))).run P w=.ok v w)(hK:K (a.put o.dst v) w):if Region.wanted o (yielded ops a.tmps)=true then Oper.wp P o a w K Q else E:=by
 rw[if_pos (by simp[Region.wanted,b])];unfold Oper.wp execOp;simp only[c,Sem.run_bind,e,Result.andThen_ok];exact hK
theorem sH(b:o.guard=none)(t:TypeId)(n:Nat)(parts:Array (Nat×Operand))(c:o.op=.buildSlice t n parts){w':World}(e: (Instr.buildSlice t n (parts.map fun(i,x)=>(i,a.eval x))).run P w=.ok v w')(hK:K (a.put o.dst v) w'):if Region.wanted o (yielded ops a.tmps)=true then Oper.wp P o a w K Q else E:=by
 rw[if_pos (by simp[Region.wanted,b])];unfold Oper.wp execOp;simp only[c,Sem.run_bind,e,Result.andThen_ok];exact hK
end
variable {w:World}{d g:Nat}{wv:Value}{m m1:DM}
theorem Cq{p:Addr}{v:Value}(h:w.cell? p=some v): (Instr.loadAt 103 (.pointer (some p))).run prog w=.ok v w:=by
 go_simp
theorem sI{w2 w6:World}{i:Nat}{b:List UInt8}{c g3 eZ:Nat}{news vs:List Value}(h:Dk w2 d g wv m1)(n:m1.wt=m.wt)(s:m1.bl=m.bl)(y:i<m.bl.length)(hb:b.length=128)(z:m1.wt.length=c)(A:news=b.map bv)(F:vs=Value.int .i64 (i:Int)::news)(u: (w2.alloc (.cells vs.toArray 222)).drew.grownBy w6 wv.ownBlock)(t:wv.ownBlock=some g3\/g3=(w2.alloc (.cells vs.toArray 222)).drew.heap.size)(r:w6.ownsRow 0 222 129 (.slice (some ⟨g3,0,none⟩) (c+1) eZ) (c+1) (iC m1.wt++vs)):
  w6.cell? ⟨d,1,none⟩=some wv/\w6.frozen? ⟨d,1,none⟩=false/\Dk (w6.setCell ⟨d,1,none⟩ (.slice (some ⟨g3,0,none⟩) (c+1) eZ)) d g (.slice (some ⟨g3,0,none⟩) (c+1) eZ) {m1 with wt:=m.wt++ [(i,b)]}/\Upon (λk=>k=d\/wv.ownBlock=some k) w2 (w6.setCell ⟨d,1,none⟩ (.slice (some ⟨g3,0,none⟩) (c+1) eZ))/\∀k,(Value.slice (some ⟨g3,0,none⟩) (c+1) eZ).ownBlock=some k->wv.ownBlock=some k\/w2.heap.size<=k:=by
 have l:=sj (((Below.refl _ w2).alloc jn (.cells vs.toArray 222)).drew) u;have j:=h.disk.grown l (gL h.wd);have B:=h.row.grown l (gL h.wg);have C:=j.set 1 (.slice (some ⟨g3,0,none⟩) (c+1) eZ);have D:Upon (λk=>k=d\/wv.ownBlock=some k) w2 w6:=Upon.of_grown l (λq hq=>.inl (.inr hq));refine⟨j.cell 1,j.frozen 1,⟨C,B.far (gL h.dg) _,?_,h.len,?_,h.f0,h.f1,h.small,λe=>absurd e (by show m.wt++ [(i,b)]≠[];simp)⟩,D.set (.inl (.inl rfl)) _,?_⟩
 ·show World.ownsRow _ 0 _ 129 _ (m.wt++ [(i,b)]).length (iC (m.wt++ [(i,b)]));rw[Ke,jL,List.length_singleton,<-n,z,<-A,<-F];exact dU r (aV r j (by decide)) _
 ·intro x f;rcases List.mem_append.1 f with f|f
  ·exact h.mJ x (by rw[n];exact f)
  ·rw[jE.1 f];exact⟨by rw[s];exact y,hb⟩
 ·intro q hq;have e:g3=q:=by simpa[Value.ownBlock]using hq
  rcases t with p|p
  ·exact .inl (by rw[p,e])
  ·right
   have: (w2.alloc (.cells vs.toArray 222)).drew.heap.size=w2.heap.size+1:=by show(w2.alloc _).heap.size=_;simp
   omega
theorem vG(i:Nat)(a:Option Addr)(cp:Nat)(b:List UInt8)(h:Dk w d g wv m)(x5:m.off=false)(hi:i<m.bl.length)(hb:b.length=128)(hL:Lies w a (b.map bv))(hn:m.wt.length<=1000000):
  Calls prog 84 #[.pointer (some ⟨d,0,none⟩),.int .i64 (i:Int),.slice a 128 cp] w λe w'=>e=.returned (.int .i64 (m.write i b).2)/\∃x6,Dk w' d g x6 (m.write i b).1/\Upon (λk=>k=d\/wv.ownBlock=some k) w w'/\∀k,x6.ownBlock=some k->wv.ownBlock=some k\/w.heap.size<=k:=by
 obtain⟨X,R,U,V,W⟩:=info_parts yN;have x3:qP m i=0:=by unfold qP;rw[x5,if_neg (by decide),if_pos (by omega)]
 have hM:=mH i h;rw[x3]at hM;have HM:=jq hM;have y:=jq (Co h);clear hM x3;have h4:b≠[]:=λe=>by rw[e]at hb;simp at hb
 by_cases B:m.aM=0
 ·have O:m.deed.2=6:=by unfold DM.deed;rw[if_pos B]
  have T:m.write i b=(m.deed.1,6):=by unfold DM.write;rw[if_pos B]
  rw[O]at y;rw[T];clear h hL O T B
  go_enter func84,ntmps84
  go_wp2_with fail
  refine HM.out.mono ?_;rintro e w1 ⟨rfl,rfl⟩
  go_wp2_with fail
  refine y.out.mono ?_;rintro e w2 ⟨rfl,x,D⟩;have t:=jq x;have r:=jq D;clear x D y
  go_wp2_with fail
  go_ret
  exact⟨rfl,wv,t.out,Upon.fB r.out (λq hq=>.inl (.inl (jE.1 hq))),λk hk=>.inl hk⟩
 ·have O:m.deed.2=0:=by unfold DM.deed;rw[if_neg B];split <;> rfl
  have h9:m.deed.1.wt=m.wt/\m.deed.1.bl=m.bl/\m.deed.1.off=m.off:=by unfold DM.deed;rw[if_neg B];split <;> exact⟨rfl,rfl,rfl⟩
  have T:m.write i b=({m.deed.1 with wt:=m.wt++ [(i,b)]},0):=by unfold DM.write;rw[if_neg B]
  rw[O]at y;rw[T];have x4:=Ko h h4 hL;obtain⟨news,h6⟩:=jl (b.map bv);have h2:news.length=128:=by rw[h6,jP,hb]
  have HL:=jq hL;have x9:=jq x4;have A:=jq h6;have x7:=jq h4;have F:=jq hb;have G:=jq hi;have p:=jq h9;obtain⟨m1,x2⟩:=jl m.deed.1;rw[<-x2]at y p⊢;have y2:w.heap.size<=w.heap.size:=aj _;clear h hL O T B x4 h6 h9 x2 h4 hb hi x5
  go_enter func84,ntmps84
  go_wp2_with fail
  refine HM.out.mono ?_;rintro e w1 ⟨rfl,rfl⟩
  go_wp2_with fail
  refine y.out.mono ?_;rintro e w2 ⟨rfl,x,D⟩;have h8:Lies w2 a (b.map bv):=HL.out.only D (λq hq hm=>x9.out (by rw[hq,jE.1 hm]));obtain⟨M,N,rfl,hlt,hc⟩:=h8.resolve_left (λe=>x7.out (dM.1 e));have hR:w2.rangeAt M N news:=λj v hv=>hc j v (by rw[<-A.out];exact hv)
  obtain⟨k0,x0⟩:=jl m.wt.length;have x1:m1.wt.length=k0:=by rw[p.out.1,x0]
  have c1:=x.cells.2.1;have f1:=x.disk.frozen 1;obtain⟨vs,h3⟩:=jl (Value.int .i64 (i:Int)::news);have h7:vs.length=129:=by rw[h3,List.length_cons,h2]
  have h5: (Instr.loadAt 220 (.pointer (some ⟨M,N,none⟩))).run prog w2.drew=.ok (.agg news.toArray) w2.drew:=run_loadAt_mid w2.drew M N _ news _ hR Ki rfl (by rw[h2];exact sG);have y0: (Instr.arrayAt 220 (.slice (some ⟨M,N,none⟩) 128 cp)).run prog w2.drew=.ok (.pointer (some ⟨M,N,none⟩)) w2.drew:=run_arrayAt _ _ _;have h1: (Instr.build 222 #[(0,.int .i64 (i:Int)),(1,.agg news.toArray)]).run prog w2.drew=.ok (.agg vs.toArray) w2.drew:=by rw[h3];exact Km i news h2 _
  have S: (Instr.buildSlice 103 1 #[(0,.agg vs.toArray)]).run prog w2.drew=.ok (.slice (some ⟨w2.heap.size,0,none⟩) 1 1) (w2.alloc (.cells vs.toArray 222)).drew:=Kn vs h7 w2.drew;have cA: (w2.alloc (.cells vs.toArray 222)).cell? ⟨d,1,none⟩=some wv:=((x.disk.alloc _).cell 1);have t:=jq x;have r:=jq D;have C:=jq h3;have z:=jq x1;have L:=jq h7;have Y:Hid ((Instr.loadAt 103 (.pointer (some ⟨d,1,none⟩))).run prog w2.drew=.ok wv w2.drew):=jq (Cq (by simpa using c1));have x8:Hid ((Instr.loadAt 103 (.pointer (some ⟨d,1,none⟩))).run prog (w2.alloc (.cells vs.toArray 222)).drew=.ok wv (w2.alloc (.cells vs.toArray 222)).drew):=jq (Cq (by rw[World.cell?_drew];exact cA));clear x D y h8 hc hR h2 h3 h7 x1 x0;have J:Hid ((w2.alloc (.cells vs.toArray 222)).drew.ownsRow 0 222 129 wv k0 (iC m1.wt)):=jq (by rw[<-z.out];exact own_later t.out.wt (((Below.refl _ w2).alloc jn _).drew));have H:Hid (∀j u,vs[j]? =some u->(w2.alloc (.cells vs.toArray 222)).drew.cell? ((⟨w2.heap.size,0,none⟩:Addr).add j)=some u):=jq (dQ (xs:=vs) (jG w2 222 vs.toArray))
  have I:Hid (∀u∈vs,u.oneCell'=true):=jq (λu hu=>by
   rw[C.out,A.out]at hu;rcases List.mem_cons.1 hu with rfl|hu
   ·rfl
   ·exact kN b u hu)
  have y1:k0<=1000000:=by rw[<-z.out,p.out.1];exact hn
  go_wp2_with fail
  refine wp_region_any (by kernel_rfl) ?_
  try(change wpAny _ _ _ _ _ _ _ (World.drew _))
  refine wpAny_take (i:=0) (v:=?v1) rfl (by kernel_rfl) (by kernel_rfl) (by kernel_rfl) (λ_ _ _ h=>h) (Or.inl ⟨by rfl,?hy1⟩) ?V8
  case hy1=>(intro w;go_simp;try with_reducible rfl)
  change wpAny _ _ _ _ _ _ (Act.put _ (some 23) _) _
  try simp only[Act.put,ji,js,ju]
  refine wpAny_take (i:=1) (v:=?v2) rfl (by kernel_rfl) (by kernel_rfl) (by kernel_rfl) (λ_ _ _ h=>h) (Or.inl ⟨by rfl,?hy2⟩) ?V9
  case hy2=>(intro w;go_simp;try with_reducible rfl)
  change wpAny _ _ _ _ _ _ (Act.put _ (some 24) _) _
  try simp only[Act.put,ji,js,ju]
  refine wpAny_take (i:=2) (v:=?v3) rfl (by kernel_rfl) (by kernel_rfl) (by kernel_rfl) (λ_ _ _ h=>h) (Or.inl ⟨by rfl,?hy3⟩) ?Wd
  case hy3=>(intro w;go_simp;try with_reducible rfl)
  change wpAny _ _ _ _ _ _ (Act.put _ (some 25) _) _
  try simp only[Act.put,ji,js,ju]
  refine wpAny_take (i:=3) (v:=?v4) rfl (by kernel_rfl) (by kernel_rfl) (by kernel_rfl) (λ_ _ _ h=>h) (Or.inl ⟨by rfl,?hy4⟩) ?Wh
  case hy4=>(intro w;go_simp;try with_reducible rfl)
  change wpAny _ _ _ _ _ _ (Act.put _ (some 26) _) _
  try simp only[Act.put,ji,js,ju]
  refine wpAny_take (i:=5) (v:=?v5) rfl (by kernel_rfl) (by kernel_rfl) (by kernel_rfl) (λ_ _ _ h=>h) (Or.inl ⟨by rfl,?Kq⟩) ?Wi
  case Kq=>(intro w;go_simp;try with_reducible rfl)
  change wpAny _ _ _ _ _ _ (Act.put _ (some 28) _) _
  try simp only[Act.put,ji,js,ju]
  refine wpAny_take (i:=6) (v:=?v6) rfl (by kernel_rfl) (by kernel_rfl) (by kernel_rfl) (λ_ _ _ h=>h) (Or.inl ⟨by rfl,?Kr⟩) ?Wj
  case Kr=>(intro w;go_simp;try with_reducible rfl)
  change wpAny _ _ _ _ _ _ (Act.put _ (some 29) _) _
  try simp only[Act.put,ji,js,ju]
  refine wpAny_ready (rs:=[4,7]) (by kernel_rfl) (by simp) ?_;refine' AllReady.cons (o:=?o7) ?Kt (λK hK=>?Ku) ?Wl
  case Kt=>(simp only[jt,jb,ja];rfl)
  case Ku=>
   refine nN rfl _ _ rfl Y.out ?_;refine hK _ _ ?_;clear hK K
   try simp only[Act.put,ji,js,ju]
   refine wpAny_ready (rs:=[7]) (by kernel_rfl) (by simp) ?_;refine' AllReady.cons (o:=?o8) ?Kv (λK hK=>?Kw) ?Wm
   case Kv=>(simp only[jt,jb,ja];rfl)
   case Kw=>
    go_simp;refine hK _ _ ?_;clear hK K
    try simp only[Act.put,ji,js,ju]
    refine wpAny_ready (rs:=[8]) (by kernel_rfl) (by simp) ?_;refine' AllReady.cons (o:=?o9) ?Ky (λK hK=>?Kz) ?Wn
    case Ky=>(simp only[jt,jb,ja];rfl)
    case Kz=>
     refine nN rfl _ _ rfl h5 ?_;refine hK _ _ ?_;clear hK K
     try simp only[Act.put,ji,js,ju]
     refine wpAny_ready (rs:=[9]) (by kernel_rfl) (by simp) ?_;refine' AllReady.cons (o:=?Wo) ?KA (λK hK=>?KD) ?Wp
     case KA=>(simp only[jt,jb,ja];rfl)
     case KD=>
      refine vF rfl _ _ rfl (by simp only[List.map_toArray,List.map_cons,List.map_nil];exact h1) ?_;refine hK _ _ ?_;clear hK K
      try simp only[Act.put,ji,js,ju]
      refine wpAny_ready (rs:=[10]) (by kernel_rfl) (by simp) ?_;refine' AllReady.cons (o:=?KE) ?yP (λK hK=>?yQ) ?KF
      case yP=>(simp only[jt,jb,ja];rfl)
      case yQ=>
       refine sH rfl _ _ _ rfl (by simp only[List.map_toArray,List.map_cons,List.map_nil];exact S) ?_;refine hK _ _ ?_;clear hK K
       try simp only[Act.put,ji,js,ju]
       refine wpAny_ready (rs:=[11]) (by kernel_rfl) (by simp) ?_;refine' AllReady.cons (o:=?Wq) ?KG (λK hK=>?KH) ?Ws
       case KG=>(simp only[jt,jb,ja];rfl)
       case KH=>
        refine step_append_lies _ rfl (.tmp 27) (.tmp 33) 103 rfl 0 222 X _ 129 136 underlying103 R U V W (by simp[Value.cells]) (by decide) wv k0 (iC m1.wt) (by simp[Act.eval]) J.out ⟨w2.heap.size,0,none⟩ 1 1 vs (by simp[Act.eval]) (by rw[L.out]) H.out I.out (by decide) (by unfold maxLen;omega) (by omega) (aC _) _ rfl ?_;intro g3 eZ w6 n l f s;have c:=jq (sI (i:=i) t.out p.out.1 p.out.2.1 G.out F.out z.out A.out C.out l f n);have Z:=c.out.1;have f6:=c.out.2.1;clear n l f s;refine hK _ _ ?_;clear hK K
        try simp only[Act.put,ji,js,ju]
        refine wpAny_ready (rs:=[12]) (by kernel_rfl) (by simp) ?_;refine' AllReady.cons (o:=?Wt) ?KI (λK hK=>?KJ) ?Wu
        case KI=>(simp only[jt,jb,ja];rfl)
        case KJ=>
         go_simp;refine hK _ _ ?_;clear hK K
         try simp only[Act.put,ji,js,ju]
         refine wpAny_ready (rs:=[13]) (by kernel_rfl) (by simp) ?_;refine' AllReady.cons (o:=?Wv) ?KL (λK hK=>?KM) ?Ww
         case KL=>(simp only[jt,jb,ja];rfl)
         case KM=>
          go_simp;refine hK _ _ ?_;clear hK K
          try simp only[Act.put,ji,js,ju]
          refine wpAny_ready (rs:=[14]) (by kernel_rfl) (by simp) ?_;refine' AllReady.cons (o:=?Wx) ?KN (λK hK=>?KO) ?Wy
          case KN=>(simp only[jt,jb,ja];rfl)
          case KO=>
           go_simp;refine hK _ _ ?_;clear hK K
           try simp only[Act.put,ji,js,ju]
           refine wpAny_done (by kernel_rfl) ?_ _
           go_wp2_with fail
           go_ret
           exact⟨rfl,_,c.out.2.2.1,(Upon.fB r.out (λq hq=>.inl (.inl (jE.1 hq)))).trans c.out.2.2.2.1 (λq hq=>.inl hq),λq hq=>(c.out.2.2.2.2 q hq).imp id (λh=>ax r.out.size h)⟩
          exact AllReady.nil
         exact AllReady.nil
        exact AllReady.nil
       exact AllReady.nil
      exact AllReady.nil
     exact AllReady.nil
    exact AllReady.nil
   exact AllReady.nil
  refine' AllReady.cons (o:=?o16) ?KP (λK hK=>?KQ) ?Wz
  case KP=>(simp only[jt,jb,ja];rfl)
  case KQ=>
   go_simp;refine hK _ _ ?_;clear hK K
   try simp only[Act.put,ji,js,ju]
   refine wpAny_ready (rs:=[4,8]) (by kernel_rfl) (by simp) ?_;refine' AllReady.cons (o:=?WA) ?KR (λK hK=>?KS) ?WC
   case KR=>(simp only[jt,jb,ja];rfl)
   case KS=>
    refine nN rfl _ _ rfl Y.out ?_;refine hK _ _ ?_;clear hK K
    try simp only[Act.put,ji,js,ju]
    refine wpAny_ready (rs:=[8]) (by kernel_rfl) (by simp) ?_;refine' AllReady.cons (o:=?WE) ?KT (λK hK=>?KU) ?WG
    case KT=>(simp only[jt,jb,ja];rfl)
    case KU=>
     refine nN rfl _ _ rfl h5 ?_;refine hK _ _ ?_;clear hK K
     try simp only[Act.put,ji,js,ju]
     refine wpAny_ready (rs:=[9]) (by kernel_rfl) (by simp) ?_;refine' AllReady.cons (o:=?WH) ?KV (λK hK=>?KW) ?WJ
     case KV=>(simp only[jt,jb,ja];rfl)
     case KW=>
      refine vF rfl _ _ rfl (by simp only[List.map_toArray,List.map_cons,List.map_nil];exact h1) ?_;refine hK _ _ ?_;clear hK K
      try simp only[Act.put,ji,js,ju]
      refine wpAny_ready (rs:=[10]) (by kernel_rfl) (by simp) ?_;refine' AllReady.cons (o:=?WK) ?KX (λK hK=>?KY) ?WL
      case KX=>(simp only[jt,jb,ja];rfl)
      case KY=>
       refine sH rfl _ _ _ rfl (by simp only[List.map_toArray,List.map_cons,List.map_nil];exact S) ?_;refine hK _ _ ?_;clear hK K
       try simp only[Act.put,ji,js,ju]
       refine wpAny_ready (rs:=[11]) (by kernel_rfl) (by simp) ?_;refine' AllReady.cons (o:=?J3) ?yI (λK hK=>?yJ) ?J4
       case yI=>(simp only[jt,jb,ja];rfl)
       case yJ=>
        refine step_append_lies _ rfl (.tmp 27) (.tmp 33) 103 rfl 0 222 X _ 129 136 underlying103 R U V W (by simp[Value.cells]) (by decide) wv k0 (iC m1.wt) (by simp[Act.eval]) J.out ⟨w2.heap.size,0,none⟩ 1 1 vs (by simp[Act.eval]) (by rw[L.out]) H.out I.out (by decide) (by unfold maxLen;omega) (by omega) (aC _) _ rfl ?_;intro g3 eZ w6 n l f s;have c:=jq (sI (i:=i) t.out p.out.1 p.out.2.1 G.out F.out z.out A.out C.out l f n);have Z:=c.out.1;have f6:=c.out.2.1;clear n l f s;refine hK _ _ ?_;clear hK K
        try simp only[Act.put,ji,js,ju]
        refine wpAny_ready (rs:=[12]) (by kernel_rfl) (by simp) ?_;refine' AllReady.cons (o:=?WM) ?KZ (λK hK=>?K3) ?WN
        case KZ=>(simp only[jt,jb,ja];rfl)
        case K3=>
         go_simp;refine hK _ _ ?_;clear hK K
         try simp only[Act.put,ji,js,ju]
         refine wpAny_ready (rs:=[13]) (by kernel_rfl) (by simp) ?_;refine' AllReady.cons (o:=?WO) ?K4 (λK hK=>?K5) ?WQ
         case K4=>(simp only[jt,jb,ja];rfl)
         case K5=>
          go_simp;refine hK _ _ ?_;clear hK K
          try simp only[Act.put,ji,js,ju]
          refine wpAny_ready (rs:=[14]) (by kernel_rfl) (by simp) ?_;refine' AllReady.cons (o:=?WR) ?K6 (λK hK=>?K7) ?WT
          case K6=>(simp only[jt,jb,ja];rfl)
          case K7=>
           go_simp;refine hK _ _ ?_;clear hK K
           try simp only[Act.put,ji,js,ju]
           refine wpAny_done (by kernel_rfl) ?_ _
           go_wp2_with fail
           go_ret
           exact⟨rfl,_,c.out.2.2.1,(Upon.fB r.out (λq hq=>.inl (.inl (jE.1 hq)))).trans c.out.2.2.2.1 (λq hq=>.inl hq),λq hq=>(c.out.2.2.2.2 q hq).imp id (λh=>ax r.out.size h)⟩
          exact AllReady.nil
         exact AllReady.nil
        exact AllReady.nil
       exact AllReady.nil
      exact AllReady.nil
     exact AllReady.nil
    exact AllReady.nil
   refine' AllReady.cons (o:=?WU) ?K8 (λK hK=>?K9) ?WV
   case K8=>(simp only[jt,jb,ja];rfl)
   case K9=>
    refine nN rfl _ _ rfl h5 ?_;refine hK _ _ ?_;clear hK K
    try simp only[Act.put,ji,js,ju]
    refine wpAny_ready (rs:=[4,9]) (by kernel_rfl) (by simp) ?_;refine' AllReady.cons (o:=?WW) ?La (λK hK=>?Lb) ?WY
    case La=>(simp only[jt,jb,ja];rfl)
    case Lb=>
     refine nN rfl _ _ rfl Y.out ?_;refine hK _ _ ?_;clear hK K
     try simp only[Act.put,ji,js,ju]
     refine wpAny_ready (rs:=[9]) (by kernel_rfl) (by simp) ?_;refine' AllReady.cons (o:=?WZ) ?Lc (λK hK=>?Ld) ?Xa
     case Lc=>(simp only[jt,jb,ja];rfl)
     case Ld=>
      refine vF rfl _ _ rfl (by simp only[List.map_toArray,List.map_cons,List.map_nil];exact h1) ?_;refine hK _ _ ?_;clear hK K
      try simp only[Act.put,ji,js,ju]
      refine wpAny_ready (rs:=[10]) (by kernel_rfl) (by simp) ?_;refine' AllReady.cons (o:=?Xb) ?Le (λK hK=>?Lf) ?Xc
      case Le=>(simp only[jt,jb,ja];rfl)
      case Lf=>
       refine sH rfl _ _ _ rfl (by simp only[List.map_toArray,List.map_cons,List.map_nil];exact S) ?_;refine hK _ _ ?_;clear hK K
       try simp only[Act.put,ji,js,ju]
       refine wpAny_ready (rs:=[11]) (by kernel_rfl) (by simp) ?_;refine' AllReady.cons (o:=?Xd) ?Lg (λK hK=>?Lh) ?Xe
       case Lg=>(simp only[jt,jb,ja];rfl)
       case Lh=>
        refine step_append_lies _ rfl (.tmp 27) (.tmp 33) 103 rfl 0 222 X _ 129 136 underlying103 R U V W (by simp[Value.cells]) (by decide) wv k0 (iC m1.wt) (by simp[Act.eval]) J.out ⟨w2.heap.size,0,none⟩ 1 1 vs (by simp[Act.eval]) (by rw[L.out]) H.out I.out (by decide) (by unfold maxLen;omega) (by omega) (aC _) _ rfl ?_;intro g3 eZ w6 n l f s;have c:=jq (sI (i:=i) t.out p.out.1 p.out.2.1 G.out F.out z.out A.out C.out l f n);have Z:=c.out.1;have f6:=c.out.2.1;clear n l f s;refine hK _ _ ?_;clear hK K
        try simp only[Act.put,ji,js,ju]
        refine wpAny_ready (rs:=[12]) (by kernel_rfl) (by simp) ?_;refine' AllReady.cons (o:=?Xf) ?Li (λK hK=>?Lj) ?Xg
        case Li=>(simp only[jt,jb,ja];rfl)
        case Lj=>
         go_simp;refine hK _ _ ?_;clear hK K
         try simp only[Act.put,ji,js,ju]
         refine wpAny_ready (rs:=[13]) (by kernel_rfl) (by simp) ?_;refine' AllReady.cons (o:=?Xh) ?Ll (λK hK=>?Lm) ?Xi
         case Ll=>(simp only[jt,jb,ja];rfl)
         case Lm=>
          go_simp;refine hK _ _ ?_;clear hK K
          try simp only[Act.put,ji,js,ju]
          refine wpAny_ready (rs:=[14]) (by kernel_rfl) (by simp) ?_;refine' AllReady.cons (o:=?o32) ?Lp (λK hK=>?Lr) ?Xj
          case Lp=>(simp only[jt,jb,ja];rfl)
          case Lr=>
           go_simp;refine hK _ _ ?_;clear hK K
           try simp only[Act.put,ji,js,ju]
           refine wpAny_done (by kernel_rfl) ?_ _
           go_wp2_with fail
           go_ret
           exact⟨rfl,_,c.out.2.2.1,(Upon.fB r.out (λq hq=>.inl (.inl (jE.1 hq)))).trans c.out.2.2.2.1 (λq hq=>.inl hq),λq hq=>(c.out.2.2.2.2 q hq).imp id (λh=>ax r.out.size h)⟩
          exact AllReady.nil
         exact AllReady.nil
        exact AllReady.nil
       exact AllReady.nil
      exact AllReady.nil
     exact AllReady.nil
    refine' AllReady.cons (o:=?Xk) ?Ls (λK hK=>?Lu) ?Xl
    case Ls=>(simp only[jt,jb,ja];rfl)
    case Lu=>
     refine vF rfl _ _ rfl (by simp only[List.map_toArray,List.map_cons,List.map_nil];exact h1) ?_;refine hK _ _ ?_;clear hK K
     try simp only[Act.put,ji,js,ju]
     refine wpAny_ready (rs:=[4,10]) (by kernel_rfl) (by simp) ?_;refine' AllReady.cons (o:=?Xm) ?Lv (λK hK=>?Lx) ?Xn
     case Lv=>(simp only[jt,jb,ja];rfl)
     case Lx=>
      refine nN rfl _ _ rfl Y.out ?_;refine hK _ _ ?_;clear hK K
      try simp only[Act.put,ji,js,ju]
      refine wpAny_ready (rs:=[10]) (by kernel_rfl) (by simp) ?_;refine' AllReady.cons (o:=?Xo) ?LA (λK hK=>?LB) ?Xp
      case LA=>(simp only[jt,jb,ja];rfl)
      case LB=>
       refine sH rfl _ _ _ rfl (by simp only[List.map_toArray,List.map_cons,List.map_nil];exact S) ?_;refine hK _ _ ?_;clear hK K
       try simp only[Act.put,ji,js,ju]
       refine wpAny_ready (rs:=[11]) (by kernel_rfl) (by simp) ?_;refine' AllReady.cons (o:=?Xq) ?LC (λK hK=>?LD) ?Xr
       case LC=>(simp only[jt,jb,ja];rfl)
       case LD=>
        refine step_append_lies _ rfl (.tmp 27) (.tmp 33) 103 rfl 0 222 X _ 129 136 underlying103 R U V W (by simp[Value.cells]) (by decide) wv k0 (iC m1.wt) (by simp[Act.eval]) J.out ⟨w2.heap.size,0,none⟩ 1 1 vs (by simp[Act.eval]) (by rw[L.out]) H.out I.out (by decide) (by unfold maxLen;omega) (by omega) (aC _) _ rfl ?_;intro g3 eZ w6 n l f s;have c:=jq (sI (i:=i) t.out p.out.1 p.out.2.1 G.out F.out z.out A.out C.out l f n);have Z:=c.out.1;have f6:=c.out.2.1;clear n l f s;refine hK _ _ ?_;clear hK K
        try simp only[Act.put,ji,js,ju]
        refine wpAny_ready (rs:=[12]) (by kernel_rfl) (by simp) ?_;refine' AllReady.cons (o:=?Xt) ?LF (λK hK=>?LG) ?Xu
        case LF=>(simp only[jt,jb,ja];rfl)
        case LG=>
         go_simp;refine hK _ _ ?_;clear hK K
         try simp only[Act.put,ji,js,ju]
         refine wpAny_ready (rs:=[13]) (by kernel_rfl) (by simp) ?_;refine' AllReady.cons (o:=?Xv) ?LJ (λK hK=>?LK) ?Xw
         case LJ=>(simp only[jt,jb,ja];rfl)
         case LK=>
          go_simp;refine hK _ _ ?_;clear hK K
          try simp only[Act.put,ji,js,ju]
          refine wpAny_ready (rs:=[14]) (by kernel_rfl) (by simp) ?_;refine' AllReady.cons (o:=?Xx) ?LM (λK hK=>?LP) ?Xy
          case LM=>(simp only[jt,jb,ja];rfl)
          case LP=>
           go_simp;refine hK _ _ ?_;clear hK K
           try simp only[Act.put,ji,js,ju]
           refine wpAny_done (by kernel_rfl) ?_ _
           go_wp2_with fail
           go_ret
           exact⟨rfl,_,c.out.2.2.1,(Upon.fB r.out (λq hq=>.inl (.inl (jE.1 hq)))).trans c.out.2.2.2.1 (λq hq=>.inl hq),λq hq=>(c.out.2.2.2.2 q hq).imp id (λh=>ax r.out.size h)⟩
          exact AllReady.nil
         exact AllReady.nil
        exact AllReady.nil
       exact AllReady.nil
      exact AllReady.nil
     refine' AllReady.cons (o:=?Xz) ?LQ (λK hK=>?LU) ?XA
     case LQ=>(simp only[jt,jb,ja];rfl)
     case LU=>
      refine sH rfl _ _ _ rfl (by simp only[List.map_toArray,List.map_cons,List.map_nil];exact S) ?_;refine hK _ _ ?_;clear hK K
      try simp only[Act.put,ji,js,ju]
      refine wpAny_ready (rs:=[4]) (by kernel_rfl) (by simp) ?_;refine' AllReady.cons (o:=?XB) ?LV (λK hK=>?LW) ?XC
      case LV=>(simp only[jt,jb,ja];rfl)
      case LW=>
       refine nN rfl _ _ rfl x8.out ?_;refine hK _ _ ?_;clear hK K
       try simp only[Act.put,ji,js,ju]
       refine wpAny_ready (rs:=[11]) (by kernel_rfl) (by simp) ?_;refine' AllReady.cons (o:=?XD) ?LX (λK hK=>?LY) ?XE
       case LX=>(simp only[jt,jb,ja];rfl)
       case LY=>
        refine step_append_lies _ rfl (.tmp 27) (.tmp 33) 103 rfl 0 222 X _ 129 136 underlying103 R U V W (by simp[Value.cells]) (by decide) wv k0 (iC m1.wt) (by simp[Act.eval]) J.out ⟨w2.heap.size,0,none⟩ 1 1 vs (by simp[Act.eval]) (by rw[L.out]) H.out I.out (by decide) (by unfold maxLen;omega) (by omega) (aC _) _ rfl ?_;intro g3 eZ w6 n l f s;have c:=jq (sI (i:=i) t.out p.out.1 p.out.2.1 G.out F.out z.out A.out C.out l f n);have Z:=c.out.1;have f6:=c.out.2.1;clear n l f s;refine hK _ _ ?_;clear hK K
        try simp only[Act.put,ji,js,ju]
        refine wpAny_ready (rs:=[12]) (by kernel_rfl) (by simp) ?_;refine' AllReady.cons (o:=?XF) ?LZ (λK hK=>?L6) ?XG
        case LZ=>(simp only[jt,jb,ja];rfl)
        case L6=>
         go_simp;refine hK _ _ ?_;clear hK K
         try simp only[Act.put,ji,js,ju]
         refine wpAny_ready (rs:=[13]) (by kernel_rfl) (by simp) ?_;refine' AllReady.cons (o:=?XH) ?L8 (λK hK=>?L9) ?XI
         case L8=>(simp only[jt,jb,ja];rfl)
         case L9=>
          go_simp;refine hK _ _ ?_;clear hK K
          try simp only[Act.put,ji,js,ju]
          refine wpAny_ready (rs:=[14]) (by kernel_rfl) (by simp) ?_;refine' AllReady.cons (o:=?XJ) ?Ma (λK hK=>?Mc) ?XK
          case Ma=>(simp only[jt,jb,ja];rfl)
          case Mc=>
           go_simp;refine hK _ _ ?_;clear hK K
           try simp only[Act.put,ji,js,ju]
           refine wpAny_done (by kernel_rfl) ?_ _
           go_wp2_with fail
           go_ret
           exact⟨rfl,_,c.out.2.2.1,(Upon.fB r.out (λq hq=>.inl (.inl (jE.1 hq)))).trans c.out.2.2.2.1 (λq hq=>.inl hq),λq hq=>(c.out.2.2.2.2 q hq).imp id (λh=>ax r.out.size h)⟩
          exact AllReady.nil
         exact AllReady.nil
        exact AllReady.nil
       exact AllReady.nil
      exact AllReady.nil
     exact AllReady.nil
    exact AllReady.nil
   exact AllReady.nil
  exact AllReady.nil
theorem mM(b:List (Nat×List UInt8)):∀bl:List (List UInt8),(puts bl b).length=bl.length:=by
 induction b with
 |nil=>intro bl;rfl
 |cons x r c=>intro bl;show(puts (bl.set x.1 x.2) r).length=_;rw[c,List.length_set]
theorem Md(bl:List (List UInt8))(b:List (Nat×List UInt8))(x:Nat×List UInt8):puts bl (b++ [x])=(puts bl b).set x.1 x.2:=by unfold puts;rw[kG];rfl
theorem oU{α:Type}{f:α->List Value}{s:Nat}:∀{l:List α},(∀x∈l,(f x).length=s)->∀{k:Nat} {x:α},l[k]? =some x->∀{j:Nat} {u:Value},(f x)[j]? =some u->(l.flatMap f)[k*s+j]? =some u
 | [],_,k,x,hx,_,_,_=>by simp at hx
 |y ::r,h,0,x,hx,j,u,hu=>by
  simp at hx
  subst hx;rw[jC,iK (by have:=(jS.1 hu).1;omega)]
  simpa using hu
 |y ::r,h,k+1,x,hx,j,u,hu=>by
  have b:=h y (by simp);have:=oU (f:=f) (s:=s) (l:=r) (λz c=>h z (by simp[c])) (k:=k) (x:=x) (by simpa using hx) hu;rw[jC,iL (by rw[b,eY];omega)];rw[<-this]
  congr 1
  rw[b,eY]
  omega
theorem vH{α:Type}{f:α->List Value}{s:Nat}:∀{l:List α},(∀x∈l,(f x).length=s)->∀{k:Nat} {x:α},k<l.length->(f x).length=s->(l.set k x).flatMap f=(l.flatMap f).take (k*s)++(f x++(l.flatMap f).drop (k*s+s))
 | [],_,k,x,hk,_=>by simp at hk
 |y ::r,h,0,x,_,hx=>by
  have b:=h y (by simp)
  simp[b]
 |y ::r,h,k+1,x,hk,hx=>by
  have b:=h y (by simp);have:=vH (f:=f) (s:=s) (l:=r) (λz i=>h z (by simp[i])) (k:=k) (x:=x) (by simpa using hk) hx;rw[ju,jC,this,jC];have c: (k+1)*s=(f y).length+k*s:=by rw[b,eY];omega
  have e: (k+1)*s+s=(f y).length+(k*s+s):=by rw[b,eY];omega
  rw[e,c,List.take_length_add_append,List.drop_length_add_append]
  simp
theorem Me(w:World)(t:TypeId)(b:Array Value): (w.alloc (.cells b t)).there w.heap.size 0 b.size:=λj c=>by
 have h:=Blk.new w t b;refine⟨?_,h.frozen _⟩;rw[h.cell,Nat.zero_add,uY c]
 rfl
theorem Mf{t:TypeId}{b:Array Value}(h:Blk w g t b){o n:Nat}(e:o+n<=b.size):w.there g o n:=λj c=>by
 refine⟨?_,h.frozen _⟩;rw[h.cell,uY (by omega)]
 rfl
theorem below_setCells{B g:Nat}(b:B<=g):∀(vs:List Value) (o:Nat) {a w:World},Below B a w->Below B a (w.setCells g o vs)
 | [],_,_,_,h=>h
 |v ::r,o,_,_,h=>below_setCells b r (o+1) (h.setCell (p:=⟨g,o,none⟩) b v)
theorem Mh(w:World)(t:TypeId)(c:Array Value)(b:List Value)(f:c.size=b.length):Blk ((w.alloc (.cells c t)).setCells w.heap.size 0 b) w.heap.size t b.toArray:=by
 obtain⟨h,i,j⟩:=Blk.splice b 0 _ _ (Blk.new w t c) (by rw[Nat.zero_add,f];exact aj _)
 have e:h=b.toArray:=by
  apply Array.ext'
  rw[j,Nat.zero_add,<-f]
  simp
 rw[<-e];exact i
theorem Cr: (Tryz.zeroCells222).size=129:=by kernel_rfl
theorem Ct: (prog.info? 222).map (·.size)=some 129:=by kernel_rfl
theorem Mi{c k:Nat}{W:World}{xb:List UInt8}{bs:List Value}(h:Dk W d g wv {m1 with bl:=puts m.bl (m.wt.take k)})(B:m.wt[k]? =some (c,xb))(hb:bs=xb.map bv)(n:c<(puts m.bl (m.wt.take k)).length)(hl:xb.length=128):
  Dk (W.drew.setCells g (c*128) bs) d g wv {m1 with bl:=puts m.bl (m.wt.take (k+1))}:=by
 have i:puts m.bl (m.wt.take (k+1))=(puts m.bl (m.wt.take k)).set c xb:=by rw[bF,B];exact Md _ _ _
 have j: (puts m.bl (m.wt.take (k+1))).length=(puts m.bl (m.wt.take k)).length:=by rw[i,List.length_set]
 have l:∀b∈puts m.bl (m.wt.take k),b.length=128:=h.len;have p:Only [g] W (W.drew.setCells g (c*128) bs):=Only.setCells bs (c*128) ((Only.refl [g] W).drew) (.inl (by simp))
 obtain⟨t,u,y⟩:=Blk.splice bs (c*128) W.drew (lG (puts m.bl (m.wt.take k))).toArray h.row (by
  rw[List.size_toArray,yL l,hb,jP,hl];have:=jD 128 (rO n);rw[eY]at this;exact this)
 have A:t=(lG (puts m.bl (m.wt.take (k+1)))).toArray:=by
  apply Array.ext'
  rw[y,i];unfold lG;rw[vH (f:=λb:List UInt8=>b.map bv) (s:=128) (λb e=>by rw[jP];exact l b e) n (by rw[jP,hl]),hb,jP,hl]
  simp
 refine⟨?_,by rw[<-A];exact u,yB h.wt p (λq hq z=>h.wg (by rw[hq,jE.1 z])),?_,?_,h.f0,h.f1,?_,h.nil⟩
 ·show Blk _ d _ #[.slice _ (puts m.bl (m.wt.take (k+1))).length (puts m.bl (m.wt.take (k+1))).length,_,_,_];rw[j];exact h.disk.only p (by simpa using h.dg)
 ·show∀b∈puts m.bl (m.wt.take (k+1)),b.length=128;rw[i];intro b e;rcases List.mem_or_eq_of_mem_set e with e|rfl
  ·exact l b e
  ·exact hl
 ·intro x r;refine⟨?_,(h.mJ x r).2⟩;show x.1<(puts m.bl (m.wt.take (k+1))).length;rw[j];exact(h.mJ x r).1
 ·show(puts m.bl (m.wt.take (k+1))).length<=65536;rw[j];exact h.small
theorem yR(h:Dk w d g wv m)(y5:m.off=false)(hn:m.wt.length<=1000000):
  Calls prog 85 #[.pointer (some ⟨d,0,none⟩)] w λe w'=>e=.returned (.int .i64 m.sync.2)/\∃z1,Dk w' d g z1 m.sync.1/\Upon (λk=>k=d\/k=g) w w'/\∀k,z1.ownBlock=some k->wv.ownBlock=some k:=by
 have hO:=qO h;rw[y5]at hO;have HO:=jq hO;have s:=jq (Co h);clear hO
 by_cases t:m.aM=0
 ·have H:m.deed.2=6:=by unfold DM.deed;rw[if_pos t]
  have J:m.sync=(m.deed.1,6):=by unfold DM.sync;rw[if_pos t]
  rw[H]at s;rw[J];clear h H J t
  go_enter func85,ntmps85
  go_wp2_with fail
  refine HO.out.mono ?_;rintro e w1 ⟨rfl,rfl⟩
  go_wp2_with fail
  refine s.out.mono ?_;rintro e w2 ⟨rfl,p,I⟩;have B:=jq p;have Y:=jq I;clear p I s
  go_wp2_with fail
  go_ret
  exact⟨rfl,wv,B.out,Upon.fB Y.out (λq hq=>.inl (.inl (jE.1 hq))),λk hk=>hk⟩
 ·have H:m.deed.2=0:=by unfold DM.deed;rw[if_neg t];split <;> rfl
  have y2:m.deed.1.wt=m.wt/\m.deed.1.bl=m.bl/\m.deed.1.off=m.off:=by unfold DM.deed;rw[if_neg t];split <;> exact⟨rfl,rfl,rfl⟩
  have J:m.sync=({m.deed.1 with bl:=puts m.bl m.wt,wt:=[]},0):=by unfold DM.sync;rw[if_neg t]
  rw[H]at s;rw[J];have C:=jq y2;have HH:=jq h;obtain⟨m1,y3⟩:=jl m.deed.1;rw[<-y3]at s C⊢;clear h H J t y2 y3 y5
  go_enter func85,ntmps85
  go_wp2_with fail
  refine HO.out.mono ?_;rintro e w1 ⟨rfl,rfl⟩
  go_wp2_with fail
  refine s.out.mono ?_;rintro e w2 ⟨rfl,p,I⟩;obtain⟨n,U⟩:=jl m.wt.length;have h7:m1.wt.length=n:=by rw[C.out.1,U]
  obtain⟨wa,wc,rfl,a1,O,y8,a3⟩:=own_shape p.wt;have c1:=p.cells.2.1;rw[h7]at c1 p a1;have b1:n<=1000000:=by rw[U];exact hn
  have B:=jq p;have Y:=jq I;have z4:=jq h7;have x5:=jq U;have a9:=jq y8;clear p I s h7 U O y8 a3
  go_wp2_with fail
  go_loopw[19] (λi wr=>∃k,k<=n/\i=.int .i64 k/\Dk wr d g (.slice wa n wc) {m1 with bl:=puts m.bl (m.wt.take k)}/\Upon (λq=>q=d\/q=g) w2 wr) (λi _=>n-(intOf i).toNat)
  case atStart=>
   refine⟨0,aC _,rfl,?_,Upon.refl _ _⟩;have e: ({m1 with bl:=puts m.bl (m.wt.take 0)}:DM)=m1:=by rw[List.take_zero];show({m1 with bl:=m.bl}:DM)=m1;rw[<-C.out.2.1]
   rw[e];exact B.out
  case round=>
   obtain⟨k,hk,rfl,r,V⟩:=hrel
   by_cases hlt:k<n
   ·obtain⟨x,A⟩:∃x,m.wt[k]? =some x:=⟨m.wt[k]'(by rw[<-x5.out];exact hlt),jg _⟩;obtain⟨b,xb⟩:=x;obtain⟨a8,b2,e,a4,O,a5,a6⟩:=own_shape r.wt;clear a4 a5 a6;obtain⟨z0,y9⟩:=r.mJ (b,xb) (by show(b,xb)∈m1.wt;rw[C.out.1];exact jM A);have X:b<(puts m.bl (m.wt.take k)).length:=z0;have h9:xb.length=128:=y9;have e2:a8=wa:=by injection e with e _ _;exact e.symm
    subst e2
    obtain⟨wg,wo,rfl,a2,hc⟩:=O.resolve_left (λe0=>by
     have D:=Cn (l:=m1.wt) (λy hy=>(B.out.mJ y hy).2);have h2:iC m1.wt= []:=e0;rw[h2,z4.out]at D
     simp at D
     omega)
    obtain⟨cs,hcs⟩:=jl (Value.int .i64 (b:Int)::xb.map bv);have y1:cs.length=129:=by rw[hcs,List.length_cons,jP,h9]
    have hR:wr.rangeAt wg (wo+k*129) cs:=λj v c=>by
     have:=hc (k*129+j) v (oU (l:=m1.wt) (f:=λx=>Value.int .i64 (x.1:Int)::x.2.map bv) (λy hy=>by simp[(B.out.mJ y hy).2]) (x:=(b,xb)) (by rw[C.out.1];exact A) (by rw[<-hcs];exact c))
     rwa [<-Nat.add_assoc]at this
    have y6:∀v∈cs,v.oneCell'=true:=λv c=>by
     rw[hcs]at c;rcases List.mem_cons.1 c with rfl|c
     ·rfl
     ·exact kN xb v c
    have M:=jq r;have Z:=jq V;have HR:=jq hR;have z5:=jq y6;have x2:=jq hcs;have L:=jq y1;have x7:=jq h9;clear r V hR y6 hcs y1 y9 h9 e O hc z0;obtain⟨bx,u⟩:=jl wr.heap.size
    have y7: (wr.alloc (.cells Tryz.zeroCells222 222)).there bx 0 cs.toArray.size:=by
     have D:=Me wr 222 Tryz.zeroCells222;rw[Cr,<-u]at D;rw[List.size_toArray,L.out];exact D
    have z7:=jq y7;obtain⟨W,S⟩:=jl ((wr.alloc (.cells Tryz.zeroCells222 222)).setCells bx 0 cs);obtain⟨bs,T⟩:=jl (xb.map bv);have h6:bs.length=128:=by rw[T,jP,x7.out]
    have h5:Blk W bx 222 cs.toArray:=by
     rw[S,u];exact Mh wr _ _ cs (by rw[Cr,L.out])
    have h3:Below wr.heap.size wr W:=by
     rw[S,u];exact below_setCells jn cs 0 ((Below.refl _ wr).alloc jn _)
    have G:=M.out.later h3;have c0:=G.cells.1;obtain⟨N,R⟩:=jl ((puts m.bl (m.wt.take k)).length);have h4: (({m1 with bl:=puts m.bl (m.wt.take k)}:DM)).bl.length=N:=R.symm;rw[h4]at c0;rw[<-R]at X
    have x8:W.cell? ⟨d,0,none⟩=some (.slice (some ⟨g,0,none⟩) N N)/\W.cell? ⟨bx,0,none⟩=some (.int .i64 (b:Int))/\W.rangeAt bx 1 bs/\W.there g (b*128) bs.toArray.size:=by
     refine⟨c0,?_,λj v c=>?_,?_⟩
     ·rw[h5.cell,x2.out];rfl
     ·rw[h5.cell,x2.out,<-T,Nat.add_comm 1 j]
      simpa using c
     ·rw[List.size_toArray,h6];exact Mf G.row (by rw[List.size_toArray,yL G.len,h4];have:=jD 128 (rO X);rw[eY]at this;exact this)
    have z6:=jq x8;have HW:=jq S;have z3:=jq u;have x1:=jq T;have x0:=jq h6;have z2:=jq h3;have x4:=jq G;have HN:=jq R;clear y7 S T h6 h5 h3 G c0 R h4 x8
    go_wp2_with (first|(refine wpList_load_mid rfl _ _ rfl wg (wo+k*129) (by simp[Act.eval]) cs _ HR.out underlying222 rfl (by rw[L.out];exact Ct) ?_)|(refine wpList_store_mid rfl _ _ _ rfl bx 0 cs.toArray (by rw[u];simp[Act.eval]) (by simp[Act.eval]) z7.out (by rw[List.size_toArray,L.out];exact Ct) (all_oneCell_toArray z5.out) ?_;rw[List.toList_toArray,<-HW.out]))
    rw[<-u];clear u;have y4:g≠d:=gL x4.out.dg;have h8:g≠bx:=by have:=M.out.row.lt;have:=z3.out;omega
    have a7:∀v∈bs,v.oneCell'=true:=λv c=>by rw[x1.out]at c;exact kN xb v c
    have hu:prog.underlying 220=_:=underlying220;have z8: (prog.info? 220).map (·.size)=some bs.length:=by rw[x0.out];exact sG
    have z9: (prog.info? 220).map (·.size)=some bs.toArray.size:=by simp only[List.size_toArray,x0.out];exact sG
    have z:W.drew.cell? ⟨d,0,none⟩=some (.slice (some ⟨g,0,none⟩) N N)/\W.drew.cell? ⟨bx,0,none⟩=some (.int .i64 (b:Int))/\W.drew.rangeAt bx 1 bs/\W.drew.there g (b*128) bs.toArray.size:=z6.out
    have x9: (W.drew.setCells g (b*128) bs).cell? ⟨d,0,none⟩=some (.slice (some ⟨g,0,none⟩) N N)/\(W.drew.setCells g (b*128) bs).cell? ⟨bx,0,none⟩=some (.int .i64 (b:Int))/\(W.drew.setCells g (b*128) bs).rangeAt bx 1 bs/\(W.drew.setCells g (b*128) bs).there g (b*128) bs.toArray.size:=
     ⟨by rw[World.cell?_setCells_out g bs _ _ _ (λhb _=>absurd hb (gL y4))];exact z.1,by rw[World.cell?_setCells_out g bs _ _ _ (λhb _=>absurd hb (gL h8))];exact z.2.1,World.rangeAt_setCells_apart z.2.2.1 _ _ _ (.inl (gL h8)),World.there_setCells z.2.2.2 _ _ _⟩
    go_region_held3 (λw'=>w'.cell? ⟨d,0,none⟩=some (.slice (some ⟨g,0,none⟩) N N)/\w'.cell? ⟨bx,0,none⟩=some (.int .i64 (b:Int))/\w'.rangeAt bx 1 bs/\w'.there g (b*128) bs.toArray.size) (first|exact z|exact x9) (skip)
    have x3:=jq (Mi x4.out A x1.out (by show b<(puts m.bl (m.wt.take k)).length;rw[<-HN.out];exact X) x7.out);have x6:Hid (Upon (λq=>q=d\/q=g) w2 (W.drew.setCells g (b*128) bs)):=jq (Z.out.trans (Upon.fB (F:=[g]) (Only.setCells bs (b*128) ((Only.of_below z2.out).drew) (.inl (by simp))) (λq hq=>.inl (.inr (jE.1 hq)))) (λq hq=>.inl hq));obtain⟨W2,y0⟩:=jl (W.drew.setCells g (b*128) bs);rw[<-y0]at x3 x6⊢;clear y0 z x9 z8 z9 hu a7 A X y4 h8 a2
    rename_i hHeld
    clear hHeld;have hw:RowKit.wrap64 ((k:Int)+1)=(k:Int)+1:=IntWalk.wrap64_in _ (by omega)
    go_wp2_with fail
    go_roundw
    case rel=>exact⟨k+1,rO hlt,by simp,x3.out,x6.out⟩
    case measure=>simp[intOf];exact Nat.sub_lt_sub_left hlt (Nat.lt_succ_self k)
   ·obtain rfl:k=n:=by omega
    have f1:=r.disk.frozen 1;have b0:=r.cells.2.1;have M:=jq r;have Z:=jq V;clear r V c1
    go_wp2_with fail
    go_ret
    refine⟨rfl,.slice none 0 0,?_,((Upon.fB Y.out (λq hq=>.inl (.inl (jE.1 hq)))).trans Z.out (λq hq=>.inl hq)).set (.inl (.inl rfl)) _,λq hq=>by cases hq⟩;have a0:m.wt.take k=m.wt:=by rw[x5.out,lC]
    have hd:=M.out;rw[a0]at hd;exact⟨hd.disk.set 1 (.slice none 0 0),hd.row.far (gL hd.dg) _,⟨rfl,.inl ⟨rfl,rfl⟩⟩,hd.len,(λx A=>by cases A),hd.f0,hd.f1,hd.small,λ_=>rfl⟩
end Dk
end Go.Proofs.YtndkohocgfmamaaGreatDoor
