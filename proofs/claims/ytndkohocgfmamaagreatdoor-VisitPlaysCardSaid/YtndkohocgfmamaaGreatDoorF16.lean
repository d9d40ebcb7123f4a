/- Part. -/
import Derived.Test.YtndkohocgfmamaaGreatDoorF13
import Derived.Test.YtndkohocgfmamaaGreatDoorF15
import Derived.Lib.Overlaps
set_option maxHeartbeats 2000000
set_option maxRecDepth 100000
namespace Go.Proofs.YtndkohocgfmamaaGreatDoor
open Go.Proofs.Tryz
namespace aA
open Go.RowKit Go.Deep Mem Crc
theorem sJ: (prog.info? 113).map (λi=>(i.zero,i.size,i.bytes))=some (some (.agg #[.string ⟨#[]⟩,.int .u32 0,.int .i64 0,.slice none 0 0]),4,56):=by kernel_rfl
theorem vI{P:Program}(w:World)(e A B elem:TypeId)(sz g o c h:Nat)(a:Addr)(d z:Nat)(cur:Array Value)(t:TypeId)(b:List Value)(y:P.underlying e=some (.slice elem))(f: (P.info? elem).map (·.size)=some sz)(p:w.heap[g]? =some (.cells cur t (0,0)))(r:b.length=Nat.min d c*sz)(s:∀j v,b[j]? =some v->w.cell? (a.add j)=some v)(m:o+b.length<=cur.size)(k:∀v∈b,v.oneCell'=true):
  (Builtin.copy_ #[e,A] B #[.slice (some ⟨g,o,none⟩) c h,.slice (some a) d z]).run P w =
   .ok (goInt (Nat.min d c:Nat)) (w.setRow g (cur.toList.take o++b++cur.toList.drop (o+b.length)).toArray):=by
 have hl:=run_loadCells_list (P:=P) w a b s;have u:=run_storeCells_at P g o t b 0 cur w p (by simpa using m) k
 cases hq:P.info? elem with
 |none=>simp[hq]at f
 |some i=>
  have q:i.size=sz:=by simpa[hq]using f
  rw[r]at hl
  simp[Builtin.copy_,run_underlying y,Builtin.lenOf,Builtin.firstCells,sizeOf,typeInfo,hq,q,hl,u]
section
variable {P:Program}{ops:Array Oper}{o:Oper}{a:Act}{w:World}{K:Act->World->Prop}{Q:Exit->Act->World->Prop}{E:Prop}
variable {v':Value}{w':World}
theorem Cu(e:o.guard=none)(d x:Operand)(b c:TypeId)(f:o.op=.call {callee:=.builtin .copy,args:=#[d,x],argTypes:=#[b,c]})(v u:Value)(hd:a.eval d=v)(h:a.eval x=u)(g: (Builtin.copy_ #[b,c] o.type #[v,u]).run P w=.ok v' w')(hK:K (a.put o.dst v') w'):if Region.wanted o (yielded ops a.tmps)=true then Oper.wp P o a w K Q else E:=by
 rw[if_pos (by simp[Region.wanted,e])];unfold Oper.wp execOp;simp only[f,resolve,invoke,builtin,Sem.run_bind,Sem.run_pure,Result.andThen_ok,List.map_toArray,List.map_cons,List.map_nil,hd,h,g];exact hK
theorem Cv{rest:List Oper}(e:o.guard=none)(d x:Operand)(b c:TypeId)(f:o.op=.call {callee:=.builtin .copy,args:=#[d,x],argTypes:=#[b,c]})(v u:Value)(hd:a.eval d=v)(j:a.eval x=u)(g: (Builtin.copy_ #[b,c] o.type #[v,u]).run P w=.ok v' w')(h:wpList P ops Q rest (a.put o.dst v') w'):wpList P ops Q (o ::rest) a w:=
 wpList_plain e λK hK=>by
  unfold Oper.wp execOp;simp only[f,resolve,invoke,builtin,Sem.run_bind,Sem.run_pure,Result.andThen_ok,List.map_toArray,List.map_cons,List.map_nil,hd,j,g];exact hK _ _ h
end
theorem oV(l m:List FR):ay (l++m)=ay l++ay m:=by unfold ay;rw[ig]
theorem vJ(x:FR)(l:List FR):ay (x ::l)=x.vs++ay l:=by unfold ay;rw[jC]
theorem Mj(l:List FR)(i:Nat): (ay l).take (i*4)=ay (l.take i):=by
 by_cases h:i<=l.length
 ·have e:ay l=ay (l.take i)++ay (l.drop i):=by rw[<-oV,iq]
  have hl: (ay (l.take i)).length=i*4:=by rw[jr,jT];omega
  rw[e,<-hl];exact kH
 ·rw[jW (by rw[jr];omega),jW (by omega)]
theorem sK(x:FR):∀v∈x.vs,v.oneCell'=true:=λv b=>by
 unfold FR.vs sv iv at b;simp only[List.mem_cons,List.not_mem_nil,or_false]at b;rcases b with rfl|rfl|rfl|rfl <;> rfl
theorem Cw(l:List FR):∀v∈ay l,v.oneCell'=true:=λv b=>by
 obtain⟨x,_,c⟩:=rR.1 b;exact sK x v c
variable {l:List FR}{x:FR}{i n:Nat}
theorem spliced{A:List Value}(hl:l.length=n)(g:i<=n)(f:A.take (i*4)=ay (l.take i))(_: (n+1)*4<=A.length):
  ((A.take (i*4)++x.vs++A.drop (i*4+x.vs.length)).take ((i+1)*4)++ay (l.drop i)++(A.take (i*4)++x.vs++A.drop (i*4+x.vs.length)).drop ((i+1)*4+(ay (l.drop i)).length)).take ((n+1)*4)=ay (l.take i++x ::l.drop i):=by
 have c:x.vs.length=4:=rfl;have b: (ay (l.take i)).length=i*4:=by rw[jr,jT];omega
 have e: (ay (l.drop i)).length=(n-i)*4:=by rw[jr,List.length_drop,hl]
 rw[f,oV,vJ]
 have d: (ay (l.take i)++x.vs++A.drop (i*4+x.vs.length)).take ((i+1)*4)=ay (l.take i)++x.vs:=by
  rw[show(i+1)*4=(ay (l.take i)++x.vs).length by rw[jL,b,c];omega];exact kH
 rw[d,show(n+1)*4=(ay (l.take i)++x.vs++ay (l.drop i)).length by rw[jL,jL,b,e,c];omega,kH]
 simp
theorem Mk{A:List Value}(hl:l.length=n)(k:i<=n)(h:A.take (n*4)=ay l)(m: (n+1)*4<=A.length):
  ((A.take ((i+1)*4)++ay (l.drop i)++A.drop ((i+1)*4+(ay (l.drop i)).length)).take (i*4)++x.vs++(A.take ((i+1)*4)++ay (l.drop i)++A.drop ((i+1)*4+(ay (l.drop i)).length)).drop (i*4+x.vs.length)).take ((n+1)*4)=ay (l.take i++x ::l.drop i):=by
 have c:x.vs.length=4:=rfl;have f: (ay (l.take i)).length=i*4:=by rw[jr,jT];omega
 have g: (ay (l.drop i)).length=(n-i)*4:=by rw[jr,List.length_drop,hl]
 have j:A.take (i*4)=ay (l.take i):=by
  rw[<-Mj,<-h,List.take_take,qC (by omega)]
 have b: (A.take ((i+1)*4)).length=(i+1)*4:=by rw[jT];omega
 rw[oV,vJ]
 have d: (A.take ((i+1)*4)++ay (l.drop i)++A.drop ((i+1)*4+(ay (l.drop i)).length)).take (i*4)=ay (l.take i):=by
  rw[List.append_assoc,rT (by rw[b];omega),List.take_take,qC (by omega),j]
 have e: (A.take ((i+1)*4)++ay (l.drop i)++A.drop ((i+1)*4+(ay (l.drop i)).length)).drop (i*4+x.vs.length)=ay (l.drop i)++A.drop ((i+1)*4+(ay (l.drop i)).length):=by
  rw[List.append_assoc,show i*4+x.vs.length=(A.take ((i+1)*4)).length by rw[b,c];omega];exact List.drop_left
 rw[d,e,show(n+1)*4=(ay (l.take i)++x.vs++ay (l.drop i)).length by rw[jL,jL,f,g,c];omega,<-List.append_assoc,kH]
 simp
attribute [local go_sem] Oper.semAt_some
theorem vK{w:World}{b:Nat}(d:Blk w b 113 x.vs.toArray):∀j u,x.vs[j]? =some u->w.cell? ((⟨b,0,none⟩:Addr).add j)=some u:=λj u c=>by
 rw[Addr.add_lit,Nat.zero_add,d.cell]
 simpa using c
theorem Ml{base:Nat}(l:List FR)(x:FR)(v:Value)(f:Nat)(W:World)(h:W.ownsRow base 113 4 v l.length (ay l))(hb:base<=W.heap.size)(H:Blk W f 113 x.vs.toArray)(O:l.length<=200000):
  Calls prog 98 #[v,.int .i64 (l.length:Int),.slice (some ⟨f,0,none⟩) 1 1] W λe w'=>∃v',e=.returned v'/\w'.ownsRow base 113 4 v' (l.length+1) (ay (l++ [x]))/\Upon (λk=>v.ownBlock=some k) W w':=by
 obtain⟨D,y,A,B,C⟩:=info_parts sJ;have hcs:=vK H;have F:ay (l++ [x])=ay l++x.vs:=by rw[oV,vJ];simp[ay]
 rw[F];obtain⟨n,G⟩:=jl l.length;rw[<-G]at h O⊢;obtain⟨xs,I⟩:=jl (ay l);obtain⟨p,m⟩:=jl x.vs;have z:p.length=1*4:=by rw[m];rfl
 have j:∀u∈p,u.oneCell'=true:=by rw[m];exact sK x
 rw[<-I]at h⊢;rw[<-m]at hcs⊢;have t:=jq h;have r:=jq hcs;have q:=jq j;have fin:∀v' w',w'.ownsRow base 113 4 v' (n+1) (xs++p)->W.grownBy w' v.ownBlock->∃J,Ending.returned v'=Ending.returned J/\w'.ownsRow base 113 4 J (n+1) (xs++p)/\Upon (λk=>v.ownBlock=some k) W w':=λv' w' j L=>⟨v',rfl,j,Upon.of_grown L (λg b=>.inl b)⟩
 have s:=jq fin;clear hcs j I m F H G fin;rcases h.2 with⟨rfl,rfl⟩|⟨g,cap,cur,rfl,_,_,T,M,_⟩
 ·clear h
  go_enter func98,ntmps98
  go_wp2_with (first|(at_builtin;refine wpList_append_own _ rfl _ _ 106 rfl base 113 D (.agg #[.string ⟨#[]⟩,.int .u32 0,.int .i64 0,.slice none 0 0]) 4 56 underlying106 y A B C rfl (by decide) _ _ _ rfl t.out ⟨f,0,none⟩ 1 1 _ rfl z r.out q.out ?c1 ?c2 hb ?_))
  case c1=>unfold maxLen;omega
  case c2=>omega
  intro v' w' c b _;have d:=jq (s.out v' w' c b);clear c b
  go_wp2_with fail
  go_ret
  exact d.out
 ·clear h;have R:cap<=9223372036854775807:=by unfold maxLen at M;omega
  by_cases N:cap=n
  ·subst N
   go_enter func98,ntmps98
   go_wp2_with (first|(at_builtin;refine wpList_append_own _ rfl _ _ 106 rfl base 113 D (.agg #[.string ⟨#[]⟩,.int .u32 0,.int .i64 0,.slice none 0 0]) 4 56 underlying106 y A B C rfl (by decide) _ _ _ rfl t.out ⟨f,0,none⟩ 1 1 _ rfl z r.out q.out ?c1 ?c2 hb ?_))
   case c1=>unfold maxLen;omega
   case c2=>omega
   intro v' w' c b _;have d:=jq (s.out v' w' c b);clear c b
   go_wp2_with fail
   go_ret
   exact d.out
  ·have S:¬((cap:Int)=(n:Int)):=by omega
   go_enter func98,ntmps98
   go_wp2_with (first|(at_builtin;refine wpList_append_own _ rfl _ _ 106 rfl base 113 D (.agg #[.string ⟨#[]⟩,.int .u32 0,.int .i64 0,.slice none 0 0]) 4 56 underlying106 y A B C rfl (by decide) _ _ _ rfl t.out ⟨f,0,none⟩ 1 1 _ rfl z r.out q.out ?c1 ?c2 hb ?_))
   case c1=>unfold maxLen;omega
   case c2=>omega
   intro v' w' c b _;have d:=jq (s.out v' w' c b);clear c b
   go_wp2_with fail
   go_ret
   exact d.out
theorem Mq{base:Nat}(l:List FR)(i:Nat)(x:FR)(g cap d:Nat)(W:World)(h:W.ownsRow base 113 4 (.slice (some ⟨g,0,none⟩) l.length cap) l.length (ay l))(hi:i<l.length)(Z:l.length+1<=cap)(p:Blk W d 113 x.vs.toArray)(V:d≠g)(hn:l.length<=200000):
  Calls prog 98 #[.slice (some ⟨g,0,none⟩) l.length cap,.int .i64 (i:Int),.slice (some ⟨d,0,none⟩) 1 1] W λe w'=>∃v',e=.returned v'/\w'.ownsRow base 113 4 v' (l.length+1) (ay (l.take i++x ::l.drop i))/\Upon (λk=>k=g) W w':=by
 obtain⟨i0,H,x0,L,x1⟩:=info_parts sJ;have I: (prog.info? 113).map (·.size)=some 4:=by rw[H];simp[L]
 have hcs:=vK p;obtain⟨_,h2⟩:=h;rcases h2 with⟨e,_⟩|⟨g',x2,cur,e,R,s,U,S,y,B⟩
 ·cases e
 ·cases e;obtain⟨n,A⟩:=jl l.length;rw[<-A]at hi Z hn U B⊢;have F:cur.toList.length=cap*4:=by rw[Array.length_toList,y]
  have r: (ay (l.drop i)).length=(n-i)*4:=by rw[jr,List.length_drop,A]
  have h0:∀w,(Go.sizeOf 113).run prog w=.ok 4 w:=λw=>by simp[sizeOf,typeInfo,H,L]
  have h3:W.shape? d=some (113,4):=by unfold Blk at p;simp[World.shape?,p];rfl
  have h1:W.shape? g=some (113,cap*4):=by simp[World.shape?,s,y]
  have h9:∀lb C,(callFunc 143 #[.slice (some ⟨d,0,none⟩) 1 1,.slice (some ⟨g,(i+1)*4,none⟩) lb C]).run prog W=.ok (.value (.bool false)) W:=λlb C=>by
   rw[run_callFunc_extern func143 (by kernel_rfl) (by kernel_rfl) (by kernel_rfl) (e:=Extern.SlicesOverlaps.overlaps #[106,106] #[4]) (by kernel_rfl),
    Lib.run_overlaps_apart W 106 4 113 underlying106 4 h0 ⟨d,0,none⟩ ⟨g,(i+1)*4,none⟩ 1 1 lb C V _ _ 4 (cap*4) h3 h1 (by omega) (p.frozen 0) (p.frozen 4)]
   rfl
  obtain⟨b,t⟩:∃b:Array Value,b=(cur.toList.take ((i+1)*4)++ay (l.drop i)++cur.toList.drop ((i+1)*4+(ay (l.drop i)).length)).toArray:=⟨_,rfl⟩
  have D:b.size=cap*4:=by
   rw[t];simp only[List.size_toArray,jL,jT,List.length_drop,F,r]
   omega
  obtain⟨W1,q⟩:=jl (W.drew.setRow g b)
  have h7:∀m f M,(Builtin.copy_ #[106,106] m #[.slice (some ⟨g,(i+1)*4,none⟩) (n-i) f,.slice (some ⟨g,i*4,none⟩) (n+1-i) M]).run prog W.drew=.ok (goInt (Nat.min (n+1-i) (n-i):Nat)) W1:=λm f M=>by
   rw[q,t];refine vI W.drew _ _ m 113 4 g ((i+1)*4) (n-i) f ⟨g,i*4,none⟩ (n+1-i) M cur 113 (ay (l.drop i)) underlying106 I s (by rw[r];simp only[Nat.min_def];split <;> omega) (λj u z=>?_) (by rw[r,y];omega) (Cw _);rw[Addr.add_lit];have y0:j<(n-i)*4:=by rw[<-r];exact(jS.1 z).1
   have N: (ay l)[i*4+j]? =some u:=by
    have e4:ay l=ay (l.take i)++ay (l.drop i):=by rw[<-oV,iq]
    have e5: (ay (l.take i)).length=i*4:=by rw[jr,jT];omega
    rw[e4,iL (by omega),e5,show i*4+j-i*4=j by omega];exact z
   rw[<-B,List.getElem?_take_of_lt (by omega),mo]at N;show W.cell? ⟨g,i*4+j,none⟩=_;rw[cell_of_row W g (i*4+j) cur _ (0,0) s];exact N
  have G:W1.heap[g]? =some (.cells b 113 (0,0)):=by rw[q];exact setRow_heap W.drew g cur b _ _ s
  obtain⟨c,v⟩:∃c:Array Value,c=(b.toList.take (i*4)++x.vs++b.toList.drop (i*4+x.vs.length)).toArray:=⟨_,rfl⟩;have J:x.vs.length=4:=rfl
  have h8:∀m f,(Builtin.copy_ #[106,106] m #[.slice (some ⟨g,i*4,none⟩) (n+1-i) f,.slice (some ⟨d,0,none⟩) 1 1]).run prog W1=.ok (goInt (Nat.min 1 (n+1-i):Nat)) (W1.setRow g c):=λm f=>by
   rw[v];refine vI W1 _ _ m 113 4 g (i*4) (n+1-i) f ⟨d,0,none⟩ 1 1 b 113 x.vs underlying106 I G (by rw[J];simp only[Nat.min_def];split <;> omega) (λj u z=>?_) (by rw[J,D];omega) (sK x);rw[q];have:=hcs j u z;rw[Addr.add_lit]at this⊢;rw[cell_setRow_other _ _ _ _ (show d≠g from V)];exact this
  have Y:c.toList.take ((n+1)*4)=ay (l.take i++x ::l.drop i):=by
   rw[v,t];exact Mk A.symm (by omega) B (by rw[F];omega)
  have O:c.size=cap*4:=by
   rw[v];simp only[List.size_toArray,jL,jT,List.length_drop,Array.length_toList,D,J]
   omega
  have X: (W1.setRow g c).ownsRow base 113 4 (.slice (some ⟨g,0,none⟩) (n+1) cap) (n+1) (ay (l.take i++x ::l.drop i)):=⟨by rw[jr];simp;omega,.inr ⟨g,cap,c,rfl,R,setRow_heap W1 g b c _ _ G,Z,S,O,Y⟩⟩
  have h4:Upon (λk=>k=g) W (W1.setRow g c):=by
   rw[q];refine⟨rfl,rfl,rfl,by simp,λk _ T=>?_⟩;rw[setRow_other _ _ _ _ T,setRow_other _ _ _ _ T]
   rfl
  have h5:=jq X;have h6:=jq h4;have x7:cap<=9223372036854775807:=by unfold maxLen at S;omega
  have y1: ((i:Int)==(n:Int))=false:=by simp;omega
  have y2:¬((i:Int)=(n:Int)):=by omega
  have y4:IntKind.i64.wrap ((i:Int)+1)=(i:Int)+1:=by rw[IntKind.wrap_i64];omega
  have x4:¬(cap=i+1):=by omega
  have x3: (0:Int)<=(i:Int)+1:=by omega
  have x9:i<=n:=by omega
  have y3: ((i:Int)+1).toNat=i+1:=by omega
  have x5: (i:Int)<=(n:Int)+1:=by omega
  have x6:¬(cap=i):=by omega
  have x8:decide ((cap:Int) <(n:Int)+1)=false:=by simp;omega
  clear X h4 Y q v t hcs B y r F D O G s h3 h1 p h0 H x0 L x1 A R U I
  go_enter func98,ntmps98
  go_wp2_with (simp only[h9])
  go_region_law (refine Cu rfl _ _ 106 106 rfl (.slice (some ⟨g,(i+1)*4,none⟩) (n-i) (cap-(i+1))) (.slice (some ⟨g,i*4,none⟩) (n+1-i) (cap-i)) (by simp[Act.eval,Act.put]) (by simp[Act.eval,Act.put]) (h7 _ _ _) ?_)
  go_wp2_with (at_builtin;refine Cv rfl _ _ 106 106 rfl _ _ rfl rfl (h8 _ _) ?_)
  go_ret
  exact⟨_,rfl,h5.out,h6.out⟩
theorem Mr{base:Nat}(l:List FR)(i:Nat)(x:FR)(g cap t:Nat)(W:World)(h:W.ownsRow base 113 4 (.slice (some ⟨g,0,none⟩) l.length cap) l.length (ay l))(hb:base<=W.heap.size)(hi:i<l.length)(y2:cap<l.length+1)(X:Blk W t 113 x.vs.toArray)(hn:l.length<=200000):
  Calls prog 98 #[.slice (some ⟨g,0,none⟩) l.length cap,.int .i64 (i:Int),.slice (some ⟨t,0,none⟩) 1 1] W λe w'=>∃v',e=.returned v'/\w'.ownsRow base 113 4 v' (l.length+1) (ay (l.take i++x ::l.drop i))/\Upon (λk=>k=g) W w':=by
 obtain⟨i0,O,x0,F,Y⟩:=info_parts sJ;have U: (prog.info? 113).map (·.size)=some 4:=by rw[O];simp[F]
 have hcs:=vK X;have I:=World.ownsRow.cells (w:=W) h (g:=g) rfl;obtain⟨_,h2⟩:=h;rcases h2 with⟨e,_⟩|⟨g',y5,cur,e,x5,hg,h5,x6,y0,h8⟩
 ·cases e
 ·cases e;obtain⟨n,D⟩:=jl l.length;rw[<-D]at hi y2 hn h5 h8⊢;have C: (ay (l.drop i)).length=(n-i)*4:=by rw[jr,List.length_drop,D]
  have s: (ay (l.take i)).length=i*4:=by rw[jr,jT];omega
  have J:ay l=ay (l.take i)++ay (l.drop i):=by rw[<-oV,iq]
  have hold: (Builtin.firstCells i0.size i (.slice (some ⟨g,0,none⟩) i cap)).run prog W.drew=.ok (ay (l.take i)).toArray W.drew:=by
   rw[F];refine run_firstCells_some W.drew 4 i ⟨g,0,none⟩ i cap (ay (l.take i)) s (λj u m=>?_);have R: (ay l)[j]? =some u:=by rw[J,iK (by have:=(jS.1 m).1;omega)];exact m
   exact I j u R
  have T:∀b,(Builtin.append_ #[106,3] b #[.slice (some ⟨g,0,none⟩) i cap,.int .i64 ((n:Int)+1-(i:Int))]).run prog W=.ok (.slice (some ⟨W.heap.size,0,none⟩) (n+1) (grownCap W (n+1) cap 113)) (W.drew.alloc (.cells ((ay (l.take i)).toArray++Builtin.zeroCells (Value.agg #[.string ⟨#[]⟩,.int .u32 0,.int .i64 0,.slice none 0 0]).cells (n+1-i)++Builtin.zeroCells (Value.agg #[.string ⟨#[]⟩,.int .u32 0,.int .i64 0,.slice none 0 0]).cells (grownCap W (n+1) cap 113-(n+1))) 113)):=λb=>by
   have h:=Lib.run_append_grow_zeros (P:=prog) W 106 3 b 113 i0 _ .i64 .i64 underlying106 underlying3 O x0 (some ⟨g,0,none⟩) i cap _ hold (n+1-i) (by omega) (by rw[F];decide) (by omega) (by omega) (by rw[Y];omega) (growslice_fits (by omega) (by rw[Y];omega));rw[show i+(n+1-i)=n+1 by omega]at h;rw[show(n:Int)+1-(i:Int)=((n+1-i:Nat):Int)by omega];exact h
  obtain⟨G,z⟩:=jl (grownCap W (n+1) cap 113);have x3:n+1<=G:=by rw[z];exact grownCap_ge W _ _ _
  have h1:G<=maxLen:=by rw[z];exact grownCap_le_maxLen W (n+1) cap _ (by unfold maxLen;omega)
  obtain⟨N,p⟩:=jl W.heap.size;obtain⟨ROW,A⟩:∃ROW:Array Value,ROW=(ay (l.take i)).toArray++Builtin.zeroCells (Value.agg #[.string ⟨#[]⟩,.int .u32 0,.int .i64 0,.slice none 0 0]).cells (n+1-i)++Builtin.zeroCells (Value.agg #[.string ⟨#[]⟩,.int .u32 0,.int .i64 0,.slice none 0 0]).cells (G-(n+1)):=⟨_,rfl⟩
  have B:ROW.size=G*4:=by
   have y4: (Value.agg #[Value.string ⟨#[]⟩,.int .u32 0,.int .i64 0,.slice none 0 0]).cells.size=4:=rfl;rw[A];simp only[Array.size_append,List.size_toArray,size_zeroCells,y4,s]
   omega
  have h3:ROW.toList.take (i*4)=ay (l.take i):=by
   rw[A,Array.toList_append,Array.toList_append,List.append_assoc,<-s];exact kH
  rw[<-z,<-A,<-p]at T;obtain⟨W1,q⟩:=jl (W.drew.alloc (.cells ROW 113));rw[<-q]at T;have L:W1.heap[N]? =some (.cells ROW 113 (0,0)):=by rw[q,p];exact heap_alloc_new W.drew _
  have y3:t<W.heap.size:=X.lt;have y1:g<W.heap.size:=(dG.1 hg).1;have V:x.vs.length=4:=rfl;obtain⟨c,v⟩:∃c:Array Value,c=(ROW.toList.take (i*4)++x.vs++ROW.toList.drop (i*4+x.vs.length)).toArray:=⟨_,rfl⟩
  have H:c.size=G*4:=by
   rw[v];simp only[List.size_toArray,jL,jT,List.length_drop,Array.length_toList,B,V]
   omega
  obtain⟨W2,r⟩:=jl (W1.setRow N c);have S:∀(k j:Nat),k<W.heap.size->W1.cell? ⟨k,j,none⟩=W.cell? ⟨k,j,none⟩:=λk j hk=>by rw[q,World.cell?_alloc_past (w:=W.drew) _ k j hk];rfl
  have x8:∀b f,(Builtin.copy_ #[106,106] b #[.slice (some ⟨N,i*4,none⟩) (n+1-i) f,.slice (some ⟨t,0,none⟩) 1 1]).run prog W1=.ok (goInt (Nat.min 1 (n+1-i):Nat)) W2:=λb f=>by
   rw[r,v];refine vI W1 _ _ b 113 4 N (i*4) (n+1-i) f ⟨t,0,none⟩ 1 1 ROW 113 x.vs underlying106 U L (by rw[V];simp only[Nat.min_def];split <;> omega) (λj u m=>?_) (by rw[V,B];omega) (sK x);have:=hcs j u m;rw[Addr.add_lit]at this⊢;rw[S _ _ y3];exact this
  have M:W2.heap[N]? =some (.cells c 113 (0,0)):=by rw[r];exact setRow_heap W1 N ROW c _ _ L
  obtain⟨d,y⟩:∃d:Array Value,d=(c.toList.take ((i+1)*4)++ay (l.drop i)++c.toList.drop ((i+1)*4+(ay (l.drop i)).length)).toArray:=⟨_,rfl⟩
  have x9:∀b f Z,(Builtin.copy_ #[106,106] b #[.slice (some ⟨N,(i+1)*4,none⟩) (n-i) f,.slice (some ⟨g,i*4,none⟩) (n-i) Z]).run prog W2.drew=.ok (goInt (Nat.min (n-i) (n-i):Nat)) (W2.drew.setRow N d):=λb f Z=>by
   rw[y];refine vI W2.drew _ _ b 113 4 N ((i+1)*4) (n-i) f ⟨g,i*4,none⟩ (n-i) Z c 113 (ay (l.drop i)) underlying106 U M (by rw[C];simp only[Nat.min_def];split <;> omega) (λj u m=>?_) (by rw[C,H];omega) (Cw _);rw[Addr.add_lit];show W2.cell? ⟨g,i*4+j,none⟩=_;rw[r,cell_setRow_other _ _ _ _ (show g≠N by omega),S _ _ y1];have R: (ay l)[i*4+j]? =some u:=by rw[J,iL (by omega),s,show i*4+j-i*4=j by omega];exact m
   have:=I _ _ R;rw[Addr.add_lit,Nat.zero_add]at this;exact this
  have h7:d.toList.take ((n+1)*4)=ay (l.take i++x ::l.drop i):=by
   rw[y,v];exact spliced D.symm (by omega) h3 (by rw[Array.length_toList,B];omega)
  have h0:d.size=G*4:=by
   rw[y];simp only[List.size_toArray,jL,jT,List.length_drop,Array.length_toList,H,C]
   omega
  have h6: (W2.drew.setRow N d).ownsRow base 113 4 (.slice (some ⟨N,0,none⟩) (n+1) G) (n+1) (ay (l.take i++x ::l.drop i)):=⟨by rw[jr];simp;omega,.inr ⟨N,G,d,rfl,by omega,setRow_heap W2.drew N c d _ _ M,x3,h1,h0,h7⟩⟩
  have h9:Upon (λk=>k=g) W (W2.drew.setRow N d):=by
   refine Upon.of_below ?_;have h4:Below W.heap.size W W1:=by rw[q];exact(Below.refl _ W).drew.alloc jn _
   have x4:Below W.heap.size W W2:=by rw[r,p];exact below_setRow h4 jn _
   rw[p];exact below_setRow x4.drew jn _
  have x1:=jq h6;have x2:=jq h9;have z2:cap<=9223372036854775807:=by unfold maxLen at x6;omega
  have y6:G<=9223372036854775807:=by unfold maxLen at h1;omega
  have x7:cap=n:=by omega
  subst x7;have z5: ((i:Int)==(cap:Int))=false:=by simp;omega
  have z6:¬((i:Int)=(cap:Int)):=by omega
  have z8:IntKind.i64.wrap ((i:Int)+1)=(i:Int)+1:=by rw[IntKind.wrap_i64];omega
  have z0:¬(cap=i):=by omega
  have y7:¬(G=i):=by omega
  have y8:¬(G=i+1):=by omega
  have h4: (0:Int)<=(i:Int)+1:=by omega
  have z4:i<=cap:=by omega
  have z7: ((i:Int)+1).toNat=i+1:=by omega
  have y9: (i:Int)<=(cap:Int)+1:=by omega
  have z1: (i:Int)<=(cap:Int):=by omega
  have z3:decide ((cap:Int) <(cap:Int)+1)=true:=jd (by omega);clear p h6 h9 h7 q r y v A z B h3 I hold S J s hcs h8 y0 C H h0 L M hg X O x0 F Y D x5 h5 U
  go_enter func98,ntmps98
  go_wp2_with (first|(at_builtin;refine Lib.wpList_append_run _ rfl _ _ _ _ rfl _ _ rfl rfl _ _ (T _) ?_)|(at_builtin;refine Cv rfl _ _ 106 106 rfl _ _ rfl rfl (x8 _ _) ?_))
  go_region_law (refine Cu rfl _ _ 106 106 rfl (.slice (some ⟨N,(i+1)*4,none⟩) (cap-i) (G-(i+1))) (.slice (some ⟨g,i*4,none⟩) (cap-i) (cap-i)) (by simp[Act.eval,Act.put]) (by simp[Act.eval,Act.put]) (x9 _ _ _) ?_)
  go_wp2_with fail
  go_ret
  exact⟨_,rfl,x1.out,x2.out⟩
theorem Ms{base:Nat}(l:List FR)(i:Nat)(x:FR)(v:Value)(b:Nat)(W:World)(h:W.ownsRow base 113 4 v l.length (ay l))(hb:base<=W.heap.size)(A:i<=l.length)(d:Blk W b 113 x.vs.toArray)(s:v.ownBlock≠some b)(c:l.length<=200000):
  Calls prog 98 #[v,.int .i64 (i:Int),.slice (some ⟨b,0,none⟩) 1 1] W λe w'=>∃v',e=.returned v'/\w'.ownsRow base 113 4 v' (l.length+1) (ay (l.take i++x ::l.drop i))/\Upon (λk=>v.ownBlock=some k) W w':=by
 by_cases q:i=l.length
 ·subst q;rw[lC,List.drop_length];exact Ml l x v b W h hb d c
 ·have y:∃g cap,v=.slice (some ⟨g,0,none⟩) l.length cap:=by
   rcases h.2 with⟨_,z⟩|⟨g,cap,cur,rfl,_⟩
   ·omega
   ·exact⟨g,cap,rfl⟩
  obtain⟨g,cap,rfl⟩:=y;have t:b≠g:=λe=>s (by rw[e];rfl)
  have f:∀e w',(∃v',e=Ending.returned v'/\World.ownsRow w' base 113 4 v' (l.length+1) (ay (l.take i++x ::l.drop i))/\Upon (λk=>k=g) W w')->∃v',e=Ending.returned v'/\World.ownsRow w' base 113 4 v' (l.length+1) (ay (l.take i++x ::l.drop i))/\Upon (λk=>(Value.slice (some ⟨g,0,none⟩) l.length cap).ownBlock=some k) W w':=λe w' ⟨v',j,m,p⟩=>⟨v',j,m,p.mono (λk r=>by rw[r];rfl)⟩
  by_cases u:l.length+1<=cap
  ·exact(Mq l i x g cap b W h (by omega) u d t c).mono f
  ·exact(Mr l i x g cap b W h hb (by omega) (by omega) d c).mono f
end aA
end Go.Proofs.YtndkohocgfmamaaGreatDoor
