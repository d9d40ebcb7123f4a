/- Part. -/
import Derived.Test.YtndkohocgfmamaaGreatDoorF0
import Derived.RangeFuncBound
import Derived.RangeFuncNested
import Derived.OwnWalkIn
import Derived.Deep.AppendLies
import Derived.Deep.RegionHeld3
namespace Go.Proofs.YtndkohocgfmamaaGreatDoor
namespace oW
open Go.RowKit
theorem yS{F:Fence}{n:Nat}{P:Program}(w:World){ops:Array Oper}{rest:List Oper}{o:Oper}{a:Act}{Q:Exit->Act->World->Prop}(J:o.guard=none)(s x:Operand)(t:TypeId)(d:o.op=Op.call {callee:=Callee.builtin Builtin.append,args:=#[s,x],argTypes:=#[t,t]})(base:Nat)(e:TypeId)(i:TypeInfo)(z:Value)(size bytes:Nat)(V:P.underlying t=some (.slice e))(L:P.info? e=some i)(Y:i.zero=some z)(T:i.size=size)(G:i.bytes=bytes)(Z:z.cells.size=size)(U:0<size)(v:Value)(k:Nat)(xs:List Value)(S:a.eval s=v)(O:w.ownsRow base e size v k xs)(b:Addr)(m c:Nat)(news:List Value)(X:a.eval x=.slice (some b) m c)(hl:news.length=m*size)(N:∀j u,news[j]? =some u->w.cell? (b.add j)=some u)(f:∀u∈news,u.oneCell'=true)(M:0<m)(B:k+m<=maxLen)(H: (k+m)*bytes<=140737488355328)(E:base<=w.heap.size)(h:∀g cap w',w'.ownsRow base e size (.slice (some ⟨g,0,none⟩) (k+m) cap) (k+m) (xs++news)->w.grownBy w' v.ownBlock->(v.ownBlock=some g\/g=w.heap.size)->g<w'.heap.size->wpListIn F n P ops Q rest (a.put o.dst (.slice (some ⟨g,0,none⟩) (k+m) cap)) w'):
  wpListIn F n P ops Q (o ::rest) a w:=by
 refine wpListIn_plain J λK C=>?_
 obtain⟨g,cap,w',R,p,q,y,A⟩:=run_append_lies (P:=P) w t o.type base e i z size bytes V L Y T G Z U v k xs O b m c news hl N f M B H E w.heap.size rfl;unfold Oper.wpIn;refine⟨?_,?_⟩
 ·simp[Oper.about,d,resolve,Target.leads,Sem.run_pure]
 ·rw[Oper.semAt_plain F _ _ (by rw[d];intro c I;cases I)]
  simp[execOp,d,resolve,invoke,builtin,S,X,R,Result.andThen]
  exact C _ _ (h g cap w' p q y A)
def vL{α:Type}(F:Fence)(n:Nat)(P:Program)(g:Nat)(lb:Array Value)(encs:α->Array Value)(Mine Kp:World->World->Prop)(V:List α->α->World->Prop)(S Sp:List α->Prop)(N:Nat)(w:World):Prop:=
 ∀(l:Nat) (J Jx:List α->World->Prop) (W:World),Below w.heap.size w W->(∀s X Y,J s X->Mine X Y->J s Y)->(∀s X Y,Jx s X->Mine X Y->Jx s Y)->
  (∀pre x W1,J pre W1->pre.length<N->V pre x W1->YieldAt F (n-1) P l (encs x) W1 λe W'=>(e=.returned (.bool true)/\J (pre++ [x]) W'/\Kp W1 W')\/(e=.returned (.bool false)/\Jx (pre++ [x]) W'))->
  J [] W->CallsIn F n P g (#[.func (.yield l) #[] #[]]++lb) W λe W'=>(∃v,e=.returned v)/\((∃xs,S xs/\J xs W')\/(∃pre,Sp pre/\Jx pre W'))
def Book(D l:Nat)(r:Loop)(W:World):Prop:=W.heap[l]? =some (.loop r)/\W.heap[D]? =some (.deferred (some []))
variable {D l:Nat}{r:Loop}{W:World}
theorem Book.turn(h:Book D l r W)(c:D≠l)(b:Loop):Book D l b (W.putObj l (.loop b)):=
 ⟨World.putObj_heap_same (dG.1 h.1).1,(World.putObj_heap_other c).trans h.2⟩
theorem Book.kept{B:Nat}{W':World}(h:Book D l r W)(b:KeepsFrom B W W')(c:B<=D)(d:B<=l):Book D l r W':=⟨b.same l _ d h.1 rfl,b.same D _ c h.2 rfl⟩
section
variable {F:Fence}{n:Nat}{P:Program}
theorem sM{α:Type}{g:Operand}{ps:Array Tmp}{assign body:Code}{Q:Exit->Act->World->Prop}{a:Act}{w:World}(y5:F.round=none)(h1:1<=n){gf:Nat}{lb:Array Value}(hg:a.eval g=.func (.func gf) #[] lb)(h9:F.fn gf)(eg:∀args w,(callFunc gf args).run P w=.ok (.enter gf args) w){encs:α->Array Value}{G q:World->World->Prop}{V:List α->α->World->Prop}{S Sp:List α->Prop}{N:Nat}{w0:World}(y6:vL F (n-1) P gf lb encs G q V S Sp N w0)(R:∀X Y,G X Y->KeepsFrom w.heap.size X Y)(h2:∀{X Y Z:World},q X Y->q Y Z->q X Z)(O:∀(W:World) (l:Nat) (o o':Obj),w.heap.size<=l->W.heap[l]? =some o->o.isCells=false->o.isWalk=false->q W (W.putObj l o'))(h3:∀(pre:List α) (x:α) (W:World) (l:Nat) (o o':Obj),V pre x W->w.heap.size<=l->W.heap[l]? =some o->o.isCells=false->V pre x (W.putObj l o'))(h4:Below w0.heap.size w0 w)(y4:∀x,(encs x).size=ps.size)(I:List α->World->Prop)(u:Code->List α->World->Prop)(y:OwnFrom w.heap.size I)(z:∀c,OwnFrom w.heap.size (u c))(x1:∀s X Y,I s X->G X Y->I s Y)(x2:∀c s X Y,u c s X->G X Y->u c s Y)(h0:I [] w)(a₁:α->Act)(x5:∀(l:Nat) (x:α) (W:World) (K:Act->World->Prop),K (a₁ x) W->
   assign.wpIn (F.inRound l) (n-1-1) P (Exit.then K (λ_ _ _=>False)) {tmps:=(ps.zip (encs x)).foldl (λt (p,v)=>t.setIfInBounds p v) a.tmps,defers:=[]} W)(h5:∀(l:Nat) (pre:List α) (x:α) (W:World),I pre W->pre.length<N->V pre x W->body.wpIn (F.inRound l) (n-1-1) P (ownPostG w.heap.size q I u (pre++ [x]) W) (a₁ x) W)(h6:∀(D:Nat) (xs:List α) (W:World),w.heap.size<=D->S xs->I xs W->W.heap[D]? =some (.deferred (some []))->Q .normal {a with defers:={target:=.collected D,args:=#[]}::a.defers} W)(h8:∀(D:Nat) (c:Code) (pre:List α) (W:World),w.heap.size<=D->Sp pre->u c pre W->W.heap[D]? =some (.deferred (some []))->c.wpIn F n P Q {a with defers:={target:=.collected D,args:=#[]}::a.defers} W):
  (Code.rangeFunc g ps assign body).wpIn F n P Q a w:=by
 refine wpIn_rangeFunc (λfn x8=>?_);rw[y5];obtain⟨B,M⟩:=jl w.heap.size;obtain⟨rec,k⟩:∃rec:LoopState->Option Code->Loop,rec=λst pe=>{state:=st,pending:=pe,fn,tmps:=a.tmps,params:=ps,assign,body,defers:=B}:=⟨_,rfl⟩
 obtain⟨W1,H⟩:=jl ((w.alloc (.deferred (some []))).alloc (.loop (rec .ready none)));have L:B≠B+1:=by omega
 have x7:Book B (B+1) (rec .ready none) W1:=by
  rw[H,M];refine⟨?_,?_⟩
  ·have:=World.alloc_heap_new (w.alloc (.deferred (some []))) (.loop (rec .ready none))
   rwa [World.size_alloc]at this
  ·exact(Below.heap_alloc _ _ _ (by simp)).trans (World.alloc_heap_new w _)
 have x0:I [] W1:=by rw[H];exact y.alloc _ (y.alloc _ h0)
 have x6:Below w0.heap.size w0 W1:=by
  rw[H];exact h4.trans ((((Below.refl _ w).alloc jn _).alloc (by simp) _).mono h4.size)
 have T:=run_enterLoop_outer (P:=P) (w:=w) fn a.tmps ps assign body;rw[<-M]at T;have x4: (w.alloc (.deferred (some []))).alloc (.loop {state:=.ready,pending:=none,fn,tmps:=a.tmps,params:=ps,assign,body,defers:=B})=W1:=by rw[H,k]
 rw[x4]at T;rw[<-M]at R O h3 y z h5 h6 h8;refine⟨B+1,[{target:=.collected B,args:=#[]}],W1,{target:=.fn (.func gf) lb,args:=#[.func (.yield (B+1)) #[] #[]]},W1,gf,#[.func (.yield (B+1)) #[] #[]]++lb,W1,T,?_,?_,?_,λ_=>h1,?_⟩
 ·simp only[resolve,hg]
  simp[go_sem]
 ·intro f' h7
  simp[Target.leads]at h7
  subst h7;exact h9
 ·simp[invoke,go_sem,eg]
 refine(y6 (B+1) (λpre W=>I pre W/\Book B (B+1) (rec .ready none) W) (λpre W=>∃c,u c pre W/\Book B (B+1) (rec .done (some c)) W) W1 x6
  (λs X Y h E=>⟨x1 s X Y h.1 E,h.2.kept (R X Y E) jn (by omega)⟩)
  (λs X Y h E=>by obtain⟨c,hc,d⟩:=h;exact⟨c,x2 c s X Y hc E,d.kept (R X Y E) jn (by omega)⟩)
  ?_ ⟨x0,x7⟩).mono ?_
 ·
  rintro pre x W ⟨A,d⟩ y2 hv;have C:=d.1;have hy:=run_yield (P:=P) (args:=encs x) C (by rw[k];exact y4 x);rw[k]at hy;refine⟨fn,_,assign,body,hy,roundIn_of_wpIn x8 (x5 _ x W _ ⟨_,run_beginRound C (by rw[k]),?_⟩)⟩;have y0:=d.turn L {rec .ready none with state:=.busy};have y3:q W (W.putObj (B+1) (.loop {rec .ready none with state:=.busy})):=O _ _ _ _ (by omega) C rfl rfl;refine wpIn_mono (h5 _ pre x _ (y.putObj _ A (by omega) C rfl) y2 (h3 pre x W _ _ _ hv (by omega) C rfl)) ?_
  have J:∀(jump:Option Code) (i:World),KeepsFrom B (W.putObj (B+1) (.loop {rec .ready none with state:=.busy})) i->
    ∃W4,W4=i.putObj (B+1) (.loop (rec (if jump.isNone then .ready else .done) jump))/\(Instr.endRound (B+1) jump).run P i=.ok (.bool jump.isNone) W4/\
     i.heap[B+1]? =some (.loop {rec .ready none with state:=.busy})/\Book B (B+1) (rec (if jump.isNone then .ready else .done) jump) W4:=λjump i U=>by
   have f:=y0.kept U jn (by omega);have b:=run_endRound (P:=P) jump f.1;rw[k]at b f⊢;exact⟨_,rfl,b,f.1,f.turn L _⟩
  intro e a3 i j
  cases e with
  |normal=>
   obtain⟨U,y1,x9⟩:=j;obtain⟨W4,rfl,b,m,f⟩:=J none i U;exact⟨_,_,b,.inl ⟨rfl,⟨y.putObj _ x9 (by omega) m rfl,f⟩,h2 (h2 y3 y1) (O _ _ _ _ (by omega) m rfl rfl)⟩⟩
  |ret=>
   obtain⟨W4,rfl,b,m,f⟩:=J (some .ret) i j.1;exact⟨_,_,b,.inr ⟨rfl,.ret,(z _).putObj _ j.2 (by omega) m rfl,f⟩⟩
  |exit id=>
   obtain⟨W4,rfl,b,m,f⟩:=J (some (.exit id)) i j.1;exact⟨_,_,b,.inr ⟨rfl,.exit id,(z _).putObj _ j.2 (by omega) m rfl,f⟩⟩
  |goto t=>
   obtain⟨W4,rfl,b,m,f⟩:=J (some (.goto t)) i j.1;exact⟨_,_,b,.inr ⟨rfl,.goto t,(z _).putObj _ j.2 (by omega) m rfl,f⟩⟩
  |panic ch=>exact j.elim
  |outgrown=>exact j.elim
 ·
  rintro e W2 ⟨⟨v,rfl⟩,hd⟩;rcases hd with⟨xs,hS,A,d⟩|⟨pre,x3,c,A,d⟩
  ·have b:=run_endLoop (P:=P) d.1 (by rw[k];simp);rw[k]at b;exact⟨none,_,b,h6 B xs _ jn hS (y.putObj _ A (by omega) d.1 rfl) ((World.putObj_heap_other L).trans d.2)⟩
  ·have b:=run_endLoop (P:=P) d.1 (by rw[k];simp);rw[k]at b;exact⟨some c,_,b,h8 B c pre _ jn x3 ((z c).putObj _ A (by omega) d.1 rfl) ((World.putObj_heap_other L).trans d.2)⟩
end
end oW
namespace Round
open Go
def sN(l:List Oper):Bool:=l.all (λo=>match o.op with
 |.defer _=>false
 |_=>true)
theorem Mt{l:List Oper}(h:sN l=true):∀(i:Nat) (o:Oper),l.toArray[i]? =some o->∀c,o.op≠.defer c:=λi o d c e=>by
 have b:=List.all_eq_true.1 h o (jM (by simpa using d));rw[e]at b;cases b
section
variable {P:Program}{Q:Exit->Act->World->Prop}{l n:Nat}
variable {w:World}{o:Oper}{a:Act}{id:Nat}{ops:List Oper}
theorem Mv{row:String}{args:Array Value}{R:Value->World->Prop}(h:Rows P row args w R):RowsIn (Fence.wide.inRound l) n P row args w R:=λc b _=>
 let ⟨v,w',r,s⟩:=h c b
 ⟨v,w',r,stepsIn_wide.2 s⟩
theorem Mw{next:Act->World->Prop}:∀{r:Result Next},o.upon P a next Q r->o.uponIn (Fence.wide.inRound l) n P a next Q r
 |.ok (.value _) _,h=>h
 |.ok .skip _,h=>h
 |.ok (.defer _) _,h=>h
 |.ok (.enter _ _) _,h=>⟨λe=>by simp[Fence.wide]at e,callsIn_wide.2 h⟩
 |.ok (.row _ _) _,h=>⟨λe=>by simp[Fence.wide]at e,Mv h⟩
 |.halt (.panic _) _,h=>h
theorem Mx{next:Act->World->Prop}(b:∀c,o.op≠.defer c)(h:o.wp P a w next Q):o.wpIn (Fence.wide.inRound l) n P a w next Q:=
 ⟨λ_ _=>trivial,by rw[Oper.semAt_plain (Fence.wide.inRound l) _ _ b];exact Mw h⟩
theorem vM{md:Region.Mode}{ops:Array Oper}(d:∀(i:Nat) (o:Oper),ops[i]? =some o->∀c,o.op≠.defer c)(hq:¬LetsOut Q):∀(fuel:Nat) (listed:Array Bool) (a:Act) (w:World),wpAny P md ops Q fuel listed a w->wpAnyIn (Fence.wide.inRound l) n P md ops Q fuel listed a w
 |0,_,_,_,h=>h
 |fuel+1,listed,a,w,h=>⟨h.1,λi f=>by
  have b:=h.2 i f;unfold wpOp at b;unfold wpOpIn
  cases ho:ops[i]? with
  |none=>
   rw[ho]at b;exact vM d hq fuel _ _ _ b
  |some o=>
   rw[ho]at b;dsimp only at b⊢
   by_cases e:Region.wanted o (yielded ops a.tmps)=true
   ·rw[if_pos e]at b⊢;rcases b with b|b
    ·exact Oper.wpIn_mono (λa w h=>vM d hq fuel _ a w h) (Mx (d i o ho) b)
    ·exact absurd b.2 hq
   ·rw[if_neg e]at b⊢;exact⟨λ_ _=>trivial,vM d hq fuel _ _ _ b⟩⟩
theorem yT(b:P.follows .mixedOrders=true)(hd:sN ops=true)(hq:¬LetsOut Q)(h:wpAny P .any ops.toArray Q ops.toArray.size (Array.replicate ops.toArray.size false) a w.drew): (Code.region id ops.toArray true).wpIn (Fence.wide.inRound l) n P Q a w:=
 wpIn_region_any b (vM (Mt hd) hq _ _ _ _ h)
def Calm(Q:Exit->Act->World->Prop):Exit->Act->World->Prop
 |.normal,a,w=>Q .normal a w
 |_,_,_=>False
theorem MB{S:World->Prop}(c:P.follows .mixedOrders=true)(hd:sN ops=true)(b:S w.drew)(h:S w.drew->wpAnyH P .any ops.toArray (Calm Q) S ops.toArray.size (Array.replicate ops.toArray.size false) a w.drew): (Code.region id ops.toArray true).wpIn (Fence.wide.inRound l) n P Q a w:=
 wpIn_mono (yT (Q:=Calm Q) c hd (by rintro⟨a,w,h⟩;exact h) (wpAny_of_held _ _ _ _ (h b))) (λe a w h=>by
  cases e <;> first|exact h|exact h.elim)
end
end Round
end Go.Proofs.YtndkohocgfmamaaGreatDoor
