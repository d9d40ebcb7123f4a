/- Part. -/
import Derived.Test.YtfgjnpbffppocaaGreatDoorF0
import Derived.Test.YtfgjnpbffppocaaGreatDoorRows
import Derived.RangeFuncBound
import Derived.RangeFuncWrites
import Derived.RangeFuncNested
import Derived.OwnWalkIn
namespace Go.Proofs.YtfgjnpbffppocaaGreatDoor
namespace Told
open Go.RowKit
def SeqTold {α:Type} (F:Fence) (n:Nat) (P:Program) (g:Nat) (lb:Array Value) (encs:α->Array Value) (T:List α->World->Prop) (V:List α->α->Prop) (full:List α) (w:World):Prop:=
 ∀(l:Nat) (J:List α->World->Prop) (W:World),Below w.heap.size w W->(∀pre W1,J pre W1->T pre W1)->
  (∀pre x W1,J pre W1->V pre x->YieldAt F (n-1) P l (encs x) W1 λe W'=>e=.returned (.bool true)/\J (pre++ [x]) W')->
  J [] W->CallsIn F n P g (#[.func (.yield l) #[] #[]]++lb) W λe W'=>(∃v,e=.returned v)/\J full W'
section
variable {F:Fence} {n:Nat} {P:Program}
theorem wpIn_range_told {α:Type} {g:Operand} {ps:Array Tmp} {assign body:Code} {Q:Exit->Act->World->Prop} {a:Act} {w:World}
  (hro:F.round=none) (h1:1<=n) {gf:Nat} {lb:Array Value} (hg:a.eval g=.func (.func gf) #[] lb) (hFg:F.fn gf) (eg:∀args w,(callFunc gf args).run P w=.ok (.enter gf args) w)
  {encs:α->Array Value} {T:List α->World->Prop} {V:List α->α->Prop} {full:List α} {w0:World} (hseq:SeqTold F (n-1) P gf lb encs T V full w0)
  (hb0:Below w0.heap.size w0 w) (hps:∀x,(encs x).size=ps.size)
  (I:List α->World->Prop) (hI:∀s W o,I s W->I s (W.putObj (w.heap.size+1) o)) (hIT:∀s X,I s X->T s X) (h0:∀o o',I [] ((w.alloc o).alloc o')) (a₁:α->Act)
  (hassign:∀(l:Nat) (x:α) (W:World) (K:Act->World->Prop),K (a₁ x) W->
   assign.wpIn (F.inRound l) (n-1-1) P (Exit.then K (λ_ _ _=>False)) {tmps:=(ps.zip (encs x)).foldl (λt (p,v)=>t.setIfInBounds p v) a.tmps,defers:=[]} W)
  (hbody:∀(l:Nat) (pre:List α) (x:α) (W:World),I pre W->V pre x->w.heap.size+1<W.heap.size->body.wpIn (F.inRound l) (n-1-1) P (λe _ W'=>e=.normal/\W'.heap[w.heap.size]? =W.heap[w.heap.size]?/\W'.heap[w.heap.size+1]? =W.heap[w.heap.size+1]?/\I (pre++ [x]) W') (a₁ x) W)
  (hdone:∀(D:Nat) (W:World),D=w.heap.size->I full W->W.heap[D]? =some (.deferred (some []))->Q .normal {a with defers:={target:=.collected D,args:=#[]}::a.defers} W):
  (Code.rangeFunc g ps assign body).wpIn F n P Q a w:=by
 refine wpIn_rangeFunc (λfn hfn=>?_);rw[hro];obtain⟨B,hB⟩:=jl w.heap.size;obtain⟨rec,hrec⟩:∃rec:LoopState->Option Code->Loop,rec=λst pe=>{state:=st,pending:=pe,fn,tmps:=a.tmps,params:=ps,assign,body,defers:=B}:=⟨_,rfl⟩
 obtain⟨W1,hW1⟩:=jl ((w.alloc (.deferred (some []))).alloc (.loop (rec .ready none)));have hne:B≠B+1:=by omega
 have h11:W1.heap[B+1]? =some (.loop (rec .ready none)):=by
  rw[hW1,hB];have:=World.alloc_heap_new (w.alloc (.deferred (some []))) (.loop (rec .ready none))
  rwa [World.size_alloc]at this
 have h12:W1.heap[B]? =some (.deferred (some [])):=by
  rw[hW1,hB];exact(Below.heap_alloc _ _ _ (by simp)).trans (World.alloc_heap_new w _)
 have hI1:I [] W1:=by rw[hW1];exact h0 _ _
 have hb1:Below w0.heap.size w0 W1:=by
  rw[hW1];exact hb0.trans ((((Below.refl _ w).alloc jn _).alloc (by simp) _).mono hb0.size)
 have hent:=run_enterLoop_outer (P:=P) (w:=w) fn a.tmps ps assign body;rw[<-hB]at hent;have hW1': (w.alloc (.deferred (some []))).alloc (.loop {state:=.ready,pending:=none,fn,tmps:=a.tmps,params:=ps,assign,body,defers:=B})=W1:=by rw[hW1,hrec]
 rw[hW1']at hent;rw[<-hB]at hI hbody;refine⟨B+1,[{target:=.collected B,args:=#[]}],W1,{target:=.fn (.func gf) lb,args:=#[.func (.yield (B+1)) #[] #[]]},W1,gf,#[.func (.yield (B+1)) #[] #[]]++lb,W1,hent,?_,?_,?_,λ_=>h1,?_⟩
 ·simp only[resolve,hg]
  simp[go_sem]
 ·intro f' hf'
  simp[Target.leads]at hf'
  subst hf';exact hFg
 ·simp[invoke,go_sem,eg]
 refine(hseq (B+1) (λpre W=>I pre W/\W.heap[B+1]? =some (.loop (rec .ready none))/\W.heap[B]? =some (.deferred (some []))) W1 hb1 (λs X h=>hIT s X h.1) ?_ ⟨hI1,h11,h12⟩).mono ?_
 ·
  rintro pre x W ⟨hi,hlW,hdW⟩ hv;have hlt:=(Array.getElem?_eq_some_iff.1 hlW).1;have hy:=run_yield (P:=P) (args:=encs x) hlW (by rw[hrec];exact hps x);rw[hrec]at hy;refine⟨fn,_,assign,body,hy,roundIn_of_wpIn hfn (hassign _ x W _ ⟨_,run_beginRound hlW (by rw[hrec]),?_⟩)⟩;have hl2: (W.putObj (B+1) (.loop {rec .ready none with state:=.busy})).heap[B+1]? =some (.loop {rec .ready none with state:=.busy}):=World.putObj_heap_same hlt;have hd2: (W.putObj (B+1) (.loop {rec .ready none with state:=.busy})).heap[B]? =some (.deferred (some [])):=(World.putObj_heap_other hne).trans hdW;refine wpIn_mono (hbody _ pre x _ (hI _ _ _ hi) hv (by rw[show(W.putObj (B+1) (.loop {rec .ready none with state:=.busy})).heap.size=W.heap.size by simp[World.putObj]];exact hlt)) ?_;rintro e a3 W3 ⟨rfl,hk3,hk4,hi3⟩;have hl3:=hk4.trans hl2;have hr:=run_endRound (P:=P) none hl3;rw[hrec]at hr hl3;refine⟨_,_,hr,rfl,hI _ _ _ hi3,?_,(World.putObj_heap_other hne).trans (hk3.trans hd2)⟩;rw[World.putObj_heap_same (Array.getElem?_eq_some_iff.1 hl3).1,hrec]
  rfl
 ·
  rintro e W2 ⟨⟨v,rfl⟩,hi,hl,hd⟩;have hr:=run_endLoop (P:=P) hl (by rw[hrec];simp);rw[hrec]at hr;exact⟨none,_,hr,hdone B _ hB (hI _ _ _ hi) ((World.putObj_heap_other hne).trans hd)⟩
end
end Told
end Go.Proofs.YtfgjnpbffppocaaGreatDoor
