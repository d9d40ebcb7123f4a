/- Part. -/
import Derived.Test.YtfgjnpbffppocaaGreatDoorF0
import Derived.RangeFuncBound
import Derived.RangeFuncWrites
import Derived.RangeFuncNested
import Derived.OwnWalkIn
import Derived.Deep.AppendLies
namespace Go.Proofs.YtfgjnpbffppocaaGreatDoor
namespace Sees
open Go.RowKit
def SeqSees {α:Type} (F:Fence) (n:Nat) (P:Program) (g:Nat) (lb:Array Value) (encs:α->Array Value) (Mine Kp:World->World->Prop) (V:List α->α->World->Prop) (S Sp:List α->Prop) (N:Nat) (w:World):Prop:=
 ∀(l:Nat) (J Jx:List α->World->Prop) (W:World),Below w.heap.size w W->(∀s X Y,J s X->Mine X Y->J s Y)->(∀s X Y,Jx s X->Mine X Y->Jx s Y)->
  (∀pre x W1,J pre W1->pre.length<N->V pre x W1->YieldAt F (n-1) P l (encs x) W1 λe W'=>(e=.returned (.bool true)/\J (pre++ [x]) W'/\Kp W1 W')\/(e=.returned (.bool false)/\Jx (pre++ [x]) W'))->
  J [] W->CallsIn F n P g (#[.func (.yield l) #[] #[]]++lb) W λe W'=>(∃v,e=.returned v)/\((∃xs,S xs/\J xs W')\/(∃pre,Sp pre/\Jx pre W'))
def Book (D l:Nat) (r:Loop) (W:World):Prop:=W.heap[l]? =some (.loop r)/\W.heap[D]? =some (.deferred (some []))
theorem Book.turn {D l:Nat} {r:Loop} {W:World} (h:Book D l r W) (hne:D≠l) (r':Loop):Book D l r' (W.putObj l (.loop r')):=
 ⟨World.putObj_heap_same (Array.getElem?_eq_some_iff.1 h.1).1,(World.putObj_heap_other hne).trans h.2⟩
theorem Book.kept {B D l:Nat} {r:Loop} {W W':World} (h:Book D l r W) (hk:KeepsFrom B W W') (h1:B<=D) (h2:B<=l):Book D l r W':=⟨hk.same l _ h2 h.1 rfl,hk.same D _ h1 h.2 rfl⟩
section
variable {F:Fence} {n:Nat} {P:Program}
theorem wpIn_range_sees {α:Type} {g:Operand} {ps:Array Tmp} {assign body:Code} {Q:Exit->Act->World->Prop} {a:Act} {w:World}
  (hro:F.round=none) (h1:1<=n) {gf:Nat} {lb:Array Value} (hg:a.eval g=.func (.func gf) #[] lb) (hFg:F.fn gf) (eg:∀args w,(callFunc gf args).run P w=.ok (.enter gf args) w)
  {encs:α->Array Value} {Mine Kp:World->World->Prop} {V:List α->α->World->Prop} {S Sp:List α->Prop} {N:Nat} {w0:World} (hseq:SeqSees F (n-1) P gf lb encs Mine Kp V S Sp N w0)
  (hM:∀X Y,Mine X Y->KeepsFrom w.heap.size X Y)
  (hKt:∀{X Y Z:World},Kp X Y->Kp Y Z->Kp X Z) (hKb:∀(W:World) (l:Nat) (o o':Obj),w.heap.size<=l->W.heap[l]? =some o->o.isCells=false->o.isWalk=false->Kp W (W.putObj l o'))
  (hVb:∀(pre:List α) (x:α) (W:World) (l:Nat) (o o':Obj),V pre x W->w.heap.size<=l->W.heap[l]? =some o->o.isCells=false->V pre x (W.putObj l o'))
  (hb0:Below w0.heap.size w0 w) (hps:∀x,(encs x).size=ps.size)
  (I:List α->World->Prop) (Ix:Code->List α->World->Prop) (hI:OwnFrom w.heap.size I) (hIx:∀c,OwnFrom w.heap.size (Ix c)) (hIM:∀s X Y,I s X->Mine X Y->I s Y) (hIxM:∀c s X Y,Ix c s X->Mine X Y->Ix c s Y) (h0:I [] w) (a₁:α->Act)
  (hassign:∀(l:Nat) (x:α) (W:World) (K:Act->World->Prop),K (a₁ x) W->
   assign.wpIn (F.inRound l) (n-1-1) P (Exit.then K (λ_ _ _=>False)) {tmps:=(ps.zip (encs x)).foldl (λt (p,v)=>t.setIfInBounds p v) a.tmps,defers:=[]} W)
  (hbody:∀(l:Nat) (pre:List α) (x:α) (W:World),I pre W->pre.length<N->V pre x W->body.wpIn (F.inRound l) (n-1-1) P (ownPostG w.heap.size Kp I Ix (pre++ [x]) W) (a₁ x) W)
  (hdone:∀(D:Nat) (xs:List α) (W:World),w.heap.size<=D->S xs->I xs W->W.heap[D]? =some (.deferred (some []))->Q .normal {a with defers:={target:=.collected D,args:=#[]}::a.defers} W)
  (hstop:∀(D:Nat) (c:Code) (pre:List α) (W:World),w.heap.size<=D->Sp pre->Ix c pre W->W.heap[D]? =some (.deferred (some []))->c.wpIn F n P Q {a with defers:={target:=.collected D,args:=#[]}::a.defers} W):
  (Code.rangeFunc g ps assign body).wpIn F n P Q a w:=by
 refine wpIn_rangeFunc (λfn hfn=>?_);rw[hro];obtain⟨B,hB⟩:=jl w.heap.size;obtain⟨rec,hrec⟩:∃rec:LoopState->Option Code->Loop,rec=λst pe=>{state:=st,pending:=pe,fn,tmps:=a.tmps,params:=ps,assign,body,defers:=B}:=⟨_,rfl⟩
 obtain⟨W1,hW1⟩:=jl ((w.alloc (.deferred (some []))).alloc (.loop (rec .ready none)));have hne:B≠B+1:=by omega
 have hbk1:Book B (B+1) (rec .ready none) W1:=by
  rw[hW1,hB];refine⟨?_,?_⟩
  ·have:=World.alloc_heap_new (w.alloc (.deferred (some []))) (.loop (rec .ready none))
   rwa [World.size_alloc]at this
  ·exact(Below.heap_alloc _ _ _ (by simp)).trans (World.alloc_heap_new w _)
 have hI1:I [] W1:=by rw[hW1];exact hI.alloc _ (hI.alloc _ h0)
 have hb1:Below w0.heap.size w0 W1:=by
  rw[hW1];exact hb0.trans ((((Below.refl _ w).alloc jn _).alloc (by simp) _).mono hb0.size)
 have hent:=run_enterLoop_outer (P:=P) (w:=w) fn a.tmps ps assign body;rw[<-hB]at hent;have hW1': (w.alloc (.deferred (some []))).alloc (.loop {state:=.ready,pending:=none,fn,tmps:=a.tmps,params:=ps,assign,body,defers:=B})=W1:=by rw[hW1,hrec]
 rw[hW1']at hent;rw[<-hB]at hM hKb hVb hI hIx hbody hdone hstop;refine⟨B+1,[{target:=.collected B,args:=#[]}],W1,{target:=.fn (.func gf) lb,args:=#[.func (.yield (B+1)) #[] #[]]},W1,gf,#[.func (.yield (B+1)) #[] #[]]++lb,W1,hent,?_,?_,?_,λ_=>h1,?_⟩
 ·simp only[resolve,hg]
  simp[go_sem]
 ·intro f' hf'
  simp[Target.leads]at hf'
  subst hf';exact hFg
 ·simp[invoke,go_sem,eg]
 refine(hseq (B+1) (λpre W=>I pre W/\Book B (B+1) (rec .ready none) W) (λpre W=>∃c,Ix c pre W/\Book B (B+1) (rec .done (some c)) W) W1 hb1
  (λs X Y h hm=>⟨hIM s X Y h.1 hm,h.2.kept (hM X Y hm) jn (by omega)⟩)
  (λs X Y h hm=>by obtain⟨c,hc,hk⟩:=h;exact⟨c,hIxM c s X Y hc hm,hk.kept (hM X Y hm) jn (by omega)⟩)
  ?_ ⟨hI1,hbk1⟩).mono ?_
 ·
  rintro pre x W ⟨hi,hk⟩ hlen hv;have hlW:=hk.1;have hy:=run_yield (P:=P) (args:=encs x) hlW (by rw[hrec];exact hps x);rw[hrec]at hy;refine⟨fn,_,assign,body,hy,roundIn_of_wpIn hfn (hassign _ x W _ ⟨_,run_beginRound hlW (by rw[hrec]),?_⟩)⟩;have hk2:=hk.turn hne {rec .ready none with state:=.busy};have hp2:Kp W (W.putObj (B+1) (.loop {rec .ready none with state:=.busy})):=hKb _ _ _ _ (by omega) hlW rfl rfl;refine wpIn_mono (hbody _ pre x _ (hI.putObj _ hi (by omega) hlW rfl) hlen (hVb pre x W _ _ _ hv (by omega) hlW rfl)) ?_
  have hend:∀(jump:Option Code) (W3:World),KeepsFrom B (W.putObj (B+1) (.loop {rec .ready none with state:=.busy})) W3->
    ∃W4,W4=W3.putObj (B+1) (.loop (rec (if jump.isNone then .ready else .done) jump))/\(Instr.endRound (B+1) jump).run P W3=.ok (.bool jump.isNone) W4/\
     W3.heap[B+1]? =some (.loop {rec .ready none with state:=.busy})/\Book B (B+1) (rec (if jump.isNone then .ready else .done) jump) W4:=λjump W3 hk3=>by
   have hk4:=hk2.kept hk3 jn (by omega);have hr:=run_endRound (P:=P) jump hk4.1;rw[hrec]at hr hk4⊢;exact⟨_,rfl,hr,hk4.1,hk4.turn hne _⟩
  intro e a3 W3 hp
  cases e with
  |normal=>
   obtain⟨hk3,hkp3,hi3⟩:=hp;obtain⟨W4,rfl,hr,hl3,hk4⟩:=hend none W3 hk3;exact⟨_,_,hr,.inl ⟨rfl,⟨hI.putObj _ hi3 (by omega) hl3 rfl,hk4⟩,hKt (hKt hp2 hkp3) (hKb _ _ _ _ (by omega) hl3 rfl rfl)⟩⟩
  |ret=>
   obtain⟨W4,rfl,hr,hl3,hk4⟩:=hend (some .ret) W3 hp.1;exact⟨_,_,hr,.inr ⟨rfl,.ret,(hIx _).putObj _ hp.2 (by omega) hl3 rfl,hk4⟩⟩
  |exit id=>
   obtain⟨W4,rfl,hr,hl3,hk4⟩:=hend (some (.exit id)) W3 hp.1;exact⟨_,_,hr,.inr ⟨rfl,.exit id,(hIx _).putObj _ hp.2 (by omega) hl3 rfl,hk4⟩⟩
  |goto t=>
   obtain⟨W4,rfl,hr,hl3,hk4⟩:=hend (some (.goto t)) W3 hp.1;exact⟨_,_,hr,.inr ⟨rfl,.goto t,(hIx _).putObj _ hp.2 (by omega) hl3 rfl,hk4⟩⟩
  |panic ch=>exact hp.elim
  |outgrown=>exact hp.elim
 ·
  rintro e W2 ⟨⟨v,rfl⟩,hd⟩;rcases hd with⟨xs,hS,hi,hk⟩|⟨pre,hSp,c,hi,hk⟩
  ·have hr:=run_endLoop (P:=P) hk.1 (by rw[hrec];simp);rw[hrec]at hr;exact⟨none,_,hr,hdone B xs _ jn hS (hI.putObj _ hi (by omega) hk.1 rfl) ((World.putObj_heap_other hne).trans hk.2)⟩
  ·have hr:=run_endLoop (P:=P) hk.1 (by rw[hrec];simp);rw[hrec]at hr;exact⟨some c,_,hr,hstop B c pre _ jn hSp ((hIx c).putObj _ hi (by omega) hk.1 rfl) ((World.putObj_heap_other hne).trans hk.2)⟩
end
end Sees
end Go.Proofs.YtfgjnpbffppocaaGreatDoor
