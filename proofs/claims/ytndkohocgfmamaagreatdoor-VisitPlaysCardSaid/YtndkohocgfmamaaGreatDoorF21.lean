/- Part. -/
import Derived.Test.YtndkohocgfmamaaGreatDoorF0Q
import Derived.Test.YtndkohocgfmamaaGreatDoorF1
import Derived.WalkSmall
import Derived.Shelf.Abstract
import Derived.BigQuiet
import Derived.Deep.OwnRows
set_option maxHeartbeats 1000000
namespace Go.Proofs.YtndkohocgfmamaaGreatDoor
open Go.Proofs.Tryz
namespace Ext
open Go.RowKit Mem
set_option maxRecDepth 100000
end Ext
namespace Ext
open Go.RowKit Go.Shelf Mem
set_option maxRecDepth 100000
def cnt(n:Int):Int:=min (max n 0) 65536
theorem MO: (prog.info? 47).map (λi=>(i.zero,i.size,i.bytes))=some (some (.int .u64 0),1,8):=by kernel_rfl
structure sW(n:Int)(w w':World):Prop where
 map:Blk w' (w.heap.size+1) 231 #[.slice (some ⟨w.heap.size,0,none⟩) ((cnt n+63)/64).toNat ((cnt n+63)/64).toNat,.int .i64 (cnt n),.int .i64 0]
 words:Blk w' w.heap.size 47 (madeCells #[.int .u64 0] ((cnt n+63)/64).toNat)
 below:Below w.heap.size w w'
theorem kg(n:Int)(w:World):Calls prog 135 #[.int .i64 n] w λe w'=>e=.returned (.pointer (some ⟨w.heap.size+1,0,none⟩))/\sW n w w':=by
 obtain⟨c,hc⟩:=jl (cnt n);have q:0<=c/\c<=65536:=by rw[hc];unfold cnt;omega
 obtain⟨m,a⟩:∃m:Nat,(c+63)/64=(m:Int):=⟨((c+63)/64).toNat,by omega⟩
 have i:∀w,(Instr.makeSlice 229 (.int .i64 ((c+63)/64)) (.int .i64 ((c+63)/64))).run prog w=.ok (.slice (some ⟨w.heap.size,0,none⟩) m m) (w.alloc (.cells (madeCells #[.int .u64 0] m) 47)):=λw=>by
  rw[a];exact run_make_row' 229 47 (.int .u64 0) 8 underlying229 MO rfl .i64 .i64 m (by omega) (by omega) w
 have r:IntKind.i64.wrap (c+64)=c+64:=IntWalk.i64_in _ (by omega);have s:IntKind.i64.wrap (c+64-1)=c+63:=by rw[show c+64-1=c+63 by omega];exact IntWalk.i64_in _ (by omega)
 have fin:∀w',Blk w' (w.heap.size+1) 231 #[.slice (some ⟨w.heap.size,0,none⟩) m m,.int .i64 c,.int .i64 0]->Blk w' w.heap.size 47 (madeCells #[.int .u64 0] m)->Below w.heap.size w w'->sW n w w':=λw' j g k=>by
  have e: ((cnt n+63)/64).toNat=m:=by rw[<-hc,a];rfl
  exact⟨by rw[e,<-hc];exact j,by rw[e];exact g,k⟩
 have d:=jq fin;clear fin;have o: (n<0/\c=0)\/(65536<n/\c=65536)\/(0<=n/\n<=65536/\c=n):=by rw[hc];unfold cnt;omega
 clear hc
 have f:∀c:Int,(∀w',Blk w' (w.heap.size+1) 231 #[.slice (some ⟨w.heap.size,0,none⟩) m m,.int .i64 c,.int .i64 0]->Blk w' w.heap.size 47 (madeCells #[.int .u64 0] m)->Below w.heap.size w w'->sW n w w')->
   sW n w ((w.alloc (.cells (madeCells #[.int .u64 0] m) 47)).alloc (.cells #[.slice (some ⟨w.heap.size,0,none⟩) m m,.int .i64 c,.int .i64 0] 231)):=λc h=>
  h _ (Blk.at_ (by rw[World.size_alloc])) ((Blk.new w _ _).alloc _) (((Below.refl _ w).alloc jn _).alloc (by simp) _)
 have b:=jq (f c d.out);clear f d;rcases o with⟨h,rfl⟩|⟨h,rfl⟩|⟨h,g,rfl⟩
 ·obtain rfl:m=0:=by omega
  simp at i
  go_enter func135,ntmps135
  go_wp2_with fail
  go_ret
  exact⟨rfl,b.out⟩
 ·obtain rfl:m=1024:=by omega
  simp at i
  go_enter func135,ntmps135
  go_wp2_with fail
  go_ret
  exact⟨rfl,b.out⟩
 ·have p:=jq a;clear a
  go_enter func135,ntmps135
  go_wp2_with fail
  go_ret
  exact⟨rfl,b.out⟩
end Ext
namespace Ext
open Go.RowKit Go.Shelf Mem
set_option maxRecDepth 100000
theorem zn(C:Nat)(v:Value)(count taken:Int)(w:World)(h:Blk w C 231 #[v,.int .i64 count,.int .i64 taken])(hc:0<=count/\count<=65536)(a:0<=taken/\taken<=65536):
  Calls prog 138 #[.pointer (some ⟨C,0,none⟩)] w λe w'=>e=.returned (.int .i64 (count-taken))/\∃n,w'=w.drewN n:=by
 have c1:=h.cell 1;have c2:=h.cell 2
 simp at c1 c2
 have b:IntKind.i64.wrap (count-taken)=count-taken:=IntWalk.i64_in _ (by omega)
 go_enter func138,ntmps138
 go_wp2_with fail
 go_quiet (fail)
 go_wp2_with fail
 go_ret
 exact⟨rfl,_,rfl⟩
theorem CY(C g m cap:Nat)(count taken i:Int)(x:Int)(w:World)(h:Blk w C 231 #[.slice (some ⟨g,0,none⟩) m cap,.int .i64 count,.int .i64 taken])(hc:0<=count/\count<=65536)(b:0<=i)(c:i<count)(j: (i/64).toNat<m)(k:w.cell? ⟨g,(i/64).toNat,none⟩=some (.int .u64 x)):
  Calls prog 196 #[.pointer (some ⟨C,0,none⟩),.int .i64 i] w λe w'=>e=.returned (.bool (bits .and .u64 (x/2^(i%64).toNat) 1==1))/\w=w':=by
 have a:=h.cell 0;have c1:=h.cell 1
 simp at a c1
 have d:decide (0<=i)=true:=by simpa using b
 have f:decide (i<count)=true:=by simpa using c
 go_enter func196,ntmps196
 go_wp2_with fail
 go_ret
 exact⟨rfl,rfl⟩
end Ext
namespace Ext
open Go.RowKit Go.Shelf Mem
set_option maxRecDepth 100000
def Ints(w:World)(b off:Nat)(l:List Int):Prop:=∀i x,l[i]? =some x->w.cell? ⟨b,off+i,none⟩=some (.int .i64 x)
variable {l:List Int}
theorem Ints.below{w w':World}{B b off:Nat}(h:Ints w b off l)(a:Below B w w')(hb:b<B):Ints w' b off l:=λi x c=>(a.cell (p:=⟨b,off+i,none⟩) hb).trans (h i x c)
def outs(count:Int)(x:Int):Bool:=decide (x<0)||decide (count<=x)
theorem CZ(q:Nat)(count x:Int)(w:World)(h:w.cell? ⟨q,0,none⟩=some (.int .i64 count)):
  Calls prog 195 #[.int .i64 x,.pointer (some ⟨q,0,none⟩)] w λe w'=>e=.returned (.bool (outs count x))/\w=w':=by
 by_cases a:x<0
 ·have e:outs count x=true:=by simp[outs,a]
  have b:decide (x<0)=true:=by simpa using a
  rw[e]
  go_enter func195,ntmps195
  go_wp2
  go_ret
  exact⟨rfl,rfl⟩
 ·have b:decide (x<0)=false:=by simpa using a
  have e:outs count x=decide (count<=x):=by simp[outs,a]
  rw[e]
  go_enter func195,ntmps195
  go_wp2
  go_ret
  exact⟨rfl,rfl⟩
def pu(count:Int)(l:List Int):Int:=(l.findIdx? (outs count)).elim (-1) (λi=>(i:Int))
theorem MP{count:Int}(h:∀(j:Nat) x,l[j]? =some x->outs count x=false):pu count l= -1:=by
 unfold pu
 rw[List.findIdx?_eq_none_iff.2 (λx b=>by
  obtain⟨i,a⟩:=qF b;exact h i x a)]
 rfl
theorem MQ{count:Int}{k:Nat}{x:Int}(d:l[k]? =some x)(c:outs count x=true)(h:∀(j:Nat) u,j<k->l[j]? =some u->outs count u=false):pu count l=(k:Int):=by
 unfold pu;obtain⟨b,e⟩:=jS.1 d
 rw[List.findIdx?_eq_some_iff_getElem.2 ⟨b,by rw[e];exact c,λj a=>by
  have:=h j l[j] a (jg (by omega))
  simp[this]⟩]
 rfl
theorem sZ(q b off cap:Nat)(count:Int)(l:List Int)(w:World)(hq:w.cell? ⟨q,0,none⟩=some (.int .i64 count))(hl:Ints w b off l)(r:l.length<=100000):
  Calls prog 81 #[.slice (some ⟨b,off,none⟩) l.length cap,.func (.func 195) #[] #[.pointer (some ⟨q,0,none⟩)]] w λe w'=>e=.returned (.int .i64 (pu count l))/\w=w':=by
 have g:=jq hq;have o:=jq hl;clear hq hl
 go_enter func81,ntmps81
 go_wp2_with fail
 go_loopw[8] (λi wr=>∃k:Nat,k<=l.length/\i=.int .i64 k/\Hid (∀(j:Nat) u,j<k->l[j]? =some u->outs count u=false)/\w=wr) (λi _=>l.length-(intOf i).toNat)
 case atStart=>exact⟨0,aC _,rfl,(λj t h=>by omega),rfl⟩
 case round=>
  obtain⟨k,p,rfl,d,rfl⟩:=hrel
  by_cases hlt:k<l.length
  ·obtain⟨x,f⟩:∃x,l[k]? =some x:=⟨_,jg hlt⟩;have f1:=o.out k x f;have m:=jq f;clear f;rcases hpt:outs count x with _|_
   ·have a:=jq hpt
    go_wp2_with (go_at_call 195;refine(CZ q count x _ g.out).mono ?_;rintro e w1 ⟨rfl,rfl⟩;rw[a.out])
    refine⟨⟨k+1,by omega,by simp,λj u c n=>?_,trivial⟩,by simp[intOf];omega⟩
    by_cases e:j=k
    ·subst e;have:=m.out.symm.trans n;cases this;exact a.out
    ·exact d.out j u (by omega) n
   ·have a:=jq hpt
    go_wp2_with (go_at_call 195;refine(CZ q count x _ g.out).mono ?_;rintro e w1 ⟨rfl,rfl⟩;rw[a.out])
    go_ret
    exact⟨by rw[MQ m.out a.out d.out];rfl,rfl⟩
  ·obtain rfl:k=l.length:=by omega
   go_wp2_with fail
   go_ret
   exact⟨by rw[MP (λj x c=>d.out j x (jS.1 c).1 c)];rfl,rfl⟩
theorem MR(count:Int)(l:List Int):decide (0<=pu count l)=l.any (outs count):=by
 unfold pu;cases h:l.findIdx? (outs count)with
 |none=>
  have:=List.findIdx?_eq_none_iff.1 h;have e:l.any (outs count)=false:=by simpa using this
  rw[e];rfl
 |some i=>
  obtain⟨a,b,_⟩:=List.findIdx?_eq_some_iff_getElem.1 h;have e:l.any (outs count)=true:=jm.2 ⟨_,qE a,b⟩;rw[e]
  simp
theorem tq(q b off cap:Nat)(count:Int)(l:List Int)(w:World)(hq:w.cell? ⟨q,0,none⟩=some (.int .i64 count))(hl:Ints w b off l)(c:l.length<=100000):
  Calls prog 44 #[.slice (some ⟨b,off,none⟩) l.length cap,.func (.func 195) #[] #[.pointer (some ⟨q,0,none⟩)]] w λe w'=>e=.returned (.bool (l.any (outs count)))/\w=w':=by
 have a:=jq (sZ q b off cap count l w hq hl c);rw[<-MR];clear hq hl
 go_enter func44,ntmps44
 go_wp2_with (go_at_call 81;refine a.out.mono ?_;rintro e w1 ⟨rfl,rfl⟩)
 go_ret
 exact⟨rfl,rfl⟩
end Ext
end Go.Proofs.YtndkohocgfmamaaGreatDoor
