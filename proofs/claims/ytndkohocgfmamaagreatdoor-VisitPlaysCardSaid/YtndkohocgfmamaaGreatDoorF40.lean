/- Part. -/
import Derived.Test.YtndkohocgfmamaaGreatDoorF5
import Derived.ProofKit
import Derived.OpenShut
set_option maxHeartbeats 1000000
set_option maxRecDepth 100000
namespace Go.Proofs.YtndkohocgfmamaaGreatDoor
open Go.Proofs.Tryz
namespace Args
open Go.ChangeShapes Go.WideShapes Go.RowKit Go.Deep Mem
theorem xP(b off n:Nat): (⟨b,off,none⟩:Addr).add n=⟨b,off+n,none⟩:=by
 unfold Addr.add
 split <;> simp_all
theorem xQ{α:Type}(cells:α->List Value)(size:Nat):∀l:List α,(∀x∈l,(cells x).length=size)->(l.flatMap cells).length=l.length*size
 | [],_=>by simp
 |x ::r,h=>by
  rw[jC,jL,h x (by simp),xQ cells size r (λy a=>h y (by simp[a])),List.length_cons,Nat.add_mul]
  omega
theorem IJ{α:Type}(cells:α->List Value)(size:Nat):∀(l:List α),(∀x∈l,(cells x).length=size)->∀i u,(l.flatMap cells)[i]? =some u->∃q x j,l[q]? =some x/\(cells x)[j]? =some u/\i=q*size+j
 | [],_,i,u,h=>by simp at h
 |x ::r,hl,i,u,h=>by
  have c:=hl x (by simp);rw[jC]at h
  by_cases g:i<size
  ·rw[iK (by omega)]at h;exact⟨0,x,i,rfl,h,by omega⟩
  ·rw[iL (by omega),c]at h;obtain⟨q,y,j,a,b,f⟩:=IJ cells size r (λy d=>hl y (by simp[d])) _ u h;exact⟨q+1,y,j,by simpa using a,b,by rw[Nat.add_mul];omega⟩
variable {H α:Type}{W:World}{t e:TypeId}{v:Value}{p:List MemPlace}
theorem TG{enc:TypeId×Value->H}{fuel:Nat}{z:List Value}{T:DataW H×List MemPlace}{size:Nat}[Inhabited α](cells:α->List Value)(w:α->Prop)(d:prog.underlying t=some (.slice e))(J:prog.cellsOf e=size)(Y:0<size)(L:∀fuel k y,k.length=size->DataW.trod enc prog W 0 (λ_=>true) true fuel e k=some y->∃x,k=cells x/\w x)(M:DataW.trod enc prog W 0 (λ_=>true) true fuel t z=some T):
  ∃(a:Option Addr) (len cap:Nat) (l:List α),z= [.slice a len cap]/\len<=cap/\cap<=maxLen/\l.length=len/\(∀x∈l,w x)/\Lies W a (l.flatMap cells):=by
 rcases open_slice d M with⟨hcs,_⟩|⟨a',len,cap,m,n,D,U,hcs,_,hl,N,O,_,o⟩
 ·exact⟨none,0,0,[],hcs,aj _,aC _,rfl,λx c=>absurd c (by simp),.inl rfl⟩
 ·have X:len<=m:=by rw[O];split <;> omega
  rw[J]at o
  have Q:0<len->a'.spot=none:=λB=>by
   obtain⟨E,hc,_⟩:=o 0 (by omega);obtain⟨_,s,g⟩:=World.cells?_some hc;have e:=g 0 (by omega);rw[jg (by omega)]at e;have:=World.cell?_spot e
   simpa[Addr.add]using this
  obtain⟨f,h⟩:=choose_lt (α:=α) (n:=len) (p:=λi x=>w x/\(cells x).length=size/\∃b off,a'=⟨b,off,none⟩/\b<W.heap.size/\∀j u,(cells x)[j]? =some u->W.cell? ⟨b,off+(i*size+j),none⟩=some u) (λi hlt=>by
   obtain⟨E,hc,R⟩:=o i (by omega);obtain⟨_,s,g⟩:=World.cells?_some hc;obtain⟨x,rfl,c⟩:=L _ _ _ s R;obtain⟨b,off,S⟩:=a';have P:S=none:=Q (by omega);subst P;have A:=g 0 (by omega);rw[jg (by omega),xP,xP]at A;have hb:=World.block_lt_of_cell? W _ A;refine⟨x,c,s,b,off,rfl,hb,λj u d=>?_⟩;have C:=(jS.1 d).1;have e:=g j (by omega);rw[d,xP,xP,Nat.add_assoc]at e;exact e)
  refine⟨some a',_,_,(List.range len).map f,hcs,hl,N,by simp,λx c=>?_,?_⟩
  ·obtain⟨i,r,rfl⟩:=List.mem_map.1 c;exact(h i (List.mem_range.1 r)).1
  ·by_cases B:len=0
   ·subst B;exact .inl rfl
   ·obtain⟨_,_,b,off,rfl,hb,_⟩:=h 0 (by omega);refine .inr ⟨b,off,rfl,hb,λi u d=>?_⟩
    obtain⟨q,x,j,hq,C,rfl⟩:=IJ cells size _ (λx c=>by
     obtain⟨i,r,rfl⟩:=List.mem_map.1 c;exact(h i (List.mem_range.1 r)).2.1) i u d
    have hlt:q<len:=by
     have:=(jS.1 hq).1
     simpa using this
    obtain rfl:f q=x:=by simpa[hlt]using hq
    obtain⟨_,_,V,Z,F,_,hc⟩:=h q hlt;injection F with G I;subst G;subst I;exact hc j u C
theorem TH{enc:TypeId×Value->H}{base:Nat}{d:DataW H}{size:Nat}[Inhabited α](cells:α->List Value)(c:α->Prop)(f:prog.underlying t=some (.slice e))(g:prog.cellsOf e=size)(k:0<size)(i:∀fuel b y,b.length=size->DataW.trod enc prog W 0 (λ_=>true) true fuel e b=some y->∃x,b=cells x/\c x)(q:Value.okWide prog W .any base t v)(h:DataW.Trod enc prog W 0 (λ_=>true) true t v d p):
  ∃(a:Option Addr) (len cap:Nat) (l:List α),v=.slice a len cap/\len<=cap/\cap<=maxLen/\l.length=len/\(∀x∈l,c x)/\Lies W a (l.flatMap cells):=by
 obtain⟨a,len,cap,rfl⟩:=okWide_slice f q;obtain⟨fuel,j⟩:=h;obtain⟨a',n,m,l,hcs,r⟩:=TG cells c f g k i j
 simp[Value.cells]at hcs
 obtain⟨rfl,rfl,rfl⟩:=hcs;exact⟨_,_,_,l,rfl,r⟩
theorem TI{enc:TypeId×Value->H}{d:DataW H}{base:Nat}{k:IntKind}(b:prog.underlying t=some (.int k))(q:Value.okWide prog W .any base t v)(h:DataW.Trod enc prog W 0 (λ_=>true) true t v d p):∃n,v=.int k n/\(Lit.int k n).wf=true:=by
 obtain⟨n,rfl⟩:=okWide_int b q;obtain⟨fuel,c⟩:=h;obtain⟨m,a,_,f⟩:=DataW.trod_int b c
 simp[Value.cells]at a
 subst a;exact⟨n,rfl,f⟩
end Args
namespace aX
open Go.RowKit Go.Deep Mem Crc
theorem nH{w:World}{a:Option Addr}{l:List KC}(h:Lies w a (l.flatMap aH)){i:Nat}{p:KC}(c:l[i]? =some p):∃g off,a=some ⟨g,off,none⟩/\w.cell? ⟨g,off+i*3,none⟩=some (.int .u32 ((p.1/4294967296:Nat):Int))/\w.cell? ⟨g,off+i*3+1,none⟩=some (.int .u32 ((p.1%4294967296:Nat):Int))/\w.cell? ⟨g,off+i*3+2,none⟩=some (.int .u64 (p.2:Int))/\g<w.heap.size:=by
 have o:=(jS.1 c).1;rcases h with h|⟨g,off,rfl,k,hc⟩
 ·have:=congrArg List.length h;rw[Args.xQ aH 3 l (λx _=>rfl)]at this
  simp at this
  omega
 ·have d:∀(l:List KC) (i j:Nat) (p:KC) (u:Value),l[i]? =some p->j<3->(aH p)[j]? =some u->(l.flatMap aH)[i*3+j]? =some u:=by
   intro l
   induction l with
   |nil=>intro i j p u h;simp at h
   |cons b t n=>
    intro i j p u h m f
    cases i with
    |zero=>
     have e:b=p:=by simpa using h
     subst e;rw[jC,iK (by simp[aH];omega)]
     simpa using f
    |succ i=>
     rw[jC,iL (by simp[aH];omega)];have:=n i j p u (by simpa using h) m f;rw[show(i+1)*3+j-(aH b).length=i*3+j by simp[aH];omega];exact this
  refine⟨g,off,rfl,?_,?_,?_,k⟩
  ·have:=hc (i*3+0) _ (d l i 0 p _ c (by decide) rfl)
   simpa using this
  ·have:=hc (i*3+1) _ (d l i 1 p _ c (by decide) rfl);rw[<-Nat.add_assoc]at this;exact this
  ·have:=hc (i*3+2) _ (d l i 2 p _ c (by decide) rfl);rw[<-Nat.add_assoc]at this;exact this
end aX
namespace Vp
open Go.RowKit Go.Deep Mem Crc Merge aX
def xR(H:List KC)(k:Nat)(e:Ending):Prop:=
 (∃(i:Nat) (p:KC),H[i]? =some p/\p.1=k/\(∀(j:Nat) (q:KC),j<i->H[j]? =some q->q.1≠k)/\e=.returned (.tuple #[.int .i64 (i:Int),.bool true]))\/((∀p∈H,p.1≠k)/\e=.returned (.tuple #[.int .i64 0,.bool false]))
attribute [local go_sem] Oper.semAt_some
theorem nM(H:List KC)(a:Option Addr)(c:Nat)(f h k:Nat)(I:k=f*4294967296+h)(J:h<4294967296)(w:World)(G:Lies w a (H.flatMap aH))(O:H.length<=1000000):
  Calls prog 52 #[.slice a H.length c,.int .u32 (f:Int),.int .u32 (h:Int)] w λe w'=>xR H k e/\w'=w:=by
 obtain⟨n,y⟩:=jl H.length;rw[<-y]at O⊢;have E:=jq y;have L:=jq G;have u:=jq (And.intro I J);clear y G I J
 go_enter func52,ntmps52
 go_wp2_with fail
 go_loopw[11] (λi wr=>∃j:Nat,j<=n/\i=.int .i64 (j:Int)/\wr=w/\Hid (∀q p,q<j->H[q]? =some p->p.1≠k)) (λi _=>n-(intOf i).toNat)
 case atStart=>exact⟨0,by omega,rfl,rfl,jq (λq p hq=>by omega)⟩
 case round=>
  obtain⟨j,R,rfl,C,s⟩:=hrel;have C:=C.symm;subst C
  by_cases hlt:j<n
  ·have N:decide (j<n)=true:=jd hlt;obtain⟨p,o⟩:∃p,H[j]? =some p:=⟨_,jg (by rw[<-E.out];exact hlt)⟩;obtain⟨g,off,rfl,P,Q,-,-⟩:=nH L.out o;obtain⟨ps,z⟩:=jl (p.1/4294967296);obtain⟨D,A⟩:=jl (p.1%4294967296);rw[<-z]at P;rw[<-A]at Q;have d:=jq (And.intro o (And.intro z A));clear o z A
   by_cases m:ps=f
   ·by_cases x:D=h
    ·have F: ((ps:Int)==(f:Int))=true:=by rw[m];simp
     have M: ((D:Int)==(h:Int))=true:=by rw[x];simp
     have l:Hid (p.1=k):=jq (by have:=d.out.2;have:=u.out.1;omega);clear m x
     go_wp2_with fail
     go_ret2
     refine⟨?_,rfl⟩;unfold xR;exact Or.inl ⟨j,p,d.out.1,l.out,λq r hq b=>s.out q r hq b,rfl⟩
    ·have F: ((ps:Int)==(f:Int))=true:=by rw[m];simp
     have M: ((D:Int)==(h:Int))=false:=by simp;omega
     have l:Hid (∀q r,q<j+1->H[q]? =some r->r.1≠k):=jq (λq r hq b=>by
      by_cases B:q=j
      ·subst B;rw[d.out.1]at b;cases b;have:=d.out.2;have:=u.out;omega
      ·exact s.out q r (by omega) b)
     clear m x
     go_wp2_with fail
     go_roundw
     case rel=>exact⟨j+1,by omega,by go_num,by trivial,l⟩
     case measure=>simp[intOf];omega
   ·have F: ((ps:Int)==(f:Int))=false:=by simp;omega
    have l:Hid (∀q r,q<j+1->H[q]? =some r->r.1≠k):=jq (λq r hq b=>by
     by_cases B:q=j
     ·subst B;rw[d.out.1]at b;cases b;have:=d.out.2;have:=u.out;omega
     ·exact s.out q r (by omega) b)
    clear m
    go_wp2_with fail
    go_roundw
    case rel=>exact⟨j+1,by omega,by go_num,by trivial,l⟩
    case measure=>simp[intOf];omega
  ·obtain rfl:j=n:=by omega
   have N:decide (j<j)=false:=jf (by omega)
   go_wp2_with fail
   go_ret2
   refine⟨?_,rfl⟩;unfold xR
   exact Or.inr ⟨λp o=>by
    obtain⟨q,hq,e⟩:=List.getElem_of_mem o;exact s.out q p (by rw[E.out];exact hq) (by rw[jg hq,e]),rfl⟩
end Vp
end Go.Proofs.YtndkohocgfmamaaGreatDoor
