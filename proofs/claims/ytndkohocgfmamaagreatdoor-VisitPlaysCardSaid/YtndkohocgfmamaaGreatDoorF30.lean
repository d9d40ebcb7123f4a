/- Part. -/
import Derived.Test.YtndkohocgfmamaaGreatDoorF28
import Derived.Test.YtndkohocgfmamaaGreatDoorLay2
set_option maxHeartbeats 1000000
namespace Go.Proofs.YtndkohocgfmamaaGreatDoor
open Go.Proofs.Tryz
namespace Runs
open Go.RowKit Go.Deep Go.Shelf Go.Lib Go.Sort Mem Crc Merge
attribute [local go_sem] Oper.semAt_some
abbrev pV(w:World)(bk:Nat):Type:={p:SL×B // eT w (sl p.1) p.2/\∀g,Mem.blk p.1.1=some g->g≠bk}
instance (w:World) (bk:Nat):Inhabited (pV w bk):=⟨⟨((none,0,0),[]),⟨none,0,rfl,aj _,.inl rfl⟩,λg h=>by simp[Mem.blk]at h⟩⟩
def encR{w:World}{bk:Nat}(x:pV w bk):Value:=sl x.1.1
def pW{w:World}{bk:Nat}(x y:pV w bk):Int:=iV x.1.2 y.1.2
variable {w:World}{bk:Nat}{α:Type}
theorem uF(x y:pV w bk):ltOf pW x y=decide (x.1.2<y.1.2):=by
 unfold ltOf pW;rw[decide_eq_decide];exact Ag _ _
theorem RB(w:World)(bk:Nat):SWO (ltOf (pW (w:=w) (bk:=bk))) where
 irrefl x:=by rw[uF];simp[List.lt_irrefl]
 trans x y z h1 h2:=by
  rw[uF,decide_eq_true_iff]at *;exact mD h1 h2
 ntrans x y z h1 h2:=by
  rw[uF,decide_eq_false_iff_not,iM]at *;exact mE h2 h1
theorem Av[Inhabited α](enc:α->Value)(w:World)(bk off m:Nat)(dk:Array α)(os:Array Obj){g:Nat}(a:g<w.heap.size)(b:g≠bk): (sortWorld enc w bk off m dk os).heap[g]? =w.heap[g]?:=by
 unfold sortWorld;rw[heap_grow_old _ _ (by simpa[size_putRow]using a)];show(w.heap.modify bk _)[g]? =_;rw[Array.getElem?_modify,if_neg (λe=>b e.symm)]
theorem Gr[Inhabited α](enc:α->Value)(w:World)(bk off m:Nat)(dk:Array α)(os:Array Obj):w.heap.size<=(sortWorld enc w bk off m dk os).heap.size:=by
 unfold sortWorld;rw[Go.Sort.size_grow,size_putRow];exact Nat.le_add_right _ _
theorem eT.sorted[Inhabited α]{enc:α->Value}{off m:Nat}{dk:Array α}{os:Array Obj}{x:SL}{b:B}(h:eT w (sl x) b)(n:∀g,Mem.blk x.1=some g->g≠bk):eT (sortWorld enc w bk off m dk os) (sl x) b:=by
 obtain⟨a,c,e,j,k⟩:=h;refine⟨a,c,e,j,?_⟩;have f:x.1=a:=by unfold sl at e;injection e
 rcases k with h|⟨g,o,d,hlt,hc⟩
 ·exact .inl h
 ·refine .inr ⟨g,o,d,aD hlt (Gr _ _ _ _ _ _ _),λi u p=>?_⟩;have l:g≠bk:=n g (by rw[f,d];rfl);rw[World.cell?_of_block (Av enc w bk off m dk os hlt l)];exact hc i u p
theorem Gs(w:World)(bk off n:Nat):CmpLays1 prog 107 #[] (encR (w:=w) (bk:=bk)) pW bk off n w:=λm os dk _ x y=>by
 refine(Ae _ _ x.1.2 y.1.2 _ (eT.sorted x.2.1 x.2.2) (eT.sorted y.2.1 y.2.2)).mono ?_;rintro e w' ⟨rfl,rfl⟩;exact⟨rfl,0,#[],by rw[Go.Sort.grow_empty];rfl⟩
end Runs
namespace Runs
open Go.RowKit Go.Deep Go.Shelf Go.Lib Go.Sort Mem Crc Merge
theorem Ay(w:World)(bk:Nat):∀(vs:List SL) (l:List B),vs.length=l.length->(∀(i:Nat) (x:SL) (b:B),vs[i]? =some x->l[i]? =some b->eT w (sl x) b)->(∀x∈vs,∀g,Mem.blk x.1=some g->g≠bk)->
  ∃a:List (pV w bk),a.map (·.1.1)=vs/\a.map (·.1.2)=l
 | [],[],_,_,_=>⟨[],rfl,rfl⟩
 |x ::vs,b ::l,hl,h,ho=>by
  obtain⟨a,e,f⟩:=Ay w bk vs l (by simpa using hl) (λi y c d hc=>h (i+1) y c (by simpa using d) (by simpa using hc)) (λy d=>ho y (eD _ d));exact⟨⟨(x,b),h 0 x b rfl rfl,ho x (by simp)⟩::a,by simp[e],by simp[f]⟩
 | [],_ ::_,hl,_,_=>by simp at hl
 |_ ::_,[],hl,_,_=>by simp at hl
variable {α:Type}
theorem RD[Inhabited α]{d d':Array α}(h:PermIn 0 d.size d d'):d'.toList.Perm d.toList:=by
 have c:=h.2.2;have e:=h.1;have a: (d'.extract 0 d.size)=d':=by rw[<-e];exact Array.extract_size
 have b: (d.extract 0 d.size)=d:=Array.extract_size
 rwa [a,b]at c
theorem heap_sorted[Inhabited α](enc:α->Value)(w:World)(bk off m:Nat)(dk:Array α)(os:Array Obj){cur:Array Value}{e:TypeId}{fr:Nat×Nat}(h:w.heap[bk]? =some (.cells cur e fr)): (sortWorld enc w bk off m dk os).heap[bk]? =some (.cells (putCells enc off dk cur) e fr):=by
 have a:=(dG.1 h).1;unfold sortWorld;rw[heap_grow_old _ _ (by simpa[size_putRow]using a)];show(w.heap.modify bk _)[bk]? =_;rw[Array.getElem?_modify,if_pos rfl,h]
 rfl
theorem take_putCells[Inhabited α](enc:α->Value)(d:Array α)(cur:Array Value)(h:d.size<=cur.size): (putCells enc 0 d cur).toList.take d.size=d.toList.map enc:=by
 apply List.ext_getElem
 ·simp[putCells];omega
 ·intro i c a;have b:i<d.size:=by simpa using a
  simp[putCells,b,getElem!_pos]
theorem RF{w:World}{base:Nat}{v:Value}{vs:List SL}{l:List B}(F:gY w base v vs)(z:bY w (vs.map sl) l)(h2:∀x∈vs,∀g,Mem.blk x.1=some g->some g≠v.ownBlock)(hn:vs.length<=1000000):
  Calls prog 148 #[v,.func (.func 107) #[] #[]] w λe w'=>e=.returned (.tuple #[])/\∃s l',s.length=vs.length/\gY w' base v s/\bY w' (s.map sl) l'/\l'.Perm l/\aS l'/\(∀x∈s,x∈vs)/\
   (∀B,B<=w.heap.size->(∀g,v.ownBlock=some g->B<=g)->Below B w w')/\∀k,k<w.heap.size->some k≠v.ownBlock->w'.heap[k]? =w.heap[k]?:=by
 have L:∀args w,(callFunc 107 args).run prog w=.ok (.enter 107 args) w:=enters_of func107 (by kernel_rfl) rfl;have Y:vs.length=l.length:=by simpa using z.len
 rcases F.2 with⟨rfl,h0⟩|⟨g,cap,cur,rfl,hb,o,Q,R,S,T⟩
 ·have m:=AnyF.slices_SortFunc_none (P:=prog) (ρ:=Tryz.sortRec_ren) {Tryz.sortRec with} none 0 (.func (.func 107) #[] #[]) w
  change Calls prog 148 _ _ _ at m
  refine m.mono ?_;rintro e w' ⟨rfl,rfl⟩;refine⟨rfl,vs,l,rfl,F,z,oN _,?_,λ_ h=>h,λB _ _=>Below.refl _ _,λ_ _ _=>rfl⟩;have:l= []:=List.length_eq_zero_iff.1 (by omega);rw[this];exact List.Pairwise.nil
 ·have W:=(dG.1 o).1;obtain⟨d,A,U⟩:=Ay w g vs l Y (λi x b f hb=>z.at_ i (sl x) b (by simp[f]) hb) (λx f q hq e=>h2 x f q hq (by rw[e];rfl));have V:d.length=vs.length:=by rw[<-A];simp
  have O:Holds encR w g 0 d.toArray:=λj C=>by
   have p:j<d.length:=by simpa using C
   have hc:cur.toList[j]? =some (encR d[j]):=by
    have a: (cur.toList.take (vs.length*1))[j]? =some (encR d[j]):=by
     rw[T,<-A]
     simp[jg p,encR]
    rw[jh]at a
    split at a
    ·exact a
    ·cases a
   refine⟨?_,?_⟩
   ·simp[World.cell?,o,getElem!_pos,p,<-hc]
   ·simp[World.frozen?,o]
  have m:=Any.slices_SortFunc (P:=prog) (ρ:=Tryz.sortRec_ren) Tryz.sortRec (encR (w:=w) (bk:=g)) (λ_=>rfl) pW (RB w g) 107 #[] g 0 cap d.toArray w L (Gs w g 0 _) O W (by simp;omega)
  change Calls prog 148 _ _ _ at m
  have t:d.toArray.size=vs.length:=by simp[V]
  rw[t]at m;refine m.mono ?_;rintro e w' ⟨rfl,c,n,os,H,hs,rfl⟩;have I:=RD (by rw[t];exact H);have E:c.size=vs.length:=by rw[H.1,t]
  refine⟨rfl,c.toList.map (·.1.1),c.toList.map (·.1.2),by simp[E],?_,?_,?_,?_,?_,λB M N=>⟨rfl,rfl,rfl,Gr _ _ _ _ _ _ _,λk D=>Av _ _ _ _ _ _ _ (aD D M) (by have:=N g rfl;omega)⟩,λk D Z=>Av _ _ _ _ _ _ _ D (λe=>Z (by rw[e];rfl))⟩
  ·refine⟨by simp,.inr ⟨g,cap,_,by simp[E],hb,heap_sorted _ _ _ _ _ _ _ o,by simp[E];exact Q,R,by simpa[putCells]using S,?_⟩⟩;have a:=take_putCells (encR (w:=w) (bk:=g)) c cur (by omega);simp only[jP,Array.length_toList,Nat.mul_one];rw[a,List.map_map]
   rfl
  ·refine⟨by simp,λi u b J G=>?_⟩;simp only[List.getElem?_map,Option.map_eq_some_iff]at J G;obtain⟨q,⟨x,f,rfl⟩,rfl⟩:=J;obtain⟨y,r,rfl⟩:=G;rw[f]at r;cases r;exact eT.sorted x.2.1 x.2.2
  ·have:=I.map (λx:pV w g=>x.1.2)
   simpa[U]using this
  ·refine qJ.2 λi j hi C X=>?_
   have p:j<c.size:=by simpa using C
   have a:=hs i j (aC _) X (by omega);rw[uF,decide_eq_false_iff_not,iM,getElem!_pos c j p,getElem!_pos c i (by omega)]at a
   simpa using a
  ·intro x f;obtain⟨y,r,rfl⟩:=List.mem_map.1 f;rw[<-A];exact List.mem_map.2 ⟨y,by simpa using I.mem_iff.1 r,rfl⟩
end Runs
namespace Runs
open Go.RowKit Go.Deep Go.Shelf Mem Crc Merge
attribute [local go_sem] Oper.semAt_some
theorem rec_block{w:World}{x:SL}{b:B}(h:eT w (sl x) b)(hb:b≠[]):∀g,Mem.blk x.1=some g->g<w.heap.size:=λg d=>by
 obtain⟨a,c,e,k,j⟩:=h;have f:x.1=a:=by unfold sl at e;injection e
 rcases j with h|⟨q,o,i,hlt,hc⟩
 ·exact absurd (by simpa using h) hb
 ·rw[f,i]at d;have:q=g:=by simpa[Mem.blk]using d
  omega
theorem RG{a:Option Addr}{c:Nat}{vs:List SL}{l:List B}(w:World)(h:Nat)(M:h<w.heap.size){w0:World}(t:Lies w0 a (vs.map sl))(P:vs.length<=c)(C:vs.length<=1000000)(s:Below w0.heap.size w0 w)(hc:w.cell? ⟨h,0,none⟩=some (.slice a vs.length c))(u:bY w (vs.map sl) l)(Q:∀b∈l,b≠[]):
  Calls prog 105 #[.func (.func 149) #[] #[.pointer (some ⟨h,0,none⟩)],.func (.func 107) #[] #[]] w λe w'=>∃v d l',e=.returned v/\d.length=vs.length/\gY w' w.heap.size v d/\bY w' (d.map sl) l'/\l'.Perm l/\aS l'/\(∀x∈d,x∈vs)/\Below w.heap.size w w':=by
 have N:=jq (Qv w h M t P C s hc);have j:=jq u;clear hc t s u
 go_enter func105,ntmps105
 go_wp2_with (first
  |(go_at_call 110
    refine N.out.mono ?_;rintro e w1 ⟨v,rfl,f,m⟩;have y:=j.out.later m
    have I:=jq (RF f y (λx R g O e=>by
     obtain⟨i,z⟩:=qF R;have hl:=j.out.len
     have A:i<l.length:=by
      have:=(jS.1 z).1
      simp at hl
      omega
     have o:=rec_block (j.out.at_ i (sl x) l[i] (by simp[z]) (jg A)) (Q _ (qE A)) g O;have k:=(f.lt g e.symm).1
     omega) C)
    have n:=jq m;have H:=jq (λg e=>(f.lt g e).1);obtain⟨va,vc,rfl,_,_,_,_⟩:=own_shape f;clear f y m)
  |(go_at_call 148
    refine I.out.mono ?_;rintro e w2 ⟨rfl,d,l',o,k,p,J,L,r,q,_⟩;have D:=jq k;have E:=jq p;have G:=jq r;have F:=jq (n.out.trans (q w.heap.size n.out.size H.out));clear k p q r))
 go_ret
 exact⟨_,d,l',rfl,o,D.out,E.out,J,L,G.out,F.out⟩
end Runs
namespace Runs
open Go.RowKit Go.Deep Go.Shelf Go.Lib Go.Sort Mem Crc Merge
theorem RH{α:Type}[Inhabited α](enc:α->Value)(w:World)(bk off m:Nat)(dk:Array α)(os:Array Obj)(h:Holds enc w bk off dk):Below w.heap.size w (sortWorld enc w bk off m dk os):=by
 have e:putRow enc (Sort.ahead w m) bk off dk=Sort.ahead w m:=putRow_self enc _ bk off dk h;unfold sortWorld;rw[e];exact⟨rfl,rfl,rfl,by rw[Go.Sort.size_grow];exact Nat.le_add_right _ _,λk a=>heap_grow_old _ _ a⟩
variable {w:World}
theorem holds_of{base g cap:Nat}{vs:List SL}(i:gY w base (.slice (some ⟨g,0,none⟩) vs.length cap) vs)(a:List (pV w g))(c:a.map (·.1.1)=vs):Holds encR w g 0 a.toArray:=λj l=>by
 have f:j<a.length:=by simpa using l
 have r:a.length=vs.length:=by rw[<-c];simp
 rcases i.2 with⟨h,_⟩|⟨n,m,cur,e,hb,d,o,p,q,k⟩
 ·cases h
 ·cases e
  have hc:cur.toList[j]? =some (encR a[j]):=by
   have b: (cur.toList.take (vs.length*1))[j]? =some (encR a[j]):=by
    rw[k,<-c]
    simp[jg f,encR]
   rw[jh]at b
   split at b
   ·exact b
   ·cases b
  refine⟨?_,?_⟩
  ·simp[World.cell?,d,getElem!_pos,f,<-hc]
  ·simp[World.frozen?,d]
theorem RI{base:Nat}{v:Value}{vs:List SL}{l:List B}(k:gY w base v vs)(p:bY w (vs.map sl) l)(G:∀x∈vs,∀g,Mem.blk x.1=some g->some g≠v.ownBlock)(Q:vs.length<=1000000):
  Calls prog 111 #[v,.func (.func 107) #[] #[]] w λe w'=>e=.returned (.bool (decide (aS l)))/\Below w.heap.size w w':=by
 have F:vs.length=l.length:=by simpa using p.len
 by_cases z:vs.length=0
 ·obtain⟨a,c,rfl,_,_,_,_⟩:=own_shape k;have hl:l= []:=iw (by omega);subst hl;have f:=Any.slices_IsSortedFunc_none (P:=prog) (ρ:=Tryz.isSortedRec_ren) Tryz.isSortedRec a c (.func (.func 107) #[] #[]) w
  change Calls prog 111 _ _ _ at f
  rw[z];refine f.mono ?_;rintro e w' ⟨rfl,rfl⟩;exact⟨by rw[jd List.Pairwise.nil],Below.refl _ _⟩
 have t:∀args w,(callFunc 107 args).run prog w=.ok (.enter 107 args) w:=enters_of func107 (by kernel_rfl) rfl;rcases k.2 with⟨rfl,h⟩|⟨g,cap,cur,rfl,hb,E,J,L,M,N⟩
 ·omega
 ·have D:=(dG.1 E).1;obtain⟨d,r,A⟩:=Ay w g vs l F (λi x b j hb=>p.at_ i (sl x) b (by simp[j]) hb) (λx j q hq e=>G x j q hq (by rw[e];rfl));have C:d.length=vs.length:=by rw[<-r];simp
  have o:=holds_of k d r;have f:=Any.slices_IsSortedFunc (P:=prog) (ρ:=Tryz.isSortedRec_ren) Tryz.isSortedRec (encR (w:=w) (bk:=g)) (λ_=>rfl) pW 107 #[] g 0 cap d.toArray w t (Gs w g 0 _) o D (by simp;omega)
  change Calls prog 111 _ _ _ at f
  have u:d.toArray.size=vs.length:=by simp[C]
  rw[u]at f;refine f.mono ?_;rintro e w' ⟨rfl,m,os,rfl⟩;refine⟨?_,RH _ _ _ _ _ _ _ o⟩
  congr 2
  subst A;rw[Bool.eq_iff_iff,Lib.downOK_iff,decide_eq_true_iff,wR]
  have hlt:∀i (n:i+1<d.length),(ltOf pW (d.toArray[i+1]!) (d.toArray[i]!)=false)↔(d[i]'(by omega)).1.2<=d[i+1].1.2:=λi n=>by
   rw[uF,decide_eq_false_iff_not,iM,getElem!_pos d.toArray (i+1) (by simpa using n),getElem!_pos d.toArray i (by simp;omega)]
   simp
  constructor
  ·intro h i a b ha hb;rw[List.getElem?_map,Option.map_eq_some_iff]at ha hb;obtain⟨x,j,rfl⟩:=ha;obtain⟨y,H,rfl⟩:=hb;obtain⟨R,rfl⟩:=jS.1 j;obtain⟨I,rfl⟩:=jS.1 H;exact(hlt i I).1 (h i (by omega))
  ·intro h i O;have s:i+1<d.length:=by omega
   refine(hlt i s).2 (h i _ _ ?_ ?_)
   ·rw[List.getElem?_map,jg (by omega:i<d.length)];rfl
   ·rw[List.getElem?_map,jg s];rfl
end Runs
end Go.Proofs.YtndkohocgfmamaaGreatDoor
