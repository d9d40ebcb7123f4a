/- Part. -/
import Derived.Test.YtndkohocgfmamaaGreatDoorF17
import Derived.Test.YtndkohocgfmamaaGreatDoorF28
import Derived.Sort.QuietIn
set_option maxHeartbeats 2000000
set_option maxRecDepth 100000
namespace Go.Proofs.YtndkohocgfmamaaGreatDoor
open Go.Proofs.Tryz
namespace Runs
open Go.RowKit Go.Deep Go.Shelf Mem Crc Merge Heap
structure fe(U:Nat->Prop)(ts:List TypeId)(X Y:World):Prop where
 os:Y.os=X.os
 tape:Y.tape=X.tape
 output:Y.output=X.output
 size:X.heap.size<=Y.heap.size
 block:∀k,k<X.heap.size->(U k\/typed ts X k)->Y.heap[k]? =X.heap[k]?
theorem fe.trans{U:Nat->Prop}{ts:List TypeId}{X Y Z:World}(h:fe U ts X Y)(k:fe U ts Y Z):fe U ts X Z:=
 ⟨k.os.trans h.os,k.tape.trans h.tape,k.output.trans h.output,ax h.size k.size,λi b a=>by
  have e:=h.block i b a;refine(k.block i (aD b h.size) ?_).trans e;rcases a with a|⟨d,t,fr,j,l⟩
  ·exact .inl a
  ·exact .inr ⟨d,t,fr,e▸j,l⟩⟩
theorem fe.putObj{U:Nat->Prop}{ts:List TypeId}(W:World)(l:Nat)(o h:Obj)(i:¬U l)(hl:W.heap[l]? =some o)(p:o.isCells=false):fe U ts W (W.putObj l h):=by
 have a:=grownBy_putObj' W l h;refine⟨a.os,a.tape,a.output,a.size,λk j b=>a.block k j (λe=>?_)⟩;have e:k=l:=by simpa using e
 subst e;rcases b with b|⟨q,t,fr,d,r⟩
 ·exact i b
 ·rw[hl]at d;cases d;cases p
variable {U:Nat->Prop}{ts:List TypeId}{X Y w wr:World}{g hb N c n m:Nat}{w0:Base}{x:Nat->SL}{f f':Nat->El}{all out s:List B}{y:El}{xs:List SL}
theorem fe.blk(h:fe U ts X Y){t:TypeId}{cs:Array Value}(hb:Blk X g t cs)(a:t∈ts):Blk Y g t cs:=(h.block g hb.lt (.inr ⟨cs,t,(0,0),hb,a⟩)).trans hb
theorem fe.of_below(h:Below X.heap.size X Y):fe U ts X Y:=⟨h.os,h.tape,h.output,h.size,λk a _=>h.block k a⟩
theorem fe.Gb{P:Nat->Prop}(h:Upon P X Y)(hb:∀k,P k->k<X.heap.size->¬U k/\¬typed ts X k):fe U ts X Y:=
 ⟨h.os,h.tape,h.output,h.size,λk b a=>h.block k b (λd=>by
  have:=hb k d b;rcases a with a|a
  ·exact this.1 a
  ·exact this.2 a)⟩
abbrev lW:List TypeId:=[202,120]
theorem bZ.keep(h:bZ w0 X hb g N c x)(k:fe w0.U lW X Y):bZ w0 Y hb g N c x:=by
 obtain⟨a,b,d⟩:=h.row;exact⟨k.blk h.cell (by simp),⟨a,k.blk b (by simp),d⟩,h.le,⟨ax h.below.size k.size,λq hq=>(k.block q (aD (w0.lt q hq) h.below.size) (.inl hq)).trans (h.below.block q hq)⟩,h.old,h.few⟩
theorem bZ.fr{w0:Base}{X Y:World}{hb g N c:Nat}{x:Nat->SL}(h:bZ w0 X hb g N c x){bs:List Nat}(d:Only bs X Y)(e:∀k∈bs,k=hb\/k=g):Fr w0.w.heap.size lW X Y:=by
 obtain⟨i,a,j⟩:=h.row;refine d.fr (λk b=>.inl ?_);rcases e k b with rfl|rfl
 ·exact⟨h.old.1,⟨_,_,(0,0),h.cell,by simp⟩⟩
 ·exact⟨h.old.2,⟨_,_,(0,0),a,by simp⟩⟩
def dD(f:Nat->El):Nat->Row:=λk=>(f k).2
theorem uD(f:Nat->El)(n:Nat): (row f n).map Prod.snd=row (dD f) n:=by simp[row,dD,Function.comp_def]
theorem Gc(h: (row f n).Perm (row f' m)): (row (dD f) n).Perm (row (dD f') m):=by
 have:=h.map Prod.snd
 rwa [uD,uD]at this
theorem mem_row{α:Type}{f:Nat->α}{x:α}:x∈row f n↔∃k,k<n/\f k=x:=by simp[row]
theorem Q9(h:∀e∈row f m,aS e.2.1)(a:∀e∈row f' n,e∈row f m):∀c,c<n->aS (dD f' c).1:=λc hc=>h _ (a _ (mem_row.2 ⟨c,hc,rfl⟩))
theorem Ra(d:Heap dz f' 0 n)(a: (row f' n).Perm (row f n))(i:∀e∈row f n,aS e.2.1)(ha: (recs (dD f) n).Perm all):Inv all [] (dD f') n:=
 ⟨d,Q9 i (λe b=>a.mem_iff.1 b),List.Pairwise.nil,λo h=>(by simp at h),(Gd (Gc a)).trans ha⟩
theorem Rb(h:Inv all out (dD f) (n+1))(d: (f 0).2.1= [hd (f 0).2])(i:Heap dz f' 0 n)(l: (f 0 ::row f' n).Perm (row f (n+1))):Inv all (out++ [hd (f 0).2]) (dD f') n:=by
 have a: (dD f 0 ::row (dD f') n).Perm (row (dD f) (n+1)):=by
  have:=l.map Prod.snd
  rwa [List.map_cons,uD,uD]at this
 refine Merge.step h i (λc hc=>?_) (Rc d a);have b:dD f' c∈row (dD f) (n+1):=a.mem_iff.1 (eD _ (mem_row.2 ⟨c,hc,rfl⟩));obtain⟨k,j,e⟩:=mem_row.1 b;rw[<-e];exact h.rises k j
theorem Rf(h:Inv all out (dD f) n)(j:0<n)(i: (f 0).2.1=hd (f 0).2 ::y.2.1)(o:Heap dz f' 0 n)(q: (row f' n).Perm (row (put f 0 y) n)):Inv all (out++ [hd (f 0).2]) (dD f') n:=by
 have e:dD (put f 0 y)=put (dD f) 0 y.2:=by
  funext k
  unfold dD put
  split <;> rfl
 have a:=Gc q;rw[e]at a;refine Merge.step h o (λc hc=>?_) (Rh j i a);obtain⟨k,p,l⟩:=mem_row.1 (a.mem_iff.1 (mem_row.2 ⟨c,hc,rfl⟩));rw[<-l]
 by_cases b:k=0
 ·subst b;rw[rz];have d:=h.rises 0 j;rw[show(dD f 0).1=hd (f 0).2 ::y.2.1 from i]at d;exact(eF.1 d).2
 ·rw[ku _ _ b];exact h.rises k p
theorem heap_put(h:Heap dz f 0 n):Heap dz (put f 0 y) 1 n:=λc a hc b=>by
 have:=ru a;rw[ku _ _ (by omega),ku _ _ (by omega)];exact h c a hc (aC _)
def tl(x:SL):SL:=(if x.2.2=1 then x.1 else x.1.map (·.add 1),x.2.1-1,x.2.2-1)
theorem Ri{x:SL}{b:B}{t:List B}(h:RowB w U (x,b ::t)):RowB w U (tl x,t):=by
 obtain⟨a,c,vs,e,l,i,j,o,q,u⟩:=h;dsimp only at e l i q;subst e;simp only[List.length_cons]at l i;unfold tl;dsimp only
 by_cases hc:c=1
 ·have z:t= []:=iw (by omega);subst z;refine⟨if c=1 then a else a.map (·.add 1),c-1,[],rfl,by simp,rfl,.inl rfl,λg d=>?_,rA w,λy k=>by simp at k⟩;rw[if_pos hc]at d;exact o g d
 ·rw[if_neg hc];refine⟨a.map (·.add 1),c-1,vs.drop 1,by simp,by dsimp only;omega,by simp;omega,?_,λg d=>o g ?_,by have:=q.drop 1;simpa using this,λy k g d=>u y (List.mem_of_mem_drop k) g d⟩
  ·rcases j with j|⟨g,off,e,d,v⟩
   ·rw[dM]at j;rw[j]at i
    simp at i
   ·subst e;have r: (⟨g,off,none⟩:Addr).add 1=⟨g,off+1,none⟩:=by unfold Addr.add;split <;> simp_all
    show Lies w (some ((⟨g,off,none⟩:Addr).add 1)) _;rw[r,jV];exact Lies.drop (.inr ⟨g,off,rfl,d,v⟩) 1
  ·cases a with
   |none=>cases d
   |some p=>exact d
theorem Rj(x:SL)(e:1<=x.2.1)(h:x.2.1<=x.2.2)(W:World): (Instr.sliceAt 120 (sl x) (some (.int .i64 1)) none none).run prog W=.ok (sl (tl x)) W:=by
 obtain⟨a,n,c⟩:=x;have b:prog.elem 120=84:=by kernel_rfl
 have d:prog.underlying 120=some (.slice (prog.elem 120)):=by rw[b];exact underlying120
 have i:∀W:World,(sizeOf 84).run prog W=.ok 1 W:=λW=>by kernel_rfl
 unfold sl tl;dsimp only at e h⊢;rw[run_sliceAt_slice W _ _ _ _ _ d,run_slice_l W _ _ _ _ d .i64 (1:Int) (by omega) (by omega),b,i]
 simp[Result.andThen,sliced]
theorem Gf(w:World)(U:Nat->Prop):∀(rs:List (SL×List B)),(∀r∈rs,RowB w U r/\aS r.2)->∃L:List El,L.map Prod.fst=(rs.map Prod.fst).filter keep/\(∀e∈L,RowB w U (e.1,e.2.1)/\aS e.2.1)/\(L.map (λe=>e.2.1)).flatten=(rs.map Prod.snd).flatten
 | [],_=>⟨[],rfl,λ_ h=>(by simp at h),rfl⟩
 |r ::t,h=>by
  obtain⟨L,i,j,k⟩:=Gf w U t (λx p=>h x (eD _ p));have o:=h r (by simp);obtain⟨⟨a,n,c⟩,l⟩:=r;obtain⟨⟨a',c',vs,e,_⟩,_⟩:=id o
  have d:n=l.length:=by
   have:=congrArg (λq:SL=>q.2.1) e
   simpa using this
  by_cases hl:l= []
  ·subst hl;refine⟨L,?_,j,?_⟩
   ·rw[i,List.map_cons,jF,if_neg (by unfold keep;simp[d])]
   ·rw[k];simp
  ·have u:0<l.length:=lD.2 hl;refine⟨((a,n,c),⟨l,hl⟩)::L,?_,λe b=>?_,?_⟩
   ·rw[List.map_cons,i,List.map_cons,jF,if_pos (by unfold keep;simp[d];omega)]
   ·rcases List.mem_cons.1 b with rfl|b
    ·exact o
    ·exact j e b
   ·rw[List.map_cons,List.flatten_cons,k];simp
def places(L:List El):Nat->El:=λk=>L.getD k ((none,0,0),⟨[[]],by simp⟩)
theorem Gg(L:List El):row (places L) L.length=L:=by
 apply List.ext_getElem
 ·simp[Rk]
 ·intro i b a
  simp[row,places,a]
theorem Gh(L:List El){k:Nat}{e:El}(h:L[k]? =some e):places L k=e:=by simp[places,h]
attribute [local go_sem] Oper.semAt_some
abbrev Told:=SL×B
def told(x:Told):Array Value:=#[sl x.1]
def Ar(s:List B)(B0:Nat)(pre:List Told)(x:Told)(W:World):Prop:=pre.map Prod.snd++ [x.2] <+:s/\ak W B0 (sl x.1) x.2
structure Going(w0:Base)(wr:World)(hb g n c:Nat)(f:Nat->El)(all:List B)(pre:List Told):Prop where
 heads:bZ w0 wr hb g n c (λk=>(f k).1)
 up:Up w0 f n
 inv:Inv all (pre.map Prod.snd) (dD f) n
def xu(w0:Base)(hb g c:Nat)(all:List B)(J:List Told->World->Prop)(wr:World):Prop:=
 ∃(n:Nat) (f:Nat->El) (pre:List Told),Going w0 wr hb g n c f all pre/\J pre wr
theorem Rl{base:Nat}{v:Value}(h:OwnR w base v xs)(p:0<xs.length):∃g cap,v=.slice (some ⟨g,0,none⟩) xs.length cap/\xs.length<=cap/\nX w g xs/\base<=g/\g<w.heap.size:=by
 rcases h.2 with⟨_,e⟩|⟨g,cap,cur,rfl,hb,a,d,j,l,i⟩
 ·omega
 ·refine⟨g,cap,rfl,d,⟨cur,a,λk y b=>?_⟩,hb,Blk.lt (t:=120) a⟩;have o:=(jS.1 b).1;rw[<-mo];have e: (cur.toList.take (xs.length*1))[k]? =some (sl y):=by rw[i,List.getElem?_map,b];rfl
  rw[jh]at e
  split at e
  ·exact e
  ·cases e
theorem Rm(h:nX w g xs)(hb:Keeps w0 w)(j:w0.w.heap.size<=g)(_:g<w.heap.size)(hc:xs.length<=c)(i:xs.length<=1000000)(o:∀(k:Nat) (y:SL),xs[k]? =some y->x k=y):
  bZ w0 (w.alloc (.cells #[.slice (some ⟨g,0,none⟩) xs.length c] 202)) w.heap.size g xs.length c x:=by
 obtain⟨b,d,e⟩:=h.row;refine⟨Blk.new w _ _,⟨b,d.alloc _,λk l=>?_⟩,hc,hb.below ((Below.refl _ w).alloc jn _) hb.size,⟨hb.size,j⟩,i⟩;obtain⟨y,a⟩:∃y,xs[k]? =some y:=⟨xs[k],jg l⟩;rw[o k y a];exact e k y a
def left(hb g:Nat)(w:World):Nat:=
 match w.cell? ⟨hb,0,none⟩with
 |some (.slice _ n _)=>((List.range n).map (λk=>match w.cell? ⟨g,k,none⟩with|some (.slice _ m _)=>m|_=>0)).sum
 |_=>0
theorem Rn(f:Nat->El)(n:Nat): (recs (dD f) n).length=((List.range n).map (λk=>(f k).2.1.length)).sum:=by
 unfold recs row dD
 simp[List.length_flatten,Function.comp_def]
theorem Ro(h:bZ w0 w hb g n c (λk=>(f k).1))(d:Up w0 f n):left hb g w=(recs (dD f) n).length:=by
 have i:w.cell? ⟨hb,0,none⟩=some (.slice (some ⟨g,0,none⟩) n c):=(Down.refl 0 h d).cell;obtain⟨o,j,l⟩:=h.row;unfold left;rw[i,Rn];show(List.map _ _).sum=_
 congr 1
 apply qI
 intro k b;have b:=List.mem_range.1 b;have c1:=(j.cell k).trans (l k b);obtain⟨a,q,vs,e,_⟩:=(d k b).at_;rw[c1,e]
theorem Going.left{w0:Base}{wr:World}{hb g n c:Nat}{f:Nat->El}{all:List B}{pre:List Told}(h:Going w0 wr hb g n c f all pre):pre.length+left hb g wr=all.length:=by
 rw[Ro h.heads h.up];have:=h.inv.same.length_eq
 simpa using this
variable {pre:List Told}
theorem Going.ends(h:Going w0 wr hb g n c f all pre)(d:n=0)(a:aS s)(b:s.Perm all):pre.map Prod.snd=s:=by
 subst d;have hd:=Merge.done h.inv;exact Au hd.1 a (hd.2.trans b.symm)
theorem Rp{x:SL}{r:Row}(h:FO w (sl x) r.1):∃(p:Addr) (b:Option Addr) (i:Nat),x.1=some p/\x.2.1=r.1.length/\x.2.1<=x.2.2/\w.cell? p=some (.slice b (hd r).length i)/\Lies w b ((hd r).map bv):=by
 obtain⟨a,c,vs,e,B,d,t⟩:=h;have D:0<r.1.length:=lD.2 r.2;have hl:=t.len;obtain⟨F,G,xc⟩:=x;unfold sl at e;injection e with j l k;dsimp only at j l k⊢;subst j l k;rcases d with d|⟨q,o,z,_,hc⟩
 ·rw[d]at hl
  simp at hl
  omega
 ·obtain⟨v,u⟩:∃v,vs[0]? =some v:=⟨vs[0],jg (by omega)⟩
  have A:r.1[0]? =some (hd r):=by
   have:=wY r
   rwa [List.head?_eq_getElem?]at this
  obtain⟨b,i,rfl,E,C⟩:=t.at_ 0 v _ u A;exact⟨⟨q,o,none⟩,b,i,z,rfl,B,hc 0 _ u,C⟩
theorem uE(r:Row):∃t,r.1=hd r ::t:=⟨r.1.tail,by
 obtain⟨l,hl⟩:=r
 cases l with
 |nil=>exact absurd rfl hl
 |cons a t=>rfl⟩
theorem bZ.front(h:bZ w0 w hb g N c x)(i:0<N)(y:SL):bZ w0 ((w.setCell ⟨g,0,none⟩ (sl y)).drew) hb g N c (put x 0 y)/\Only [g] w ((w.setCell ⟨g,0,none⟩ (sl y)).drew):=by
 obtain⟨q,d,b⟩:=h.row;have l:=h.ne;have a:Only [g] w ((w.setCell ⟨g,0,none⟩ (sl y)).drew):=((Only.refl [g] w).set (p:=⟨g,0,none⟩) (.inl (by simp)) _).drew;have o:=(dG.1 (b 0 i)).1;refine⟨⟨Blk.only h.cell a (by simpa using l),⟨_,(d.set 0 (sl y)).drew,λj k=>?_⟩,h.le,h.below.only a (by simpa using h.old.2),h.old,h.few⟩,a⟩;rw[kI];unfold put
 by_cases e:j=0
 ·subst e;rw[if_pos rfl,if_pos rfl,if_pos o]
 ·rw[if_neg (gL e),if_neg e];exact b j k
theorem Going.next(h:Going w0 wr hb g (n+1) c f all pre)(b:aS s)(d:s.Perm all):pre.map Prod.snd++ [hd (f 0).2] <+:s/\pre.length<s.length:=by
 have r:=Rq h.inv b d;obtain⟨t,a⟩:=r;have v:s.length=all.length:=d.length_eq;have hl:=h.inv.same.length_eq
 have z:0<(recs (dD f) (n+1)).length:=lD.2 (λe=>by
  have:hd (f 0).2∈recs (dD f) (n+1):=xw.2 ⟨0,by omega,by
   obtain⟨t,a⟩:=uE (f 0).2;rw[show(dD f 0).1=(f 0).2.1 from rfl,a]
   simp⟩
  rw[e]at this;cases this)
 simp at hl
 refine⟨?_,by omega⟩;have j:=congrArg List.length a
 simp at j
 cases t with
 |nil=>simp at j;omega
 |cons x t=>
  have u:x=hd (f 0).2:=by
   have k: (x ::t).Perm (recs (dD f) (n+1)):=by
    have i:=(d.trans h.inv.same.symm);rw[<-a]at i;exact(List.perm_append_left_iff _).1 i
   have q:aS (x ::t):=by
    rw[<-a]at b;exact(gM.1 b).2.1
   have o:hd (f 0).2∈x ::t:=k.mem_iff.2 (xw.2 ⟨0,by omega,by
    obtain⟨t,a⟩:=uE (f 0).2;rw[show(dD f 0).1=(f 0).2.1 from rfl,a]
    simp⟩)
   have p:hd (f 0).2<=x:=least h.inv x (k.mem_iff.1 (by simp));rcases List.mem_cons.1 o with e|l
   ·exact e.symm
   ·exact List.le_antisymm ((eF.1 q).1 _ l) p
  exact⟨t,by rw[<-a,u];simp⟩
theorem Rs(n:Nat)(_:2<=n)(l Bs:Nat){rs:List (SL×List B)}{ad:Addr}(hL:Lies w0.w (some ad) (rs.map (λr=>sl r.1)))(_:rs.length<=c)(e5:0<rs.length)(b6:rs.length<=1000000)(b9:∀r∈rs,RowB w0.w w0.U r/\aS r.2)(b1: ((rs.map Prod.snd).flatten).Perm all)(c3:aS s)(c4:s.Perm all)(c5:∀b∈all,b.length<=1000000)(_:Bs<w0.w.heap.size)(J Jx:List Told->World->Prop)(hJ:∀s X Y,J s X->Fr w0.w.heap.size lW X Y->J s Y)(a4:∀s X Y,Jx s X->Fr w0.w.heap.size lW X Y->Jx s Y)(hY:∀pre x W,J pre W->pre.length<s.length->Ar s w0.w.heap.size pre x W->YieldAt Fence.wide (n-1) prog l (told x) W λe F=>
   (e=.returned (.bool true)/\J (pre++ [x]) F/\fe w0.U lW W F)\/(e=.returned (.bool false)/\Jx (pre++ [x]) F))(W:World)(hB:Below w0.w.heap.size w0.w W)(hcs:W.cell? ⟨Bs,0,none⟩=some (.slice (some ad) rs.length c))(G:J [] W):
  CallsIn Fence.wide n prog 112 #[.func (.yield l) #[] #[],.pointer (some ⟨Bs,0,none⟩)] W λe F=>(∃v,e=.returned v)/\
   ((∃xs,xs.map Prod.snd=s/\J xs F)\/(∃pre,pre.map Prod.snd <+:s/\Jx pre F)):=by
 have HC:=jq (Qw ad c (rs.map Prod.fst) W (by rw[List.map_map];exact(hL.later hB)) (by simpa using b6));rw[jP]at HC;have HB:=jq hB;have d5:=jq b9;have d0:=jq b1;have z5:=jq c3;have z6:=jq c4;have d6:=jq c5;have HY:=jq hY;have P:=jq hJ;have e8:=jq a4;have H0:=jq G;clear hL hB b9 b1 c3 c4 c5 hY hJ a4 G;refine callsIn_of_wp func112 rfl trivial ?_ rfl;simp only[ntmps112,List.size_toArray,List.length_cons,List.length_nil,Nat.reduceAdd,Nat.reduceSub,Array.replicate_succ,Array.replicate_zero,List.push_toArray,List.append_toArray,List.nil_append,List.cons_append];refine wpIn_wide.2 (wp_scope_straight ((wpIn_wide (n:=n)).1 ?_))
 gi_wp2_with fail
 refine⟨trivial,(λh=>by cases h),CallsIn.mono (callsIn_wide.2 HC.out) ?_⟩;rintro e w1 ⟨v,rfl,hO,z9⟩;have a8:=Rl hO (by simpa using e5);rw[jP]at a8;obtain⟨g,cap,rfl,e4,a9,y3,b3⟩:=a8;have HD:=jq (Q8 w1 g rs.length cap (rs.map Prod.fst) (by simp) a9 b6 e4);have y5:=jq z9;clear a9 hO z9 HC
 gi_wp2_with fail
 refine⟨trivial,(λh=>by cases h),CallsIn.mono (callsIn_wide.2 HD.out) ?_⟩;rintro e w2 ⟨rfl,y1,x9⟩;obtain⟨L,h5,a5,a6⟩:=Gf w0.w w0.U rs d5.out
 have f3:L.length<=rs.length:=by
  have C: (L.map Prod.fst).length<=(rs.map Prod.fst).length:=by rw[h5];exact rX _ _
  simpa using C
 have a7: ((rs.map Prod.fst).filter keep).length=L.length:=by rw[<-h5,jP]
 rw[<-h5]at y1;have h8:Below W.heap.size W w2:=y5.out.trans (x9.below y5.out.size (by simpa using y3));have y2:=HB.out.size
 have x7:=Rm (w0:=w0) (c:=cap) (x:=λk=>(places L k).1) y1 (show Keeps w0 w2 from⟨ax y2 h8.size,λk j=>(h8.block k (aD (w0.lt k j) y2)).trans (HB.out.block k (w0.lt k j))⟩) (by omega) (aD b3 x9.size) (by rw[jP];omega) (by rw[jP];omega) (λk y M=>by
  rw[List.getElem?_map,Option.map_eq_some_iff]at M;obtain⟨e,H,rfl⟩:=M;rw[Gh L H])
 rw[jP]at x7;rw[a7];have z0:=jq x7;have h2:=jq h8;have HL:=jq (And.intro a5 a6);clear y1 x9 h5 a5 a6 a7 x7 h8 HD
 gi_wp2_with fail
 refine⟨trivial,(λh=>by cases h),CallsIn.mono (callsIn_wide.2 (QU z0.out (λk j=>by
  obtain⟨e,H⟩:∃e,L[k]? =some e:=⟨L[k],jg j⟩;rw[Gh L H];exact(HL.out.1 e (jM H)).1))) ?_⟩
 rintro e w4 ⟨rfl,f0,d,z,u⟩;have b2:Below W.heap.size W w4:=(h2.out.alloc h2.out.size _).trans (u.below (by have:=h2.out.size;simp;omega) (by simpa using y3))
 have c6:xu w0 w2.heap.size g cap all J w4:=⟨L.length,f0,[],⟨d.heads,d.up,Ra d.heap z (by rw[Gg];exact λe H=>(HL.out.1 e H).2) (by
  unfold recs;rw[<-uD,Gg,List.map_map];have:=HL.out.2;rw[show(L.map (Subtype.val∘Prod.snd)).flatten=(rs.map Prod.snd).flatten from this];exact d0.out)⟩,P.out _ _ _ H0.out (Fr.of_below b2)⟩
 have z7:=jq c6;obtain⟨hb,b4⟩:=jl w2.heap.size;rw[<-b4]at z7⊢;clear d z u b2 c6 z0 h2 HL b4 H0 b3 y3 y2
 gi_wp2_with fail
 refine wpIn_label ?_
 gi_wp2_with fail
 gi_loopw [] (xu w0 hb g cap all J) (λwr=>left hb g wr)
 case atStart=>exact z7.out
 case round=>
  obtain⟨m,f,pre,S,a3⟩:=hrel;have c0:wr.cell? ⟨hb,0,none⟩=some (.slice (some ⟨g,0,none⟩) m cap):=(Down.refl 0 S.heads S.up).cell;have f5:=S.heads.few;have a:=jq S;have z3:=jq a3;have z4:=jq (xg wr (some ⟨g,0,none⟩) m cap);clear S a3
  cases m with
  |zero=>
   have HE:=jq (a.out.ends rfl z5.out z6.out)
   gi_wp2_with fail
   refine⟨trivial,(λh=>by cases h),CallsIn.mono (callsIn_wide.2 z4.out) ?_⟩;rintro e w5 ⟨rfl,rfl⟩
   gi_wp2_with fail
   simp only[Exit.noGoto_normal]
   go_end0
   exact⟨⟨_,rfl⟩,.inl ⟨pre,HE.out,z3.out⟩⟩
  |succ m=>
   obtain⟨cs,i,o⟩:=a.out.heads.row;have c1:=(i.cell 0).trans (o 0 (by omega));obtain⟨p,ra,rc,ep,en,enc,c2,x8⟩:=Rp ((a.out.up 0 (by omega)).keep a.out.heads.below).at_;obtain⟨x0,y4⟩:=jl ((f 0).1);obtain⟨b,h7⟩:=jl (hd (f 0).2);rw[<-y4]at c1 ep en enc;rw[<-h7]at c2 x8;have h6:=Rj x0 (by rw[en];exact lD.2 (f 0).2.2) enc;have z8:=jq y4;have x2:=jq h7;have x3:=jq en;have e7:=jq enc;obtain⟨nx,f6⟩:=jl (m+1)
   have f4:b.length<=1000000:=d6.out b (a.out.inv.same.mem_iff.1 (List.mem_append_right _ (xw.2 ⟨0,by omega,by
    obtain⟨t,A⟩:=uE (f 0).2;rw[show(dD f 0).1=(f 0).2.1 from rfl,A,h7]
    simp⟩)))
   have y6:=jq (lS ra rc b wr x8 (by omega));obtain⟨xa,xn,xc⟩:=x0;dsimp only at ep;subst ep;unfold sl at c1 h6;dsimp only at c1 h6;have f9:1<=xn:=by have:=x3.out;dsimp only at this;rw[this];exact lD.2 (f 0).2.2
   obtain⟨q,rfl⟩:∃q,xn=q+1:=⟨xn-1,by omega⟩;obtain⟨O,c8⟩:=jl ((tl ((some p,q+1,xc):SL)).1);have I:tl ((some p,q+1,xc):SL)=(O,q,xc-1):=by rw[c8];rfl
   rw[I]at h6;dsimp only at h6;have d7:=jq I;clear c8 I;have fz:=i.frozen 0;clear i o y4 h7 en enc x8
   gi_wp2_with fail
   refine⟨trivial,(λh=>by cases h),CallsIn.mono (callsIn_wide.2 z4.out) ?_⟩;rintro e w5 ⟨rfl,rfl⟩
   gi_wp2_with fail
   refine⟨trivial,(λh=>by cases h),CallsIn.mono (callsIn_wide.2 y6.out) ?_⟩;rintro e w6 ⟨v6,rfl,y0,x5⟩;obtain⟨va,vc,rfl,_,_,_,_⟩:=own_shape y0;have Z:=a.out.next z5.out z6.out;rw[<-x2.out]at Z;have a2:=P.out _ _ _ z3.out (Fr.of_below x5);have e6:=a.out.heads.below.size;obtain⟨fn,g0,assign,body,M,hR⟩:=HY.out pre ((va,b.length,vc),b) w6 a2 Z.2 ⟨Z.1,bH y0 e6⟩;have y9:=jq (a.out.heads.keep (fe.of_below x5));have d2:=jq Z.1;unfold told sl at M;dsimp only at M;clear y0 x5 Z a2 y6
   gi_wp2_with fail
   refine⟨(λh=>by cases h),hR.mono ?_⟩;rintro e W3 (⟨rfl,a0,b5⟩|⟨rfl,e3⟩)
   ·have V:=y9.out.keep b5;have D:=V.front (by omega) ((O,q,xc-1):SL);obtain⟨f1,i,o⟩:=V.row;have h4:=(i.cell 0).trans (o 0 (by omega));rw[<-z8.out]at h4;unfold sl at h4;dsimp only at h4;have e0:=i.frozen 0
    have d9:W3.cell? ⟨hb,0,none⟩=some (.slice (some ⟨g,0,none⟩) (m+1) cap):=by
     have:=V.cell.cell 0
     simpa using this
    have y7:=jq D;have z1:=jq a0;have y8:=jq V;clear b5 V D a0 i o M y9 c0 c1 c2 fz
    gi_wp2_with fail
    gi_region
    obtain⟨W4,b0⟩:=jl ((W3.setCell ⟨g,0,none⟩ (.slice O q (xc-1))).drew);have D:=y7.out;unfold sl at D;dsimp only at D;rw[<-b0]at D⊢;obtain⟨h9,b7⟩:=D;obtain⟨f2,i,o⟩:=h9.row;have x4:=(i.cell 0).trans (o 0 (by omega));rw[rz]at x4;unfold sl at x4;dsimp only at x4
    have e9:W4.cell? ⟨hb,0,none⟩=some (.slice (some ⟨g,0,none⟩) (m+1) cap):=by
     have:=h9.cell.cell 0
     simpa using this
    have a1:=P.out _ _ _ z1.out (y8.out.fr b7 (by simp));have h3:=jq h9;have z2:=jq a1;clear b0 h9 b7 i o a1 y7 z1 y8 d9 h4 e0
    by_cases hq:q=0
    ·subst hq;have d4:=jq (QY (w:=W4) (n:=m) (f:=f) (x0:=(O,0,xc-1)) h3.out (λk G j=>a.out.up k j) a.out.inv.heap)
     have C: (f 0).2.1= [hd (f 0).2]:=by
      obtain⟨t,A⟩:=uE (f 0).2;have:=x3.out
      try dsimp only at this
      rw[A]at this⊢;simp only[List.length_cons]at this;rw[iw (show t.length=0 by omega)]
     have d3:=jq C;clear C
     gi_wp2_with fail
     refine⟨trivial,(λh=>by cases h),CallsIn.mono (callsIn_wide.2 d4.out) ?_⟩;rintro e E ⟨⟨v7,rfl⟩,R,d,z,u⟩
     have Q:=jq (show xu w0 hb g cap all J E/\left hb g E<left hb g wr from by
      have T:Going w0 E hb g m cap R all (pre++ [((va,b.length,vc),b)]):=⟨d.heads,d.up,by
       rw[aZ,show [((va,b.length,vc),b)].map Prod.snd= [hd (f 0).2]by rw[<-x2.out];rfl];exact Rb a.out.inv d3.out d.heap z⟩
      refine⟨⟨m,R,_,T,P.out _ _ _ z2.out (h3.out.fr u (by simp))⟩,?_⟩;have e1:=T.left;have e2:=a.out.left
      simp at e1
      omega)
     clear d z u
     gi_wp2_with fail
     go_roundw
     case rel=>exact Q.out.1
     case measure=>exact Q.out.2
    ·have f8: ((q:Int)==0)=false:=by simpa using hq
     obtain⟨t,A⟩:=uE (f 0).2
     have I:t.length=q:=by
      have:=x3.out
      try dsimp only at this
      rw[A]at this;simp only[List.length_cons]at this
      omega
     have c7:t≠[]:=λe=>hq (by rw[<-I,e];rfl)
     obtain⟨y,x1⟩:∃y:El,y=((O,q,xc-1),⟨t,c7⟩):=⟨_,rfl⟩
     have b8: (λk=>(put f 0 y k).1)=put (λk=>(f k).1) 0 (O,q,xc-1):=by
      funext k
      unfold put
      split
      ·rw[x1]
      ·rfl
     have x6:=h3.out;rw[<-b8]at x6
     have c9:Up w0 (put f 0 y) (m+1):=λk j=>by
      by_cases e:k=0
      ·subst e;rw[rz,x1];have G:=a.out.up 0 j;rw[<-z8.out,A]at G;have C:=Ri G;rw[d7.out]at C;exact C
      ·rw[ku _ _ e];exact a.out.up k j
     have d1:=jq (Q6 x6 c9 (heap_put a.out.inv.heap));have d8:=jq (show(f 0).2.1=hd (f 0).2 ::y.2.1 by rw[x1];exact A);clear x6 c9 b8 x1 I A c7
     gi_wp2_with fail
     refine⟨trivial,(λh=>by cases h),CallsIn.mono (callsIn_wide.2 d1.out) ?_⟩;rintro e E ⟨rfl,R,d,z,u⟩
     have Q:=jq (show xu w0 hb g cap all J E/\left hb g E<left hb g wr from by
      have T:Going w0 E hb g (m+1) cap R all (pre++ [((va,b.length,vc),b)]):=⟨d.heads,d.up,by
       rw[aZ,show [((va,b.length,vc),b)].map Prod.snd= [hd (f 0).2]by rw[<-x2.out];rfl];exact Rf a.out.inv (by omega) d8.out d.heap z⟩
      refine⟨⟨m+1,R,_,T,P.out _ _ _ z2.out (h3.out.fr u (by simp))⟩,?_⟩;have e1:=T.left;have e2:=a.out.left
      simp at e1
      omega)
     clear d z u
     gi_wp2_with fail
     go_roundw
     case rel=>exact Q.out.1
     case measure=>exact Q.out.2
   ·gi_wp2_with fail
    simp only[Exit.noGoto_ret];refine bodyPost_ret (results_none rfl _ _ _) rfl ?_;exact⟨⟨_,rfl⟩,.inr ⟨pre++ [((va,b.length,vc),b)],by rw[aZ];exact d2.out,e3⟩⟩
theorem merge_any(w:World)(a:Option Addr)(n c:Nat):Calls prog 72 #[.slice a n c] w λe w'=>e=.returned (.func (.func 112) #[] #[.pointer (some ⟨w.heap.size,0,none⟩)])/\w'=w.alloc (.cells #[.slice a n c] 148):=by
 go_enter func72,ntmps72
 go_wp2_with fail
 go_ret
 exact⟨rfl,rfl⟩
open oW in
theorem Gi(n:Nat)(A:2<=n)(a:Nat){w0:Base}{rs:List (SL×List B)}{d:Addr}{c:Nat}{all s:List B}(q:Lies w0.w (some d) (rs.map (λr=>sl r.1)))(v:rs.length<=c)(C:0<rs.length)(z:rs.length<=1000000)(D:∀r∈rs,RowB w0.w w0.U r/\aS r.2)(u: ((rs.map Prod.snd).flatten).Perm all)(E:aS s)(F:s.Perm all)(G:∀b∈all,b.length<=1000000)(h:a<w0.w.heap.size)(hcs:w0.w.cell? ⟨a,0,none⟩=some (.slice (some d) rs.length c)):
  vL Fence.wide n prog 112 #[.pointer (some ⟨a,0,none⟩)] told (Fr w0.w.heap.size lW) (fe w0.U lW) (Ar s w0.w.heap.size) (λxs=>xs.map Prod.snd=s) (λpre=>pre.map Prod.snd <+:s) s.length w0.w:=
 λl J i W e k o t j=>Rs n A l a q v C z D u E F G h J i k o t W e ((e.cell (p:=⟨a,0,none⟩) h).trans hcs) j
end Runs
end Go.Proofs.YtndkohocgfmamaaGreatDoor
