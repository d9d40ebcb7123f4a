/- Part. -/
import Derived.Test.YtcdcnhecimajkaaGreatDoorF0
import Derived.Test.YtcdcnhecimajkaaGreatDoorF8
import Derived.Test.YtcdcnhecimajkaaGreatDoorF9
namespace Go.Proofs.YtcdcnhecimajkaaGreatDoor
namespace Runs
open Go.RowKit Go.Deep Go.Shelf Mem Crc Merge Heap
structure KeepT (U:Nat->Prop) (ts:List TypeId) (X Y:World):Prop where
 os:Y.os=X.os
 tape:Y.tape=X.tape
 output:Y.output=X.output
 size:X.heap.size<=Y.heap.size
 block:∀k,k<X.heap.size->(U k\/typed ts X k)->Y.heap[k]? =X.heap[k]?
theorem KeepT.trans {U:Nat->Prop} {ts:List TypeId} {X Y Z:World} (h:KeepT U ts X Y) (k:KeepT U ts Y Z):KeepT U ts X Z:=
 ⟨k.os.trans h.os,k.tape.trans h.tape,k.output.trans h.output,Nat.le_trans h.size k.size,λi hi hn=>by
  have e:=h.block i hi hn;refine(k.block i (Nat.lt_of_lt_of_le hi h.size) ?_).trans e;rcases hn with hn|⟨cs,t,fr,h1,h2⟩
  ·exact .inl hn
  ·exact .inr ⟨cs,t,fr,e▸h1,h2⟩⟩
theorem KeepT.putObj {U:Nat->Prop} {ts:List TypeId} (W:World) (l:Nat) (o o':Obj) (hU:¬U l) (hl:W.heap[l]? =some o) (ho:o.isCells=false):KeepT U ts W (W.putObj l o'):=by
 have hg:=grownBy_putObj' W l o';refine⟨hg.os,hg.tape,hg.output,hg.size,λk hk hn=>hg.block k hk (λe=>?_)⟩;have e:k=l:=by simpa using e
 subst e;rcases hn with hn|⟨cs,t,fr,h1,h2⟩
 ·exact hU hn
 ·rw[hl]at h1;cases h1;cases ho
theorem KeepT.blk {U:Nat->Prop} {ts:List TypeId} {X Y:World} (h:KeepT U ts X Y) {g:Nat} {t:TypeId} {cs:Array Value} (hb:Blk X g t cs) (ht:t∈ts):Blk Y g t cs:=(h.block g hb.lt (.inr ⟨cs,t,(0,0),hb,ht⟩)).trans hb
theorem KeepT.of_below {U:Nat->Prop} {ts:List TypeId} {X Y:World} (h:Below X.heap.size X Y):KeepT U ts X Y:=⟨h.os,h.tape,h.output,h.size,λk hk _=>h.block k hk⟩
theorem KeepT.of_upon {U:Nat->Prop} {ts:List TypeId} {X Y:World} {P:Nat->Prop} (h:Upon P X Y) (hb:∀k,P k->k<X.heap.size->¬U k/\¬typed ts X k):KeepT U ts X Y:=
 ⟨h.os,h.tape,h.output,h.size,λk hk hn=>h.block k hk (λhm=>by
  have:=hb k hm hk;rcases hn with hn|hn
  ·exact this.1 hn
  ·exact this.2 hn)⟩
abbrev mineT:List TypeId:=[170,25]
theorem Heads.keep {w0:Base} {X Y:World} {hb g N c:Nat} {x:Nat->SL} (h:Heads w0 X hb g N c x) (k:KeepT w0.U mineT X Y):Heads w0 Y hb g N c x:=by
 obtain⟨cs,h1,h2⟩:=h.row;exact⟨k.blk h.cell (by simp),⟨cs,k.blk h1 (by simp),h2⟩,h.le,⟨Nat.le_trans h.below.size k.size,λq hq=>(k.block q (Nat.lt_of_lt_of_le (w0.lt q hq) h.below.size) (.inl hq)).trans (h.below.block q hq)⟩,h.old,h.few⟩
theorem Heads.fr {w0:Base} {X Y:World} {hb g N c:Nat} {x:Nat->SL} (h:Heads w0 X hb g N c x) {bs:List Nat} (ho:Only bs X Y) (hs:∀k∈bs,k=hb\/k=g):Fr w0.w.heap.size mineT X Y:=by
 obtain⟨cs,h1,h2⟩:=h.row;refine ho.fr (λk hk=>.inl ?_);rcases hs k hk with rfl|rfl
 ·exact⟨h.old.1,⟨_,_,(0,0),h.cell,by simp⟩⟩
 ·exact⟨h.old.2,⟨_,_,(0,0),h1,by simp⟩⟩
def rw2 (f:Nat->El):Nat->Row:=λk=>(f k).2
theorem row_rw2 (f:Nat->El) (n:Nat): (row f n).map Prod.snd=row (rw2 f) n:=by simp[row,rw2,Function.comp_def]
theorem perm_rw2 {f f':Nat->El} {n m:Nat} (h: (row f n).Perm (row f' m)): (row (rw2 f) n).Perm (row (rw2 f') m):=by
 have:=h.map Prod.snd
 rwa [row_rw2,row_rw2]at this
theorem mem_row {α:Type} {f:Nat->α} {n:Nat} {x:α}:x∈row f n↔∃k,k<n/\f k=x:=by simp[row]
theorem rises_perm {f f':Nat->El} {n m:Nat} (h:∀e∈row f m,Rises e.2.1) (hs:∀e∈row f' n,e∈row f m):∀c,c<n->Rises (rw2 f' c).1:=λc hc=>h _ (hs _ (mem_row.2 ⟨c,hc,rfl⟩))
theorem inv_start {all:List B} {f f':Nat->El} {n:Nat} (hh:Heap ltE f' 0 n) (hp: (row f' n).Perm (row f n)) (hr:∀e∈row f n,Rises e.2.1) (ha: (recs (rw2 f) n).Perm all):Inv all [] (rw2 f') n:=
 ⟨hh,rises_perm hr (λe he=>hp.mem_iff.1 he),List.Pairwise.nil,λo ho=>(by simp at ho),(recs_perm (perm_rw2 hp)).trans ha⟩
theorem inv_pop {all out:List B} {f f':Nat->El} {n:Nat} (h:Inv all out (rw2 f) (n+1)) (he: (f 0).2.1= [hd (f 0).2]) (hh:Heap ltE f' 0 n) (hp: (f 0 ::row f' n).Perm (row f (n+1))):Inv all (out++ [hd (f 0).2]) (rw2 f') n:=by
 have hp2: (rw2 f 0 ::row (rw2 f') n).Perm (row (rw2 f) (n+1)):=by
  have:=hp.map Prod.snd
  rwa [List.map_cons,row_rw2,row_rw2]at this
 refine Merge.step h hh (λc hc=>?_) (gone_perm he hp2);have h1:rw2 f' c∈row (rw2 f) (n+1):=hp2.mem_iff.1 (List.mem_cons_of_mem _ (mem_row.2 ⟨c,hc,rfl⟩));obtain⟨k,hk,e⟩:=mem_row.1 h1;rw[<-e];exact h.rises k hk
theorem inv_fix {all out:List B} {f f':Nat->El} {n:Nat} {y:El} (h:Inv all out (rw2 f) n) (hn:0<n) (he: (f 0).2.1=hd (f 0).2 ::y.2.1) (hh:Heap ltE f' 0 n) (hp: (row f' n).Perm (row (put f 0 y) n)):Inv all (out++ [hd (f 0).2]) (rw2 f') n:=by
 have e:rw2 (put f 0 y)=put (rw2 f) 0 y.2:=by
  funext k
  unfold rw2 put
  split <;> rfl
 have hp2:=perm_rw2 hp;rw[e]at hp2;refine Merge.step h hh (λc hc=>?_) (rest_perm hn he hp2);obtain⟨k,hk,e2⟩:=mem_row.1 (hp2.mem_iff.1 (mem_row.2 ⟨c,hc,rfl⟩));rw[<-e2]
 by_cases h0:k=0
 ·subst h0;rw[put_same];have h1:=h.rises 0 hn;rw[show(rw2 f 0).1=hd (f 0).2 ::y.2.1 from he]at h1;exact(List.pairwise_cons.1 h1).2
 ·rw[put_other _ _ h0];exact h.rises k hk
theorem heap_put {f:Nat->El} {n:Nat} {y:El} (h:Heap ltE f 0 n):Heap ltE (put f 0 y) 1 n:=λc h0 hc hp=>by
 have:=parent_lt h0;rw[put_other _ _ (by omega),put_other _ _ (by omega)];exact h c h0 hc (Nat.zero_le _)
def tl (x:SL):SL:=(if x.2.2=1 then x.1 else x.1.map (·.add 1),x.2.1-1,x.2.2-1)
theorem rowB_tl {w:World} {U:Nat->Prop} {x:SL} {b:B} {t:List B} (h:RowB w U (x,b ::t)):RowB w U (tl x,t):=by
 obtain⟨a,c,vs,e,h1,h2,h3,h4,h5,h6⟩:=h;dsimp only at e h1 h2 h5;subst e;simp only[List.length_cons]at h1 h2;unfold tl;dsimp only
 by_cases hc:c=1
 ·have ht:t= []:=List.eq_nil_of_length_eq_zero (by omega);subst ht;refine⟨if c=1 then a else a.map (·.add 1),c-1,[],rfl,by simp,rfl,.inl rfl,λg hg=>?_,recsIn_nil w,λy hy=>by simp at hy⟩;rw[if_pos hc]at hg;exact h4 g hg
 ·rw[if_neg hc];refine⟨a.map (·.add 1),c-1,vs.drop 1,by simp,by dsimp only;omega,by simp;omega,?_,λg hg=>h4 g ?_,by have:=h5.drop 1;simpa using this,λy hy g hg=>h6 y (List.mem_of_mem_drop hy) g hg⟩
  ·rcases h3 with h3|⟨g,off,e,hg,hcl⟩
   ·rw[List.map_eq_nil_iff]at h3;rw[h3]at h2
    simp at h2
   ·subst e;have e2: (⟨g,off,none⟩:Addr).add 1=⟨g,off+1,none⟩:=by unfold Addr.add;split <;> simp_all
    show Lies w (some ((⟨g,off,none⟩:Addr).add 1)) _;rw[e2,List.map_drop];exact Lies.drop (.inr ⟨g,off,rfl,hg,hcl⟩) 1
  ·cases a with
   |none=>cases hg
   |some p=>exact hg
theorem slice_tl (x:SL) (h1:1<=x.2.1) (h2:x.2.1<=x.2.2) (W:World): (Instr.sliceAt 25 (sl x) (some (.int .i64 1)) none none).run Tryz.prog W=.ok (sl (tl x)) W:=by
 obtain⟨a,n,c⟩:=x;have hel:Tryz.prog.elem 25=24:=by kernel_rfl
 have hu:Tryz.prog.underlying 25=some (.slice (Tryz.prog.elem 25)):=by rw[hel];exact Tryz.underlying25
 have hsz:∀W:World,(sizeOf 24).run Tryz.prog W=.ok 1 W:=λW=>by kernel_rfl
 unfold sl tl;dsimp only at h1 h2⊢;rw[run_sliceAt_slice W _ _ _ _ _ hu,run_slice_l W _ _ _ _ hu .i64 (1:Int) (by omega) (by omega),hel,hsz]
 simp[Result.andThen,sliced]
theorem kept_rows (w:World) (U:Nat->Prop):∀(rs:List (SL×List B)),(∀r∈rs,RowB w U r/\Rises r.2)->∃L:List El,L.map Prod.fst=(rs.map Prod.fst).filter keep/\(∀e∈L,RowB w U (e.1,e.2.1)/\Rises e.2.1)/\(L.map (λe=>e.2.1)).flatten=(rs.map Prod.snd).flatten
 | [],_=>⟨[],rfl,λ_ h=>(by simp at h),rfl⟩
 |r ::t,h=>by
  obtain⟨L,h1,h2,h3⟩:=kept_rows w U t (λx hx=>h x (List.mem_cons_of_mem _ hx));have hr:=h r (by simp);obtain⟨⟨a,n,c⟩,l⟩:=r;obtain⟨⟨a',c',vs,e,_⟩,_⟩:=id hr
  have en:n=l.length:=by
   have:=congrArg (λq:SL=>q.2.1) e
   simpa using this
  by_cases hl:l= []
  ·subst hl;refine⟨L,?_,h2,?_⟩
   ·rw[h1,List.map_cons,List.filter_cons,if_neg (by unfold keep;simp[en])]
   ·rw[h3];simp
  ·have h0:0<l.length:=List.length_pos_iff.2 hl;refine⟨((a,n,c),⟨l,hl⟩)::L,?_,λe he=>?_,?_⟩
   ·rw[List.map_cons,h1,List.map_cons,List.filter_cons,if_pos (by unfold keep;simp[en];omega)]
   ·rcases List.mem_cons.1 he with rfl|he
    ·exact hr
    ·exact h2 e he
   ·rw[List.map_cons,List.flatten_cons,h3];simp
def places (L:List El):Nat->El:=λk=>L.getD k ((none,0,0),⟨[[]],by simp⟩)
theorem row_places (L:List El):row (places L) L.length=L:=by
 apply List.ext_getElem
 ·simp[row_length]
 ·intro i h1 h2
  simp[row,places,h2]
theorem places_at (L:List El) {k:Nat} {e:El} (h:L[k]? =some e):places L k=e:=by simp[places,h]
end Runs
end Go.Proofs.YtcdcnhecimajkaaGreatDoor
