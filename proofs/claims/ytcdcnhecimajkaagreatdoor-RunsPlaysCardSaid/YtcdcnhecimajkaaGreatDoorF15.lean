/- Part. -/
import Derived.Test.YtcdcnhecimajkaaGreatDoorF0
import Derived.Test.YtcdcnhecimajkaaGreatDoorF0Q
import Derived.Test.YtcdcnhecimajkaaGreatDoorF5
import Derived.Test.YtcdcnhecimajkaaGreatDoorF8
import Derived.Test.YtcdcnhecimajkaaGreatDoorLay2
import Derived.Shelf.SlCmpFuncs.None
set_option maxHeartbeats 1000000
namespace Go.Proofs.YtcdcnhecimajkaaGreatDoor
namespace Runs
open Go.RowKit Go.Deep Go.Shelf Go.Lib Go.Sort Mem Crc Merge
attribute [local go_sem] Oper.semAt_some
abbrev RecOut (w:World) (bk:Nat):Type:={p:SL×B // RecAt w (sl p.1) p.2/\∀g,Mem.blk p.1.1=some g->g≠bk}
instance (w:World) (bk:Nat):Inhabited (RecOut w bk):=⟨⟨((none,0,0),[]),⟨none,0,rfl,Nat.le_refl _,.inl rfl⟩,λg h=>by simp[Mem.blk]at h⟩⟩
def encR {w:World} {bk:Nat} (x:RecOut w bk):Value:=sl x.1.1
def cfR {w:World} {bk:Nat} (x y:RecOut w bk):Int:=cmpB x.1.2 y.1.2
theorem ltR {w:World} {bk:Nat} (x y:RecOut w bk):ltOf cfR x y=decide (x.1.2<y.1.2):=by
 unfold ltOf cfR;rw[decide_eq_decide];exact cmpB_lt _ _
theorem swoR (w:World) (bk:Nat):SWO (ltOf (cfR (w:=w) (bk:=bk))) where
 irrefl x:=by rw[ltR];simp[List.lt_irrefl]
 trans x y z h1 h2:=by
  rw[ltR,decide_eq_true_iff]at *;exact List.lt_trans h1 h2
 ntrans x y z h1 h2:=by
  rw[ltR,decide_eq_false_iff_not,List.not_lt]at *;exact List.le_trans h2 h1
theorem heap_sortWorld {α:Type} [Inhabited α] (enc:α->Value) (w:World) (bk off m:Nat) (dk:Array α) (os:Array Obj) {g:Nat} (hg:g<w.heap.size) (hne:g≠bk): (sortWorld enc w bk off m dk os).heap[g]? =w.heap[g]?:=by
 unfold sortWorld;rw[heap_grow_old _ _ (by simpa[size_putRow]using hg)];show(w.heap.modify bk _)[g]? =_;rw[Array.getElem?_modify,if_neg (λe=>hne e.symm)]
theorem size_sortWorld {α:Type} [Inhabited α] (enc:α->Value) (w:World) (bk off m:Nat) (dk:Array α) (os:Array Obj):w.heap.size<=(sortWorld enc w bk off m dk os).heap.size:=by
 unfold sortWorld;rw[Go.Sort.size_grow,size_putRow];exact Nat.le_add_right _ _
theorem RecAt.sorted {α:Type} [Inhabited α] {enc:α->Value} {w:World} {bk off m:Nat} {dk:Array α} {os:Array Obj} {x:SL} {b:B} (h:RecAt w (sl x) b) (hne:∀g,Mem.blk x.1=some g->g≠bk):RecAt (sortWorld enc w bk off m dk os) (sl x) b:=by
 obtain⟨a,c,e,h1,h2⟩:=h;refine⟨a,c,e,h1,?_⟩;have ea:x.1=a:=by unfold sl at e;injection e
 rcases h2 with h|⟨g,o,eg,hlt,hc⟩
 ·exact .inl h
 ·refine .inr ⟨g,o,eg,Nat.lt_of_lt_of_le hlt (size_sortWorld _ _ _ _ _ _ _),λi u hu=>?_⟩;have hg:g≠bk:=hne g (by rw[ea,eg];rfl);rw[World.cell?_of_block (heap_sortWorld enc w bk off m dk os hlt hg)];exact hc i u hu
theorem cmpLays (w:World) (bk off n:Nat):CmpLays1 Tryz.prog 76 #[] (encR (w:=w) (bk:=bk)) cfR bk off n w:=λm os dk _ x y=>by
 refine(compare_any _ _ x.1.2 y.1.2 _ (RecAt.sorted x.2.1 x.2.2) (RecAt.sorted y.2.1 y.2.2)).mono ?_;rintro e w' ⟨rfl,rfl⟩;exact⟨rfl,0,#[],by rw[Go.Sort.grow_empty];rfl⟩
end Runs
namespace Runs
open Go.RowKit Go.Deep Go.Shelf Go.Lib Go.Sort Mem Crc Merge
theorem recs_sub (w:World) (bk:Nat):∀(vs:List SL) (l:List B),vs.length=l.length->(∀(i:Nat) (x:SL) (b:B),vs[i]? =some x->l[i]? =some b->RecAt w (sl x) b)->(∀x∈vs,∀g,Mem.blk x.1=some g->g≠bk)->
  ∃ds:List (RecOut w bk),ds.map (·.1.1)=vs/\ds.map (·.1.2)=l
 | [],[],_,_,_=>⟨[],rfl,rfl⟩
 |x ::vs,b ::l,hl,h,ho=>by
  obtain⟨ds,h1,h2⟩:=recs_sub w bk vs l (by simpa using hl) (λi y c hy hc=>h (i+1) y c (by simpa using hy) (by simpa using hc)) (λy hy=>ho y (List.mem_cons_of_mem _ hy));exact⟨⟨(x,b),h 0 x b rfl rfl,ho x (by simp)⟩::ds,by simp[h1],by simp[h2]⟩
 | [],_ ::_,hl,_,_=>by simp at hl
 |_ ::_,[],hl,_,_=>by simp at hl
theorem perm_all {α:Type} [Inhabited α] {d d':Array α} (h:PermIn 0 d.size d d'):d'.toList.Perm d.toList:=by
 have h3:=h.2.2;have hs:=h.1;have e1: (d'.extract 0 d.size)=d':=by rw[<-hs];exact Array.extract_size
 have e2: (d.extract 0 d.size)=d:=Array.extract_size
 rwa [e1,e2]at h3
theorem heap_sorted {α:Type} [Inhabited α] (enc:α->Value) (w:World) (bk off m:Nat) (dk:Array α) (os:Array Obj) {cur:Array Value} {e:TypeId} {fr:Nat×Nat} (h:w.heap[bk]? =some (.cells cur e fr)): (sortWorld enc w bk off m dk os).heap[bk]? =some (.cells (putCells enc off dk cur) e fr):=by
 have hg:=(Array.getElem?_eq_some_iff.1 h).1;unfold sortWorld;rw[heap_grow_old _ _ (by simpa[size_putRow]using hg)];show(w.heap.modify bk _)[bk]? =_;rw[Array.getElem?_modify,if_pos rfl,h]
 rfl
theorem take_putCells {α:Type} [Inhabited α] (enc:α->Value) (d:Array α) (cur:Array Value) (h:d.size<=cur.size): (putCells enc 0 d cur).toList.take d.size=d.toList.map enc:=by
 apply List.ext_getElem
 ·simp[putCells];omega
 ·intro i h1 h2;have hi:i<d.size:=by simpa using h2
  simp[putCells,hi,getElem!_pos]
theorem sort_any {w:World} {base:Nat} {v:Value} {vs:List SL} {l:List B} (hO:OwnL w base v vs) (hR:RecsIn w (vs.map sl) l) (hout:∀x∈vs,∀g,Mem.blk x.1=some g->some g≠v.ownBlock) (hn:vs.length<=1000000):
  Calls Tryz.prog 113 #[v,.func (.func 76) #[] #[]] w λe w'=>e=.returned (.tuple #[])/\∃vs' l',vs'.length=vs.length/\OwnL w' base v vs'/\RecsIn w' (vs'.map sl) l'/\l'.Perm l/\Rises l'/\(∀x∈vs',x∈vs)/\
   (∀B,B<=w.heap.size->(∀g,v.ownBlock=some g->B<=g)->Below B w w')/\∀k,k<w.heap.size->some k≠v.ownBlock->w'.heap[k]? =w.heap[k]?:=by
 have eg:∀args w,(callFunc 76 args).run Tryz.prog w=.ok (.enter 76 args) w:=enters_of Tryz.func76 (by kernel_rfl) rfl;have hlen:vs.length=l.length:=by simpa using hR.len
 rcases hO.2 with⟨rfl,h0⟩|⟨g,cap,cur,rfl,hb,hgb,hc1,hc2,hc3,hc4⟩
 ·have hcon:=AnyF.slices_SortFunc_none (P:=Tryz.prog) (ρ:=Tryz.sortRec_ren) {Tryz.sortRec with} none 0 (.func (.func 76) #[] #[]) w
  change Calls Tryz.prog 113 _ _ _ at hcon
  refine hcon.mono ?_;rintro e w' ⟨rfl,rfl⟩;refine⟨rfl,vs,l,rfl,hO,hR,List.Perm.refl _,?_,λ_ h=>h,λB _ _=>Below.refl _ _,λ_ _ _=>rfl⟩;have:l= []:=List.length_eq_zero_iff.1 (by omega);rw[this];exact List.Pairwise.nil
 ·have hg:=(Array.getElem?_eq_some_iff.1 hgb).1;obtain⟨ds,hd1,hd2⟩:=recs_sub w g vs l hlen (λi x b hx hb=>hR.at_ i (sl x) b (by simp[hx]) hb) (λx hx q hq e=>hout x hx q hq (by rw[e];rfl));have hds:ds.length=vs.length:=by rw[<-hd1];simp
  have hH:Holds encR w g 0 ds.toArray:=λj hj=>by
   have hj':j<ds.length:=by simpa using hj
   have hc:cur.toList[j]? =some (encR ds[j]):=by
    have h1: (cur.toList.take (vs.length*1))[j]? =some (encR ds[j]):=by
     rw[hc4,<-hd1]
     simp[jg hj',encR]
    rw[List.getElem?_take]at h1
    split at h1
    ·exact h1
    ·cases h1
   refine⟨?_,?_⟩
   ·simp[World.cell?,hgb,getElem!_pos,hj',<-hc]
   ·simp[World.frozen?,hgb]
  have hcon:=Any.slices_SortFunc (P:=Tryz.prog) (ρ:=Tryz.sortRec_ren) Tryz.sortRec (encR (w:=w) (bk:=g)) (λ_=>rfl) cfR (swoR w g) 76 #[] g 0 cap ds.toArray w eg (cmpLays w g 0 _) hH hg (by simp;omega)
  change Calls Tryz.prog 113 _ _ _ at hcon
  have esz:ds.toArray.size=vs.length:=by simp[hds]
  rw[esz]at hcon;refine hcon.mono ?_;rintro e w' ⟨rfl,d',n,os,hp,hs,rfl⟩;have hpa:=perm_all (by rw[esz];exact hp);have hsz:d'.size=vs.length:=by rw[hp.1,esz]
  refine⟨rfl,d'.toList.map (·.1.1),d'.toList.map (·.1.2),by simp[hsz],?_,?_,?_,?_,?_,λB hB1 hB2=>⟨rfl,rfl,rfl,size_sortWorld _ _ _ _ _ _ _,λk hk=>heap_sortWorld _ _ _ _ _ _ _ (Nat.lt_of_lt_of_le hk hB1) (by have:=hB2 g rfl;omega)⟩,λk hk hne=>heap_sortWorld _ _ _ _ _ _ _ hk (λe=>hne (by rw[e];rfl))⟩
  ·refine⟨by simp,.inr ⟨g,cap,_,by simp[hsz],hb,heap_sorted _ _ _ _ _ _ _ hgb,by simp[hsz];exact hc1,hc2,by simpa[putCells]using hc3,?_⟩⟩;have h1:=take_putCells (encR (w:=w) (bk:=g)) d' cur (by omega);simp only[jP,Array.length_toList,Nat.mul_one];rw[h1,List.map_map]
   rfl
  ·refine⟨by simp,λi u b hu hb'=>?_⟩;simp only[List.getElem?_map,Option.map_eq_some_iff]at hu hb';obtain⟨q,⟨x,hx,rfl⟩,rfl⟩:=hu;obtain⟨y,hy,rfl⟩:=hb';rw[hx]at hy;cases hy;exact RecAt.sorted x.2.1 x.2.2
  ·have:=hpa.map (λx:RecOut w g=>x.1.2)
   simpa[hd2]using this
  ·refine List.pairwise_iff_getElem.2 λi j hi hj hij=>?_
   have hj':j<d'.size:=by simpa using hj
   have h1:=hs i j (Nat.zero_le _) hij (by omega);rw[ltR,decide_eq_false_iff_not,List.not_lt,getElem!_pos d' j hj',getElem!_pos d' i (by omega)]at h1
   simpa using h1
  ·intro x hx;obtain⟨y,hy,rfl⟩:=List.mem_map.1 hx;rw[<-hd1];exact List.mem_map.2 ⟨y,by simpa using hpa.mem_iff.1 hy,rfl⟩
end Runs
namespace Runs
open Go.RowKit Go.Deep Go.Shelf Mem Crc Merge
attribute [local go_sem] Oper.semAt_some
theorem rec_block {w:World} {x:SL} {b:B} (h:RecAt w (sl x) b) (hb:b≠[]):∀g,Mem.blk x.1=some g->g<w.heap.size:=λg hg=>by
 obtain⟨a,c,e,h1,h2⟩:=h;have ea:x.1=a:=by unfold sl at e;injection e
 rcases h2 with h|⟨q,o,eq,hlt,hc⟩
 ·exact absurd (by simpa using h) hb
 ·rw[ea,eq]at hg;have:q=g:=by simpa[Mem.blk]using hg
  omega
theorem sortedFunc_any {a:Option Addr} {c:Nat} {vs:List SL} {l:List B} (w:World) (Bs:Nat) (hBs:Bs<w.heap.size) {w0:World} (hL:Lies w0 a (vs.map sl)) (hlc:vs.length<=c) (hmax:vs.length<=1000000) (hB:Below w0.heap.size w0 w) (hc:w.cell? ⟨Bs,0,none⟩=some (.slice a vs.length c))
  (hR:RecsIn w (vs.map sl) l) (hne:∀b∈l,b≠[]):
  Calls Tryz.prog 74 #[.func (.func 114) #[] #[.pointer (some ⟨Bs,0,none⟩)],.func (.func 76) #[] #[]] w λe w'=>∃v vs' l',e=.returned v/\vs'.length=vs.length/\OwnL w' w.heap.size v vs'/\RecsIn w' (vs'.map sl) l'/\l'.Perm l/\Rises l'/\(∀x∈vs',x∈vs)/\Below w.heap.size w w':=by
 have hC:=jq (collect_values w Bs hBs hL hlc hmax hB hc);have HR:=jq hR;clear hc hL hB hR
 go_enter Tryz.func74,Tryz.ntmps74
 go_wp2_with (first
  |(go_at_call 89
    refine hC.out.mono ?_;rintro e w1 ⟨v,rfl,hO,hB1⟩;have hR1:=HR.out.later hB1
    have HS:=jq (sort_any hO hR1 (λx hx g hg e=>by
     obtain⟨i,hi⟩:=List.getElem?_of_mem hx;have hl:=HR.out.len
     have hil:i<l.length:=by
      have:=(jS.1 hi).1
      simp at hl
      omega
     have h1:=rec_block (HR.out.at_ i (sl x) l[i] (by simp[hi]) (jg hil)) (hne _ (List.getElem_mem hil)) g hg;have h2:=(hO.lt g e.symm).1
     omega) hmax)
    have HB1:=jq hB1;have HO:=jq (λg e=>(hO.lt g e).1);obtain⟨va,vc,rfl,_,_,_,_⟩:=own_shape hO;clear hO hR1 hB1)
  |(go_at_call 113
    refine HS.out.mono ?_;rintro e w2 ⟨rfl,vs',l',h1,h2,h3,h4,h5,h7,h6,_⟩;have H2:=jq h2;have H3:=jq h3;have H7:=jq h7;have H6:=jq (HB1.out.trans (h6 w.heap.size HB1.out.size HO.out));clear h2 h3 h6 h7))
 go_ret
 exact⟨_,vs',l',rfl,h1,H2.out,H3.out,h4,h5,H7.out,H6.out⟩
end Runs
namespace Runs
open Go.RowKit Go.Deep Go.Shelf Go.Lib Go.Sort Mem Crc Merge
theorem below_same {α:Type} [Inhabited α] (enc:α->Value) (w:World) (bk off m:Nat) (dk:Array α) (os:Array Obj) (h:Holds enc w bk off dk):Below w.heap.size w (sortWorld enc w bk off m dk os):=by
 have e:putRow enc (Sort.ahead w m) bk off dk=Sort.ahead w m:=putRow_self enc _ bk off dk h;unfold sortWorld;rw[e];exact⟨rfl,rfl,rfl,by rw[Go.Sort.size_grow];exact Nat.le_add_right _ _,λk hk=>heap_grow_old _ _ hk⟩
theorem holds_of {w:World} {base g cap:Nat} {vs:List SL} (hO:OwnL w base (.slice (some ⟨g,0,none⟩) vs.length cap) vs) (ds:List (RecOut w g)) (hd1:ds.map (·.1.1)=vs):Holds encR w g 0 ds.toArray:=λj hj=>by
 have hj':j<ds.length:=by simpa using hj
 have hds:ds.length=vs.length:=by rw[<-hd1];simp
 rcases hO.2 with⟨h,_⟩|⟨g',cap',cur,e,hb,hgb,hc1,hc2,hc3,hc4⟩
 ·cases h
 ·cases e
  have hc:cur.toList[j]? =some (encR ds[j]):=by
   have h1: (cur.toList.take (vs.length*1))[j]? =some (encR ds[j]):=by
    rw[hc4,<-hd1]
    simp[jg hj',encR]
   rw[List.getElem?_take]at h1
   split at h1
   ·exact h1
   ·cases h1
  refine⟨?_,?_⟩
  ·simp[World.cell?,hgb,getElem!_pos,hj',<-hc]
  ·simp[World.frozen?,hgb]
theorem isSorted_any {w:World} {base:Nat} {v:Value} {vs:List SL} {l:List B} (hO:OwnL w base v vs) (hR:RecsIn w (vs.map sl) l) (hout:∀x∈vs,∀g,Mem.blk x.1=some g->some g≠v.ownBlock) (hn:vs.length<=1000000) (h0:0<vs.length) (hs:Rises l):
  Calls Tryz.prog 90 #[v,.func (.func 76) #[] #[]] w λe w'=>e=.returned (.bool true)/\Below w.heap.size w w':=by
 have eg:∀args w,(callFunc 76 args).run Tryz.prog w=.ok (.enter 76 args) w:=enters_of Tryz.func76 (by kernel_rfl) rfl;have hlen:vs.length=l.length:=by simpa using hR.len
 rcases hO.2 with⟨rfl,h⟩|⟨g,cap,cur,rfl,hb,hgb,hc1,hc2,hc3,hc4⟩
 ·omega
 ·have hg:=(Array.getElem?_eq_some_iff.1 hgb).1;obtain⟨ds,hd1,hd2⟩:=recs_sub w g vs l hlen (λi x b hx hb=>hR.at_ i (sl x) b (by simp[hx]) hb) (λx hx q hq e=>hout x hx q hq (by rw[e];rfl));have hds:ds.length=vs.length:=by rw[<-hd1];simp
  have hH:=holds_of hO ds hd1;have hcon:=Any.slices_IsSortedFunc (P:=Tryz.prog) (ρ:=Tryz.isSortedRec_ren) Tryz.isSortedRec (encR (w:=w) (bk:=g)) (λ_=>rfl) cfR 76 #[] g 0 cap ds.toArray w eg (cmpLays w g 0 _) hH hg (by simp;omega)
  change Calls Tryz.prog 90 _ _ _ at hcon
  have esz:ds.toArray.size=vs.length:=by simp[hds]
  rw[esz]at hcon;refine hcon.mono ?_;rintro e w' ⟨rfl,m,os,rfl⟩;refine⟨?_,below_same _ _ _ _ _ _ _ hH⟩
  congr 2
  rw[Lib.downOK_iff];intro i hi;have hi1:i+1<ds.length:=by omega
  have h1:=List.pairwise_iff_getElem.1 hs i (i+1) (by omega) (by omega) (Nat.lt_succ_self i);rw[ltR,decide_eq_false_iff_not,List.not_lt,getElem!_pos ds.toArray (i+1) (by simpa using hi1),getElem!_pos ds.toArray i (by simp;omega)];subst hd2
  simpa using h1
end Runs
namespace Runs
open Go.RowKit Go.Deep Go.Shelf Go.Lib Go.Sort Mem Crc Merge
theorem isSorted_gen {w:World} {base:Nat} {v:Value} {vs:List SL} {l:List B} (hO:OwnL w base v vs) (hR:RecsIn w (vs.map sl) l) (hout:∀x∈vs,∀g,Mem.blk x.1=some g->some g≠v.ownBlock) (hn:vs.length<=1000000):
  Calls Tryz.prog 90 #[v,.func (.func 76) #[] #[]] w λe w'=>e=.returned (.bool (decide (Rises l)))/\Below w.heap.size w w':=by
 have hlen:vs.length=l.length:=by simpa using hR.len
 by_cases h0:vs.length=0
 ·obtain⟨a,c,rfl,_,_,_,_⟩:=own_shape hO;have hl:l= []:=List.eq_nil_of_length_eq_zero (by omega);subst hl;have hcon:=Any.slices_IsSortedFunc_none (P:=Tryz.prog) (ρ:=Tryz.isSortedRec_ren) Tryz.isSortedRec a c (.func (.func 76) #[] #[]) w
  change Calls Tryz.prog 90 _ _ _ at hcon
  rw[h0];refine hcon.mono ?_;rintro e w' ⟨rfl,rfl⟩;exact⟨by rw[jd List.Pairwise.nil],Below.refl _ _⟩
 have eg:∀args w,(callFunc 76 args).run Tryz.prog w=.ok (.enter 76 args) w:=enters_of Tryz.func76 (by kernel_rfl) rfl;rcases hO.2 with⟨rfl,h⟩|⟨g,cap,cur,rfl,hb,hgb,hc1,hc2,hc3,hc4⟩
 ·omega
 ·have hg:=(Array.getElem?_eq_some_iff.1 hgb).1;obtain⟨ds,hd1,hd2⟩:=recs_sub w g vs l hlen (λi x b hx hb=>hR.at_ i (sl x) b (by simp[hx]) hb) (λx hx q hq e=>hout x hx q hq (by rw[e];rfl));have hds:ds.length=vs.length:=by rw[<-hd1];simp
  have hH:=holds_of hO ds hd1;have hcon:=Any.slices_IsSortedFunc (P:=Tryz.prog) (ρ:=Tryz.isSortedRec_ren) Tryz.isSortedRec (encR (w:=w) (bk:=g)) (λ_=>rfl) cfR 76 #[] g 0 cap ds.toArray w eg (cmpLays w g 0 _) hH hg (by simp;omega)
  change Calls Tryz.prog 90 _ _ _ at hcon
  have esz:ds.toArray.size=vs.length:=by simp[hds]
  rw[esz]at hcon;refine hcon.mono ?_;rintro e w' ⟨rfl,m,os,rfl⟩;refine⟨?_,below_same _ _ _ _ _ _ _ hH⟩
  congr 2
  subst hd2;rw[Bool.eq_iff_iff,Lib.downOK_iff,decide_eq_true_iff,rises_iff]
  have hlt:∀i (h1:i+1<ds.length),(ltOf cfR (ds.toArray[i+1]!) (ds.toArray[i]!)=false)↔(ds[i]'(by omega)).1.2<=ds[i+1].1.2:=λi h1=>by
   rw[ltR,decide_eq_false_iff_not,List.not_lt,getElem!_pos ds.toArray (i+1) (by simpa using h1),getElem!_pos ds.toArray i (by simp;omega)]
   simp
  constructor
  ·intro h i a b ha hb;rw[List.getElem?_map,Option.map_eq_some_iff]at ha hb;obtain⟨x,hx,rfl⟩:=ha;obtain⟨y,hy,rfl⟩:=hb;obtain⟨hx1,rfl⟩:=jS.1 hx;obtain⟨hy1,rfl⟩:=jS.1 hy;exact(hlt i hy1).1 (h i (by omega))
  ·intro h i hi;have hi1:i+1<ds.length:=by omega
   refine(hlt i hi1).2 (h i _ _ ?_ ?_)
   ·rw[List.getElem?_map,jg (by omega:i<ds.length)];rfl
   ·rw[List.getElem?_map,jg hi1];rfl
end Runs
end Go.Proofs.YtcdcnhecimajkaaGreatDoor
