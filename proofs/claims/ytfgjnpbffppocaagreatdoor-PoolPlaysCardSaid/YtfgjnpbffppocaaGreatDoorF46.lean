/- Part. -/
import Derived.Test.YtfgjnpbffppocaaGreatDoorF0
import Derived.Test.YtfgjnpbffppocaaGreatDoorF0Q
import Derived.Test.YtfgjnpbffppocaaGreatDoorF13
import Derived.Test.YtfgjnpbffppocaaGreatDoorF15
import Derived.Test.YtfgjnpbffppocaaGreatDoorF17
import Derived.Test.YtfgjnpbffppocaaGreatDoorF45
set_option maxHeartbeats 1000000
set_option maxRecDepth 100000
namespace Go.Proofs.YtfgjnpbffppocaaGreatDoor
namespace Pool
open Go.RowKit Go.Deep Mem Crc Walk Go.Maps
open Store (Sto Files setF setF_same setF_other nv)
def no:Rows:=λ_=>[]
theorem many_no (n:Nat):many no n=0:=by
 induction n with
 |zero=>rfl
 |succ n ih=>unfold many at ih⊢;rw[List.range_succ,List.map_append,List.sum_append,ih];rfl
def rdF (F:Files):Rows:=λi=>match F (pname i)with
 |some b=>(rdS b).getD []
 |none=>[]
def cntF (F:Files) (i:Nat):Option Value:=match F (pname i)with
 |some b=>some (.int .i64 (((rdS b).getD []).length:Int))
 |none=>none
structure NS {s:Nat} (T:Sto s) (F:Files) (j:Nat) (Qs:Nat->Prop) (p sm hm n room k:Nat) (x:Option Value) (w:World):Prop where
 blk:Blk w p 65 #[.pointer (some ⟨s,0,none⟩),.int .i64 (n:Int),.int .i64 (room:Int),.map (some sm),.map (some hm),.int .i64 0]
 sto:T.At w Qs false F j
 spl:∃f,MapIs w 3 sm f/\(∀y,f y≠none->∃i,i<n/\y=sK i)/\f (sK k)=x/\∀i,i<n->i≠k->f (sK i)=if i<k then cntF F i else none
 hld:MapIs w 3 hm (λ_=>none)
 ne:sm≠hm/\p≠sm
 qs:∀q,Qs q->q≠p/\q≠sm/\q≠hm
variable {s:Nat} {T:Sto s} {F:Files} {j:Nat} {Qs:Nat->Prop} {p sm hm n room k:Nat} {x:Option Value} {w w':World}
theorem NS.later (h:NS T F j Qs p sm hm n room k x w) (hB:Below w.heap.size w w'):NS T F j Qs p sm hm n room k x w':=by
 obtain⟨f,h1,h2⟩:=h.spl;exact⟨h.blk.below hB h.blk.lt,T.later h.sto hB,⟨f,h1.keep (hB.block _ h1.lt),h2⟩,h.hld.keep (hB.block _ h.hld.lt),h.ne,h.qs⟩
theorem NS.look (h:NS T F j Qs p sm hm n room k x w) (hk:k<4096): (Instr.lookup 62 (.map (some sm)) (.int .i64 (k:Int)) false).run Tryz.prog w=.ok (x.getD (.int .i64 0)) w:=by
 obtain⟨f,hm,_,hf,_⟩:=h.spl;have:=hm.look intKeyed Tryz.underlying62 int_zero (key_of (i:=k) (by omega));rw[this,hf]
theorem NS.put (h:NS T F j Qs p sm hm n room k x w) (hk:k<n) (hn:n<=4096) (v:Value):
  ∃w2,(Instr.mapUpdate 62 (.map (some sm)) (.int .i64 (k:Int)) v).run Tryz.prog w=.ok () w2/\NS T F j Qs p sm hm n room k (some v) w2/\Only [sm] w w2/\w2.heap.size=w.heap.size:=by
 obtain⟨f,hm',hs,hfk,hf⟩:=h.spl
 obtain⟨w2,hrun,hm2,hg,hsz⟩:=hm'.update intKeyed Tryz.underlying62 ((List.range n).map sK) (λy hy=>by
  obtain⟨i,hi,rfl⟩:=hs y hy;exact List.mem_map.2 ⟨i,List.mem_range.2 hi,rfl⟩) (by simp[maxLen];omega) (key_of (i:=k) (by omega)) v
 have ho:Only [sm] w w2:=Only.of_grown hg (λg hg=>by cases hg;exact .inl (by simp));refine⟨w2,hrun,⟨h.blk.only ho (by simpa using h.ne.2),T.upon h.sto (Upon.of_only (P:=λq=>q=sm) ho (λg hg=>.inl (jE.1 hg))) (λq hq hQ=>(h.qs q hQ).2.1 hq),⟨_,hm2,λy hy=>?_,setK_same _ _ _,λi hi hik=>?_⟩,h.hld.keep (ho.block _ h.hld.lt (by simpa using h.ne.1.symm)),h.ne,h.qs⟩,ho,hsz⟩
 ·by_cases e:y=sK k
  ·exact⟨k,hk,e⟩
  ·rw[setK_other _ e]at hy;exact hs y hy
 ·rw[setK_other _ (λe=>hik (sK_inj e))];exact hf i hi hik
theorem NS.next (h:NS T F j Qs p sm hm n room k x w) (hx:x=cntF F k):NS T F j Qs p sm hm n room (k+1) none w:=by
 obtain⟨f,h1,h2,h3,h4⟩:=h.spl;refine⟨h.blk,h.sto,⟨f,h1,h2,?_,λi hi hik=>?_⟩,h.hld,h.ne,h.qs⟩
 ·refine Classical.byContradiction (λe=>?_);obtain⟨i,hi,he⟩:=h2 _ e;have:=sK_inj he;subst this;rw[h4 _ hi (by omega),if_neg (by omega)]at e;exact e rfl
 ·by_cases e:i=k
  ·subst e;rw[h3,if_pos (by omega),hx]
  ·rw[h4 i hi e]
   by_cases e2:i<k
   ·rw[if_pos e2,if_pos (by omega)]
   ·rw[if_neg e2,if_neg (by omega)]
theorem NS.pool (h:NS T F j Qs p sm hm n room n none w) (hn:n<=4096) (hr:room<=65536) (hF:∀nm,F nm≠none->∃i,i<n/\nm=pname i) (hg:∀i b,i<n->F (pname i)=some b->rdS b≠none):Pl ⟨p,s,T,sm,hm,n,room⟩ j w Qs (λ_=>none) (rdF F) no:=by
 have hz:∀i,i<n->(rdF F i= []↔F (pname i)=none):=λi hi=>by
  unfold rdF;cases hb:F (pname i)with
  |none=>simp
  |some b=>
   dsimp only
   cases hr:rdS b with
   |none=>exact absurd hr (hg i b hi hb)
   |some l=>simpa using(rdS_file hr).2.1
 obtain⟨f,h1,h2,h3,h4⟩:=h.spl;refine⟨by rw[many_no];exact h.blk,⟨F,j,h.sto,⟨hF,λi hi=>?_⟩,Nat.le_refl _⟩,⟨f,h1,h2,λi hi=>?_⟩,⟨_,h.hld,λy hy=>absurd rfl hy,λi hi=>rfl⟩,λi hi=>rfl,λi j u v _ _ _ e1=>(by cases e1),λi v k _ e1=>(by cases e1),λq hq h3=>?_,h.ne.1,λi hi y hy=>?_,λi hi y hy=>(by cases hy),⟨hn,hr⟩⟩
 ·by_cases e:rdF F i= []
  ·rw[if_pos e];exact(hz i hi).1 e
  ·rw[if_neg e];unfold rdF at e⊢;cases hb:F (pname i)with
   |none=>rw[hb]at e;exact absurd rfl e
   |some b=>
    dsimp only
    cases hr:rdS b with
    |none=>exact absurd hr (hg i b hi hb)
    |some l=>rw[(rdS_file hr).1];rfl
 ·have hi:i<n:=hi;rw[h4 i hi (by omega),if_pos hi];unfold cntF
  by_cases e:rdF F i= []
  ·rw[if_pos e,(hz i hi).1 e]
  ·rw[if_neg e];unfold rdF at e⊢;cases hb:F (pname i)with
   |none=>rw[hb]at e;exact absurd rfl e
   |some b=>rfl
 ·obtain⟨e1,e2,e3⟩:=h.qs q hq;rcases h3 with h3|h3|h3
  ·exact e1 h3
  ·exact e2 h3
  ·exact e3 h3
 ·unfold rdF at hy;cases hb:F (pname i)with
  |none=>rw[hb]at hy;cases hy
  |some b=>
   rw[hb]at hy;dsimp only at hy
   cases hr:rdS b with
   |none=>exact absurd hr (hg i b hi hb)
   |some l=>rw[hr]at hy;exact(rdS_file hr).2.2.1 y hy
def NewG {s:Nat} (T:Sto s) (F:Files) (j:Nat) (Qs:Nat->Prop) (n room:Nat) (w:World) (e:Ending) (w':World):Prop:=
 ((∀i b,i<n->F (pname i)=some b->rdS b≠none)/\∃p sm hm,e=.returned (.tuple #[.pointer (some ⟨p,0,none⟩),.int .i64 0])/\NS T F j Qs p sm hm n room n none w'/\w.heap.size<=p/\w.heap.size<=sm/\w.heap.size<=hm)\/
 ((∃i b,i<n/\F (pname i)=some b/\rdS b=none)/\e=.returned (.tuple #[.pointer none,.int .i64 5]))
theorem new_gen (h:T.At w Qs false F j) (hn:n<=4096) (hr1:1<=room) (hr2:room<=65536)
  (hNM:∀W,Below w.heap.size w W->Calls Tryz.prog 20 #[.pointer (some ⟨s,0,none⟩)] W λe w'=>∃(v:Value) (ss:List (List UInt8)),e=.returned v/\w'.ownsRow W.heap.size 9 1 v ss.length (ss.map encStr)/\(∀nm,nm∈ss↔F nm≠none)/\ss.Pairwise (·< ·)/\ss.length<=200000/\Below W.heap.size W w'):
  Calls Tryz.prog 6 #[.pointer (some ⟨s,0,none⟩),.int .i64 (n:Int),.int .i64 (room:Int)] w λe w'=>NewG T F j Qs n room w e w'/\Below w.heap.size w w':=by
 have t1:decide ((n:Int) <0)=false:=by simp
 have t2:decide (4096<(n:Int))=false:=by simp;omega
 have t3:decide ((room:Int) <1)=false:=by simp;omega
 have t4:decide (65536<(room:Int))=false:=by simp;omega
 have hmk1:=run_makeMap (P:=Tryz.prog) 62 w;have hmk2:=run_makeMap (P:=Tryz.prog) 63 (w.alloc (.map #[] 0));obtain⟨W,hW⟩:=jl ((((w.alloc (.map #[] 0)).alloc (.map #[] 0)).alloc (.cells #[.pointer (some ⟨s,0,none⟩),.int .i64 (n:Int),.int .i64 (room:Int),.map (some w.heap.size),.map (some (w.heap.size+1)),.int .i64 0] 65)));have hB:Below w.heap.size w W:=by rw[hW];exact(((Below.refl _ w).alloc jn _).alloc (by simp) _).alloc (by simp;omega) _
 have hns:NS T F j Qs (w.heap.size+1+1) w.heap.size (w.heap.size+1) n room 0 none W:=by
  refine⟨by rw[hW];exact Blk.at_ (by simp),T.later h hB,⟨λ_=>none,?_,λy hy=>absurd rfl hy,rfl,λi hi _=>(if_neg (by omega)).symm⟩,?_,⟨by omega,by omega⟩,λq hq=>?_⟩
  ·rw[hW];exact(((MapIs.made w _).keep (Below.heap_alloc _ _ _ (by simp))).keep (Below.heap_alloc _ _ _ (by simp;omega)))
  ·rw[hW];have:=MapIs.made (w.alloc (.map #[] 0)) 3;rw[show(w.alloc (.map #[] 0)).heap.size=w.heap.size+1 by simp]at this;exact this.keep (Below.heap_alloc _ _ _ (by simp))
  ·have:=T.lt h q hq
   omega
 have hnm:=hNM W hB;have HNS:=jq hns;have HNM:=jq hnm;have HB:=jq hB;rw[hW]at HNM;have HW:=jq hW;clear hB hnm hns h hW hNM
 go_enter Tryz.func6,Tryz.ntmps6
 go_wp2_with fail
 refine HNM.out.mono ?_;rintro e w1 ⟨v,ss,rfl,hO,hmem,hsort,hle,hB1⟩;rw[<-HW.out]at hB1;have HNS1:=jq (HNS.out.later hB1);have HO:=jq hO;have HMEM:=jq hmem;have HSORT:=jq hsort;have HLE:=jq hle;have HB1:=jq (HB.out.trans (hB1.mono HB.out.size));have hz1:=hB1.size;have hzw:=HB.out.size;have hbd:w.heap.size+1+1<W.heap.size:=HNS.out.blk.lt;obtain⟨va,vc,rfl,_⟩:=own_shape hO;clear hO hmem hsort hle hB1
 go_wp2_with fail
 go_loopw[39] (λi wr=>∃k:Nat,k<=n/\i=.int .i64 (k:Int)/\Hid (NS T F j Qs (w.heap.size+1+1) w.heap.size (w.heap.size+1) n room k none wr)/\Hid (Upon (λq=>q=w.heap.size) w1 wr)/\Hid (∀i b,i<k->F (pname i)=some b->rdS b≠none)) (λi _=>n-(intOf i).toNat)
 case atStart=>exact⟨0,Nat.zero_le _,rfl,HNS1,jq (Upon.refl _ _),jq (λi b hi=>by omega)⟩
 case round=>
  obtain⟨k,hk,rfl,hN,hU,hG⟩:=hrel
  by_cases hlt:k<n
  ·have HN:=jq (name_any k (by omega) wr);have hzU:=hU.out.size
   go_wp2_with fail
   refine HN.out.mono ?_;rintro e w2 ⟨rfl,hB3⟩;have hB13:Upon (λq=>q=w.heap.size) w1 w2:=hU.out.trans (Upon.of_below (P:=λq=>q=w.heap.size) hB3) (λg hg=>.inl hg)
   have hO2:=own_upon HO.out hB13 (λg hg e=>by
    have h1:=(HO.out.lt g hg).1;rw[<-HW.out]at h1
    omega)
   have HSR:=jq (search_rows ss (pname k) w2 hO2 HSORT.out (by have:=HLE.out;omega));have HN2:=jq (hN.out.later hB3);have HU2:=jq hB13;have hzU2:=hB13.size;have hmk:=HMEM.out (pname k);clear hB3 hO2 hB13
   go_wp2_with fail
   refine HSR.out.mono ?_;rintro e w3 ⟨x3,rfl,rfl⟩;cases hF:F (pname k)with
   |none=>
    have hno:decide (pname k∈ss)=false:=jf (λh=>hmk.1 h hF);have HF:=jq hF;clear hmk hF;rw[hno]
    go_wp2_with fail
    go_roundw
    case rel=>exact⟨k+1,by omega,by go_num,jq (HN2.out.next (by unfold cntF;rw[HF.out])),HU2,jq (λi b hi hb=>by
     by_cases e:i=k
     ·subst e;rw[HF.out]at hb;cases hb
     ·exact hG.out i b (by omega) hb)⟩
    case measure=>simp[intOf];omega
   |some b=>
    have hyes:decide (pname k∈ss)=true:=jd (hmk.2 (by rw[hF];exact λe=>by cases e));have HF:=jq hF;clear hmk hF;rw[hyes];have k3:=HN2.out.blk.cell 3
    simp at k3
    obtain⟨wA,hrunA,hNA,hoA,hzA⟩:=HN2.out.put hlt hn (.int .i64 1);have c0:=hNA.blk.cell 0;have c3:=hNA.blk.cell 3
    simp at c0 c3
    have HRD:=jq (read_gen T hNA.sto c0 c3 hNA.blk.lt k (by omega) (hNA.look (by omega)) b HF.out);have HNA:=jq hNA;have HOA:=jq hoA;clear hNA hoA c0 c3
    go_wp2_with fail
    refine HRD.out.mono ?_;rintro e wB ⟨hrg,hBB⟩;have HUB:Hid (Upon (λq=>q=w.heap.size) w1 wB):=jq ((HU2.out.trans (Upon.of_only (P:=λq=>q=w.heap.size) HOA.out (λg hg=>.inl (jE.1 hg))) (λg hg=>.inl hg)).trans (Upon.of_below (P:=λq=>q=w.heap.size) hBB) (λg hg=>.inl hg));have HNB:=jq (HNA.out.later hBB);unfold ReadG at hrg
    cases hr:rdS b with
    |none=>
     rw[hr]at hrg;dsimp only at hrg;subst hrg;have HR:=jq hr;clear hr hBB k3 hrunA
     go_wp2_with fail
     go_ret2
     exact⟨.inr ⟨⟨k,b,hlt,HF.out,HR.out⟩,rfl⟩,HB1.out.trans (HUB.out.below (by omega) (λq hq=>by omega))⟩
    |some l=>
     rw[hr]at hrg;dsimp only at hrg;obtain⟨v,rfl,hOl⟩:=hrg;obtain⟨la,lc,rfl,_⟩:=own_shape hOl;have q3:=HNB.out.blk.cell 3
     simp at q3
     obtain⟨wC,hrunC,hNC,hoC,hzC⟩:=HNB.out.put hlt hn (.int .i64 (l.length:Int));have HR:=jq hr;have HNC:=jq hNC;have HOC:=jq hoC;clear hr hBB k3 hrunA hNC hoC hOl
     go_wp2_with fail
     go_roundw
     case rel=>exact⟨k+1,by omega,by go_num,jq (HNC.out.next (by unfold cntF;rw[HF.out];dsimp only;rw[HR.out];rfl)),jq (HUB.out.trans (Upon.of_only (P:=λq=>q=w.heap.size) HOC.out (λg hg=>.inl (jE.1 hg))) (λg hg=>.inl hg)),jq (λi b' hi hb=>by
      by_cases e:i=k
      ·subst e;rw[HF.out]at hb;injection hb with hb;subst hb;rw[HR.out];exact λe=>by cases e
      ·exact hG.out i b' (by omega) hb)⟩
     case measure=>simp[intOf];omega
  ·obtain rfl:k=n:=by omega
   go_wp2_with fail
   go_ret2
   exact⟨.inl ⟨hG.out,_,_,_,rfl,hN.out,by omega,Nat.le_refl _,by omega⟩,HB1.out.trans (hU.out.below (by omega) (λq hq=>by omega))⟩
end Pool
namespace Pool
open Go.RowKit Go.Deep Mem Crc Walk
open Store (St Chg setC none' Sto bare Files)
open Disk (Blank)
def noF:Files:=λ_=>none
theorem bare_new {w:World} {Q:Nat->Prop} {s d g N cm:Nat} (h:St w Q s d g N cm false none'): (bare s d g N cm).At w Q false noF 0:=⟨⟨none',[],h,rfl,λ_ h=>absurd rfl h,Nat.le_refl _,λ_ h=>by simp at h⟩,by omega,λ_ _ h=>by cases h⟩
theorem rdF_no:rdF noF=no:=by funext i;rfl
theorem new_none {s:Nat} (T:Sto s) {w:World} {Qs:Nat->Prop} {j:Nat} (h:T.At w Qs false noF j) (n room:Nat) (hn:n<=4096) (hr1:1<=room) (hr2:room<=65536):
  Calls Tryz.prog 6 #[.pointer (some ⟨s,0,none⟩),.int .i64 (n:Int),.int .i64 (room:Int)] w λe w'=>∃p sm hm,e=.returned (.tuple #[.pointer (some ⟨p,0,none⟩),.int .i64 0])/\Pl ⟨p,s,T,sm,hm,n,room⟩ j w' Qs (λ_=>none) no no/\(w.heap.size<=p/\w.heap.size<=sm/\w.heap.size<=hm)/\Below w.heap.size w w':=by
 refine(new_gen h hn hr1 hr2 (λW hW=>?_)).mono ?_
 ·refine(T.names (T.later h hW)).mono ?_;rintro e w' ⟨v,ss,rfl,h1,h2,h3,h4⟩;have hss:ss= []:=List.eq_nil_iff_forall_not_mem.2 (λnm hm=>(h2 nm).1 hm rfl);exact⟨v,ss,rfl,h1,h2,by rw[hss];exact List.Pairwise.nil,h3,h4⟩
 ·rintro e w' ⟨⟨-,p,sm,hm,rfl,hns,n1,n2,n3⟩|⟨⟨i,b,_,hb,_⟩,_⟩,hB⟩
  ·have:=hns.pool hn hr2 (λnm hf=>absurd rfl hf) (λi b _ hb=>by cases hb);rw[rdF_no]at this;exact⟨p,sm,hm,rfl,this,⟨n1,n2,n3⟩,hB⟩
  ·cases hb
theorem Went.from {A:Pa} {ct:Nat} {w w':World} {Qs:Nat->Prop} {hv:Nat->Option Value} {S' Hd':Rows} {X:Nat->Prop} {B:Nat} (h:Went A ct (allQ A Qs hv) w w' S' Hd' X) (hQ:∀k,allQ A Qs hv k->B<=k) (hB:B<=w.heap.size):
  ∃Qs' hv',Pl A ct w' Qs' hv' S' Hd'/\(∀k,allQ A Qs' hv' k->B<=k)/\(∀k,X k->¬allQ A Qs' hv' k)/\Below B w w':=by
 obtain⟨Q',hv',hp,hq,hx,hu⟩:=h;exact⟨Q',hv',hp,λk hk=>(hq k hk).elim (hQ k) (λh=>by omega),hx,hu.below hB hQ⟩
theorem many_one (Hd:Rows):many Hd 1=(Hd 0).length:=by simp[many]
theorem best_one (Hd:Rows): (bestOf (holds Hd 1)).1=0:=by
 unfold holds
 split
 ·show(better (0,0) (0,(Hd 0).length)).1=0;unfold better
  split <;> rfl
 ·rfl
theorem made_oneS {A:Pa} (S Hd:Rows) (hn:A.n=1):madeS A S Hd 0=if(Hd 0).length<A.room then S 0 else S 0++Hd 0:=by
 unfold madeS;rw[hn,many_one,best_one]
 split
 ·rfl
 ·rw[upd_same]
theorem made_oneH {A:Pa} (Hd:Rows) (hn:A.n=1):madeH A Hd 0=if(Hd 0).length<A.room then Hd 0 else []:=by
 unfold madeH;rw[hn,many_one,best_one]
 split
 ·rfl
 ·rw[upd_same]
theorem put_one {A:Pa} {ct:Nat} {w:World} {Qs:Nat->Prop} {hv:Nat->Option Value} {S Hd:Rows} {B:Nat} (h:Pl A ct w Qs hv S Hd) (hct:ct<1000) (hQ:∀k,allQ A Qs hv k->B<=k) (hB:B<=w.heap.size) (hn:A.n=1) (hr:A.room=2) (a:Nat) (ha:a<4294967296) (s l:List (List Nat)) (hs:S 0=s) (hl:Hd 0=l) (hlen:s.length+l.length<=1000):
  Calls Tryz.prog 15 #[.pointer (some ⟨A.p,0,none⟩),.int .i64 0,.agg #[.int .u32 (a:Int),.int .u32 0,.int .u32 0,.int .u32 0,.int .u32 0,.int .u32 0,.int .u32 0]] w λe w'=>e=.returned (.int .i64 0)/\∃Qs' hv' S' Hd',Pl A (ct+1) w' Qs' hv' S' Hd'/\(∀k,allQ A Qs' hv' k->B<=k)/\S' 0=(if l.length<2 then s else s++l)/\Hd' 0=(if l.length<2 then l else [])++ [[a,0,0,0,0,0,0]]/\Below B w w':=by
 subst hs;subst hl
 have hlen':∀j,j<A.n->(S j).length+(Hd j).length<=30000:=λj hj=>by
  obtain rfl:j=0:=by omega
  omega
 refine(put_any h (by omega) 0 (by omega) [a,0,0,0,0,0,0] ⟨rfl,by simpa using ha⟩ (by omega) hlen' (by rw[hn,many_one];omega)).mono ?_;rintro e w' ⟨rfl,hw⟩;obtain⟨Q',hv',hp,hq,_,hB'⟩:=hw.from hQ hB;refine⟨rfl,Q',hv',_,_,hp,hq,?_,?_,hB'⟩
 ·rw[made_oneS _ _ hn,hr]
 ·rw[upd_same,made_oneH _ hn,hr]
theorem begin_any (w:World):
  Calls Tryz.prog 5 #[] w λe w'=>∃d s g cm Q,e=.returned (.tuple #[.pointer (some ⟨d,0,none⟩),.pointer (some ⟨s,0,none⟩),.bool true])/\St w' Q s d g 400 cm false none'/\(∀k,Q k->w.heap.size<=k)/\Below w.heap.size w w':=by
 have HN:Hid (Calls Tryz.prog 18 #[.int .i64 400] w λe w'=>∃d g,e=.returned (.tuple #[.pointer (some ⟨d,0,none⟩),.int .i64 0])/\Blank w' d g 400 false/\w.heap.size<=d/\w.heap.size<=g/\Below w.heap.size w w'):=jq (Go.Proofs.YtfgjnpbffppocaaGreatDoor.Disk.new_any 400 w (by decide) (by decide))
 go_enter Tryz.func5,Tryz.ntmps5
 go_wp2_with fail
 refine HN.out.mono ?_;rintro e w1 ⟨d,g,rfl,hD,hd,hg,hB1⟩;have HO:=jq (Go.Proofs.YtfgjnpbffppocaaGreatDoor.Store.open_any (N:=400) (by decide) hD);have HB1:=jq hB1;clear hD hB1
 go_wp2_with fail
 refine HO.out.mono ?_;rintro e w2 ⟨s,cm,rfl,hst,hs,hcm,hB2⟩;have HST:=jq hst;have HB2:=jq hB2;clear hst hB2
 go_wp2_with fail
 have:=HB1.out.size;refine bodyPost_ret (v:=.tuple #[.pointer (some ⟨d,0,none⟩),.pointer (some ⟨s,0,none⟩),.bool true]) (by simp[results,Tryz.results5,go_sem]) rfl ⟨d,s,g,cm,_,rfl,HST.out,λk hk=>?_,HB1.out.trans (HB2.out.mono this)⟩;rcases hk with rfl|rfl|rfl|rfl <;> omega
theorem awake_any (w:World):Calls Tryz.prog 4 #[] w λe w'=>e=.returned (.bool true)/\Below w.heap.size w w':=by
 have HBG:=jq (begin_any w)
 go_enter Tryz.func4,Tryz.ntmps4
 go_wp2_with fail
 refine HBG.out.mono ?_;rintro e w1 ⟨d,s,g,cm,Q,rfl,hst,hQ,hB1⟩
 have HN:Hid (Calls Tryz.prog 6 #[.pointer (some ⟨s,0,none⟩),.int .i64 1,.int .i64 2] w1 λe w'=>∃A:Pa,e=.returned (.tuple #[.pointer (some ⟨A.p,0,none⟩),.int .i64 0])/\Pl A 0 w' Q (λ_=>none) no no/\(∀k,allQ A Q (λ_=>none) k->w.heap.size<=k)/\A.n=1/\A.room=2/\Below w1.heap.size w1 w'):=jq (by
  have hz:=hB1.size;refine(new_none (bare s d g 400 cm) (bare_new hst) 1 2 (by decide) (by decide) (by decide)).mono ?_;rintro e w' ⟨p,sm,hm,rfl,hp,⟨n1,n2,n3⟩,hB⟩;refine⟨_,rfl,hp,λk hk=>?_,rfl,rfl,hB⟩;rcases hk with hk|hk|⟨_,_,_,hk,_⟩
  ·exact hQ k hk
  ·rcases hk with hk|hk|hk <;> (simp only at hk;omega)
  ·cases hk)
 have HB1:=jq hB1;clear hst hQ hB1
 go_wp2_with fail
 refine HN.out.mono ?_;rintro e w2 ⟨A,rfl,hp,hq,hAn,hAr,hB2⟩;have HAN:=jq hAn;have HAR:=jq hAr;have HB2:=jq (HB1.out.trans (hB2.mono HB1.out.size));have HP1:=jq (put_one hp (by decide) hq HB2.out.size hAn hAr 1 (by decide) [] [] rfl rfl (by simp));clear hp hq hB2 hAn hAr
 go_wp2_with fail
 refine HP1.out.mono ?_;rintro e w3 ⟨rfl,Q3,hv3,S3,H3,hp3,hq3,es3,eh3,hB3⟩
 simp at es3 eh3
 have HB3:=jq (HB2.out.trans hB3);have HP2:=jq (put_one hp3 (by decide) hq3 HB3.out.size HAN.out HAR.out 2 (by decide) _ _ es3 eh3 (by simp));clear hp3 hq3 es3 eh3 hB3
 go_wp2_with fail
 refine HP2.out.mono ?_;rintro e w4 ⟨rfl,Q4,hv4,S4,H4,hp4,hq4,es4,eh4,hB4⟩
 simp at es4 eh4
 have HB4:=jq (HB3.out.trans hB4);have HP3:=jq (put_one hp4 (by decide) hq4 HB4.out.size HAN.out HAR.out 3 (by decide) _ _ es4 eh4 (by simp));clear hp4 hq4 es4 eh4 hB4
 go_wp2_with fail
 refine HP3.out.mono ?_;rintro e w5 ⟨rfl,Q5,hv5,S5,H5,hp5,hq5,es5,eh5,hB5⟩
 simp at es5 eh5
 have HB5:=jq (HB4.out.trans hB5);have hm5:many H5 A.n=1:=by rw[HAN.out,many_one,eh5];rfl
 have hh5:=held_any hp5;rw[hm5]at hh5;have HH:=jq hh5;have h0: (0:Nat) <A.n:=by rw[HAN.out];decide
 have HT:=jq (take_any hp5 (by decide) 0 h0 1 (by decide) (by decide) (by rw[es5,eh5];decide) (by rw[hm5];decide));have HP5:=jq hp5;have HQ5:=jq hq5;have HES:=jq es5;have HEH:=jq eh5;clear hp5 hq5 es5 eh5 hB5 hm5 hh5 h0
 go_wp2_with fail
 refine HH.out.mono ?_;rintro e w6 ⟨rfl,rfl⟩
 go_wp2_with fail
 refine HT.out.mono ?_;rintro e w7 ⟨v,rfl,hO7,hw7⟩;obtain⟨Q7,hv7,hp7,hq7,_,hB7⟩:=hw7.from HQ5.out HB5.out.size;have hl7: (S5 0++H5 0).take 1= [[1,0,0,0,0,0,0]]:=by rw[HES.out,HEH.out];rfl
 have hO7':w7.ownsRow w6.heap.size 26 7 v 1 (flatW [[1,0,0,0,0,0,0]]):=by
  rw[hl7]at hO7;exact hO7
 obtain⟨va,vc,rfl,_,hL,_,_⟩:=own_shape hO7';obtain⟨g7,o7,rfl,_,hc7⟩:=hL.resolve_left (by simp[flatW,vals]);have k0:=hc7 0 (.int .u32 1) rfl;rw[Nat.add_zero]at k0;have hal:=all_any hp7 (by rw[HAN.out,many_one,many_one,upd_same,upd_same,HES.out,HEH.out];decide);have hnum:many (upd H5 0 ((H5 0).drop (1-(S5 0).length))) A.n+many (upd S5 0 ((S5 0).drop 1)) A.n=2:=by rw[HAN.out,many_one,many_one,upd_same,upd_same,HES.out,HEH.out];rfl
 rw[hnum]at hal;have HAL:=jq hal;have HP7:=jq hp7;have HB7:=jq (HB5.out.trans hB7);have h0: (0:Nat) <A.n:=by rw[HAN.out];decide
 clear hO7 hO7' hL hc7 hl7 hal hp7 hq7 hB7 hnum hw7
 go_wp2_with fail
 refine HAL.out.mono ?_;rintro e w8 ⟨rfl,hB8⟩;have hw:=waiting_any (HP7.out.later hB8) 0 h0 (by rw[upd_same,HES.out];decide) (by rw[upd_same,HES.out,HEH.out];decide);have hnum: (upd S5 0 ((S5 0).drop 1) 0).length+(upd H5 0 ((H5 0).drop (1-(S5 0).length)) 0).length=2:=by rw[upd_same,upd_same,HES.out,HEH.out];rfl
 rw[hnum]at hw;have HW:=jq hw;have HB8:=jq (HB7.out.trans (hB8.mono HB7.out.size));clear hw hnum hB8
 go_wp2_with fail
 refine HW.out.mono ?_;rintro e w9 ⟨rfl,rfl⟩
 go_wp2_with fail
 go_ret
 exact⟨rfl,HB8.out.drew⟩
end Pool
end Go.Proofs.YtfgjnpbffppocaaGreatDoor
