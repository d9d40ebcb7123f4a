/- Part. -/
import Derived.Test.YtfgjnpbffppocaaGreatDoorF0
import Derived.Test.YtfgjnpbffppocaaGreatDoorF0Q
import Derived.Test.YtfgjnpbffppocaaGreatDoorF24
import Derived.Great.BuildSlice
set_option maxHeartbeats 1000000
set_option maxRecDepth 100000
namespace Go.Proofs.YtfgjnpbffppocaaGreatDoor
namespace Dk
open Go.RowKit Go.Deep Mem Crc
theorem infoWr: (Tryz.prog.info? 194).map (λi=>(i.zero,i.size,i.bytes))=some (some (.agg (#[Value.int .i64 0]++Array.replicate 128 (.int .u8 0))),129,136):=by kernel_rfl
theorem infoBl: (Tryz.prog.info? 192).map (·.size)=some 128:=by kernel_rfl
theorem lenBl:Tryz.prog.arrayLen 192=128:=by kernel_rfl
theorem elemBl:Tryz.prog.elem 192=5:=by kernel_rfl
theorem undBl:Tryz.prog.underlying 192=some (.array (Tryz.prog.arrayLen 192) (Tryz.prog.elem 192)):=by rw[lenBl,elemBl];exact Tryz.underlying192
theorem run_arrayAt (a:Option Addr) (cp:Nat) (w:World): (Instr.arrayAt 192 (.slice a 128 cp)).run Tryz.prog w=.ok (.pointer a) w:=by
 unfold Instr.arrayAt;rw[Sem.run_bind,run_underlying Tryz.underlying192 w]
 simp[Sem.run_pure]
theorem fold_splice (off:Nat) (l:List Value) (cs:Array Value) (h:off+l.length<=cs.size): (l.zipIdx 0).foldl (λcs (x:Value×Nat)=>cs.setIfInBounds (off+x.2) x.1) cs=(cs.toList.take off++(l++cs.toList.drop (off+l.length))).toArray:=by
 obtain⟨h1,h2⟩:=Great.foldl_set off l 0 cs
 apply Array.ext_getElem?
 intro k;rw[h2 k];refine Eq.trans ?_ (List.getElem?_toArray (xs:=cs.toList.take off++(l++cs.toList.drop (off+l.length)))).symm
 by_cases hk:k<off
 ·rw[if_neg (by omega),List.getElem?_append_left (by simp;omega),List.getElem?_take,if_pos hk,Array.getElem?_toList]
 ·rw[List.getElem?_append_right (by simp;omega)];have e: (cs.toList.take off).length=off:=by simp;omega
  rw[e]
  by_cases hk2:k<off+l.length
  ·rw[if_pos ⟨by omega,by omega,by omega⟩,List.getElem?_append_left (by omega)]
   simp
  ·rw[if_neg (by omega),List.getElem?_append_right (by omega),List.getElem?_drop,Array.getElem?_toList]
   congr 1
   omega
theorem fill_cons {place:Nat->Option (Nat×Nat)} {cells:Array Value} {i off size:Nat} {v:Value} {rest:List (Nat×Value)} (hp:place i=some (off,size)) (hs:v.cells.size=size) (hle:off+size<=cells.size):
  Instr.fill place cells ((i,v)::rest)=Instr.fill place (cells.toList.take off++(v.cells.toList++cells.toList.drop (off+size))).toArray rest:=by
 have:=fold_splice off v.cells.toList cells (by rw[Array.length_toList,hs];exact hle);rw[Array.length_toList,hs]at this;rw[<-this]
 conv=>lhs;unfold Instr.fill
 rw[hp];dsimp only;rw[if_neg (by rw[hs];simp;omega)]
 congr 1
 rw[<-Array.foldl_toList]
 simp
def placesOf (P:Program) (t:TypeId):Option (List (Nat×Nat)):=match P.underlying t with
 |some (.struct fields)=>fields.toList.mapM (λf=>(P.info? f.type).map λi=>(f.offset,i.size))
 |_=>none
theorem built_struct {P:Program} {t:TypeId} {it:TypeInfo} {z:Value} {pl:List (Nat×Nat)} (hi:P.info? t=some it) (hz:it.zero=some z) (hp:placesOf P t=some pl) (parts:List (Nat×Value)):P.built t parts=Instr.fill (pl.toArray[·]?) z.cells parts:=by
 unfold Program.built;unfold placesOf at hp;rw[hi]
 cases hu:P.underlying t with
 |none=>rw[hu]at hp;cases hp
 |some d=>
  rw[hu]at hp;cases d <;> first|(dsimp only at hp⊢;rw[hz,hp])|cases hp
theorem built_write (i:Int) (cs:List Value) (hc:cs.length=128):Tryz.prog.built 194 [(0,.int .i64 i),(1,.agg cs.toArray)]=some (Value.int .i64 i ::cs).toArray:=by
 obtain⟨it,hi,hz,h1,h2⟩:=info_parts infoWr;rw[built_struct hi hz (pl:=[(0,1),(1,128)]) (by kernel_rfl)];rw[fill_cons (off:=0) (size:=1) rfl rfl (by simp[Value.cells])];rw[fill_cons (off:=1) (size:=128) rfl (by simp[Value.cells,hc]) (by simp[Value.cells])]
 simp[Instr.fill,Value.cells]
theorem run_built (i:Int) (cs:List Value) (hc:cs.length=128) (w:World): (Instr.build 194 #[(0,.int .i64 i),(1,.agg cs.toArray)]).run Tryz.prog w=.ok (.agg (Value.int .i64 i ::cs).toArray) w:=run_build w _ _ _ (built_write i cs hc)
theorem run_row (vs:List Value) (hc:vs.length=129) (w:World): (Instr.buildSlice 95 1 #[(0,.agg vs.toArray)]).run Tryz.prog w=.ok (.slice (some ⟨w.heap.size,0,none⟩) 1 1) (w.alloc (.cells vs.toArray 194)):=by
 obtain⟨it,hi,hz,h1,h2⟩:=info_parts infoWr;refine run_buildSlice w _ _ 1 _ _ it _ Tryz.underlying95 hi hz (by rw[h1];decide) (by rw[h1];decide) ?_;rw[fill_cons (off:=0) (size:=129) (by rw[h1]) (by simp[Value.cells,hc]) (by rw[h1];simp)];rw[h1]
 simp[Instr.fill,Value.cells]
theorem lies_ne {w:World} {d g:Nat} {wv:Value} {m:DM} (h:Dk w d g wv m) {a:Option Addr} {b:List UInt8} (hb:b≠[]) (hL:Lies w a (b.map bv)):blk a≠some d:=by
 rcases hL with h0|⟨k,off,rfl,_,hc⟩
 ·exact absurd (List.map_eq_nil_iff.1 h0) hb
 ·intro e;have e2:k=d:=by simpa[blk]using e
  subst e2
  cases b with
  |nil=>exact hb rfl
  |cons x r=>
   have h2:=hc 0 (bv x) (by simp);rw[h.disk.cell]at h2;generalize off+0=q at h2
   match q,h2 with
   |0,h2=>simp[bv]at h2
   |1,h2=>
    simp at h2
    obtain⟨a,c,e,_⟩:=own_shape h.wt;rw[e]at h2;cases h2
   |2,h2=>simp[bv]at h2
   |3,h2=>simp[bv]at h2
   |n+4,h2=>simp at h2
section
variable {P:Program} {ops:Array Oper} {o:Oper} {a:Act} {w:World} {K:Act->World->Prop} {Q:Exit->Act->World->Prop} {E:Prop}
theorem step_load (hg:o.guard=none) (t:TypeId) (x:Operand) (hop:o.op=.load t x) {v:Value} (hr: (Instr.loadAt t (a.eval x)).run P w=.ok v w) (hK:K (a.put o.dst v) w):if Region.wanted o (yielded ops a.tmps)=true then Oper.wp P o a w K Q else E:=by
 rw[if_pos (by simp[Region.wanted,hg])];unfold Oper.wp execOp;simp only[hop,Sem.run_bind,hr,Result.andThen_ok];exact hK
theorem step_build (hg:o.guard=none) (t:TypeId) (parts:Array (Nat×Operand)) (hop:o.op=.build t parts) {v:Value} (hr: (Instr.build t (parts.map fun(i,x)=>(i,a.eval x))).run P w=.ok v w) (hK:K (a.put o.dst v) w):if Region.wanted o (yielded ops a.tmps)=true then Oper.wp P o a w K Q else E:=by
 rw[if_pos (by simp[Region.wanted,hg])];unfold Oper.wp execOp;simp only[hop,Sem.run_bind,hr,Result.andThen_ok];exact hK
theorem step_buildSlice (hg:o.guard=none) (t:TypeId) (n:Nat) (parts:Array (Nat×Operand)) (hop:o.op=.buildSlice t n parts) {v:Value} {w':World} (hr: (Instr.buildSlice t n (parts.map fun(i,x)=>(i,a.eval x))).run P w=.ok v w') (hK:K (a.put o.dst v) w'):if Region.wanted o (yielded ops a.tmps)=true then Oper.wp P o a w K Q else E:=by
 rw[if_pos (by simp[Region.wanted,hg])];unfold Oper.wp execOp;simp only[hop,Sem.run_bind,hr,Result.andThen_ok];exact hK
end
theorem load_wait {p:Addr} {v:Value} {w:World} (h:w.cell? p=some v): (Instr.loadAt 95 (.pointer (some p))).run Tryz.prog w=.ok v w:=by
 go_simp
theorem write_done {w2 w6:World} {d g:Nat} {wv:Value} {m m1:DM} {i:Nat} {b:List UInt8} {k0 g3 cap3:Nat} {news vs:List Value} (h:Dk w2 d g wv m1) (e1:m1.wt=m.wt) (e2:m1.bl=m.bl) (hi:i<m.bl.length) (hb:b.length=128) (hk:m1.wt.length=k0) (hn:news=b.map bv) (hv:vs=Value.int .i64 (i:Int)::news)
  (hg: (w2.alloc (.cells vs.toArray 194)).drew.grownBy w6 wv.ownBlock) (hat:wv.ownBlock=some g3\/g3=(w2.alloc (.cells vs.toArray 194)).drew.heap.size) (ho:w6.ownsRow 0 194 129 (.slice (some ⟨g3,0,none⟩) (k0+1) cap3) (k0+1) (wtC m1.wt++vs)):
  w6.cell? ⟨d,1,none⟩=some wv/\w6.frozen? ⟨d,1,none⟩=false/\Dk (w6.setCell ⟨d,1,none⟩ (.slice (some ⟨g3,0,none⟩) (k0+1) cap3)) d g (.slice (some ⟨g3,0,none⟩) (k0+1) cap3) {m1 with wt:=m.wt++ [(i,b)]}/\Upon (λk=>k=d\/wv.ownBlock=some k) w2 (w6.setCell ⟨d,1,none⟩ (.slice (some ⟨g3,0,none⟩) (k0+1) cap3))/\∀k,(Value.slice (some ⟨g3,0,none⟩) (k0+1) cap3).ownBlock=some k->wv.ownBlock=some k\/w2.heap.size<=k:=by
 have hg2:=grown_later (((Below.refl _ w2).alloc jn (.cells vs.toArray 194)).drew) hg;have hd6:=h.disk.grown hg2 (Ne.symm h.wd);have hr6:=h.row.grown hg2 (Ne.symm h.wg);have hs6:=hd6.set 1 (.slice (some ⟨g3,0,none⟩) (k0+1) cap3);have hu6:Upon (λk=>k=d\/wv.ownBlock=some k) w2 w6:=Upon.of_grown hg2 (λq hq=>.inl (.inr hq));refine⟨hd6.cell 1,hd6.frozen 1,⟨hs6,hr6.far (Ne.symm h.dg) _,?_,h.len,?_,h.f0,h.f1,h.small,λe=>absurd e (by show m.wt++ [(i,b)]≠[];simp)⟩,hu6.set (.inl (.inl rfl)) _,?_⟩
 ·show World.ownsRow _ 0 _ 129 _ (m.wt++ [(i,b)]).length (wtC (m.wt++ [(i,b)]));rw[wtC_snoc,jL,List.length_singleton,<-e1,hk,<-hn,<-hv];exact own_far ho (own_ne_blk ho hd6 (by decide)) _
 ·intro x hx;rcases List.mem_append.1 hx with hx|hx
  ·exact h.wlen x (by rw[e1];exact hx)
  ·rw[jE.1 hx];exact⟨by rw[e2];exact hi,hb⟩
 ·intro q hq;have e:g3=q:=by simpa[Value.ownBlock]using hq
  rcases hat with h1|h1
  ·exact .inl (by rw[h1,e])
  ·right
   have: (w2.alloc (.cells vs.toArray 194)).drew.heap.size=w2.heap.size+1:=by show(w2.alloc _).heap.size=_;simp
   omega
theorem write_on {d g:Nat} {wv:Value} {m:DM} (i:Nat) (a:Option Addr) (cp:Nat) (b:List UInt8) {w:World} (h:Dk w d g wv m) (hoff:m.off=false) (hi:i<m.bl.length) (hb:b.length=128) (hL:Lies w a (b.map bv)) (hn:m.wt.length<=1000000):
  Calls Tryz.prog 80 #[.pointer (some ⟨d,0,none⟩),.int .i64 (i:Int),.slice a 128 cp] w λe w'=>e=.returned (.int .i64 (m.write i b).2)/\∃wv',Dk w' d g wv' (m.write i b).1/\Upon (λk=>k=d\/wv.ownBlock=some k) w w'/\∀k,wv'.ownBlock=some k->wv.ownBlock=some k\/w.heap.size<=k:=by
 obtain⟨i0,hi0,hz0,hz1,hz2⟩:=info_parts infoWr;have hmay:mayE m i=0:=by unfold mayE;rw[hoff,if_neg (by decide),if_pos (by omega)]
 have hM:=may_any i h;rw[hmay]at hM;have HM:=jq hM;have HD:=jq (deed_any h);clear hM hmay;have hbn:b≠[]:=λe=>by rw[e]at hb;simp at hb
 by_cases h0:m.fuse=0
 ·have hde:m.deed.2=6:=by unfold DM.deed;rw[if_pos h0]
  have hwr:m.write i b=(m.deed.1,6):=by unfold DM.write;rw[if_pos h0]
  rw[hde]at HD;rw[hwr];clear h hL hde hwr h0
  go_enter Tryz.func80,Tryz.ntmps80
  go_wp2_with fail
  refine HM.out.mono ?_;rintro e w1 ⟨rfl,rfl⟩
  go_wp2_with fail
  refine HD.out.mono ?_;rintro e w2 ⟨rfl,hd2,ho2⟩;have HD2:=jq hd2;have HO2:=jq ho2;clear hd2 ho2 HD
  go_wp2_with fail
  go_ret
  exact⟨rfl,wv,HD2.out,Upon.of_only HO2.out (λq hq=>.inl (.inl (jE.1 hq))),λk hk=>.inl hk⟩
 ·have hde:m.deed.2=0:=by unfold DM.deed;rw[if_neg h0];split <;> rfl
  have hdw:m.deed.1.wt=m.wt/\m.deed.1.bl=m.bl/\m.deed.1.off=m.off:=by unfold DM.deed;rw[if_neg h0];split <;> exact⟨rfl,rfl,rfl⟩
  have hwr:m.write i b=({m.deed.1 with wt:=m.wt++ [(i,b)]},0):=by unfold DM.write;rw[if_neg h0]
  rw[hde]at HD;rw[hwr];have hne:=lies_ne h hbn hL;obtain⟨news,hnews⟩:=jl (b.map bv);have hnl:news.length=128:=by rw[hnews,jP,hb]
  have HL:=jq hL;have HNE:=jq hne;have HNW:=jq hnews;have HBN:=jq hbn;have HB:=jq hb;have HI:=jq hi;have HDW:=jq hdw;obtain⟨m1,hm1⟩:=jl m.deed.1;rw[<-hm1]at HD HDW⊢;have hsz:w.heap.size<=w.heap.size:=Nat.le_refl _;clear h hL hde hwr h0 hne hnews hdw hm1 hbn hb hi hoff
  go_enter Tryz.func80,Tryz.ntmps80
  go_wp2_with fail
  refine HM.out.mono ?_;rintro e w1 ⟨rfl,rfl⟩
  go_wp2_with fail
  refine HD.out.mono ?_;rintro e w2 ⟨rfl,hd2,ho2⟩;have hL2:Lies w2 a (b.map bv):=HL.out.only ho2 (λq hq hm=>HNE.out (by rw[hq,jE.1 hm]));obtain⟨ag,ao,rfl,hlt,hc⟩:=hL2.resolve_left (λe=>HBN.out (List.map_eq_nil_iff.1 e));have hR:w2.rangeAt ag ao news:=λj v hv=>hc j v (by rw[<-HNW.out];exact hv)
  obtain⟨k0,hk0⟩:=jl m.wt.length;have hk1:m1.wt.length=k0:=by rw[HDW.out.1,hk0]
  have c1:=hd2.cells.2.1;have f1:=hd2.disk.frozen 1;obtain⟨vs,hvs⟩:=jl (Value.int .i64 (i:Int)::news);have hvl:vs.length=129:=by rw[hvs,List.length_cons,hnl]
  have hld: (Instr.loadAt 192 (.pointer (some ⟨ag,ao,none⟩))).run Tryz.prog w2.drew=.ok (.agg news.toArray) w2.drew:=run_loadAt_mid w2.drew ag ao _ news _ hR undBl rfl (by rw[hnl];exact infoBl);have haa: (Instr.arrayAt 192 (.slice (some ⟨ag,ao,none⟩) 128 cp)).run Tryz.prog w2.drew=.ok (.pointer (some ⟨ag,ao,none⟩)) w2.drew:=run_arrayAt _ _ _;have hbu: (Instr.build 194 #[(0,.int .i64 (i:Int)),(1,.agg news.toArray)]).run Tryz.prog w2.drew=.ok (.agg vs.toArray) w2.drew:=by rw[hvs];exact run_built i news hnl _
  have hrw: (Instr.buildSlice 95 1 #[(0,.agg vs.toArray)]).run Tryz.prog w2.drew=.ok (.slice (some ⟨w2.heap.size,0,none⟩) 1 1) (w2.alloc (.cells vs.toArray 194)).drew:=run_row vs hvl w2.drew;have cA: (w2.alloc (.cells vs.toArray 194)).cell? ⟨d,1,none⟩=some wv:=((hd2.disk.alloc _).cell 1);have HD2:=jq hd2;have HO2:=jq ho2;have HVS:=jq hvs;have HK1:=jq hk1;have HVL:=jq hvl;have HL1:Hid ((Instr.loadAt 95 (.pointer (some ⟨d,1,none⟩))).run Tryz.prog w2.drew=.ok wv w2.drew):=jq (load_wait (by simpa using c1));have HLA:Hid ((Instr.loadAt 95 (.pointer (some ⟨d,1,none⟩))).run Tryz.prog (w2.alloc (.cells vs.toArray 194)).drew=.ok wv (w2.alloc (.cells vs.toArray 194)).drew):=jq (load_wait (by rw[World.cell?_drew];exact cA));clear hd2 ho2 HD hL2 hc hR hnl hvs hvl hk1 hk0;have HOW:Hid ((w2.alloc (.cells vs.toArray 194)).drew.ownsRow 0 194 129 wv k0 (wtC m1.wt)):=jq (by rw[<-HK1.out];exact own_later HD2.out.wt (((Below.refl _ w2).alloc jn _).drew));have HNS:Hid (∀j u,vs[j]? =some u->(w2.alloc (.cells vs.toArray 194)).drew.cell? ((⟨w2.heap.size,0,none⟩:Addr).add j)=some u):=jq (lies_add (xs:=vs) (new_lies w2 194 vs.toArray))
  have HONE:Hid (∀u∈vs,u.oneCell'=true):=jq (λu hu=>by
   rw[HVS.out,HNW.out]at hu;rcases List.mem_cons.1 hu with rfl|hu
   ·rfl
   ·exact oneCell_bytes b u hu)
  have hk0n:k0<=1000000:=by rw[<-HK1.out,HDW.out.1];exact hn
  go_wp2_with fail
  refine wp_region_any (by kernel_rfl) ?_
  try(change wpAny _ _ _ _ _ _ _ (World.drew _))
  refine wpAny_take (i:=0) (v:=?v1) rfl (by kernel_rfl) (by kernel_rfl) (by kernel_rfl) (λ_ _ _ h=>h) (Or.inl ⟨by rfl,?hy1⟩) ?rest1
  case hy1=>(intro w;go_simp;try with_reducible rfl)
  change wpAny _ _ _ _ _ _ (Act.put _ (some 23) _) _
  try simp only[Act.put,ji,js,ju]
  refine wpAny_take (i:=1) (v:=?v2) rfl (by kernel_rfl) (by kernel_rfl) (by kernel_rfl) (λ_ _ _ h=>h) (Or.inl ⟨by rfl,?hy2⟩) ?rest2
  case hy2=>(intro w;go_simp;try with_reducible rfl)
  change wpAny _ _ _ _ _ _ (Act.put _ (some 24) _) _
  try simp only[Act.put,ji,js,ju]
  refine wpAny_take (i:=2) (v:=?v3) rfl (by kernel_rfl) (by kernel_rfl) (by kernel_rfl) (λ_ _ _ h=>h) (Or.inl ⟨by rfl,?hy3⟩) ?rest3
  case hy3=>(intro w;go_simp;try with_reducible rfl)
  change wpAny _ _ _ _ _ _ (Act.put _ (some 25) _) _
  try simp only[Act.put,ji,js,ju]
  refine wpAny_take (i:=3) (v:=?v4) rfl (by kernel_rfl) (by kernel_rfl) (by kernel_rfl) (λ_ _ _ h=>h) (Or.inl ⟨by rfl,?hy4⟩) ?rest4
  case hy4=>(intro w;go_simp;try with_reducible rfl)
  change wpAny _ _ _ _ _ _ (Act.put _ (some 26) _) _
  try simp only[Act.put,ji,js,ju]
  refine wpAny_take (i:=5) (v:=?v5) rfl (by kernel_rfl) (by kernel_rfl) (by kernel_rfl) (λ_ _ _ h=>h) (Or.inl ⟨by rfl,?hy5⟩) ?rest5
  case hy5=>(intro w;go_simp;try with_reducible rfl)
  change wpAny _ _ _ _ _ _ (Act.put _ (some 28) _) _
  try simp only[Act.put,ji,js,ju]
  refine wpAny_take (i:=6) (v:=?v6) rfl (by kernel_rfl) (by kernel_rfl) (by kernel_rfl) (λ_ _ _ h=>h) (Or.inl ⟨by rfl,?hy6⟩) ?rest6
  case hy6=>(intro w;go_simp;try with_reducible rfl)
  change wpAny _ _ _ _ _ _ (Act.put _ (some 29) _) _
  try simp only[Act.put,ji,js,ju]
  refine wpAny_ready (rs:=[4,7]) (by kernel_rfl) (by simp) ?_;refine' AllReady.cons (o:=?o7) ?ho7 (λK hK=>?step7) ?more7
  case ho7=>(simp only[jt,jb,ja];rfl)
  case step7=>
   refine step_load rfl _ _ rfl HL1.out ?_;refine hK _ _ ?_;clear hK K
   try simp only[Act.put,ji,js,ju]
   refine wpAny_ready (rs:=[7]) (by kernel_rfl) (by simp) ?_;refine' AllReady.cons (o:=?o8) ?ho8 (λK hK=>?step8) ?more8
   case ho8=>(simp only[jt,jb,ja];rfl)
   case step8=>
    go_simp;refine hK _ _ ?_;clear hK K
    try simp only[Act.put,ji,js,ju]
    refine wpAny_ready (rs:=[8]) (by kernel_rfl) (by simp) ?_;refine' AllReady.cons (o:=?o9) ?ho9 (λK hK=>?step9) ?more9
    case ho9=>(simp only[jt,jb,ja];rfl)
    case step9=>
     refine step_load rfl _ _ rfl hld ?_;refine hK _ _ ?_;clear hK K
     try simp only[Act.put,ji,js,ju]
     refine wpAny_ready (rs:=[9]) (by kernel_rfl) (by simp) ?_;refine' AllReady.cons (o:=?o10) ?ho10 (λK hK=>?step10) ?more10
     case ho10=>(simp only[jt,jb,ja];rfl)
     case step10=>
      refine step_build rfl _ _ rfl (by simp only[List.map_toArray,List.map_cons,List.map_nil];exact hbu) ?_;refine hK _ _ ?_;clear hK K
      try simp only[Act.put,ji,js,ju]
      refine wpAny_ready (rs:=[10]) (by kernel_rfl) (by simp) ?_;refine' AllReady.cons (o:=?o11) ?ho11 (λK hK=>?step11) ?more11
      case ho11=>(simp only[jt,jb,ja];rfl)
      case step11=>
       refine step_buildSlice rfl _ _ _ rfl (by simp only[List.map_toArray,List.map_cons,List.map_nil];exact hrw) ?_;refine hK _ _ ?_;clear hK K
       try simp only[Act.put,ji,js,ju]
       refine wpAny_ready (rs:=[11]) (by kernel_rfl) (by simp) ?_;refine' AllReady.cons (o:=?o12) ?ho12 (λK hK=>?step12) ?more12
       case ho12=>(simp only[jt,jb,ja];rfl)
       case step12=>
        refine step_append_lies _ rfl (.tmp 27) (.tmp 33) 95 rfl 0 194 i0 _ 129 136 Tryz.underlying95 hi0 hz0 hz1 hz2 (by simp[Value.cells]) (by decide) wv k0 (wtC m1.wt) (by simp[Act.eval]) HOW.out ⟨w2.heap.size,0,none⟩ 1 1 vs (by simp[Act.eval]) (by rw[HVL.out]) HNS.out HONE.out (by decide) (by unfold maxLen;omega) (by omega) (Nat.zero_le _) _ rfl ?_;intro g3 cap3 w6 hown6 hgrow6 hat6 hlt6;have HF6:=jq (write_done (i:=i) HD2.out HDW.out.1 HDW.out.2.1 HI.out HB.out HK1.out HNW.out HVS.out hgrow6 hat6 hown6);have c6:=HF6.out.1;have f6:=HF6.out.2.1;clear hown6 hgrow6 hat6 hlt6;refine hK _ _ ?_;clear hK K
        try simp only[Act.put,ji,js,ju]
        refine wpAny_ready (rs:=[12]) (by kernel_rfl) (by simp) ?_;refine' AllReady.cons (o:=?o13) ?ho13 (λK hK=>?step13) ?more13
        case ho13=>(simp only[jt,jb,ja];rfl)
        case step13=>
         go_simp;refine hK _ _ ?_;clear hK K
         try simp only[Act.put,ji,js,ju]
         refine wpAny_ready (rs:=[13]) (by kernel_rfl) (by simp) ?_;refine' AllReady.cons (o:=?o14) ?ho14 (λK hK=>?step14) ?more14
         case ho14=>(simp only[jt,jb,ja];rfl)
         case step14=>
          go_simp;refine hK _ _ ?_;clear hK K
          try simp only[Act.put,ji,js,ju]
          refine wpAny_ready (rs:=[14]) (by kernel_rfl) (by simp) ?_;refine' AllReady.cons (o:=?o15) ?ho15 (λK hK=>?step15) ?more15
          case ho15=>(simp only[jt,jb,ja];rfl)
          case step15=>
           go_simp;refine hK _ _ ?_;clear hK K
           try simp only[Act.put,ji,js,ju]
           refine wpAny_done (by kernel_rfl) ?_ _
           go_wp2_with fail
           go_ret
           exact⟨rfl,_,HF6.out.2.2.1,(Upon.of_only HO2.out (λq hq=>.inl (.inl (jE.1 hq)))).trans HF6.out.2.2.2.1 (λq hq=>.inl hq),λq hq=>(HF6.out.2.2.2.2 q hq).imp id (λh=>Nat.le_trans HO2.out.size h)⟩
          exact AllReady.nil
         exact AllReady.nil
        exact AllReady.nil
       exact AllReady.nil
      exact AllReady.nil
     exact AllReady.nil
    exact AllReady.nil
   exact AllReady.nil
  refine' AllReady.cons (o:=?o16) ?ho16 (λK hK=>?step16) ?more16
  case ho16=>(simp only[jt,jb,ja];rfl)
  case step16=>
   go_simp;refine hK _ _ ?_;clear hK K
   try simp only[Act.put,ji,js,ju]
   refine wpAny_ready (rs:=[4,8]) (by kernel_rfl) (by simp) ?_;refine' AllReady.cons (o:=?o17) ?ho17 (λK hK=>?step17) ?more17
   case ho17=>(simp only[jt,jb,ja];rfl)
   case step17=>
    refine step_load rfl _ _ rfl HL1.out ?_;refine hK _ _ ?_;clear hK K
    try simp only[Act.put,ji,js,ju]
    refine wpAny_ready (rs:=[8]) (by kernel_rfl) (by simp) ?_;refine' AllReady.cons (o:=?o18) ?ho18 (λK hK=>?step18) ?more18
    case ho18=>(simp only[jt,jb,ja];rfl)
    case step18=>
     refine step_load rfl _ _ rfl hld ?_;refine hK _ _ ?_;clear hK K
     try simp only[Act.put,ji,js,ju]
     refine wpAny_ready (rs:=[9]) (by kernel_rfl) (by simp) ?_;refine' AllReady.cons (o:=?o19) ?ho19 (λK hK=>?step19) ?more19
     case ho19=>(simp only[jt,jb,ja];rfl)
     case step19=>
      refine step_build rfl _ _ rfl (by simp only[List.map_toArray,List.map_cons,List.map_nil];exact hbu) ?_;refine hK _ _ ?_;clear hK K
      try simp only[Act.put,ji,js,ju]
      refine wpAny_ready (rs:=[10]) (by kernel_rfl) (by simp) ?_;refine' AllReady.cons (o:=?o20) ?ho20 (λK hK=>?step20) ?more20
      case ho20=>(simp only[jt,jb,ja];rfl)
      case step20=>
       refine step_buildSlice rfl _ _ _ rfl (by simp only[List.map_toArray,List.map_cons,List.map_nil];exact hrw) ?_;refine hK _ _ ?_;clear hK K
       try simp only[Act.put,ji,js,ju]
       refine wpAny_ready (rs:=[11]) (by kernel_rfl) (by simp) ?_;refine' AllReady.cons (o:=?o21) ?ho21 (λK hK=>?step21) ?more21
       case ho21=>(simp only[jt,jb,ja];rfl)
       case step21=>
        refine step_append_lies _ rfl (.tmp 27) (.tmp 33) 95 rfl 0 194 i0 _ 129 136 Tryz.underlying95 hi0 hz0 hz1 hz2 (by simp[Value.cells]) (by decide) wv k0 (wtC m1.wt) (by simp[Act.eval]) HOW.out ⟨w2.heap.size,0,none⟩ 1 1 vs (by simp[Act.eval]) (by rw[HVL.out]) HNS.out HONE.out (by decide) (by unfold maxLen;omega) (by omega) (Nat.zero_le _) _ rfl ?_;intro g3 cap3 w6 hown6 hgrow6 hat6 hlt6;have HF6:=jq (write_done (i:=i) HD2.out HDW.out.1 HDW.out.2.1 HI.out HB.out HK1.out HNW.out HVS.out hgrow6 hat6 hown6);have c6:=HF6.out.1;have f6:=HF6.out.2.1;clear hown6 hgrow6 hat6 hlt6;refine hK _ _ ?_;clear hK K
        try simp only[Act.put,ji,js,ju]
        refine wpAny_ready (rs:=[12]) (by kernel_rfl) (by simp) ?_;refine' AllReady.cons (o:=?o22) ?ho22 (λK hK=>?step22) ?more22
        case ho22=>(simp only[jt,jb,ja];rfl)
        case step22=>
         go_simp;refine hK _ _ ?_;clear hK K
         try simp only[Act.put,ji,js,ju]
         refine wpAny_ready (rs:=[13]) (by kernel_rfl) (by simp) ?_;refine' AllReady.cons (o:=?o23) ?ho23 (λK hK=>?step23) ?more23
         case ho23=>(simp only[jt,jb,ja];rfl)
         case step23=>
          go_simp;refine hK _ _ ?_;clear hK K
          try simp only[Act.put,ji,js,ju]
          refine wpAny_ready (rs:=[14]) (by kernel_rfl) (by simp) ?_;refine' AllReady.cons (o:=?o24) ?ho24 (λK hK=>?step24) ?more24
          case ho24=>(simp only[jt,jb,ja];rfl)
          case step24=>
           go_simp;refine hK _ _ ?_;clear hK K
           try simp only[Act.put,ji,js,ju]
           refine wpAny_done (by kernel_rfl) ?_ _
           go_wp2_with fail
           go_ret
           exact⟨rfl,_,HF6.out.2.2.1,(Upon.of_only HO2.out (λq hq=>.inl (.inl (jE.1 hq)))).trans HF6.out.2.2.2.1 (λq hq=>.inl hq),λq hq=>(HF6.out.2.2.2.2 q hq).imp id (λh=>Nat.le_trans HO2.out.size h)⟩
          exact AllReady.nil
         exact AllReady.nil
        exact AllReady.nil
       exact AllReady.nil
      exact AllReady.nil
     exact AllReady.nil
    exact AllReady.nil
   refine' AllReady.cons (o:=?o25) ?ho25 (λK hK=>?step25) ?more25
   case ho25=>(simp only[jt,jb,ja];rfl)
   case step25=>
    refine step_load rfl _ _ rfl hld ?_;refine hK _ _ ?_;clear hK K
    try simp only[Act.put,ji,js,ju]
    refine wpAny_ready (rs:=[4,9]) (by kernel_rfl) (by simp) ?_;refine' AllReady.cons (o:=?o26) ?ho26 (λK hK=>?step26) ?more26
    case ho26=>(simp only[jt,jb,ja];rfl)
    case step26=>
     refine step_load rfl _ _ rfl HL1.out ?_;refine hK _ _ ?_;clear hK K
     try simp only[Act.put,ji,js,ju]
     refine wpAny_ready (rs:=[9]) (by kernel_rfl) (by simp) ?_;refine' AllReady.cons (o:=?o27) ?ho27 (λK hK=>?step27) ?more27
     case ho27=>(simp only[jt,jb,ja];rfl)
     case step27=>
      refine step_build rfl _ _ rfl (by simp only[List.map_toArray,List.map_cons,List.map_nil];exact hbu) ?_;refine hK _ _ ?_;clear hK K
      try simp only[Act.put,ji,js,ju]
      refine wpAny_ready (rs:=[10]) (by kernel_rfl) (by simp) ?_;refine' AllReady.cons (o:=?o28) ?ho28 (λK hK=>?step28) ?more28
      case ho28=>(simp only[jt,jb,ja];rfl)
      case step28=>
       refine step_buildSlice rfl _ _ _ rfl (by simp only[List.map_toArray,List.map_cons,List.map_nil];exact hrw) ?_;refine hK _ _ ?_;clear hK K
       try simp only[Act.put,ji,js,ju]
       refine wpAny_ready (rs:=[11]) (by kernel_rfl) (by simp) ?_;refine' AllReady.cons (o:=?o29) ?ho29 (λK hK=>?step29) ?more29
       case ho29=>(simp only[jt,jb,ja];rfl)
       case step29=>
        refine step_append_lies _ rfl (.tmp 27) (.tmp 33) 95 rfl 0 194 i0 _ 129 136 Tryz.underlying95 hi0 hz0 hz1 hz2 (by simp[Value.cells]) (by decide) wv k0 (wtC m1.wt) (by simp[Act.eval]) HOW.out ⟨w2.heap.size,0,none⟩ 1 1 vs (by simp[Act.eval]) (by rw[HVL.out]) HNS.out HONE.out (by decide) (by unfold maxLen;omega) (by omega) (Nat.zero_le _) _ rfl ?_;intro g3 cap3 w6 hown6 hgrow6 hat6 hlt6;have HF6:=jq (write_done (i:=i) HD2.out HDW.out.1 HDW.out.2.1 HI.out HB.out HK1.out HNW.out HVS.out hgrow6 hat6 hown6);have c6:=HF6.out.1;have f6:=HF6.out.2.1;clear hown6 hgrow6 hat6 hlt6;refine hK _ _ ?_;clear hK K
        try simp only[Act.put,ji,js,ju]
        refine wpAny_ready (rs:=[12]) (by kernel_rfl) (by simp) ?_;refine' AllReady.cons (o:=?o30) ?ho30 (λK hK=>?step30) ?more30
        case ho30=>(simp only[jt,jb,ja];rfl)
        case step30=>
         go_simp;refine hK _ _ ?_;clear hK K
         try simp only[Act.put,ji,js,ju]
         refine wpAny_ready (rs:=[13]) (by kernel_rfl) (by simp) ?_;refine' AllReady.cons (o:=?o31) ?ho31 (λK hK=>?step31) ?more31
         case ho31=>(simp only[jt,jb,ja];rfl)
         case step31=>
          go_simp;refine hK _ _ ?_;clear hK K
          try simp only[Act.put,ji,js,ju]
          refine wpAny_ready (rs:=[14]) (by kernel_rfl) (by simp) ?_;refine' AllReady.cons (o:=?o32) ?ho32 (λK hK=>?step32) ?more32
          case ho32=>(simp only[jt,jb,ja];rfl)
          case step32=>
           go_simp;refine hK _ _ ?_;clear hK K
           try simp only[Act.put,ji,js,ju]
           refine wpAny_done (by kernel_rfl) ?_ _
           go_wp2_with fail
           go_ret
           exact⟨rfl,_,HF6.out.2.2.1,(Upon.of_only HO2.out (λq hq=>.inl (.inl (jE.1 hq)))).trans HF6.out.2.2.2.1 (λq hq=>.inl hq),λq hq=>(HF6.out.2.2.2.2 q hq).imp id (λh=>Nat.le_trans HO2.out.size h)⟩
          exact AllReady.nil
         exact AllReady.nil
        exact AllReady.nil
       exact AllReady.nil
      exact AllReady.nil
     exact AllReady.nil
    refine' AllReady.cons (o:=?o33) ?ho33 (λK hK=>?step33) ?more33
    case ho33=>(simp only[jt,jb,ja];rfl)
    case step33=>
     refine step_build rfl _ _ rfl (by simp only[List.map_toArray,List.map_cons,List.map_nil];exact hbu) ?_;refine hK _ _ ?_;clear hK K
     try simp only[Act.put,ji,js,ju]
     refine wpAny_ready (rs:=[4,10]) (by kernel_rfl) (by simp) ?_;refine' AllReady.cons (o:=?o34) ?ho34 (λK hK=>?step34) ?more34
     case ho34=>(simp only[jt,jb,ja];rfl)
     case step34=>
      refine step_load rfl _ _ rfl HL1.out ?_;refine hK _ _ ?_;clear hK K
      try simp only[Act.put,ji,js,ju]
      refine wpAny_ready (rs:=[10]) (by kernel_rfl) (by simp) ?_;refine' AllReady.cons (o:=?o35) ?ho35 (λK hK=>?step35) ?more35
      case ho35=>(simp only[jt,jb,ja];rfl)
      case step35=>
       refine step_buildSlice rfl _ _ _ rfl (by simp only[List.map_toArray,List.map_cons,List.map_nil];exact hrw) ?_;refine hK _ _ ?_;clear hK K
       try simp only[Act.put,ji,js,ju]
       refine wpAny_ready (rs:=[11]) (by kernel_rfl) (by simp) ?_;refine' AllReady.cons (o:=?o36) ?ho36 (λK hK=>?step36) ?more36
       case ho36=>(simp only[jt,jb,ja];rfl)
       case step36=>
        refine step_append_lies _ rfl (.tmp 27) (.tmp 33) 95 rfl 0 194 i0 _ 129 136 Tryz.underlying95 hi0 hz0 hz1 hz2 (by simp[Value.cells]) (by decide) wv k0 (wtC m1.wt) (by simp[Act.eval]) HOW.out ⟨w2.heap.size,0,none⟩ 1 1 vs (by simp[Act.eval]) (by rw[HVL.out]) HNS.out HONE.out (by decide) (by unfold maxLen;omega) (by omega) (Nat.zero_le _) _ rfl ?_;intro g3 cap3 w6 hown6 hgrow6 hat6 hlt6;have HF6:=jq (write_done (i:=i) HD2.out HDW.out.1 HDW.out.2.1 HI.out HB.out HK1.out HNW.out HVS.out hgrow6 hat6 hown6);have c6:=HF6.out.1;have f6:=HF6.out.2.1;clear hown6 hgrow6 hat6 hlt6;refine hK _ _ ?_;clear hK K
        try simp only[Act.put,ji,js,ju]
        refine wpAny_ready (rs:=[12]) (by kernel_rfl) (by simp) ?_;refine' AllReady.cons (o:=?o37) ?ho37 (λK hK=>?step37) ?more37
        case ho37=>(simp only[jt,jb,ja];rfl)
        case step37=>
         go_simp;refine hK _ _ ?_;clear hK K
         try simp only[Act.put,ji,js,ju]
         refine wpAny_ready (rs:=[13]) (by kernel_rfl) (by simp) ?_;refine' AllReady.cons (o:=?o38) ?ho38 (λK hK=>?step38) ?more38
         case ho38=>(simp only[jt,jb,ja];rfl)
         case step38=>
          go_simp;refine hK _ _ ?_;clear hK K
          try simp only[Act.put,ji,js,ju]
          refine wpAny_ready (rs:=[14]) (by kernel_rfl) (by simp) ?_;refine' AllReady.cons (o:=?o39) ?ho39 (λK hK=>?step39) ?more39
          case ho39=>(simp only[jt,jb,ja];rfl)
          case step39=>
           go_simp;refine hK _ _ ?_;clear hK K
           try simp only[Act.put,ji,js,ju]
           refine wpAny_done (by kernel_rfl) ?_ _
           go_wp2_with fail
           go_ret
           exact⟨rfl,_,HF6.out.2.2.1,(Upon.of_only HO2.out (λq hq=>.inl (.inl (jE.1 hq)))).trans HF6.out.2.2.2.1 (λq hq=>.inl hq),λq hq=>(HF6.out.2.2.2.2 q hq).imp id (λh=>Nat.le_trans HO2.out.size h)⟩
          exact AllReady.nil
         exact AllReady.nil
        exact AllReady.nil
       exact AllReady.nil
      exact AllReady.nil
     refine' AllReady.cons (o:=?o40) ?ho40 (λK hK=>?step40) ?more40
     case ho40=>(simp only[jt,jb,ja];rfl)
     case step40=>
      refine step_buildSlice rfl _ _ _ rfl (by simp only[List.map_toArray,List.map_cons,List.map_nil];exact hrw) ?_;refine hK _ _ ?_;clear hK K
      try simp only[Act.put,ji,js,ju]
      refine wpAny_ready (rs:=[4]) (by kernel_rfl) (by simp) ?_;refine' AllReady.cons (o:=?o41) ?ho41 (λK hK=>?step41) ?more41
      case ho41=>(simp only[jt,jb,ja];rfl)
      case step41=>
       refine step_load rfl _ _ rfl HLA.out ?_;refine hK _ _ ?_;clear hK K
       try simp only[Act.put,ji,js,ju]
       refine wpAny_ready (rs:=[11]) (by kernel_rfl) (by simp) ?_;refine' AllReady.cons (o:=?o42) ?ho42 (λK hK=>?step42) ?more42
       case ho42=>(simp only[jt,jb,ja];rfl)
       case step42=>
        refine step_append_lies _ rfl (.tmp 27) (.tmp 33) 95 rfl 0 194 i0 _ 129 136 Tryz.underlying95 hi0 hz0 hz1 hz2 (by simp[Value.cells]) (by decide) wv k0 (wtC m1.wt) (by simp[Act.eval]) HOW.out ⟨w2.heap.size,0,none⟩ 1 1 vs (by simp[Act.eval]) (by rw[HVL.out]) HNS.out HONE.out (by decide) (by unfold maxLen;omega) (by omega) (Nat.zero_le _) _ rfl ?_;intro g3 cap3 w6 hown6 hgrow6 hat6 hlt6;have HF6:=jq (write_done (i:=i) HD2.out HDW.out.1 HDW.out.2.1 HI.out HB.out HK1.out HNW.out HVS.out hgrow6 hat6 hown6);have c6:=HF6.out.1;have f6:=HF6.out.2.1;clear hown6 hgrow6 hat6 hlt6;refine hK _ _ ?_;clear hK K
        try simp only[Act.put,ji,js,ju]
        refine wpAny_ready (rs:=[12]) (by kernel_rfl) (by simp) ?_;refine' AllReady.cons (o:=?o43) ?ho43 (λK hK=>?step43) ?more43
        case ho43=>(simp only[jt,jb,ja];rfl)
        case step43=>
         go_simp;refine hK _ _ ?_;clear hK K
         try simp only[Act.put,ji,js,ju]
         refine wpAny_ready (rs:=[13]) (by kernel_rfl) (by simp) ?_;refine' AllReady.cons (o:=?o44) ?ho44 (λK hK=>?step44) ?more44
         case ho44=>(simp only[jt,jb,ja];rfl)
         case step44=>
          go_simp;refine hK _ _ ?_;clear hK K
          try simp only[Act.put,ji,js,ju]
          refine wpAny_ready (rs:=[14]) (by kernel_rfl) (by simp) ?_;refine' AllReady.cons (o:=?o45) ?ho45 (λK hK=>?step45) ?more45
          case ho45=>(simp only[jt,jb,ja];rfl)
          case step45=>
           go_simp;refine hK _ _ ?_;clear hK K
           try simp only[Act.put,ji,js,ju]
           refine wpAny_done (by kernel_rfl) ?_ _
           go_wp2_with fail
           go_ret
           exact⟨rfl,_,HF6.out.2.2.1,(Upon.of_only HO2.out (λq hq=>.inl (.inl (jE.1 hq)))).trans HF6.out.2.2.2.1 (λq hq=>.inl hq),λq hq=>(HF6.out.2.2.2.2 q hq).imp id (λh=>Nat.le_trans HO2.out.size h)⟩
          exact AllReady.nil
         exact AllReady.nil
        exact AllReady.nil
       exact AllReady.nil
      exact AllReady.nil
     exact AllReady.nil
    exact AllReady.nil
   exact AllReady.nil
  exact AllReady.nil
end Dk
namespace Dk
open Go.RowKit Go.Deep Mem Crc
theorem puts_length (ws:List (Nat×List UInt8)):∀bl:List (List UInt8),(puts bl ws).length=bl.length:=by
 induction ws with
 |nil=>intro bl;rfl
 |cons x r ih=>intro bl;show(puts (bl.set x.1 x.2) r).length=_;rw[ih,List.length_set]
theorem puts_snoc (bl:List (List UInt8)) (ws:List (Nat×List UInt8)) (x:Nat×List UInt8):puts bl (ws++ [x])=(puts bl ws).set x.1 x.2:=by unfold puts;rw[List.foldl_append];rfl
theorem flat_at {α:Type} {f:α->List Value} {s:Nat}:∀{l:List α},(∀x∈l,(f x).length=s)->∀{k:Nat} {x:α},l[k]? =some x->∀{j:Nat} {u:Value},(f x)[j]? =some u->(l.flatMap f)[k*s+j]? =some u
 | [],_,k,x,hx,_,_,_=>by simp at hx
 |y ::r,h,0,x,hx,j,u,hu=>by
  simp at hx
  subst hx;rw[jC,List.getElem?_append_left (by have:=(jS.1 hu).1;omega)]
  simpa using hu
 |y ::r,h,k+1,x,hx,j,u,hu=>by
  have h1:=h y (by simp);have:=flat_at (f:=f) (s:=s) (l:=r) (λz hz=>h z (by simp[hz])) (k:=k) (x:=x) (by simpa using hx) hu;rw[jC,List.getElem?_append_right (by rw[h1,Nat.succ_mul];omega)];rw[<-this]
  congr 1
  rw[h1,Nat.succ_mul]
  omega
theorem flat_set {α:Type} {f:α->List Value} {s:Nat}:∀{l:List α},(∀x∈l,(f x).length=s)->∀{k:Nat} {x:α},k<l.length->(f x).length=s->(l.set k x).flatMap f=(l.flatMap f).take (k*s)++(f x++(l.flatMap f).drop (k*s+s))
 | [],_,k,x,hk,_=>by simp at hk
 |y ::r,h,0,x,_,hx=>by
  have h1:=h y (by simp)
  simp[h1]
 |y ::r,h,k+1,x,hk,hx=>by
  have h1:=h y (by simp);have:=flat_set (f:=f) (s:=s) (l:=r) (λz hz=>h z (by simp[hz])) (k:=k) (x:=x) (by simpa using hk) hx;rw[ju,jC,this,jC];have e1: (k+1)*s=(f y).length+k*s:=by rw[h1,Nat.succ_mul];omega
  have e2: (k+1)*s+s=(f y).length+(k*s+s):=by rw[h1,Nat.succ_mul];omega
  rw[e2,e1,List.take_length_add_append,List.drop_length_add_append]
  simp
theorem new_thereC (w:World) (t:TypeId) (cs:Array Value): (w.alloc (.cells cs t)).there w.heap.size 0 cs.size:=λj hj=>by
 have h:=Blk.new w t cs;refine⟨?_,h.frozen _⟩;rw[h.cell,Nat.zero_add,Array.getElem?_eq_getElem hj]
 rfl
theorem blk_there {w:World} {g:Nat} {t:TypeId} {cs:Array Value} (h:Blk w g t cs) {o n:Nat} (hn:o+n<=cs.size):w.there g o n:=λj hj=>by
 refine⟨?_,h.frozen _⟩;rw[h.cell,Array.getElem?_eq_getElem (by omega)]
 rfl
theorem below_setCells {B g:Nat} (hg:B<=g):∀(vs:List Value) (o:Nat) {a w:World},Below B a w->Below B a (w.setCells g o vs)
 | [],_,_,_,h=>h
 |v ::r,o,_,_,h=>below_setCells hg r (o+1) (h.setCell (p:=⟨g,o,none⟩) hg v)
theorem blk_filled (w:World) (t:TypeId) (cs0:Array Value) (cs:List Value) (hn:cs0.size=cs.length):Blk ((w.alloc (.cells cs0 t)).setCells w.heap.size 0 cs) w.heap.size t cs.toArray:=by
 obtain⟨cs',h1,h2⟩:=Blk.splice cs 0 _ _ (Blk.new w t cs0) (by rw[Nat.zero_add,hn];exact Nat.le_refl _)
 have e:cs'=cs.toArray:=by
  apply Array.ext'
  rw[h2,Nat.zero_add,<-hn]
  simp
 rw[<-e];exact h1
theorem zeroWr: (Tryz.zeroCells194).size=129:=by kernel_rfl
theorem infoWrS: (Tryz.prog.info? 194).map (·.size)=some 129:=by kernel_rfl
theorem sync_step {d g xi k:Nat} {wv:Value} {m m1:DM} {W:World} {xb:List UInt8} {bs:List Value} (h:Dk W d g wv {m1 with bl:=puts m.bl (m.wt.take k)}) (hx:m.wt[k]? =some (xi,xb)) (hb:bs=xb.map bv) (hi:xi<(puts m.bl (m.wt.take k)).length) (hl:xb.length=128):
  Dk (W.drew.setCells g (xi*128) bs) d g wv {m1 with bl:=puts m.bl (m.wt.take (k+1))}:=by
 have e1:puts m.bl (m.wt.take (k+1))=(puts m.bl (m.wt.take k)).set xi xb:=by rw[List.take_add_one,hx];exact puts_snoc _ _ _
 have e2: (puts m.bl (m.wt.take (k+1))).length=(puts m.bl (m.wt.take k)).length:=by rw[e1,List.length_set]
 have hlen:∀b∈puts m.bl (m.wt.take k),b.length=128:=h.len;have ho:Only [g] W (W.drew.setCells g (xi*128) bs):=Only.setCells bs (xi*128) ((Only.refl [g] W).drew) (.inl (by simp))
 obtain⟨cs',h1,h2⟩:=Blk.splice bs (xi*128) W.drew (blC (puts m.bl (m.wt.take k))).toArray h.row (by
  rw[List.size_toArray,blC_length hlen,hb,jP,hl];have:=Nat.mul_le_mul_right 128 (Nat.succ_le_of_lt hi);rw[Nat.succ_mul]at this;exact this)
 have hrow:cs'=(blC (puts m.bl (m.wt.take (k+1)))).toArray:=by
  apply Array.ext'
  rw[h2,e1];unfold blC;rw[flat_set (f:=λb:List UInt8=>b.map bv) (s:=128) (λb hb'=>by rw[jP];exact hlen b hb') hi (by rw[jP,hl]),hb,jP,hl]
  simp
 refine⟨?_,by rw[<-hrow];exact h1,own_only h.wt ho (λq hq hm=>h.wg (by rw[hq,jE.1 hm])),?_,?_,h.f0,h.f1,?_,h.nil⟩
 ·show Blk _ d _ #[.slice _ (puts m.bl (m.wt.take (k+1))).length (puts m.bl (m.wt.take (k+1))).length,_,_,_];rw[e2];exact h.disk.only ho (by simpa using h.dg)
 ·show∀b∈puts m.bl (m.wt.take (k+1)),b.length=128;rw[e1];intro b hb';rcases List.mem_or_eq_of_mem_set hb' with hb'|rfl
  ·exact hlen b hb'
  ·exact hl
 ·intro x hx';refine⟨?_,(h.wlen x hx').2⟩;show x.1<(puts m.bl (m.wt.take (k+1))).length;rw[e2];exact(h.wlen x hx').1
 ·show(puts m.bl (m.wt.take (k+1))).length<=65536;rw[e2];exact h.small
theorem sync_on {d g:Nat} {wv:Value} {m:DM} {w:World} (h:Dk w d g wv m) (hoff:m.off=false) (hn:m.wt.length<=1000000):
  Calls Tryz.prog 81 #[.pointer (some ⟨d,0,none⟩)] w λe w'=>e=.returned (.int .i64 m.sync.2)/\∃wv',Dk w' d g wv' m.sync.1/\Upon (λk=>k=d\/k=g) w w'/\∀k,wv'.ownBlock=some k->wv.ownBlock=some k:=by
 have hO:=on_any h;rw[hoff]at hO;have HO:=jq hO;have HD:=jq (deed_any h);clear hO
 by_cases h0:m.fuse=0
 ·have hde:m.deed.2=6:=by unfold DM.deed;rw[if_pos h0]
  have hsy:m.sync=(m.deed.1,6):=by unfold DM.sync;rw[if_pos h0]
  rw[hde]at HD;rw[hsy];clear h hde hsy h0
  go_enter Tryz.func81,Tryz.ntmps81
  go_wp2_with fail
  refine HO.out.mono ?_;rintro e w1 ⟨rfl,rfl⟩
  go_wp2_with fail
  refine HD.out.mono ?_;rintro e w2 ⟨rfl,hd2,ho2⟩;have HD2:=jq hd2;have HO2:=jq ho2;clear hd2 ho2 HD
  go_wp2_with fail
  go_ret
  exact⟨rfl,wv,HD2.out,Upon.of_only HO2.out (λq hq=>.inl (.inl (jE.1 hq))),λk hk=>hk⟩
 ·have hde:m.deed.2=0:=by unfold DM.deed;rw[if_neg h0];split <;> rfl
  have hdw:m.deed.1.wt=m.wt/\m.deed.1.bl=m.bl/\m.deed.1.off=m.off:=by unfold DM.deed;rw[if_neg h0];split <;> exact⟨rfl,rfl,rfl⟩
  have hsy:m.sync=({m.deed.1 with bl:=puts m.bl m.wt,wt:=[]},0):=by unfold DM.sync;rw[if_neg h0]
  rw[hde]at HD;rw[hsy];have HDW:=jq hdw;have HH:=jq h;obtain⟨m1,hm1⟩:=jl m.deed.1;rw[<-hm1]at HD HDW⊢;clear h hde hsy h0 hdw hm1 hoff
  go_enter Tryz.func81,Tryz.ntmps81
  go_wp2_with fail
  refine HO.out.mono ?_;rintro e w1 ⟨rfl,rfl⟩
  go_wp2_with fail
  refine HD.out.mono ?_;rintro e w2 ⟨rfl,hd2,ho2⟩;obtain⟨n,hnn⟩:=jl m.wt.length;have hn1:m1.wt.length=n:=by rw[HDW.out.1,hnn]
  obtain⟨wa,wc,rfl,hwc,hLw,hwb,hwo⟩:=own_shape hd2.wt;have c1:=hd2.cells.2.1;rw[hn1]at c1 hd2 hwc;have hnm:n<=1000000:=by rw[hnn];exact hn
  have HD2:=jq hd2;have HO2:=jq ho2;have HN1:=jq hn1;have HNN:=jq hnn;have HWB:=jq hwb;clear hd2 ho2 HD hn1 hnn hLw hwb hwo
  go_wp2_with fail
  go_loopw[19] (λi wr=>∃k,k<=n/\i=.int .i64 k/\Dk wr d g (.slice wa n wc) {m1 with bl:=puts m.bl (m.wt.take k)}/\Upon (λq=>q=d\/q=g) w2 wr) (λi _=>n-(intOf i).toNat)
  case atStart=>
   refine⟨0,Nat.zero_le _,rfl,?_,Upon.refl _ _⟩;have e: ({m1 with bl:=puts m.bl (m.wt.take 0)}:DM)=m1:=by rw[List.take_zero];show({m1 with bl:=m.bl}:DM)=m1;rw[<-HDW.out.2.1]
   rw[e];exact HD2.out
  case round=>
   obtain⟨k,hk,rfl,hdk,hup⟩:=hrel
   by_cases hlt:k<n
   ·obtain⟨x,hx⟩:∃x,m.wt[k]? =some x:=⟨m.wt[k]'(by rw[<-HNN.out];exact hlt),jg _⟩;obtain⟨xi,xb⟩:=x;obtain⟨wa',wc',e,hz1,hLw,hz2,hz3⟩:=own_shape hdk.wt;clear hz1 hz2 hz3;obtain⟨hxi,hxb⟩:=hdk.wlen (xi,xb) (by show(xi,xb)∈m1.wt;rw[HDW.out.1];exact jM hx);have hxi':xi<(puts m.bl (m.wt.take k)).length:=hxi;have hxb':xb.length=128:=hxb;have e2:wa'=wa:=by injection e with e _ _;exact e.symm
    subst e2
    obtain⟨wg,wo,rfl,hwl,hc⟩:=hLw.resolve_left (λe0=>by
     have h1:=wtC_length (l:=m1.wt) (λy hy=>(HD2.out.wlen y hy).2);have h2:wtC m1.wt= []:=e0;rw[h2,HN1.out]at h1
     simp at h1
     omega)
    obtain⟨cs,hcs⟩:=jl (Value.int .i64 (xi:Int)::xb.map bv);have hcl:cs.length=129:=by rw[hcs,List.length_cons,jP,hxb']
    have hR:wr.rangeAt wg (wo+k*129) cs:=λj v hv=>by
     have:=hc (k*129+j) v (flat_at (l:=m1.wt) (f:=λx=>Value.int .i64 (x.1:Int)::x.2.map bv) (λy hy=>by simp[(HD2.out.wlen y hy).2]) (x:=(xi,xb)) (by rw[HDW.out.1];exact hx) (by rw[<-hcs];exact hv))
     rwa [<-Nat.add_assoc]at this
    have hone:∀v∈cs,v.oneCell'=true:=λv hv=>by
     rw[hcs]at hv;rcases List.mem_cons.1 hv with rfl|hv
     ·rfl
     ·exact oneCell_bytes xb v hv
    have HDK:=jq hdk;have HUP:=jq hup;have HR:=jq hR;have HONE:=jq hone;have HCS:=jq hcs;have HCL:=jq hcl;have HXB:=jq hxb';clear hdk hup hR hone hcs hcl hxb hxb' e hLw hc hxi;obtain⟨bx,hbx⟩:=jl wr.heap.size
    have hth: (wr.alloc (.cells Tryz.zeroCells194 194)).there bx 0 cs.toArray.size:=by
     have h1:=new_thereC wr 194 Tryz.zeroCells194;rw[zeroWr,<-hbx]at h1;rw[List.size_toArray,HCL.out];exact h1
    have HTH:=jq hth;obtain⟨W,hW⟩:=jl ((wr.alloc (.cells Tryz.zeroCells194 194)).setCells bx 0 cs);obtain⟨bs,hbs⟩:=jl (xb.map bv);have hbl:bs.length=128:=by rw[hbs,jP,HXB.out]
    have hbB:Blk W bx 194 cs.toArray:=by
     rw[hW,hbx];exact blk_filled wr _ _ cs (by rw[zeroWr,HCL.out])
    have hBW:Below wr.heap.size wr W:=by
     rw[hW,hbx];exact below_setCells jn cs 0 ((Below.refl _ wr).alloc jn _)
    have hdW:=HDK.out.later hBW;have c0:=hdW.cells.1;obtain⟨N,hN⟩:=jl ((puts m.bl (m.wt.take k)).length);have hN0: (({m1 with bl:=puts m.bl (m.wt.take k)}:DM)).bl.length=N:=hN.symm;rw[hN0]at c0;rw[<-hN]at hxi'
    have hS0:W.cell? ⟨d,0,none⟩=some (.slice (some ⟨g,0,none⟩) N N)/\W.cell? ⟨bx,0,none⟩=some (.int .i64 (xi:Int))/\W.rangeAt bx 1 bs/\W.there g (xi*128) bs.toArray.size:=by
     refine⟨c0,?_,λj v hv=>?_,?_⟩
     ·rw[hbB.cell,HCS.out];rfl
     ·rw[hbB.cell,HCS.out,<-hbs,Nat.add_comm 1 j]
      simpa using hv
     ·rw[List.size_toArray,hbl];exact blk_there hdW.row (by rw[List.size_toArray,blC_length hdW.len,hN0];have:=Nat.mul_le_mul_right 128 (Nat.succ_le_of_lt hxi');rw[Nat.succ_mul]at this;exact this)
    have HS0:=jq hS0;have HW:=jq hW;have HBX:=jq hbx;have HBS:=jq hbs;have HBL:=jq hbl;have HBW:=jq hBW;have HDWW:=jq hdW;have HN:=jq hN;clear hth hW hbs hbl hbB hBW hdW c0 hN hN0 hS0
    go_wp2_with (first|(refine wpList_load_mid rfl _ _ rfl wg (wo+k*129) (by simp[Act.eval]) cs _ HR.out Tryz.underlying194 rfl (by rw[HCL.out];exact infoWrS) ?_)|(refine wpList_store_mid rfl _ _ _ rfl bx 0 cs.toArray (by rw[hbx];simp[Act.eval]) (by simp[Act.eval]) HTH.out (by rw[List.size_toArray,HCL.out];exact infoWrS) (all_oneCell_toArray HONE.out) ?_;rw[List.toList_toArray,<-HW.out]))
    rw[<-hbx];clear hbx;have hne1:g≠d:=Ne.symm HDWW.out.dg;have hne2:g≠bx:=by have:=HDK.out.row.lt;have:=HBX.out;omega
    have hzo:∀v∈bs,v.oneCell'=true:=λv hv=>by rw[HBS.out]at hv;exact oneCell_bytes xb v hv
    have hu:Tryz.prog.underlying 192=_:=Tryz.underlying192;have hinf: (Tryz.prog.info? 192).map (·.size)=some bs.length:=by rw[HBL.out];exact infoBl
    have hinf2: (Tryz.prog.info? 192).map (·.size)=some bs.toArray.size:=by simp only[List.size_toArray,HBL.out];exact infoBl
    have hS1:W.drew.cell? ⟨d,0,none⟩=some (.slice (some ⟨g,0,none⟩) N N)/\W.drew.cell? ⟨bx,0,none⟩=some (.int .i64 (xi:Int))/\W.drew.rangeAt bx 1 bs/\W.drew.there g (xi*128) bs.toArray.size:=HS0.out
    have hS2: (W.drew.setCells g (xi*128) bs).cell? ⟨d,0,none⟩=some (.slice (some ⟨g,0,none⟩) N N)/\(W.drew.setCells g (xi*128) bs).cell? ⟨bx,0,none⟩=some (.int .i64 (xi:Int))/\(W.drew.setCells g (xi*128) bs).rangeAt bx 1 bs/\(W.drew.setCells g (xi*128) bs).there g (xi*128) bs.toArray.size:=
     ⟨by rw[World.cell?_setCells_out g bs _ _ _ (λhb _=>absurd hb (Ne.symm hne1))];exact hS1.1,by rw[World.cell?_setCells_out g bs _ _ _ (λhb _=>absurd hb (Ne.symm hne2))];exact hS1.2.1,World.rangeAt_setCells_apart hS1.2.2.1 _ _ _ (.inl (Ne.symm hne2)),World.there_setCells hS1.2.2.2 _ _ _⟩
    go_region_held3 (λw'=>w'.cell? ⟨d,0,none⟩=some (.slice (some ⟨g,0,none⟩) N N)/\w'.cell? ⟨bx,0,none⟩=some (.int .i64 (xi:Int))/\w'.rangeAt bx 1 bs/\w'.there g (xi*128) bs.toArray.size) (first|exact hS1|exact hS2) (skip)
    have HD3:=jq (sync_step HDWW.out hx HBS.out (by show xi<(puts m.bl (m.wt.take k)).length;rw[<-HN.out];exact hxi') HXB.out);have HU3:Hid (Upon (λq=>q=d\/q=g) w2 (W.drew.setCells g (xi*128) bs)):=jq (HUP.out.trans (Upon.of_only (F:=[g]) (Only.setCells bs (xi*128) ((Only.of_below HBW.out).drew) (.inl (by simp))) (λq hq=>.inl (.inr (jE.1 hq)))) (λq hq=>.inl hq));obtain⟨W2,hW2⟩:=jl (W.drew.setCells g (xi*128) bs);rw[<-hW2]at HD3 HU3⊢;clear hW2 hS1 hS2 hinf hinf2 hu hzo hx hxi' hne1 hne2 hwl
    rename_i hHeld
    clear hHeld;have hw:RowKit.wrap64 ((k:Int)+1)=(k:Int)+1:=IntWalk.wrap64_in _ (by omega)
    go_wp2_with fail
    go_roundw
    case rel=>exact⟨k+1,Nat.succ_le_of_lt hlt,by simp,HD3.out,HU3.out⟩
    case measure=>simp[intOf];exact Nat.sub_lt_sub_left hlt (Nat.lt_succ_self k)
   ·obtain rfl:k=n:=by omega
    have f1:=hdk.disk.frozen 1;have c1':=hdk.cells.2.1;have HDK:=jq hdk;have HUP:=jq hup;clear hdk hup c1
    go_wp2_with fail
    go_ret
    refine⟨rfl,.slice none 0 0,?_,((Upon.of_only HO2.out (λq hq=>.inl (.inl (jE.1 hq)))).trans HUP.out (λq hq=>.inl hq)).set (.inl (.inl rfl)) _,λq hq=>by cases hq⟩;have htk:m.wt.take k=m.wt:=by rw[HNN.out,List.take_length]
    have hd:=HDK.out;rw[htk]at hd;exact⟨hd.disk.set 1 (.slice none 0 0),hd.row.far (Ne.symm hd.dg) _,⟨rfl,.inl ⟨rfl,rfl⟩⟩,hd.len,(λx hx=>by cases hx),hd.f0,hd.f1,hd.small,λ_=>rfl⟩
end Dk
end Go.Proofs.YtfgjnpbffppocaaGreatDoor
