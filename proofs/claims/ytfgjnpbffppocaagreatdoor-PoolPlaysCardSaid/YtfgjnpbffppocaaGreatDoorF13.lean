/- Part. -/
import Derived.Test.YtfgjnpbffppocaaGreatDoorF0
import Derived.Test.YtfgjnpbffppocaaGreatDoorF0Q
import Derived.Test.YtfgjnpbffppocaaGreatDoorF4
import Derived.Test.YtfgjnpbffppocaaGreatDoorF12
import Derived.Deep.RegionHeld3
import Derived.Outline
import Derived.Test.YtfgjnpbffppocaaGreatDoorIter
import Derived.RangeFuncBound
import Derived.RangeFuncNested
import Derived.Maps.RangeWalk
set_option maxHeartbeats 400000
set_option maxRecDepth 100000
namespace Go.Proofs.YtfgjnpbffppocaaGreatDoor
namespace Disk
open Go.RowKit Go.Deep Go.Shelf Mem Crc
def zs (n:Nat):Array Value:=Array.replicate n (.int .u8 0)
structure Blank (w:World) (d g n:Nat) (off:Bool):Prop where
 disk:Blk w d 97 #[.slice (some ⟨g,0,none⟩) n n,.slice none 0 0,.bool off,.int .i64 (-1)]
 row:Blk w g 192 (zs (n*128))
theorem info128: (Tryz.prog.info? 192).map (λi=>(i.zero,i.size,i.bytes))=some (some (.agg (zs 128)),128,128):=by kernel_rfl
theorem made_zs (m:Nat):madeCells (zs 128) m=zs m:=by
 apply Array.ext
 ·simp[madeCells,zs]
 ·intro i h1 h2;have h3:i%128<128:=Nat.mod_lt _ (by decide);simp only[madeCells,zs,Array.size_replicate,Array.getElem_map,Array.getElem_range,Array.getElem_replicate];rw[getElem!_pos _ _ (by simpa using h3),Array.getElem_replicate]
theorem new_any (n:Nat) (w:World) (h:1<=n) (h2:n<=2000):
  Calls Tryz.prog 18 #[.int .i64 (n:Int)] w λe w'=>∃d g,e=.returned (.tuple #[.pointer (some ⟨d,0,none⟩),.int .i64 0])/\Blank w' d g n false/\w.heap.size<=d/\w.heap.size<=g/\Below w.heap.size w w':=by
 have h1:decide ((n:Int) <1)=false:=by simp;omega
 have h3:decide (65536<(n:Int))=false:=by simp;omega
 obtain⟨i0,hi0,hz0,hz1,hz2⟩:=info_parts info128
 have hmk: (Instr.makeSlice 94 (.int .i64 (n:Int)) (.int .i64 (n:Int))).run Tryz.prog w=.ok (.slice (some ⟨w.heap.size,0,none⟩) n n) (w.alloc (.cells (zs (n*128)) 192)):=by
  have e:=run_makeSlice w (P:=Tryz.prog) 94 192 i0 (.agg (zs 128)) Tryz.underlying94 hi0 hz0 .i64 .i64 n n (by omega) (by omega) (by rw[hz1];simp;omega) (by rw[hz2];omega) (by omega);simp only[Value.cells,hz1,made_zs,Int.toNat_natCast]at e;exact e
 go_enter Tryz.func18,Tryz.ntmps18
 go_wp2_with fail
 go_ret2
 exact⟨_,w.heap.size,rfl,⟨Blk.at_ (by simp),(Blk.new w _ _).alloc _⟩,by simp,Nat.le_refl _,((Below.refl _ w).alloc jn _).alloc (by simp) _⟩
theorem Blank.later {d g n:Nat} {off:Bool} {w w':World} (h:Blank w d g n off) (hB:Below w.heap.size w w'):Blank w' d g n off:=⟨h.disk.below hB h.disk.lt,h.row.below hB h.row.lt⟩
theorem Blank.keep {d g n:Nat} {off:Bool} {w w':World} (h:Blank w d g n off) (h1:w'.heap[d]? =w.heap[d]?) (h2:w'.heap[g]? =w.heap[g]?):Blank w' d g n off:=⟨h1.trans h.disk,h2.trans h.row⟩
theorem count_any {d g n:Nat} {off:Bool} {w:World} (h:Blank w d g n off):
  Calls Tryz.prog 48 #[.pointer (some ⟨d,0,none⟩)] w λe w'=>e=.returned (.int .i64 (n:Int))/\w'=w:=by
 have c0:=h.disk.cell 0
 simp at c0
 clear h
 go_enter Tryz.func48,Tryz.ntmps48
 go_wp2_with fail
 go_ret
 exact⟨rfl,rfl⟩
theorem on_any {d g n:Nat} {off:Bool} {w:World} (h:Blank w d g n off):
  Calls Tryz.prog 91 #[.pointer (some ⟨d,0,none⟩)] w λe w'=>e=.returned (.bool !off)/\w'=w:=by
 have c2:=h.disk.cell 2
 simp at c2
 clear h
 go_enter Tryz.func91,Tryz.ntmps91
 cases off
 ·go_wp2_with fail
  go_ret
  exact⟨rfl,rfl⟩
 ·go_wp2_with fail
  go_ret
  exact⟨rfl,rfl⟩
theorem there_any {d g n:Nat} {off:Bool} (i:Nat) {w:World} (h:Blank w d g n off) (hi:i<n):
  Calls Tryz.prog 141 #[.pointer (some ⟨d,0,none⟩),.int .i64 (i:Int)] w λe w'=>e=.returned (.bool true)/\w'=w:=by
 have hC:=jq (count_any h);clear h;have h0:decide ((0:Int)<=(i:Int))=true:=by simp
 have h1:decide ((i:Int) <(n:Int))=true:=by simp;omega
 go_enter Tryz.func141,Tryz.ntmps141
 go_wp2_with fail
 refine hC.out.mono ?_;rintro e w1 ⟨rfl,rfl⟩
 go_wp2_with fail
 go_ret
 exact⟨rfl,rfl⟩
theorem may_on {d g n:Nat} (i:Nat) {w:World} (h:Blank w d g n false) (hi:i<n):
  Calls Tryz.prog 114 #[.pointer (some ⟨d,0,none⟩),.int .i64 (i:Int)] w λe w'=>e=.returned (.int .i64 0)/\w'=w:=by
 have hC:=jq (on_any h);have hT:=jq (there_any i h hi);clear h
 go_enter Tryz.func114,Tryz.ntmps114
 go_wp2_with fail
 refine hC.out.mono ?_;rintro e w1 ⟨rfl,rfl⟩
 go_wp2_with fail
 refine hT.out.mono ?_;rintro e w1 ⟨rfl,rfl⟩
 go_wp2_with fail
 go_ret
 exact⟨rfl,rfl⟩
theorem infoB: (Tryz.prog.info? 192).map (·.size)=some 128:=by kernel_rfl
theorem zero128:Tryz.zeroCells192=zs 128:=by kernel_rfl
theorem row_range {w:World} {g n i:Nat} (h:Blk w g 192 (zs (n*128))) (hi:i<n):w.rangeAt g (i*128) (List.replicate 128 (.int .u8 0)):=λj v hv=>by
 rw[h.cell];obtain⟨hj,hv2⟩:=jS.1 hv;rw[List.length_replicate]at hj;rw[List.getElem_replicate]at hv2;subst hv2;unfold zs;rw[Array.getElem?_replicate,if_pos (by omega)]
theorem new_there (w:World) (t:TypeId) (m:Nat): (w.alloc (.cells (zs m) t)).there w.heap.size 0 m:=λj hj=>by
 have h:=Blk.new w t (zs m);refine⟨?_,h.frozen _⟩;rw[h.cell];unfold zs;rw[Nat.zero_add,Array.getElem?_replicate,if_pos hj]
 rfl
theorem backward_nil (w:World):Calls Tryz.prog 130 #[.slice none 0 0] w λe w'=>e=.returned (.func (.func 155) #[] #[.pointer (some ⟨w.heap.size,0,none⟩)])/\w'=w.alloc (.cells #[.slice none 0 0] 95):=by
 go_enter Tryz.func130,Tryz.ntmps130
 go_wp2_with fail
 go_ret
 exact⟨rfl,rfl⟩
theorem backward_stops (m B:Nat) (w:World) (hB:B<w.heap.size) (hc:w.cell? ⟨B,0,none⟩=some (.slice none 0 0)):
  SeqStopsK Fence.wide m Tryz.prog 155 #[.pointer (some ⟨B,0,none⟩)] (λ_:Empty=>#[Value.int .i64 0,Value.int .i64 0]) (λ_ _=>True) (λys=>ys= []) (λ_=>False) 0 w:=λl J Jx W hW _ _ _ h0=>by
 have hc':=(hW.cell (p:=⟨B,0,none⟩) hB).trans hc;refine callsIn_wide.2 ?_
 go_enter Tryz.func155,Tryz.ntmps155
 go_wp2_with fail
 go_loopw[3] (λi wr=>i=.int .i64 (-1)/\wr=W) (λ_ _=>0)
 case atStart=>exact⟨rfl,rfl⟩
 case round=>
  obtain⟨rfl,rfl⟩:=hrel
  go_wp2_with fail
  go_end0
  exact⟨⟨_,rfl⟩,.inl ⟨[],rfl,h0⟩⟩
theorem len128:Tryz.prog.arrayLen 192=128:=by kernel_rfl
theorem elem128:Tryz.prog.elem 192=5:=by kernel_rfl
theorem und128:Tryz.prog.underlying 192=some (.array (Tryz.prog.arrayLen 192) (Tryz.prog.elem 192)):=by rw[len128,elem128];exact Tryz.underlying192
theorem size8d (w:World): (sizeOf 5).run Tryz.prog w=.ok 1 w:=by kernel_rfl
theorem slice128 (g:Nat) (w:World): (Instr.sliceAt 192 (.pointer (some ⟨g,0,none⟩)) none none none).run Tryz.prog w=.ok (.slice (some ⟨g,0,none⟩) 128 128) w:=by
 rw[run_sliceAt_array_all w 192 ⟨g,0,none⟩ und128,elem128,size8d,len128]
 simp[slicedAt,Addr.add,Result.andThen]
theorem Below.setCells_at {B g:Nat} (hg:B<=g):∀(vs:List Value) (o:Nat) {a w:World},Below B a w->Below B a (w.setCells g o vs)
 | [],_,_,_,h=>h
 |v ::r,o,_,_,h=>Below.setCells_at hg r (o+1) (h.setCell (p:=⟨g,o,none⟩) hg v)
theorem read_any {d g n:Nat} (i:Nat) {w:World} (h:Blank w d g n false) (hi:i<n):
  Calls Tryz.prog 102 #[.pointer (some ⟨d,0,none⟩),.int .i64 (i:Int)] w λe w'=>∃a,e=.returned (.tuple #[.slice a 128 128,.int .i64 0])/\Lies w' a ((List.replicate 128 0).map bv)/\Below w.heap.size w w':=by
 have hal:=(Below.refl w.heap.size w).alloc jn (Obj.cells #[Value.int .i64 (i:Int)] 3);have h1:=h.later hal;have hM:=jq (may_on i h1 hi);have c0:=h1.disk.cell 0;have c1:=h1.disk.cell 1;have ci: (w.alloc (Obj.cells #[Value.int .i64 (i:Int)] 3)).cell? ⟨w.heap.size,0,none⟩=some (.int .i64 (i:Int)):=by rw[(Blk.new w 3 #[Value.int .i64 (i:Int)]).cell];rfl
 simp at c0 c1
 obtain⟨zl,hzl⟩:∃zl:List Value,zl=List.replicate 128 (.int .u8 0):=⟨_,rfl⟩;have hrow:=row_range h1.row hi;rw[<-hzl]at hrow;have hzo:∀v∈zl,v.oneCell'=true:=λv hv=>by rw[hzl,List.mem_replicate]at hv;rw[hv.2];rfl
 have hzn:zl.length=128:=by rw[hzl,List.length_replicate]
 have hu:Tryz.prog.underlying 192=_:=Tryz.underlying192;have hinf: (Tryz.prog.info? 192).map (·.size)=some zl.length:=by rw[hzn];exact infoB
 have hinf2: (Tryz.prog.info? 192).map (·.size)=some zl.toArray.size:=by simp only[List.size_toArray,hzn];exact infoB
 obtain⟨A,hA⟩:=jl (w.alloc (Obj.cells #[Value.int .i64 (i:Int)] 3));have hAs:A.heap.size=w.heap.size+1:=by rw[hA];simp
 rw[<-hA]at h1 hM c0 c1 ci hrow hal
 have hth2: (A.alloc (.cells Tryz.zeroCells192 192)).drew.there (w.heap.size+1) 0 zl.toArray.size:=by
  have e:zl.toArray.size=128:=by simp[hzn]
  rw[e,zero128,<-hAs];exact new_there A 192 128
 have hS:∀W,Below A.heap.size A W->W.cell? ⟨d,0,none⟩=some (.slice (some ⟨g,0,none⟩) n n)/\W.cell? ⟨w.heap.size,0,none⟩=some (.int .i64 (i:Int))/\W.rangeAt g (i*128) zl:=λW hW=>
  ⟨(hW.cell (p:=⟨d,0,none⟩) h1.disk.lt).trans c0,(hW.cell (p:=⟨w.heap.size,0,none⟩) (by show w.heap.size<_;omega)).trans ci,λj v hv=>(hW.cell (p:=⟨g,i*128+j,none⟩) h1.row.lt).trans (hrow j v hv)⟩
 have hS0:=hS A.drew ((Below.refl _ A).drew);have hB2:Below A.heap.size A (A.alloc (.cells Tryz.zeroCells192 192)).drew:=((Below.refl _ A).alloc jn _).drew;have hS2:=hS _ hB2;have hB3:=Below.setCells_at (g:=w.heap.size+1) (by omega) zl 0 hB2;have hS3:=hS _ hB3;have HB3:=jq hB3;have HAA:=jq hA;have HZL:=jq hzl;have HZN:=jq hzn;have HA:=jq hal;have hin: (i:Int) <(n:Int):=by omega
 have HLT:=jq (show d<w.heap.size+1 from Nat.lt_succ_of_lt h.disk.lt);rw[hA]at hM hS0 hS2 hS3 c0 c1 hth2;clear h h1 hal hzl hzn hrow ci hS hB2 hB3 hA;refine(callsIn_wide (n:=5)).1 ?_;refine callsIn_of_wp_marks Tryz.func102 rfl trivial ?_ rfl;simp only[Tryz.ntmps102,List.size_toArray,List.length_cons,List.length_nil,Nat.reduceAdd,Nat.reduceSub,Array.replicate_succ,Array.replicate_zero,List.push_toArray,List.append_toArray,List.nil_append,List.cons_append];refine wpIn_wide.2 ?_
 go_wp2_with fail
 refine hM.out.mono ?_;rintro e w1 ⟨rfl,rfl⟩
 go_wp2_with fail
 go_region_held3 (λw'=>w'.cell? ⟨d,0,none⟩=some (.slice (some ⟨g,0,none⟩) n n)/\w'.cell? ⟨w.heap.size,0,none⟩=some (.int .i64 (i:Int))/\w'.rangeAt g (i*128) zl) (first|exact hS0|exact hS2|exact hS3) (skip)
 obtain⟨W,hW⟩:=jl (((w.alloc (Obj.cells #[Value.int .i64 (i:Int)] 3)).alloc (Obj.cells Tryz.zeroCells192 192)).drew.setCells (w.heap.size+1) 0 zl);have hBW:Below A.heap.size A W:=by rw[hW,<-HAA.out];exact HB3.out
 have d1:W.cell? ⟨d,1,none⟩=some (.slice none 0 0):=(hBW.cell (p:=⟨d,1,none⟩) (by rw[hAs];exact HLT.out)).trans (by rw[HAA.out];exact c1)
 have hBlk:Blk W (w.heap.size+1) 192 zl.toArray:=by
  have h0:Blk ((w.alloc (Obj.cells #[Value.int .i64 (i:Int)] 3)).alloc (Obj.cells Tryz.zeroCells192 192)).drew (w.heap.size+1) 192 (zs 128):=by rw[<-zero128];exact Blk.at_ (by simp)
  obtain⟨cs',h1,h2⟩:=Blk.splice zl 0 _ _ h0 (by rw[HZN.out];simp[zs]);rw[hW]
  have e:cs'=zl.toArray:=by
   apply Array.ext'
   rw[h2,Nat.zero_add,HZN.out]
   simp[zs]
  rw[<-e];exact h1
 have hBw:Below w.heap.size w W:=by
  have h1:Below w.heap.size w A:=by rw[HAA.out];exact(Below.refl _ w).alloc jn _
  exact h1.trans (hBW.mono (by omega))
 have hWs:w.heap.size+1<W.heap.size:=hBlk.lt;rw[<-hW];have HBLK:=jq hBlk;have HBW:=jq hBw;clear hW hBW hBlk hBw c0 c1 hS0 hS2 hS3 hth2 HB3 HAA hM hu hinf hinf2
 go_wp2_with (go_at_call 130;refine(backward_nil _).mono ?_;rintro e w3 ⟨rfl,rfl⟩)
 refine(wpIn_wide (n:=4)).1 ?_
 refine wpIn_rangeFunc_ownG (α:=Empty) (encs:=λ_=>#[Value.int .i64 0,Value.int .i64 0]) (gf:=155) (lb:=#[.pointer (some ⟨W.heap.size,0,none⟩)]) rfl (by omega) rfl trivial (enters_of Tryz.func155 (by kernel_rfl) rfl)
  ((backward_stops _ W.heap.size (W.alloc (.cells #[.slice none 0 0] 95)) (by simp) (by rw[(Blk.new W 95 #[Value.slice none 0 0]).cell];rfl))) (λ_ _=>trivial) (λ_ _ _ _ _ _ _ _=>trivial) (Below.refl _ _) (λ_=>rfl)
  (λ_ V=>Below W.heap.size W V) (λ_ _ _=>False) (ownFrom_below jn (by simp)) (λ_ _ _ _ _ hs _ _=>hs) ((Below.refl _ W).alloc jn _) (λ_=>⟨#[],[]⟩) (λ_ x=>nomatch x) (λ_ _ x=>nomatch x) ?done (λ_ _ _ _ _ h _ _=>False.elim h)
 case done=>
  rintro D ys W1 hD rfl hB1 hK;have hs1:=hB1.size;dsimp only;have HK:=jq hK;have HB1:=jq hB1;have hrow:=HBLK.out.below hB1 hWs;have hslc:=λX:World=>slice128 (w.heap.size+1) X
  have HROW:=jq hrow;clear hK hB1 hrow
  go_wp2_with fail
  have hD':w.heap.size+1<D:=by simp at hD;omega
  have hBp:Below D W1 (W1.putObj D (.deferred none)):=(Below.refl D W1).grown (grownBy_putObj' W1 D _) (Nat.le_of_lt (Array.getElem?_eq_some_iff.1 HK.out).1) (λk e=>by cases e;exact Nat.le_refl _);have hrow2:=HROW.out.below hBp hD';refine⟨by simp,.inl ⟨_,_,rfl,run_takeDeferred HK.out,?_⟩⟩;refine⟨.tuple #[.slice (some ⟨w.heap.size+1,0,none⟩) 128 128,.int .i64 0],by simp[results,Tryz.results102,go_sem],_,rfl,?_,(HBW.out.trans (HB1.out.mono (by omega))).trans (hBp.mono (by omega))⟩;refine .inr ⟨_,_,rfl,hrow2.lt,λj u hu=>?_⟩;rw[hrow2.cell,Nat.zero_add,jt,HZL.out];rw[<-hu]
  simp[bv]
end Disk
namespace Man
open Go.RowKit Go.Deep Mem Crc Disk Go.Proofs.YtfgjnpbffppocaaGreatDoor.Frame
def zb (n:Nat):List UInt8:=List.replicate n 0
theorem zb_length (n:Nat): (zb n).length=n:=List.length_replicate
theorem got_zero:got (zb 2048)=(0,[],0,5):=by
 have h1:¬(zb 2048).length<9:=by unfold zb;rw[List.length_replicate];decide
 have h2: (zb 2048).take 9=zb 9:=by unfold zb;rw[List.take_replicate];rfl
 have h3:fitsE (zb 9)=5:=by kernel_rfl
 unfold got;rw[if_neg h1,h2,h3]
 rfl
theorem lies_read {w:World} {a:Option Addr} (h:Lies w a ((List.replicate 128 (0:UInt8)).map bv)):∃ad,a=some ad/\∀j u,((zb 128).map bv)[j]? =some u->w.cell? (ad.add j)=some u:=by
 rcases h with h|⟨g,off,rfl,h1,h2⟩
 ·rw[List.map_eq_nil_iff]at h;cases h
 ·exact⟨_,rfl,lies_add (.inr ⟨g,off,rfl,h1,h2⟩)⟩
theorem slot_any {d g N:Nat} (n:Nat) (hn:n<2) (hN:33<=N) {w:World} (h:Blank w d g N false):
  Calls Tryz.prog 73 #[.pointer (some ⟨d,0,none⟩),.int .i64 (n:Int)] w λe w'=>∃v,e=.returned (.tuple #[v,.int .i64 0])/\OwnB w' w.heap.size v (zb 2048)/\Below w.heap.size w w':=by
 obtain⟨i0,hi0,hz0,hz1,hz2⟩:=info_parts infoB8;have H:=jq h;clear h
 go_enter Tryz.func73,Tryz.ntmps73
 go_wp2_with fail
 go_loopw[10,6] (λi o wr=>∃j:Nat,j<=16/\i=.int .i64 (j:Int)/\Hid (OwnB wr w.heap.size o (zb (j*128)))/\Hid (Below w.heap.size w wr)) (λi _ _=>16-(intOf i).toNat)
 case atStart=>exact⟨0,by omega,rfl,jq (World.ownsRow_nil _ _ _ _),jq (Below.refl _ _)⟩
 case round=>
  obtain⟨j,hj,rfl,hO,hB⟩:=hrel
  by_cases hj16:j<16
  ·have hd:decide ((j:Int) <16)=true:=by simp;omega
   have hR:=jq (read_any (n*16+j) (H.out.later hB.out) (by omega));have hsz:=hB.out.size;have hcast: ((n*16+j:Nat):Int)=(n:Int)*16+(j:Int):=by push_cast;rfl
   rw[hcast]at hR;clear hcast
   go_wp2_with fail
   refine hR.out.mono ?_;rintro e w1 ⟨a,rfl,hL,hB1⟩;have hO1:=own_later hO.out hB1;obtain⟨ad,rfl,hL2⟩:=lies_read hL;have hnil:=λX:World=>Lib.run_eql_slice_nil (P:=Tryz.prog) X 27 5 (some ad) 128 128 0 0 Tryz.underlying27
   have HL:=jq hL2;have HB1:=jq hB1;have H1:=jq (oneCell_bytes (zb 128));clear hL hL2 hB1 hd
   go_wp2_with (first|(at_builtin;refine wpList_append_own _ rfl _ _ 27 rfl w.heap.size 5 i0 (.int .u8 0) 1 1 Tryz.underlying27 hi0 hz0 hz1 hz2 rfl (by decide) _ _ _ rfl hO1 ad 128 128 ((zb 128).map bv) rfl (by simp[zb]) HL.out H1.out ?c3 ?c4 ?c5 ?_))
   case c3=>rw[zb_length];unfold maxLen;omega
   case c4=>rw[zb_length];omega
   case c5=>have:=HB1.out.size;omega
   intro v' w2 hown2 hgrow2 _;have hB2:Below w.heap.size w w2:=(hB.out.trans (HB1.out.mono hsz)).grown hgrow2 (by have:=HB1.out.size;omega) (λq hq=>(hO1.lt q hq).1)
   have hO2:OwnB w2 w.heap.size v' (zb ((j+1)*128)):=by
    have e:zb ((j+1)*128)=zb (j*128)++zb 128:=by unfold zb;rw[List.replicate_append_replicate,Nat.succ_mul]
    rw[e];unfold OwnB;rw[jL,List.map_append,zb_length 128];exact hown2
   have HB2:=jq hB2;have HO2:=jq hO2;clear hown2 hgrow2 hB2 hO2 hO1
   go_wp2_with fail
   go_roundw
   case rel=>exact⟨j+1,hj16,by simp,HO2,HB2⟩
   case measure=>simp[intOf];omega
  ·obtain rfl:j=16:=by omega
   have hd:decide ((16:Int) <16)=false:=by decide
   go_wp2_with fail
   go_ret2
   exact⟨_,rfl,hO.out,hB.out⟩
theorem isnt_zero (w:World):Calls Tryz.prog 75 #[.int .u8 0] w λe w'=>e=.returned (.bool false)/\w'=w:=by
 go_enter Tryz.func75,Tryz.ntmps75
 go_wp2_with fail
 go_ret
 exact⟨rfl,rfl⟩
theorem index_zero (a:Option Addr) (cp n:Nat) (w:World) (h:Lies w a ((zb n).map bv)) (hn:n<=4000000):
  Calls Tryz.prog 110 #[.slice a n cp,.func (.func 75) #[] #[]] w λe w'=>e=.returned (.int .i64 (-1))/\w'=w:=by
 have H:=jq h;clear h
 go_enter Tryz.func110,Tryz.ntmps110
 go_wp2_with fail
 go_loopw[8] (λi wr=>∃j:Nat,j<=n/\i=.int .i64 (j:Int)/\wr=w) (λi _=>n-(intOf i).toNat)
 case atStart=>exact⟨0,by omega,rfl,rfl⟩
 case round=>
  obtain⟨j,hj,rfl,rfl⟩:=hrel
  by_cases hjn:j<n
  ·obtain⟨g,off,rfl,_,hc⟩:=H.out.resolve_left (λe=>by
    rw[List.map_eq_nil_iff]at e;have:=congrArg List.length e;rw[zb_length]at this
    simp at this
    omega)
   have c0:wr.cell? ⟨g,off+j,none⟩=some (.int .u8 0):=by
    have:=hc j (bv 0) (by unfold zb;rw[List.map_replicate,List.getElem?_replicate,if_pos hjn]);exact this
   clear hc
   go_wp2_with (first|(go_at_call 75;refine(isnt_zero _).mono ?_;rintro e w1 ⟨rfl,rfl⟩))
   go_roundw
   case rel=>exact⟨j+1,hjn,by simp,trivial⟩
   case measure=>simp[intOf];omega
  ·obtain rfl:j=n:=by omega
   go_wp2_with fail
   go_ret
   exact⟨rfl,rfl⟩
theorem contains_zero (a:Option Addr) (cp n:Nat) (w:World) (h:Lies w a ((zb n).map bv)) (hn:n<=4000000):
  Calls Tryz.prog 74 #[.slice a n cp,.func (.func 75) #[] #[]] w λe w'=>e=.returned (.bool false)/\w'=w:=by
 have H:=jq (index_zero a cp n w h hn);clear h
 go_enter Tryz.func74,Tryz.ntmps74
 go_wp2_with fail
 refine H.out.mono ?_;rintro e w1 ⟨rfl,rfl⟩
 go_wp2_with fail
 go_ret
 exact⟨rfl,rfl⟩
theorem get_zero (a:Option Addr) (cp:Nat) (w:World) (h:Lies w a ((zb 2048).map bv)) (hc:2048<=cp):
  Calls Tryz.prog 76 #[.slice a 2048 cp] w λe w'=>e=.returned (.tuple #[.agg #[.int .u64 0,.int .u32 0,.slice none 0 0],.int .i64 5])/\Below w.heap.size w w':=by
 have hal:=(Below.refl w.heap.size w).alloc jn (Obj.cells #[Value.int .u64 0,Value.int .u32 0,Value.slice none 0 0] 101);have hg:=get_any a cp (zb 2048) _ (h.later hal) (by rw[zb_length];exact hc) (by rw[zb_length];omega);have hb:=Blk.new w 101 #[Value.int .u64 0,Value.int .u32 0,Value.slice none 0 0];rw[zb_length]at hg;have H:=jq hg;have HA:=jq hal;have HB:=jq hb;clear h hg hal hb
 go_enter Tryz.func76,Tryz.ntmps76
 go_wp2_with fail
 refine H.out.mono ?_;rintro e w1 ⟨⟨v,rfl,hO⟩,hB⟩;obtain⟨va,vc,ev,_,_,_,_⟩:=own_shape hO;subst ev;rw[got_zero];simp only[bv,UInt8.toNat_zero,List.length_nil];have hb0:=HB.out.below hB HB.out.lt;have hb1:=hb0.alloc (.cells #[.int .u8 0,.slice va 0 vc] 128);have c0:=hb1.cell 0;have c1:=hb1.cell 1;have c2:=hb1.cell 2;have f0:=hb1.frozen 0;have f1:=hb1.frozen 1;have f2:=hb1.frozen 2
 simp at c0 c1 c2
 have HB1:=jq hB;have hs:=hB.size
 simp at hs
 have HBB:=jq hb1;clear hO hb1 hB hb0
 go_wp2_with fail
 have hb3:=((HBB.out.set 0 (.int .u64 0)).set 1 (.int .u32 0)).set 2 (.slice none 0 0);have q0:=hb3.cell 0;have q1:=hb3.cell 1;have q2:=hb3.cell 2
 simp at q0 q1 q2
 refine bodyPost_ret (v:=.tuple #[.agg #[.int .u64 0,.int .u32 0,.slice none 0 0],.int .i64 5]) (by simp[results,Tryz.results76,go_sem,q0,q1,q2]) rfl ⟨rfl,?_⟩;have h9:Below w.heap.size w (w1.alloc (.cells #[.int .u8 0,.slice va 0 vc] 128)):=((HA.out.trans (HB1.out.mono (by simp)))).alloc (by omega) _;exact((h9.setCell (p:=⟨w.heap.size,0,none⟩) jn _).setCell (p:=⟨w.heap.size,1,none⟩) jn _).setCell (p:=⟨w.heap.size,2,none⟩) jn _
end Man
namespace Man
open Go.RowKit Go.Deep Mem Crc Disk
theorem read_blank {d g N:Nat} (hN:33<=N) {w:World} (h:Blank w d g N false):
  Calls Tryz.prog 45 #[.pointer (some ⟨d,0,none⟩)] w λe w'=>e=.returned (.tuple #[.agg #[.int .u64 0,.int .u32 0,.slice none 0 0],.int .i64 0])/\Below w.heap.size w w':=by
 have hal:=(Below.refl w.heap.size w).alloc jn (Obj.cells #[Value.int .u64 0,Value.int .u32 0,Value.slice none 0 0] 101);have hC:=jq (count_any (h.later hal));have H:=jq h;have HA:=jq hal;clear h hal;have hd0:decide ((N:Int)<=32)=false:=by simp;omega
 go_enter Tryz.func45,Tryz.ntmps45
 go_wp2_with fail
 refine hC.out.mono ?_;rintro e w1 ⟨rfl,rfl⟩
 go_wp2_with fail
 obtain⟨W,hW⟩:=jl ((w.alloc (Obj.cells #[Value.int .u64 0,Value.int .u32 0,Value.slice none 0 0] 101)).alloc (Obj.cells #[Value.int .u64 0,Value.int .u32 0,Value.slice none 0 0] 101));have hb0:Blk W w.heap.size 101 #[Value.int .u64 0,Value.int .u32 0,Value.slice none 0 0]:=by rw[hW];exact(Blk.new w _ _).alloc _
 have hb1:Blk W (w.heap.size+1) 101 #[Value.int .u64 0,Value.int .u32 0,Value.slice none 0 0]:=by rw[hW];exact Blk.at_ (by simp)
 have hBW:Below w.heap.size w W:=by rw[hW];exact HA.out.alloc (by simp) _
 rw[<-hW];have HB0:=jq hb0;have HB1:=jq hb1;have HBW:=jq hBW;clear hb0 hb1 hBW hW hC HA hd0
 go_loopw[5,6,15] (λf b i wr=>∃j:Nat,j<=2/\f=.bool false/\b=.bool (decide (0<j))/\i=.int .i64 (j:Int)/\Hid (Blk wr w.heap.size 101 #[Value.int .u64 0,Value.int .u32 0,Value.slice none 0 0])/\Hid (Blk wr (w.heap.size+1) 101 #[Value.int .u64 0,Value.int .u32 0,Value.slice none 0 0])/\Hid (Below w.heap.size w wr)) (λ_ _ i _=>2-(intOf i).toNat)
 case atStart=>exact⟨0,by omega,rfl,rfl,rfl,HB0,HB1,HBW⟩
 case round=>
  obtain⟨j,hj,rfl,rfl,rfl,hb0,hb1,hB⟩:=hrel
  by_cases hj2:j<2
  ·have hd:decide ((j:Int) <2)=true:=by simp;omega
   have hS:=jq (slot_any j hj2 hN (H.out.later hB.out));obtain⟨bl,hbl⟩:=jl (decide (0<j));rw[<-hbl];have HBL:=jq hbl;have hsz:=hB.out.size;clear hbl
   go_wp2_with fail
   refine hS.out.mono ?_;rintro e w1 ⟨v,rfl,hO,hB1⟩;obtain⟨va,vc,ev,hvc,hL,_,_⟩:=own_shape hO;subst ev;rw[zb_length]at hvc⊢;have hCZ:=jq (contains_zero va vc 2048 w1 hL (by omega));have hGZ:=jq (get_zero va vc w1 hL hvc);have hb01:=hb0.out.below hB1 hb0.out.lt;have hb11:=hb1.out.below hB1 hb1.out.lt;have hBB:=hB.out.trans (hB1.mono hsz);have HB01:=jq hb01;have HB11:=jq hb11;have HBB:=jq hBB;clear hO hL hB1 hd hb01 hb11 hBB;cases bl
   all_goals
    go_wp2_with (first|(go_at_call 74;refine hCZ.out.mono ?_;rintro e w2 ⟨rfl,rfl⟩))
    refine hGZ.out.mono ?_;rintro e w3 ⟨rfl,hB3⟩;have HB3:=jq hB3;clear hB3
    go_wp2_with fail
    have hz3:=HB3.out.size;have hz1:=HBB.out.size;exact⟨⟨j+1,hj2,rfl,by simp,by simp,jq ((HB01.out.below HB3.out HB01.out.lt).alloc _),jq ((HB11.out.below HB3.out HB11.out.lt).alloc _),jq ((HBB.out.trans (HB3.out.mono hz1)).alloc (by omega) _)⟩,by simp[intOf];omega⟩
  ·obtain rfl:j=2:=by omega
   have hd:decide ((2:Int) <2)=false:=by decide
   have ht:decide (0<2)=true:=by decide
   have q0:=hb1.out.cell 0;have q1:=hb1.out.cell 1;have q2:=hb1.out.cell 2;have p0:=hb0.out.cell 0;have p1:=hb0.out.cell 1;have p2:=hb0.out.cell 2;have f0:=hb0.out.frozen 0;have f1:=hb0.out.frozen 1;have f2:=hb0.out.frozen 2
   simp at q0 q1 q2 p0 p1 p2
   go_wp2_with fail
   have hb3:=((hb0.out.set 0 (.int .u64 0)).set 1 (.int .u32 0)).set 2 (.slice none 0 0);have r0:=hb3.cell 0;have r1:=hb3.cell 1;have r2:=hb3.cell 2
   simp at r0 r1 r2
   refine bodyPost_ret (v:=.tuple #[.agg #[.int .u64 0,.int .u32 0,.slice none 0 0],.int .i64 0]) (by simp[results,Tryz.results45,go_sem,r0,r1,r2]) rfl ⟨rfl,?_⟩;exact((hB.out.setCell (p:=⟨w.heap.size,0,none⟩) jn _).setCell (p:=⟨w.heap.size,1,none⟩) jn _).setCell (p:=⟨w.heap.size,2,none⟩) jn _
end Man
namespace Store
open Go.RowKit Go.Deep Mem Crc Disk Man
abbrev Chg:=List UInt8->Option (Option (List UInt8))
def chgV (w:World) (Q:Nat->Prop):Option (List UInt8)->Value->Prop
 |none,v=>v=.agg #[.slice none 0 0,.bool true]
 |some b,v=>∃a cp,v=.agg #[.slice a b.length cp,.bool false]/\b.length<=cp/\Lies w a (b.map bv)/\∀g,blk a=some g->Q g
def isChg (w:World) (Q:Nat->Prop) (f:Lit->Option Value) (C:Chg) (nm:List UInt8):Prop:=
 match C nm with
 |none=>f (.string nm)=none
 |some c=>∃v,f (.string nm)=some v/\chgV w Q c v
structure St (w:World) (Q:Nat->Prop) (s d g N cm:Nat) (off:Bool) (C:Chg):Prop where
 store:Blk w s 111 #[.pointer (some ⟨d,0,none⟩),.int .u64 0,.int .u32 0,.slice none 0 0,.map (some cm),.bool false]
 disk:Blank w d g N off
 map:∃f,MapIs w 9 cm f/\(∀x,f x≠none->∃nm,x=.string nm)/\∀nm,isChg w (λk=>Q k/\k≠cm) f C nm
 qs:Q s
 qd:Q d
 qg:Q g
 qm:Q cm
 lt:∀k,Q k->k<w.heap.size
theorem chgV.keep {w w':World} {Q Q':Nat->Prop} {c:Option (List UInt8)} {v:Value} (h:chgV w Q c v) (hs:w.heap.size<=w'.heap.size) (hk:∀k,Q k->w'.heap[k]? =w.heap[k]?) (hQ:∀k,Q k->Q' k):chgV w' Q' c v:=by
 cases c with
 |none=>exact h
 |some b=>
  obtain⟨a,cp,e,h1,h2,h3⟩:=h;exact⟨a,cp,e,h1,h2.keep hs (λg hg=>hk g (h3 g hg)),λg hg=>hQ g (h3 g hg)⟩
theorem isChg.keep {w w':World} {Q Q':Nat->Prop} {f:Lit->Option Value} {C:Chg} {nm:List UInt8} (h:isChg w Q f C nm) (hs:w.heap.size<=w'.heap.size) (hk:∀k,Q k->w'.heap[k]? =w.heap[k]?) (hQ:∀k,Q k->Q' k):isChg w' Q' f C nm:=by
 unfold isChg at h⊢
 cases hc:C nm with
 |none=>rw[hc]at h;exact h
 |some c=>
  rw[hc]at h;obtain⟨v,h1,h2⟩:=h;exact⟨v,h1,h2.keep hs hk hQ⟩
theorem St.keep {w w':World} {Q:Nat->Prop} {s d g N cm:Nat} {off:Bool} {C:Chg} (h:St w Q s d g N cm off C) (hs:w.heap.size<=w'.heap.size) (hk:∀k,Q k->w'.heap[k]? =w.heap[k]?):St w' Q s d g N cm off C:=by
 obtain⟨f,h1,h2,h3⟩:=h.map;exact⟨(hk s h.qs).trans h.store,h.disk.keep (hk d h.qd) (hk g h.qg),⟨f,h1.keep (hk cm h.qm),h2,λnm=>(h3 nm).keep hs (λk hq=>hk k hq.1) (λ_ h=>h)⟩,h.qs,h.qd,h.qg,h.qm,λk hq=>Nat.lt_of_lt_of_le (h.lt k hq) hs⟩
theorem St.later {w w':World} {Q:Nat->Prop} {s d g N cm:Nat} {off:Bool} {C:Chg} (h:St w Q s d g N cm off C) (hB:Below w.heap.size w w'):St w' Q s d g N cm off C:=h.keep hB.size (λk hq=>hB.block k (h.lt k hq))
theorem St.only {w w':World} {Q:Nat->Prop} {s d g N cm:Nat} {off:Bool} {C:Chg} {F:List Nat} (h:St w Q s d g N cm off C) (ho:Only F w w') (hF:∀k∈F,¬Q k):St w' Q s d g N cm off C:=h.keep ho.size (λk hq=>ho.block k (h.lt k hq) (λhm=>hF k hm hq))
def none':Chg:=λ_=>none
theorem open_any {d g N:Nat} (hN:33<=N) {w:World} (h:Blank w d g N false):
  Calls Tryz.prog 19 #[.pointer (some ⟨d,0,none⟩)] w λe w'=>∃s cm,e=.returned (.tuple #[.pointer (some ⟨s,0,none⟩),.int .i64 0])/\St w' (λk=>k=s\/k=d\/k=g\/k=cm) s d g N cm false none'/\w.heap.size<=s/\w.heap.size<=cm/\Below w.heap.size w w':=by
 have hal:=(Below.refl w.heap.size w).alloc jn (Obj.cells #[Value.pointer (some ⟨d,0,none⟩)] 30);have HM:=jq (read_blank hN (h.later hal));have H:=jq h;have HA:=jq hal;have hbd:=Blk.new w 30 #[Value.pointer (some ⟨d,0,none⟩)];have HBD:=jq hbd;clear h hal hbd
 go_enter Tryz.func19,Tryz.ntmps19
 go_wp2_with fail
 refine HM.out.mono ?_;rintro e w1 ⟨rfl,hB1⟩;have c0:=(hB1.cell (p:=⟨w.heap.size,0,none⟩) HBD.out.lt).trans (HBD.out.cell 0)
 simp at c0
 have HB1:=jq hB1;have hs1:=hB1.size
 simp at hs1
 clear hB1
 go_wp2_with fail
 obtain⟨W,hW⟩:=jl (w1.alloc (.cells #[.int .u64 0,.int .u32 0,.slice none 0 0] 101));have hb:=Blk.new w1 101 #[.int .u64 0,.int .u32 0,.slice none 0 0];rw[<-hW]at hb⊢;have m0:=hb.cell 0;have m1:=hb.cell 1;have m2:=hb.cell 2;have d0:W.cell? ⟨w.heap.size,0,none⟩=some (.pointer (some ⟨d,0,none⟩)):=by rw[hW];exact(((Below.refl w1.heap.size w1).alloc jn _).cell (p:=⟨w.heap.size,0,none⟩) (by show w.heap.size<_;omega)).trans c0
 simp at m0 m1 m2
 have hBW:Below w.heap.size w W:=by rw[hW];exact(HA.out.trans (HB1.out.mono (by simp))).alloc (by omega) _
 have hWs:w.heap.size<W.heap.size:=by rw[hW];simp;omega
 have HBW:=jq hBW;clear hb hW HB1 HA HM HBD hBW c0
 go_loopw[20] (λi wr=>i=.int .i64 0/\wr=W) (λ_ _=>0)
 case atStart=>exact⟨rfl,rfl⟩
 case round=>
  obtain⟨rfl,rfl⟩:=hrel;have hmk:=run_makeMap (P:=Tryz.prog) 109 wr
  go_wp2_with fail
  go_ret2
  have hsz:=HBW.out.size;have hB2:Below wr.heap.size wr ((wr.alloc (.map #[] 0)).alloc (.cells #[.pointer (some ⟨d,0,none⟩),.int .u64 0,.int .u32 0,.slice none 0 0,.map (some wr.heap.size),.bool false] 111)):=((Below.refl _ wr).alloc jn _).alloc (by simp) _;have hD:=(H.out.later HBW.out).later hB2;have hmap:MapIs ((wr.alloc (.map #[] 0)).alloc (.cells #[.pointer (some ⟨d,0,none⟩),.int .u64 0,.int .u32 0,.slice none 0 0,.map (some wr.heap.size),.bool false] 111)) 9 wr.heap.size (λ_=>none):=(MapIs.made wr _).keep (Below.heap_alloc _ _ _ (by simp));refine⟨wr.heap.size+1,wr.heap.size,rfl,⟨Blk.at_ (by simp),hD,⟨_,hmap,λx h=>absurd rfl h,λnm=>rfl⟩,.inl rfl,.inr (.inl rfl),.inr (.inr (.inl rfl)),.inr (.inr (.inr rfl)),λk hk=>?_⟩,by omega,hsz,HBW.out.trans (hB2.mono hsz)⟩;have h1:=hD.disk.lt;have h2:=hD.row.lt;rcases hk with rfl|rfl|rfl|rfl
  ·simp
  ·exact h1
  ·exact h2
  ·simp;omega
theorem down_any {w:World} {Q:Nat->Prop} {s d g N cm:Nat} {off:Bool} {C:Chg} (h:St w Q s d g N cm off C):
  Calls Tryz.prog 62 #[.pointer (some ⟨s,0,none⟩)] w λe w'=>e=.returned (.bool off)/\w'=w:=by
 have c0:=h.store.cell 0;have c5:=h.store.cell 5
 simp at c0 c5
 have HO:=jq (on_any h.disk);clear h
 go_enter Tryz.func62,Tryz.ntmps62
 go_wp2_with fail
 refine HO.out.mono ?_;rintro e w1 ⟨rfl,rfl⟩
 go_wp2_with fail
 go_ret
 exact⟨by simp,rfl⟩
end Store
namespace Store
open Go.RowKit Go.Deep Mem Crc Disk Man Go.Maps
noncomputable def setC (C:Chg) (nm:List UInt8) (c:Option (Option (List UInt8))):Chg:=λx=>open Classical in if x=nm then c else C x
theorem setC_same (C:Chg) (nm:List UInt8) (c:Option (Option (List UInt8))):setC C nm c nm=c:=by unfold setC;rw[if_pos rfl]
theorem setC_other {C:Chg} {nm x:List UInt8} (c:Option (Option (List UInt8))) (h:x≠nm):setC C nm c x=C x:=by unfold setC;rw[if_neg h]
def nv (nm:List UInt8):Value:=.string ⟨nm.toArray⟩
theorem nv_key {nm:List UInt8} (h:nm.length<=1000000):keyOf Tryz.prog 9 (nv nm)=some (.string nm):=by
 have:=Go.WideMaps.keyOf_string_mk (P:=Tryz.prog) (k:=9) Tryz.underlying9 (s:=⟨nm.toArray⟩) (by show nm.toArray.size<=maxLen;unfold maxLen;simp;omega)
 simpa[nv]using this
theorem strKeyed:Go.Maps.Keyed Tryz.prog 9:=string_keyed Tryz.underlying9
theorem St.changed {w w1:World} {Q:Nat->Prop} {s d g N cm:Nat} {off:Bool} {C:Chg} (h:St w Q s d g N cm off C) (hB:Below w.heap.size w w1) (L:List (List UInt8)) (hL:∀x,C x≠none->x∈L) (hn:L.length<=1000000)
  (nm:List UInt8) (hnm:nm.length<=1000000) (c:Option (List UInt8)) (v:Value) (hv:chgV w1 (λk=>w.heap.size<=k/\k<w1.heap.size) c v):
  ∃w2,(Instr.mapUpdate 109 (.map (some cm)) (nv nm) v).run Tryz.prog w1=.ok () w2/\St w2 (λk=>Q k\/(w.heap.size<=k/\k<w1.heap.size)) s d g N cm off (setC C nm (some c))/\Only [cm] w w2/\w2.heap.size=w1.heap.size:=by
 have h1:=h.later hB;obtain⟨f,hm,hk,hf⟩:=h1.map
 obtain⟨w2,hrun,hm2,hg,hs⟩:=hm.update strKeyed Tryz.underlying109 (L.map Lit.string) (λx hx=>by
  obtain⟨y,rfl⟩:=hk x hx;refine List.mem_map.2 ⟨y,hL y (λhc=>?_),rfl⟩;have:=hf y;unfold isChg at this;rw[hc]at this;exact hx this) (by rw[jP];unfold maxLen;omega) (nv_key hnm) v
 have ho:Only [cm] w1 w2:=Only.of_grown hg (λg hg=>by cases hg;exact .inl (by simp))
 have hdm:d≠cm:=λe=>by
  have:=hm.lt;obtain⟨D,n,⟨es,cl,hb,_⟩,_⟩:=hm;have hd:=h1.disk.disk;unfold Blk at hd;rw[e,hb]at hd;cases hd
 have hgm:g≠cm:=λe=>by
  obtain⟨D,n,⟨es,cl,hb,_⟩,_⟩:=hm;have hd:=h1.disk.row;unfold Blk at hd;rw[e,hb]at hd;cases hd
 have hsm:s≠cm:=λe=>by
  obtain⟨D,n,⟨es,cl,hb,_⟩,_⟩:=hm;have hd:=h1.store;unfold Blk at hd;rw[e,hb]at hd;cases hd
 have hcm:=h.lt cm h.qm;have hsz:=hB.size;have hkk:∀k,k<w1.heap.size->k≠cm->w2.heap[k]? =w1.heap[k]?:=λk hk hne=>ho.block k hk (by simpa using hne)
 refine⟨w2,hrun,⟨(hkk s h1.store.lt hsm).trans h1.store,h1.disk.keep (hkk d h1.disk.disk.lt hdm) (hkk g h1.disk.row.lt hgm),⟨_,hm2,λx hx=>?_,λx=>?_⟩,.inl h.qs,.inl h.qd,.inl h.qg,.inl h.qm,λk hq=>?_⟩,(Only.of_below (bs:=[cm]) hB).trans ho,hs⟩
 ·by_cases e:x=.string nm
  ·exact⟨nm,e⟩
  ·rw[setK_other _ e]at hx;exact hk x hx
 ·by_cases e:x=nm
  ·subst e;unfold isChg;rw[setC_same,setK_same];exact⟨v,rfl,hv.keep ho.size (λk hq=>hkk k hq.2 (by omega)) (λk hq=>⟨.inr hq,by omega⟩)⟩
  ·have h3:=hf x;unfold isChg at h3⊢;rw[setC_other _ e,setK_other _ (λh=>e (by injection h))]
   cases hc:C x with
   |none=>rw[hc]at h3;exact h3
   |some c'=>
    rw[hc]at h3;obtain⟨u,hu,h4⟩:=h3;exact⟨u,hu,h4.keep ho.size (λk hq=>hkk k (h1.lt k hq.1) hq.2) (λk hq=>⟨.inl hq.1,hq.2⟩)⟩
 ·rw[hs];rcases hq with hq|hq
  ·exact h1.lt k hq
  ·exact hq.2
theorem len_name (nm:List UInt8) (w:World): (Builtin.len_ #[9] 3 #[nv nm]).run Tryz.prog w=.ok (.int .i64 (nm.length:Int)) w:=by
 simp[Builtin.len_,run_underlying Tryz.underlying9,nv,goInt,Result.andThen]
 rfl
theorem write_any {w:World} {Q:Nat->Prop} {s d g N cm:Nat} {C:Chg} (h:St w Q s d g N cm false C) (L:List (List UInt8)) (hL:∀x,C x≠none->x∈L) (hn:L.length<=1000000)
  (nm:List UInt8) (hn1:1<=nm.length) (hn2:nm.length<=32) (a:Option Addr) (cp:Nat) (b:List UInt8) (hb:Lies w a (b.map bv)) (hb2:b.length<=1048576):
  Calls Tryz.prog 37 #[.pointer (some ⟨s,0,none⟩),nv nm,.slice a b.length cp] w λe w'=>e=.returned (.int .i64 0)/\∃Q',St w' Q' s d g N cm false (setC C nm (some (some b)))/\(∀k,Q' k->Q k\/w.heap.size<=k)/\(∀k,Q k->Q' k)/\Only [cm] w w':=by
 have HD:=jq (down_any h);have HC:=jq (clone_any a cp b w.drew hb (by omega));have H:=jq h;have c4:=h.store.cell 4;have HLS:=jq h.store.lt;have HDR:=jq ((Below.refl w.heap.size w).drew)
 simp at c4
 clear h hb
 have h0: ((nm.length:Int)==0)=false:=by
  have:¬(nm.length:Int)=0:=by omega
  simpa using this
 have h1:decide (32<(nm.length:Int))=false:=by
  have:¬32<(nm.length:Int):=by omega
  simpa using this
 have h2:decide (1048576<(b.length:Int))=false:=by
  have:¬1048576<(b.length:Int):=by omega
  simpa using this
 have hlen:=len_name nm;obtain⟨x,hx⟩:=jl (nv nm);obtain⟨ln,hln⟩:=jl nm.length;rw[<-hx,<-hln]at hlen;rw[<-hln]at h0 h1;rw[<-hx];have HX:=jq hx;clear hx hln
 go_enter Tryz.func37,Tryz.ntmps37
 go_wp2_with fail
 refine HD.out.mono ?_;rintro e w1 ⟨rfl,rfl⟩
 go_wp2_with fail
 go_region_held3 (λw'=>w'.cell? ⟨s,4,none⟩=some (.map (some cm))) (first|exact c4|exact hk2|exact hk3) ((go_at_call 65;refine HC.out.mono ?_;rintro e w2 ⟨v,rfl,hO,hB2⟩;obtain⟨va,vc,rfl,hvc,hvl,hvb,_⟩:=own_shape hO;obtain⟨w3,hrun,hst3,ho3,hs3⟩:=H.out.changed (w1:=w2) (HDR.out.trans hB2) L hL hn nm (by omega) (some b) (.agg #[.slice va b.length vc,.bool false]) ⟨va,vc,rfl,hvc,hvl,hvb⟩;rw[<-HX.out]at hrun;have hk2:=(hB2.cell (p:=⟨s,4,none⟩) HLS.out).trans c4;have hk3:=hst3.store.cell 4;simp at hk3;dsimp only))
 go_wp2_with fail
 go_ret
 exact⟨rfl,_,hst3,λk hk=>hk.imp id And.left,λk hk=>.inl hk,ho3⟩
end Store
namespace Store
open Go.RowKit Go.Deep Mem Crc Disk Man Go.Maps
theorem zero_chg (w:World): (zeroValue 115).run Tryz.prog w=.ok (.agg #[.slice none 0 0,.bool false]) w:=by kernel_rfl
theorem St.look {w:World} {Q:Nat->Prop} {s d g N cm:Nat} {off:Bool} {C:Chg} (h:St w Q s d g N cm off C) (nm:List UInt8) (hn:nm.length<=1000000):
  (Instr.lookup 109 (.map (some cm)) (nv nm) true).run Tryz.prog w=.ok (.tuple #[.agg #[.slice none 0 0,.bool false],.bool false]) w/\C nm=none\/
  (Instr.lookup 109 (.map (some cm)) (nv nm) true).run Tryz.prog w=.ok (.tuple #[.agg #[.slice none 0 0,.bool true],.bool true]) w/\C nm=some none\/
  ∃b a cp,(Instr.lookup 109 (.map (some cm)) (nv nm) true).run Tryz.prog w=.ok (.tuple #[.agg #[.slice a b.length cp,.bool false],.bool true]) w/\C nm=some (some b)/\b.length<=cp/\Lies w a (b.map bv):=by
 obtain⟨f,hm,hk,hf⟩:=h.map;have hl:=hm.look_ok strKeyed Tryz.underlying109 zero_chg (nv_key hn);have hx:=hf nm;unfold isChg at hx
 cases hc:C nm with
 |none=>
  rw[hc]at hx;rw[hx]at hl;exact .inl ⟨hl,rfl⟩
 |some c=>
  rw[hc]at hx;obtain⟨v,h1,h2⟩:=hx;rw[h1]at hl
  cases c with
  |none=>
   rw[show v=_ from h2]at hl;exact .inr (.inl ⟨hl,rfl⟩)
  |some b=>
   obtain⟨a,cp,rfl,h3,h4,_⟩:=h2;exact .inr (.inr ⟨b,a,cp,hl,rfl,h3,h4⟩)
theorem search_none (x fv:Value) (w:World):Calls Tryz.prog 99 #[.slice none 0 0,x,fv] w λe w'=>e=.returned (.tuple #[.int .i64 0,.bool false])/\w'=w:=by
 go_enter Tryz.func99,Tryz.ntmps99
 go_wp2_with fail
 go_loopw[9,10] (λi j wr=>i=.int .i64 0/\j=.int .i64 0/\wr=w) (λ_ _ _=>0)
 case atStart=>exact⟨rfl,rfl,rfl⟩
 case round=>
  obtain⟨rfl,rfl,rfl⟩:=hrel
  go_wp2_with fail
  go_ret2
  exact⟨rfl,rfl⟩
theorem find_none (x:Value) (w:World):Calls Tryz.prog 66 #[.agg #[.int .u64 0,.int .u32 0,.slice none 0 0],x] w λe w'=>e=.returned (.tuple #[.int .i64 0,.bool false])/\Below w.heap.size w w':=by
 go_enter Tryz.func66,Tryz.ntmps66
 go_wp2_with fail
 refine(search_none _ _ _).mono ?_;rintro e w1 ⟨rfl,rfl⟩
 go_wp2_with fail
 go_ret2
 exact⟨rfl,(Below.refl _ w).alloc jn _⟩
theorem read_off {w:World} {Q:Nat->Prop} {s d g N cm:Nat} {C:Chg} (h:St w Q s d g N cm true C) (x:Value):
  Calls Tryz.prog 39 #[.pointer (some ⟨s,0,none⟩),x] w λe w'=>e=.returned (.tuple #[.slice none 0 0,.int .i64 6])/\Below w.heap.size w w':=by
 have HD:=jq (down_any h);clear h
 go_enter Tryz.func39,Tryz.ntmps39
 go_wp2_with fail
 refine HD.out.mono ?_;rintro e w1 ⟨rfl,rfl⟩
 go_wp2_with fail
 go_ret2
 exact⟨rfl,Below.refl _ _⟩
theorem write_off {w:World} {Q:Nat->Prop} {s d g N cm:Nat} {C:Chg} (h:St w Q s d g N cm true C) (x:Value) (a:Option Addr) (n cp:Nat):
  Calls Tryz.prog 37 #[.pointer (some ⟨s,0,none⟩),x,.slice a n cp] w λe w'=>e=.returned (.int .i64 6)/\w'=w:=by
 have HD:=jq (down_any h);clear h
 go_enter Tryz.func37,Tryz.ntmps37
 go_wp2_with fail
 refine HD.out.mono ?_;rintro e w1 ⟨rfl,rfl⟩
 go_wp2_with fail
 go_ret
 exact⟨rfl,rfl⟩
def readOf (C:Chg) (nm:List UInt8):List UInt8×Int:=
 match C nm with
 |some (some b)=>(b,0)
 |_=>([],8)
theorem read_any {w:World} {Q:Nat->Prop} {s d g N cm:Nat} {C:Chg} (h:St w Q s d g N cm false C) (nm:List UInt8) (hn:nm.length<=1000000) (hb:∀b,C nm=some (some b)->b.length<=4000000):
  Calls Tryz.prog 39 #[.pointer (some ⟨s,0,none⟩),nv nm] w λe w'=>∃v,e=.returned (.tuple #[v,.int .i64 (readOf C nm).2])/\OwnB w' w.heap.size v (readOf C nm).1/\Below w.heap.size w w':=by
 have HD:=jq (down_any h);have hl:=h.look nm hn;have c1:=h.store.cell 1;have c2:=h.store.cell 2;have c3:=h.store.cell 3;have c4:=h.store.cell 4;have ha:=h.store.alloc (.cells #[.slice none 0 0,.bool false] 115);have k1:=ha.cell 1;have k2:=ha.cell 2;have k3:=ha.cell 3
 simp at c1 c2 c3 c4 k1 k2 k3
 clear ha;obtain⟨x,hx⟩:=jl (nv nm);rw[<-hx]at hl⊢;clear h hx;rcases hl with⟨hl,hc⟩|⟨hl,hc⟩|⟨b,a,cp,hl,hc,hcp,hL⟩
 ·have er:readOf C nm=([],8):=by unfold readOf;rw[hc]
  rw[er];clear hc hb
  go_enter Tryz.func39,Tryz.ntmps39
  go_wp2_with fail
  refine HD.out.mono ?_;rintro e w1 ⟨rfl,rfl⟩
  go_wp2_with fail
  refine(find_none _ _).mono ?_;rintro e w2 ⟨rfl,hB2⟩;have hBB:=((Below.refl w1.heap.size w1).alloc jn (.cells #[.slice none 0 0,.bool false] 115)).trans (hB2.mono (by simp));have HBB:=jq hBB;clear hB2 hBB
  go_wp2_with fail
  go_ret2
  exact⟨_,rfl,World.ownsRow_nil _ _ _ _,HBB.out⟩
 ·have er:readOf C nm=([],8):=by unfold readOf;rw[hc]
  rw[er];clear hc hb
  go_enter Tryz.func39,Tryz.ntmps39
  go_wp2_with fail
  refine HD.out.mono ?_;rintro e w1 ⟨rfl,rfl⟩
  go_wp2_with fail
  go_ret2
  exact⟨_,rfl,World.ownsRow_nil _ _ _ _,(Below.refl _ w1).alloc jn _⟩
 ·have er:readOf C nm=(b,0):=by unfold readOf;rw[hc]
  rw[er];have hbl:=hb b hc;clear hc hb er
  go_enter Tryz.func39,Tryz.ntmps39
  go_wp2_with fail
  refine HD.out.mono ?_;rintro e w1 ⟨rfl,rfl⟩;have hal:=(Below.refl w1.heap.size w1).alloc jn (.cells #[.slice a b.length cp,.bool false] 115);have HC:=jq (clone_any a cp b _ (hL.later hal) (by omega));have HA:=jq hal;clear hL hal
  go_wp2_with fail
  refine HC.out.mono ?_;rintro e w2 ⟨v,rfl,hO,hB2⟩;have HO:=jq (own_mono hO (show w1.heap.size<=_ by simp));have HB2:=jq (HA.out.trans (hB2.mono (by simp)));clear hO hB2
  go_wp2_with fail
  go_ret2
  exact⟨_,rfl,HO.out,HB2.out⟩
end Store
namespace Store
open Go.RowKit Go.Deep Mem Crc Disk Man Go.Maps
def unit':Value:=.agg #[]
def isFile (C:Chg) (nm:List UInt8):Bool:=
 match C nm with
 |some (some _)=>true
 |_=>false
def Seen (C:Chg) (left:Lit->Bool) (fm:Lit->Option Value):Prop:=(∀x,fm x≠none->∃nm,x=.string nm)/\∀nm,fm (.string nm)=if !left (.string nm)&&isFile C nm then some unit' else none
theorem seen_step {C:Chg} {left:Lit->Bool} {fm:Lit->Option Value} (h:Seen C left fm) (nm:List UInt8) (u:Option Value) (hu:u=if isFile C nm then some unit' else none):Seen C (λz=>left z&& !z.sameKey (.string nm)) (setK fm (.string nm) u):=by
 refine⟨λx hx=>?_,λx=>?_⟩
 ·by_cases e:x=.string nm
  ·exact⟨nm,e⟩
  ·rw[setK_other _ e]at hx;exact h.1 x hx
 ·by_cases e:x=nm
  ·subst e;rw[setK_same,hu];have: (Lit.string x).sameKey (.string x)=true:=WideAt.sameKey_self trivial
   simp[this]
  ·rw[setK_other _ (λh=>e (by injection h)),h.2 x];have: (Lit.string x).sameKey (.string nm)=false:=Maps.sameKey_ne (λh=>e (by injection h))
   simp[this]
theorem setK_twice (f:Lit->Option Value) (k:Lit) (u v:Option Value):setK (setK f k u) k v=setK f k v:=by
 funext x
 by_cases e:x=k
 ·subst e;rw[setK_same,setK_same]
 ·rw[setK_other _ e,setK_other _ e,setK_other _ e]
theorem seen_start {w:World} {Q:Nat->Prop} {C:Chg} {D:DataW Value} {f:Lit->Option Value} (hd:Desc D f) (hf:∀nm,isChg w Q f C nm):Seen C (Maps.has D) (λ_=>none):=⟨λx h=>absurd rfl h,λnm=>by
 have:=hf nm;unfold isChg at this;unfold isFile;rw[(hd _).1]
 cases hc:C nm with
 |none=>simp
 |some c=>
  rw[hc]at this;obtain⟨v,hv,_⟩:=this;rw[hv]
  simp⟩
theorem support {L:List (List UInt8)} {C:Chg} {left:Lit->Bool} {fm:Lit->Option Value} (hL:∀x,C x≠none->x∈L) (h:Seen C left fm):∀x,fm x≠none->x∈L.map Lit.string:=λx hx=>by
 obtain⟨nm,rfl⟩:=h.1 x hx;refine List.mem_map.2 ⟨nm,hL nm (λhc=>hx ?_),rfl⟩;rw[h.2 nm];unfold isFile;rw[hc]
 simp
theorem strKeys_mem {D:DataW Value} {fm:Lit->Option Value} (hd:Desc D fm) (hs:∀x,fm x≠none->∃nm,x=.string nm) (hD:∃es,D=.map es/\es.Pairwise (λp q=>p.1≠q.1)/\∀p∈es,WideAt.IsKeyLit p.1) (nm:List UInt8):nm∈strKeys D↔fm (.string nm)≠none:=by
 obtain⟨es,rfl,_,hk⟩:=hD
 constructor
 ·intro h;obtain⟨p,hp,rfl⟩:=List.mem_map.1 h;have h1:Maps.has (.map es) p.1=true:=List.any_eq_true.2 ⟨p,hp,WideAt.sameKey_self (hk p hp)⟩;rw[(hd p.1).1]at h1;have h2:fm p.1≠none:=λh=>by rw[h]at h1;cases h1
  obtain⟨m,hm⟩:=hs p.1 h2;rw[hm]at h2⊢;exact h2
 ·intro h
  have h1:Maps.has (.map es) (.string nm)=true:=by
   rw[(hd _).1];exact Option.isSome_iff_ne_none.2 h
  obtain⟨p,hp,hpk⟩:=List.any_eq_true.1 h1;refine List.mem_map.2 ⟨p,hp,?_⟩;rw[WideAt.sameKey_eq hpk]
  rfl
theorem chg_shape {w:World} {Q:Nat->Prop} {C:Chg} {nm:List UInt8} {c:Option (List UInt8)} {v:Value} (hc:C nm=some c) (h:chgV w Q c v):∃a n cp gn,v=.agg #[.slice a n cp,.bool gn]/\isFile C nm= !gn:=by
 cases c with
 |none=>exact⟨none,0,0,true,h,by unfold isFile;rw[hc];rfl⟩
 |some b=>
  obtain⟨a,cp,e,_⟩:=h;exact⟨a,b.length,cp,false,e,by unfold isFile;rw[hc];rfl⟩
theorem strKeys_length {D:DataW Value} (hD:∃es,D=.map es/\es.Pairwise (λp q=>p.1≠q.1)/\∀p∈es,WideAt.IsKeyLit p.1): (strKeys D).length=Maps.size D:=by
 obtain⟨es,rfl,_,_⟩:=hD
 simp[strKeys,Maps.size]
theorem met {w:World} {Q:Nat->Prop} {C:Chg} {D:DataW Value} {f:Lit->Option Value} (hd:Desc D f) (hf:∀nm,isChg w Q f C nm) (hk:∀x,f x≠none->∃nm,x=.string nm) (hb:∀nm,C nm≠none->nm.length<=1000000)
  {key v:Value} {kl:Lit} {y:DataW Value×List MemPlace} (hkey:keyOf Tryz.prog 9 key=some kl) (hv:anyR v=some y) (hat:∀zd,D.atKey kl zd=y.1):∃nm c,kl=.string nm/\key=nv nm/\C nm=some c/\chgV w Q c v:=by
 have h1:=Maps.has_true_of_atKey hat;rw[(hd kl).1]at h1;obtain⟨u,hu⟩:=Option.isSome_iff_exists.1 h1;obtain⟨nm,rfl⟩:=hk kl (by rw[hu];exact λh=>by cases h);have h2:=hf nm;unfold isChg at h2
 cases hc:C nm with
 |none=>rw[hc]at h2;rw[h2]at hu;cases hu
 |some c=>
  rw[hc]at h2;obtain⟨v2,h3,h4⟩:=h2
  have e1:v=u:=by
   have e:=(hat (.held u)).symm.trans ((hd _).2 u hu (.held u));have e3:y=(.held v,[]):=(Option.some.inj hv).symm;rw[e3]at e;exact DataW.held.inj e
  have e2:v2=u:=Option.some.inj (h3.symm.trans hu);refine⟨nm,c,rfl,strKeyed.inj hkey (nv_key (hb nm (by rw[hc];exact λh=>by cases h))),hc,?_⟩;rw[e1,<-e2];exact h4
theorem names_any {w:World} {Q:Nat->Prop} {s d g N cm:Nat} {off:Bool} {C:Chg} (h:St w Q s d g N cm off C) (L:List (List UInt8)) (hL:∀x,C x≠none->x∈L) (hn:L.length<=1000000) (hLn:∀x∈L,x.length<=1000000):
  Calls Tryz.prog 20 #[.pointer (some ⟨s,0,none⟩)] w λe w'=>∃(v:Value) (ss:List (List UInt8)),e=.returned v/\w'.ownsRow w.heap.size 9 1 v ss.length (ss.map encStr)/\(∀nm,nm∈ss↔isFile C nm=true)/\ss.length<=L.length/\Below w.heap.size w w':=by
 have c3:=h.store.cell 3;have c4:=h.store.cell 4
 simp at c3 c4
 have H:=jq h;have hmk:=run_makeMap (P:=Tryz.prog) 112 w;have ha:=h.store.alloc (.map #[] 0);have k3:=ha.cell 3;have k4:=ha.cell 4
 simp at k3 k4
 clear h ha
 go_enter Tryz.func20,Tryz.ntmps20
 go_wp2_with fail
 obtain⟨W,hW⟩:=jl (w.alloc (.map #[] 0));have hM0:MapIs W 9 w.heap.size (λ_=>none):=by rw[hW];exact MapIs.made w _
 have hBW:Below w.heap.size w W:=by rw[hW];exact(Below.refl _ w).alloc jn _
 rw[<-hW]at k3 k4⊢;have HM0:=jq hM0;have HBW:=jq hBW;clear hM0 hBW hW hmk c3 c4
 go_loopw[17] (λi wr=>i=.int .i64 0/\wr=W) (λ_ _=>0)
 case atStart=>exact⟨rfl,rfl⟩
 case round=>
  obtain⟨rfl,rfl⟩:=hrel;obtain⟨f,⟨D,n,hown,hd⟩,hk,hf⟩:=(H.out.later HBW.out).map;obtain⟨W2,hrun,hrg,hgr,hsz⟩:=hown.range strKeyed Tryz.underlying109;have hcm:=H.out.lt cm H.out.qm;have hW2:Below wr.heap.size wr W2:=⟨hgr.os,hgr.tape,hgr.output,hgr.size,λk hk=>hgr.block k hk (by simp)⟩;have HR:=jq hrg;have HW2:=jq hW2;have HF:=jq hf;have HD:=jq hd;have HK:=jq hk;have hn2:=HM0.out.lt;have hM1:=HM0.out.keep (hW2.block w.heap.size hn2);have HM1:=jq hM1;have hS:Seen C (Maps.has D) (λ_=>none):=seen_start hd hf;have HS:=jq hS;have HBW2:=jq (HBW.out.trans (hW2.mono HBW.out.size));clear hrg hgr hW2 hf hd hk hM1 hS hown
  go_wp2_with fail
  obtain⟨r,hr⟩:=jl wr.heap.size;rw[<-hr]at HR⊢;have hrw:w.heap.size<r:=by rw[hr];exact HM0.out.lt
  have HRR:=jq hr;clear hr hrun
  go_loopw[] (λwq=>∃left cnt fm,Hid (wq.ranges Tryz.prog 9 anyR cm r n D left cnt)/\Hid (MapIs wq 9 w.heap.size fm)/\Hid (Seen C left fm)/\Hid (Below w.heap.size w wq)) (λwq=>wq.rangeLeft cm r)
  case atStart=>exact⟨_,_,_,HR,HM1,HS,HBW2⟩
  case round=>
   obtain⟨left,cnt,fm,hR,hM,hS,hB⟩:=hrel;have hsz:=hB.out.size;rcases hR.out.next strKeyed 0 with⟨h0,hl,hrun⟩|⟨key,v,kl,y,w5,cnt',hkey,hlk,hv,hat,hrun,hR5,hlt,hg5,hs5,hen⟩
   ·have HL:=jq hl;clear hl h0;obtain⟨D2,hown2,hd2⟩:=hM.out.bounded strKeyed (L.map Lit.string) (support hL hS.out);have hle:=hown2.size_le;rw[jP]at hle;have hKeys:=callsIn_wide.1 (Tryz.maps_Keys_51 (some w.heap.size) wr);have hSort:=callsIn_wide.1 (Tryz.slices_Sorted_keys_50_51 w.heap.size _ D2 anyR wr hown2 (by unfold maxLen;omega) (by omega));have HKY:=jq hKeys;have HST:=jq hSort;have HD2:=jq hd2;have HO2:=jq hown2;clear hown2 hd2 hKeys hSort
    go_wp2_with fail
    refine HKY.out.mono ?_;rintro e w6 ⟨rfl,rfl⟩
    go_wp2_with fail
    refine HST.out.mono ?_;rintro e w7 ⟨v,ss,rfl,hperm,hown7,_,hB7⟩;have HO7:=jq hown7;have HB7:=jq hB7;have HP:=jq hperm;clear hown7 hB7 hperm
    go_wp2_with fail
    go_ret
    refine⟨v,ss.mergeSort (λx y=>decide (x<=y)),rfl,?_,λnm=>?_,?_,?_⟩
    ·rw[List.length_mergeSort];exact own_mono HO7.out (by simp;omega)
    ·rw[List.mem_mergeSort,HP.out.mem_iff,strKeys_mem HD2.out hS.out.1 (HO2.out.entries strKeyed),hS.out.2 nm,HL.out];cases isFile C nm <;> simp
    ·rw[List.length_mergeSort,HP.out.length_eq,strKeys_length (HO2.out.entries strKeyed)];exact hle
    ·exact(hB.out.alloc hsz _).trans (HB7.out.mono (by simp;omega))
   ·obtain⟨nm,c,rfl,rfl,hc,hch⟩:=met HD.out HF.out HK.out (λnm h=>hLn nm (hL nm h)) hkey hv hat;obtain⟨a0,n0,cp0,gn,rfl,hgn⟩:=chg_shape hc hch;have hlen:nm.length<=1000000:=hLn nm (hL nm (by rw[hc];exact λh=>by cases h));have hnr:w.heap.size≠r:=by omega
    have hncm:w.heap.size≠cm:=by have:=H.out.lt cm H.out.qm;omega
    have hM5:=hM.out.keep (hg5.block w.heap.size hM.out.lt (λe=>hnr (by injection e)));obtain⟨W3,hW3⟩:=jl (w5.alloc (.cells #[.slice a0 n0 cp0,.bool gn] 115));have hM3:MapIs W3 9 w.heap.size fm:=by rw[hW3];exact hM5.keep (Below.heap_alloc _ _ _ hM5.lt)
    have hR3:=hR5.alloc (.cells #[.slice a0 n0 cp0,.bool gn] 115);have hb3:=Blk.new w5 115 #[.slice a0 n0 cp0,.bool gn];have hB5:Below w.heap.size w w5:=hB.out.grown hg5 (by omega) (λq e=>by cases e;omega);have hB3:Below w.heap.size w W3:=by rw[hW3];exact hB5.alloc (by omega) _
    rw[<-hW3]at hR3 hb3;have hs3:W3.heap.size=w5.heap.size+1:=by rw[hW3];simp
    obtain⟨W4,hU,hM4,hg4,hs4⟩:=hM3.update strKeyed Tryz.underlying112 (L.map Lit.string) (support hL hS.out) (by rw[jP];unfold maxLen;omega) hkey unit';have hB4:Below w.heap.size w W4:=hB3.grown hg4 (by omega) (λq e=>by cases e;exact Nat.le_refl _);have hR4:=hR3.kept hg4 (λe=>hncm (by injection e with e;exact e.symm)) (λe=>hnr (by injection e with e;exact e.symm));have hb4:Blk W4 w5.heap.size 115 #[.slice a0 n0 cp0,.bool gn]:=(hg4.block w5.heap.size hb3.lt (λe=>by injection e with e;have:=hM.out.lt;omega)).trans hb3;obtain⟨W6,hDl,hM6,hg6,hs6⟩:=hM4.drop strKeyed Tryz.underlying112 hkey 0;have hB6:Below w.heap.size w W6:=hB4.grown hg6 (by omega) (λq e=>by cases e;exact Nat.le_refl _);have hR6:=hR4.kept hg6 (λe=>hncm (by injection e with e;exact e.symm)) (λe=>hnr (by injection e with e;exact e.symm));rw[setK_twice]at hM6;have b1:=hb4.cell 1
    simp at b1
    have hfile:isFile C nm= !gn:=hgn;have hS4:=seen_step hS.out nm (if isFile C nm then some unit' else none) rfl;rw[hfile]at hS4;obtain⟨x,hx⟩:=jl (nv nm);have hml:wr.rangeLeft cm r=cnt:=hR.out.left_eq;rw[<-hx]at hrun hen hU hDl;have HW3:=jq hW3;have HR4:=jq hR4;have HR6:=jq hR6;have HM4:=jq hM4;have HM6:=jq hM6;have HS4:=jq hS4;have HB4:=jq hB4;have HB6:=jq hB6;have HML:=jq hml;rw[hW3]at hU;unfold unit' at hU;clear hR4 hR6 hM4 hM6 hS4 hB4 hB6 hM5 hM3 hR3 hb3 hB3 hB5 hb4 hg4 hg5 hg6 hR5 hch hat hv hkey hx hS hM hR hml hW3 hs3 hs4 hs5 hs6 hlk hc hfile hgn;cases gn
    ·go_wp2_with fail
     exact⟨⟨_,cnt',_,HR4,HM4,jq (by have:=HS4.out;simpa using this),HB4⟩,by rw[HR4.out.left_eq,HML.out];exact hlt⟩
    ·go_wp2_with fail
     exact⟨⟨_,cnt',_,HR6,HM6,jq (by have:=HS4.out;simpa using this),HB6⟩,by rw[HR6.out.left_eq,HML.out];exact hlt⟩
end Store
end Go.Proofs.YtfgjnpbffppocaaGreatDoor
