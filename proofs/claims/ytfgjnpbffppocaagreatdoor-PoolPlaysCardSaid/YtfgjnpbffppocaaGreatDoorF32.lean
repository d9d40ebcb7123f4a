/- Part. -/
import Derived.Test.YtfgjnpbffppocaaGreatDoorF0
import Derived.Test.YtfgjnpbffppocaaGreatDoorF0Q
import Derived.Test.YtfgjnpbffppocaaGreatDoorF13
import Derived.Test.YtfgjnpbffppocaaGreatDoorF25
set_option maxHeartbeats 400000
set_option maxRecDepth 100000
namespace Go.Proofs.YtfgjnpbffppocaaGreatDoor
namespace Dk
open Go.RowKit Go.Deep Go.Shelf Mem Crc
open Disk (zs zero128 new_there slice128 backward_nil backward_stops)
theorem row_range {w:World} {d g i:Nat} {wv:Value} {m:DM} {b:List UInt8} (h:Dk w d g wv m) (hb:m.bl[i]? =some b):w.rangeAt g (i*128) (b.map bv):=λj v hv=>by
 rw[h.row.cell,jt];exact flat_at (f:=λb:List UInt8=>b.map bv) (s:=128) (λx hx=>by rw[jP];exact h.len x hx) hb hv
theorem read_on {d g:Nat} {m:DM} (i:Nat) {b:List UInt8} {w:World} (h:Dk w d g (.slice none 0 0) m) (hoff:m.off=false) (hbl:m.bl[i]? =some b):
  Calls Tryz.prog 102 #[.pointer (some ⟨d,0,none⟩),.int .i64 (i:Int)] w λe w'=>∃a,e=.returned (.tuple #[.slice a 128 128,.int .i64 0])/\Lies w' a (b.map bv)/\Below w.heap.size w w':=by
 have hi:i<m.bl.length:=(jS.1 hbl).1;have hb128:b.length=128:=h.len b (jM hbl);have hal:=(Below.refl w.heap.size w).alloc jn (Obj.cells #[Value.int .i64 (i:Int)] 3);have h1:=h.later hal;have hmay:mayE m i=0:=by unfold mayE;rw[hoff,if_neg (by decide),if_pos (by omega)]
 have hM:=may_any i h1;rw[hmay]at hM;have hM:=jq hM;have c0:=h1.cells.1;have c1:=h1.cells.2.1;have hrow:=row_range h1 hbl;have HD0:=jq h;obtain⟨n,hnn⟩:=jl m.bl.length;rw[<-hnn]at c0 hi;have ci: (w.alloc (Obj.cells #[Value.int .i64 (i:Int)] 3)).cell? ⟨w.heap.size,0,none⟩=some (.int .i64 (i:Int)):=by rw[(Blk.new w 3 #[Value.int .i64 (i:Int)]).cell];rfl
 obtain⟨zl,hzl⟩:∃zl:List Value,zl=b.map bv:=⟨_,rfl⟩;rw[<-hzl]at hrow;have hzo:∀v∈zl,v.oneCell'=true:=λv hv=>by rw[hzl]at hv;exact oneCell_bytes b v hv
 have hzn:zl.length=128:=by rw[hzl,jP,hb128]
 have hu:Tryz.prog.underlying 192=_:=Tryz.underlying192;have hinf: (Tryz.prog.info? 192).map (·.size)=some zl.length:=by rw[hzn];exact infoBl
 have hinf2: (Tryz.prog.info? 192).map (·.size)=some zl.toArray.size:=by simp only[List.size_toArray,hzn];exact infoBl
 obtain⟨A,hA⟩:=jl (w.alloc (Obj.cells #[Value.int .i64 (i:Int)] 3));clear hmay hbl hb128 hnn hoff;have hAs:A.heap.size=w.heap.size+1:=by rw[hA];simp
 rw[<-hA]at h1 hM c0 c1 ci hrow hal
 have hth2: (A.alloc (.cells Tryz.zeroCells192 192)).drew.there (w.heap.size+1) 0 zl.toArray.size:=by
  have e:zl.toArray.size=128:=by simp[hzn]
  rw[e,zero128,<-hAs];exact new_there A 192 128
 have hS:∀W,Below A.heap.size A W->W.cell? ⟨d,0,none⟩=some (.slice (some ⟨g,0,none⟩) n n)/\W.cell? ⟨w.heap.size,0,none⟩=some (.int .i64 (i:Int))/\W.rangeAt g (i*128) zl:=λW hW=>
  ⟨(hW.cell (p:=⟨d,0,none⟩) h1.disk.lt).trans c0,(hW.cell (p:=⟨w.heap.size,0,none⟩) (by show w.heap.size<_;omega)).trans ci,λj v hv=>(hW.cell (p:=⟨g,i*128+j,none⟩) h1.row.lt).trans (hrow j v hv)⟩
 have hS0:=hS A.drew ((Below.refl _ A).drew);have hB2:Below A.heap.size A (A.alloc (.cells Tryz.zeroCells192 192)).drew:=((Below.refl _ A).alloc jn _).drew;have hS2:=hS _ hB2;have hB3:=below_setCells (g:=w.heap.size+1) (by omega) zl 0 hB2;have hS3:=hS _ hB3;have HB3:=jq hB3;have HAA:=jq hA;have HZL:=jq hzl;have HZN:=jq hzn;have HA:=jq hal;have hin: (i:Int) <(n:Int):=by omega
 have HLT:=jq (show d<w.heap.size+1 from Nat.lt_succ_of_lt h.disk.lt);rw[hA]at hM hS0 hS2 hS3 c0 c1 hth2;clear h h1 hal hzl hzn hrow ci hS hB2 hB3 hA;refine(callsIn_wide (n:=5)).1 ?_;refine callsIn_of_wp_marks Tryz.func102 rfl trivial ?_ rfl;simp only[Tryz.ntmps102,List.size_toArray,List.length_cons,List.length_nil,Nat.reduceAdd,Nat.reduceSub,Array.replicate_succ,Array.replicate_zero,List.push_toArray,List.append_toArray,List.nil_append,List.cons_append];refine wpIn_wide.2 ?_
 go_wp2_with fail
 refine hM.out.mono ?_;rintro e w1 ⟨rfl,rfl⟩
 go_wp2_with fail
 go_region_held3 (λw'=>w'.cell? ⟨d,0,none⟩=some (.slice (some ⟨g,0,none⟩) n n)/\w'.cell? ⟨w.heap.size,0,none⟩=some (.int .i64 (i:Int))/\w'.rangeAt g (i*128) zl) (first|exact hS0|exact hS2|exact hS3) (skip)
 obtain⟨W,hW⟩:=jl (((w.alloc (Obj.cells #[Value.int .i64 (i:Int)] 3)).alloc (Obj.cells Tryz.zeroCells192 192)).drew.setCells (w.heap.size+1) 0 zl);have hBW:Below A.heap.size A W:=by rw[hW,<-HAA.out];exact HB3.out
 have d1:W.cell? ⟨d,1,none⟩=some (.slice none 0 0):=(hBW.cell (p:=⟨d,1,none⟩) (by rw[hAs];exact HLT.out)).trans (by rw[HAA.out];exact c1)
 have hBlk:Blk W (w.heap.size+1) 192 zl.toArray:=by
  have h0:Blk ((w.alloc (Obj.cells #[Value.int .i64 (i:Int)] 3)).alloc (Obj.cells Tryz.zeroCells192 192)).drew (w.heap.size+1) 192 (zs 128):=by rw[<-zero128];exact Blk.at_ (by simp)
  obtain⟨cs',h1,h2⟩:=Blk.splice zl 0 _ _ h0 (by rw[HZN.out];simp[zs]);rw[hW]
  have e:cs'=zl.toArray:=by
   apply Array.ext'
   rw[h2,Nat.zero_add,HZN.out]
   simp[zs]
  rw[<-e];exact h1
 have hBw:Below w.heap.size w W:=by
  have h1:Below w.heap.size w A:=by rw[HAA.out];exact(Below.refl _ w).alloc jn _
  exact h1.trans (hBW.mono (by omega))
 have hWs:w.heap.size+1<W.heap.size:=hBlk.lt;rw[<-hW];have HBLK:=jq hBlk;have HBW:=jq hBw;clear hW hBW hBlk hBw c0 c1 hS0 hS2 hS3 hth2 HB3 HAA hM hu hinf hinf2
 go_wp2_with (go_at_call 130;refine(backward_nil _).mono ?_;rintro e w3 ⟨rfl,rfl⟩)
 refine(wpIn_wide (n:=4)).1 ?_
 refine wpIn_rangeFunc_ownG (α:=Empty) (encs:=λ_=>#[Value.int .i64 0,Value.int .i64 0]) (gf:=155) (lb:=#[.pointer (some ⟨W.heap.size,0,none⟩)]) rfl (by omega) rfl trivial (enters_of Tryz.func155 (by kernel_rfl) rfl)
  ((backward_stops _ W.heap.size (W.alloc (.cells #[.slice none 0 0] 95)) (by simp) (by rw[(Blk.new W 95 #[Value.slice none 0 0]).cell];rfl))) (λ_ _=>trivial) (λ_ _ _ _ _ _ _ _=>trivial) (Below.refl _ _) (λ_=>rfl)
  (λ_ V=>Below W.heap.size W V) (λ_ _ _=>False) (ownFrom_below jn (by simp)) (λ_ _ _ _ _ hs _ _=>hs) ((Below.refl _ W).alloc jn _) (λ_=>⟨#[],[]⟩) (λ_ x=>nomatch x) (λ_ _ x=>nomatch x) ?done (λ_ _ _ _ _ h _ _=>False.elim h)
 case done=>
  rintro D ys W1 hD rfl hB1 hK;have hs1:=hB1.size;dsimp only;have HK:=jq hK;have HB1:=jq hB1;have hrow:=HBLK.out.below hB1 hWs;have hslc:=λX:World=>slice128 (w.heap.size+1) X
  have HROW:=jq hrow;clear hK hB1 hrow
  go_wp2_with fail
  have hD':w.heap.size+1<D:=by simp at hD;omega
  have hBp:Below D W1 (W1.putObj D (.deferred none)):=(Below.refl D W1).grown (grownBy_putObj' W1 D _) (Nat.le_of_lt (Array.getElem?_eq_some_iff.1 HK.out).1) (λk e=>by cases e;exact Nat.le_refl _);have hrow2:=HROW.out.below hBp hD';refine⟨by simp,.inl ⟨_,_,rfl,run_takeDeferred HK.out,?_⟩⟩;refine⟨.tuple #[.slice (some ⟨w.heap.size+1,0,none⟩) 128 128,.int .i64 0],by simp[results,Tryz.results102,go_sem],_,rfl,?_,(HBW.out.trans (HB1.out.mono (by omega))).trans (hBp.mono (by omega))⟩;refine .inr ⟨_,_,rfl,hrow2.lt,λj u hu=>?_⟩;rw[hrow2.cell,Nat.zero_add,jt,HZL.out];exact hu
end Dk
end Go.Proofs.YtfgjnpbffppocaaGreatDoor
