/- Part. -/
import Derived.Test.YtndkohocgfmamaaGreatDoorF5
import Derived.Test.YtndkohocgfmamaaGreatDoorF6
import Derived.Test.YtndkohocgfmamaaGreatDoorIter
import Derived.RangeFuncNested
set_option maxHeartbeats 400000
set_option maxRecDepth 100000
namespace Go.Proofs.YtndkohocgfmamaaGreatDoor
open Go.Proofs.Tryz
namespace jZ
open Go.RowKit Go.Deep Go.Shelf Mem Crc
def zs(n:Nat):Array Value:=Array.replicate n (.int .u8 0)
structure Blank(w:World)(d g n:Nat)(off:Bool):Prop where
 disk:Blk w d 105 #[.slice (some ⟨g,0,none⟩) n n,.slice none 0 0,.bool off,.int .i64 (-1)]
 row:Blk w g 220 (zs (n*128))
theorem VE: (prog.info? 220).map (λi=>(i.zero,i.size,i.bytes))=some (some (.agg (zs 128)),128,128):=by kernel_rfl
theorem VF(m:Nat):madeCells (zs 128) m=zs m:=by
 apply Array.ext
 ·simp[madeCells,zs]
 ·intro i b c;have a:i%128<128:=fJ _ (by decide);simp only[madeCells,zs,Array.size_replicate,Array.getElem_map,Array.getElem_range,Array.getElem_replicate];rw[getElem!_pos _ _ (by simpa using a),Array.getElem_replicate]
theorem kg(n:Nat)(w:World)(h:1<=n)(l:n<=2000):
  Calls prog 15 #[.int .i64 (n:Int)] w λe w'=>∃d g,e=.returned (.tuple #[.pointer (some ⟨d,0,none⟩),.int .i64 0])/\Blank w' d g n false/\w.heap.size<=d/\w.heap.size<=g/\Below w.heap.size w w':=by
 have k:decide ((n:Int) <1)=false:=by simp;omega
 have m:decide (65536<(n:Int))=false:=by simp;omega
 obtain⟨j,b,c,a,i⟩:=info_parts VE
 have o: (Instr.makeSlice 102 (.int .i64 (n:Int)) (.int .i64 (n:Int))).run prog w=.ok (.slice (some ⟨w.heap.size,0,none⟩) n n) (w.alloc (.cells (zs (n*128)) 220)):=by
  have e:=run_makeSlice w (P:=prog) 102 220 j (.agg (zs 128)) underlying102 b c .i64 .i64 n n (by omega) (by omega) (by rw[a];simp;omega) (by rw[i];omega) (by omega);simp only[Value.cells,a,VF,Int.toNat_natCast]at e;exact e
 go_enter func15,ntmps15
 go_wp2_with fail
 go_ret2
 exact⟨_,w.heap.size,rfl,⟨Blk.at_ (by simp),(Blk.new w _ _).alloc _⟩,by simp,aj _,((Below.refl _ w).alloc jn _).alloc (by simp) _⟩
variable {d g n:Nat}{w w':World}
theorem Blank.later{off:Bool}(h:Blank w d g n off)(a:Below w.heap.size w w'):Blank w' d g n off:=⟨h.disk.below a h.disk.lt,h.row.below a h.row.lt⟩
theorem Blank.keep{off:Bool}(h:Blank w d g n off)(a:w'.heap[d]? =w.heap[d]?)(b:w'.heap[g]? =w.heap[g]?):Blank w' d g n off:=⟨a.trans h.disk,b.trans h.row⟩
theorem mK{off:Bool}(h:Blank w d g n off):
  Calls prog 46 #[.pointer (some ⟨d,0,none⟩)] w λe w'=>e=.returned (.int .i64 (n:Int))/\w'=w:=by
 have a:=h.disk.cell 0
 simp at a
 clear h
 go_enter func46,ntmps46
 go_wp2_with fail
 go_ret
 exact⟨rfl,rfl⟩
theorem qO{off:Bool}(h:Blank w d g n off):
  Calls prog 92 #[.pointer (some ⟨d,0,none⟩)] w λe w'=>e=.returned (.bool !off)/\w'=w:=by
 have c2:=h.disk.cell 2
 simp at c2
 clear h
 go_enter func92,ntmps92
 cases off
 ·go_wp2_with fail
  go_ret
  exact⟨rfl,rfl⟩
 ·go_wp2_with fail
  go_ret
  exact⟨rfl,rfl⟩
theorem yM{off:Bool}(i:Nat)(h:Blank w d g n off)(j:i<n):
  Calls prog 166 #[.pointer (some ⟨d,0,none⟩),.int .i64 (i:Int)] w λe w'=>e=.returned (.bool true)/\w'=w:=by
 have a:=jq (mK h);clear h;have b:decide ((0:Int)<=(i:Int))=true:=by simp
 have c:decide ((i:Int) <(n:Int))=true:=by simp;omega
 go_enter func166,ntmps166
 go_wp2_with fail
 refine a.out.mono ?_;rintro e w1 ⟨rfl,rfl⟩
 go_wp2_with fail
 go_ret
 exact⟨rfl,rfl⟩
theorem VG(i:Nat)(h:Blank w d g n false)(c:i<n):
  Calls prog 129 #[.pointer (some ⟨d,0,none⟩),.int .i64 (i:Int)] w λe w'=>e=.returned (.int .i64 0)/\w'=w:=by
 have a:=jq (qO h);have b:=jq (yM i h c);clear h
 go_enter func129,ntmps129
 go_wp2_with fail
 refine a.out.mono ?_;rintro e w1 ⟨rfl,rfl⟩
 go_wp2_with fail
 refine b.out.mono ?_;rintro e w1 ⟨rfl,rfl⟩
 go_wp2_with fail
 go_ret
 exact⟨rfl,rfl⟩
theorem JH: (prog.info? 220).map (·.size)=some 128:=by kernel_rfl
theorem sU:Tryz.zeroCells220=zs 128:=by kernel_rfl
theorem zm{i:Nat}(h:Blk w g 220 (zs (n*128)))(e:i<n):w.rangeAt g (i*128) (List.replicate 128 (.int .u8 0)):=λj v c=>by
 rw[h.cell];obtain⟨b,a⟩:=jS.1 c;rw[List.length_replicate]at b;rw[List.getElem_replicate]at a;subst a;unfold zs;rw[Array.getElem?_replicate,if_pos (by omega)]
theorem zf(w:World)(t:TypeId)(m:Nat): (w.alloc (.cells (zs m) t)).there w.heap.size 0 m:=λj a=>by
 have h:=Blk.new w t (zs m);refine⟨?_,h.frozen _⟩;rw[h.cell];unfold zs;rw[Nat.zero_add,Array.getElem?_replicate,if_pos a]
 rfl
theorem zi(w:World):Calls prog 157 #[.slice none 0 0] w λe w'=>e=.returned (.func (.func 178) #[] #[.pointer (some ⟨w.heap.size,0,none⟩)])/\w'=w.alloc (.cells #[.slice none 0 0] 103):=by
 go_enter func157,ntmps157
 go_wp2_with fail
 go_ret
 exact⟨rfl,rfl⟩
theorem zk(m B:Nat)(w:World)(b:B<w.heap.size)(hc:w.cell? ⟨B,0,none⟩=some (.slice none 0 0)):
  SeqStopsK Fence.wide m prog 178 #[.pointer (some ⟨B,0,none⟩)] (λ_:Empty=>#[Value.int .i64 0,Value.int .i64 0]) (λ_ _=>True) (λe=>e= []) (λ_=>False) 0 w:=λl J h W c _ _ _ a=>by
 have j:=(c.cell (p:=⟨B,0,none⟩) b).trans hc;refine callsIn_wide.2 ?_
 go_enter func178,ntmps178
 go_wp2_with fail
 go_loopw[3] (λi wr=>i=.int .i64 (-1)/\wr=W) (λ_ _=>0)
 case atStart=>exact⟨rfl,rfl⟩
 case round=>
  obtain⟨rfl,rfl⟩:=hrel
  go_wp2_with fail
  go_end0
  exact⟨⟨_,rfl⟩,.inl ⟨[],rfl,a⟩⟩
theorem JI:prog.arrayLen 220=128:=by kernel_rfl
theorem JJ:prog.elem 220=5:=by kernel_rfl
theorem VH:prog.underlying 220=some (.array (prog.arrayLen 220) (prog.elem 220)):=by rw[JI,JJ];exact underlying220
theorem VI(w:World): (sizeOf 5).run prog w=.ok 1 w:=by kernel_rfl
theorem zh(g:Nat)(w:World): (Instr.sliceAt 220 (.pointer (some ⟨g,0,none⟩)) none none none).run prog w=.ok (.slice (some ⟨g,0,none⟩) 128 128) w:=by
 rw[run_sliceAt_array_all w 220 ⟨g,0,none⟩ VH,JJ,VI,JI]
 simp[slicedAt,Addr.add,Result.andThen]
theorem Below.setCells_at{B g:Nat}(b:B<=g):∀(vs:List Value) (o:Nat) {a w:World},Below B a w->Below B a (w.setCells g o vs)
 | [],_,_,_,h=>h
 |v ::r,o,_,_,h=>Below.setCells_at b r (o+1) (h.setCell (p:=⟨g,o,none⟩) b v)
theorem qY(i:Nat)(h:Blank w d g n false)(hi:i<n):
  Calls prog 122 #[.pointer (some ⟨d,0,none⟩),.int .i64 (i:Int)] w λe w'=>∃a,e=.returned (.tuple #[.slice a 128 128,.int .i64 0])/\Lies w' a ((List.replicate 128 0).map bv)/\Below w.heap.size w w':=by
 have F:=(Below.refl w.heap.size w).alloc jn (Obj.cells #[Value.int .i64 (i:Int)] 3);have b:=h.later F;have B:=jq (VG i b hi);have m:=b.disk.cell 0;have c1:=b.disk.cell 1;have H: (w.alloc (Obj.cells #[Value.int .i64 (i:Int)] 3)).cell? ⟨w.heap.size,0,none⟩=some (.int .i64 (i:Int)):=by rw[(Blk.new w 3 #[Value.int .i64 (i:Int)]).cell];rfl
 simp at m c1
 obtain⟨zl,q⟩:∃zl:List Value,zl=List.replicate 128 (.int .u8 0):=⟨_,rfl⟩;have l:=zm b.row hi;rw[<-q]at l;have y1:∀v∈zl,v.oneCell'=true:=λv G=>by rw[q,List.mem_replicate]at G;rw[G.2];rfl
 have r:zl.length=128:=by rw[q,List.length_replicate]
 have S:prog.underlying 220=_:=underlying220;have x6: (prog.info? 220).map (·.size)=some zl.length:=by rw[r];exact JH
 have x7: (prog.info? 220).map (·.size)=some zl.toArray.size:=by simp only[List.size_toArray,r];exact JH
 obtain⟨A,o⟩:=jl (w.alloc (Obj.cells #[Value.int .i64 (i:Int)] 3));have Z:A.heap.size=w.heap.size+1:=by rw[o];simp
 rw[<-o]at b B m c1 H l F
 have h6: (A.alloc (.cells Tryz.zeroCells220 220)).drew.there (w.heap.size+1) 0 zl.toArray.size:=by
  have e:zl.toArray.size=128:=by simp[r]
  rw[e,sU,<-Z];exact zf A 220 128
 have E:∀W,Below A.heap.size A W->W.cell? ⟨d,0,none⟩=some (.slice (some ⟨g,0,none⟩) n n)/\W.cell? ⟨w.heap.size,0,none⟩=some (.int .i64 (i:Int))/\W.rangeAt g (i*128) zl:=λW c=>
  ⟨(c.cell (p:=⟨d,0,none⟩) b.disk.lt).trans m,(c.cell (p:=⟨w.heap.size,0,none⟩) (by show w.heap.size<_;omega)).trans H,λj v G=>(c.cell (p:=⟨g,i*128+j,none⟩) b.row.lt).trans (l j v G)⟩
 have O:=E A.drew ((Below.refl _ A).drew);have I:Below A.heap.size A (A.alloc (.cells Tryz.zeroCells220 220)).drew:=((Below.refl _ A).alloc jn _).drew;have P:=E _ I;have J:=Below.setCells_at (g:=w.heap.size+1) (by omega) zl 0 I;have R:=E _ J;have T:=jq J;have t:=jq o;have x2:=jq q;have Y:=jq r;have HA:=jq F;have x8: (i:Int) <(n:Int):=by omega
 have x0:=jq (show d<w.heap.size+1 from Nat.lt_succ_of_lt h.disk.lt);rw[o]at B O P R m c1 h6;clear h b F q r l H E I J o;refine(callsIn_wide (n:=5)).1 ?_;refine callsIn_of_wp_marks func122 rfl trivial ?_ rfl;simp only[ntmps122,List.size_toArray,List.length_cons,List.length_nil,Nat.reduceAdd,Nat.reduceSub,Array.replicate_succ,Array.replicate_zero,List.push_toArray,List.append_toArray,List.nil_append,List.cons_append];refine wpIn_wide.2 ?_
 go_wp2_with fail
 refine B.out.mono ?_;rintro e w1 ⟨rfl,rfl⟩
 go_wp2_with fail
 go_region_held3 (λw'=>w'.cell? ⟨d,0,none⟩=some (.slice (some ⟨g,0,none⟩) n n)/\w'.cell? ⟨w.heap.size,0,none⟩=some (.int .i64 (i:Int))/\w'.rangeAt g (i*128) zl) (first|exact O|exact P|exact R) (skip)
 obtain⟨W,c⟩:=jl (((w.alloc (Obj.cells #[Value.int .i64 (i:Int)] 3)).alloc (Obj.cells Tryz.zeroCells220 220)).drew.setCells (w.heap.size+1) 0 zl);have L:Below A.heap.size A W:=by rw[c,<-t.out];exact T.out
 have d1:W.cell? ⟨d,1,none⟩=some (.slice none 0 0):=(L.cell (p:=⟨d,1,none⟩) (by rw[Z];exact x0.out)).trans (by rw[t.out];exact c1)
 have M:Blk W (w.heap.size+1) 220 zl.toArray:=by
  have h0:Blk ((w.alloc (Obj.cells #[Value.int .i64 (i:Int)] 3)).alloc (Obj.cells Tryz.zeroCells220 220)).drew (w.heap.size+1) 220 (zs 128):=by rw[<-sU];exact Blk.at_ (by simp)
  obtain⟨x3,b,h2⟩:=Blk.splice zl 0 _ _ h0 (by rw[Y.out];simp[zs]);rw[c]
  have e:x3=zl.toArray:=by
   apply Array.ext'
   rw[h2,Nat.zero_add,Y.out]
   simp[zs]
  rw[<-e];exact b
 have h4:Below w.heap.size w W:=by
  have b:Below w.heap.size w A:=by rw[t.out];exact(Below.refl _ w).alloc jn _
  exact b.trans (L.mono (by omega))
 have x5:w.heap.size+1<W.heap.size:=M.lt;rw[<-c];have h8:=jq M;have h9:=jq h4;clear c L M h4 m c1 O P R h6 T t B S x6 x7
 go_wp2_with (go_at_call 157;refine(zi _).mono ?_;rintro e w3 ⟨rfl,rfl⟩)
 refine(wpIn_wide (n:=4)).1 ?_
 refine wpIn_rangeFunc_ownG (α:=Empty) (encs:=λ_=>#[Value.int .i64 0,Value.int .i64 0]) (gf:=178) (lb:=#[.pointer (some ⟨W.heap.size,0,none⟩)]) rfl (by omega) rfl trivial (enters_of func178 (by kernel_rfl) rfl)
  ((zk _ W.heap.size (W.alloc (.cells #[.slice none 0 0] 103)) (by simp) (by rw[(Blk.new W 103 #[Value.slice none 0 0]).cell];rfl))) (λ_ _=>trivial) (λ_ _ _ _ _ _ _ _=>trivial) (Below.refl _ _) (λ_=>rfl)
  (λ_ V=>Below W.heap.size W V) (λ_ _ _=>False) (ownFrom_below jn (by simp)) (λ_ _ _ _ _ hs _ _=>hs) ((Below.refl _ W).alloc jn _) (λ_=>⟨#[],[]⟩) (λ_ x=>nomatch x) (λ_ _ x=>nomatch x) ?done (λ_ _ _ _ _ h _ _=>False.elim h)
 case done=>
  rintro D ys y hD rfl z hK;have x9:=z.size;dsimp only;have U:=jq hK;have h7:=jq z;have l:=h8.out.below z x5;have y0:=λX:World=>zh (w.heap.size+1) X
  have x1:=jq l;clear hK z l
  go_wp2_with fail
  have x4:w.heap.size+1<D:=by simp at hD;omega
  have h3:Below D y (y.putObj D (.deferred none)):=(Below.refl D y).grown (grownBy_putObj' y D _) (kF (dG.1 U.out).1) (λk e=>by cases e;exact aj _);have h5:=x1.out.below h3 x4;refine⟨by simp,.inl ⟨_,_,rfl,run_takeDeferred U.out,?_⟩⟩;refine⟨.tuple #[.slice (some ⟨w.heap.size+1,0,none⟩) 128 128,.int .i64 0],by simp[results,results122,go_sem],_,rfl,?_,(h9.out.trans (h7.out.mono (by omega))).trans (h3.mono (by omega))⟩;refine .inr ⟨_,_,rfl,h5.lt,λj u S=>?_⟩;rw[h5.cell,Nat.zero_add,jt,x2.out];rw[<-S]
  simp[bv]
end jZ
namespace dW
open Go.RowKit Go.Deep Mem Crc jZ Go.Proofs.YtndkohocgfmamaaGreatDoor.Frame
def zb(n:Nat):List UInt8:=List.replicate n 0
theorem oH(n:Nat): (zb n).length=n:=List.length_replicate
theorem FI:got (zb 2048)=(0,[],0,5):=by
 have a:¬(zb 2048).length<9:=by unfold zb;rw[List.length_replicate];decide
 have b: (zb 2048).take 9=zb 9:=by unfold zb;rw[List.take_replicate];rfl
 have c:fZ (zb 9)=5:=by kernel_rfl
 unfold got;rw[if_neg a,b,c]
 rfl
variable {w:World}
theorem VJ{a:Option Addr}(h:Lies w a ((List.replicate 128 (0:UInt8)).map bv)):∃b,a=some b/\∀j u,((zb 128).map bv)[j]? =some u->w.cell? (b.add j)=some u:=by
 rcases h with h|⟨g,off,rfl,c,e⟩
 ·rw[dM]at h;cases h
 ·exact⟨_,rfl,dQ (.inr ⟨g,off,rfl,c,e⟩)⟩
theorem VK{d g N:Nat}(n:Nat)(Y:n<2)(V:33<=N)(h:Blank w d g N false):
  Calls prog 77 #[.pointer (some ⟨d,0,none⟩),.int .i64 (n:Int)] w λe w'=>∃v,e=.returned (.tuple #[v,.int .i64 0])/\ak w' w.heap.size v (zb 2048)/\Below w.heap.size w w':=by
 obtain⟨T,J,O,R,S⟩:=info_parts jX;have H:=jq h;clear h
 go_enter func77,ntmps77
 go_wp2_with fail
 go_loopw[10,6] (λi o wr=>∃j:Nat,j<=16/\i=.int .i64 (j:Int)/\Hid (ak wr w.heap.size o (zb (j*128)))/\Hid (Below w.heap.size w wr)) (λi _ _=>16-(intOf i).toNat)
 case atStart=>exact⟨0,by omega,rfl,jq (World.ownsRow_nil _ _ _ _),jq (Below.refl _ _)⟩
 case round=>
  obtain⟨j,W,rfl,u,b⟩:=hrel
  by_cases L:j<16
  ·have hd:decide ((j:Int) <16)=true:=by simp;omega
   have y:=jq (qY (n*16+j) (H.out.later b.out) (by omega));have M:=b.out.size;have z: ((n*16+j:Nat):Int)=(n:Int)*16+(j:Int):=by push_cast;rfl
   rw[z]at y;clear z
   go_wp2_with fail
   refine y.out.mono ?_;rintro e w1 ⟨a,rfl,r,k⟩;have l:=own_later u.out k;obtain⟨m,rfl,t⟩:=VJ r;have Z:=λX:World=>Lib.run_eql_slice_nil (P:=prog) X 84 5 (some m) 128 128 0 0 underlying84
   have G:=jq t;have c:=jq k;have E:=jq (kN (zb 128));clear r t k hd
   go_wp2_with (first|(at_builtin;refine wpList_append_own _ rfl _ _ 84 rfl w.heap.size 5 T (.int .u8 0) 1 1 underlying84 J O R S rfl (by decide) _ _ _ rfl l m 128 128 ((zb 128).map bv) rfl (by simp[zb]) G.out E.out ?c3 ?c4 ?c5 ?_))
   case c3=>rw[oH];unfold maxLen;omega
   case c4=>rw[oH];omega
   case c5=>have:=c.out.size;omega
   intro U w2 B A _;have p:Below w.heap.size w w2:=(b.out.trans (c.out.mono M)).grown A (by have:=c.out.size;omega) (λq hq=>(l.lt q hq).1)
   have x:ak w2 w.heap.size U (zb ((j+1)*128)):=by
    have e:zb ((j+1)*128)=zb (j*128)++zb 128:=by unfold zb;rw[List.replicate_append_replicate,eY]
    rw[e];unfold ak;rw[jL,aZ,oH 128];exact B
   have F:=jq p;have I:=jq x;clear B A p x l
   go_wp2_with fail
   go_roundw
   case rel=>exact⟨j+1,L,by simp,I,F⟩
   case measure=>simp[intOf];omega
  ·obtain rfl:j=16:=by omega
   have hd:decide ((16:Int) <16)=false:=by decide
   go_wp2_with fail
   go_ret2
   exact⟨_,rfl,u.out,b.out⟩
theorem VL(w:World):Calls prog 79 #[.int .u8 0] w λe w'=>e=.returned (.bool false)/\w'=w:=by
 go_enter func79,ntmps79
 go_wp2_with fail
 go_ret
 exact⟨rfl,rfl⟩
theorem VN(a:Option Addr)(cp n:Nat)(w:World)(h:Lies w a ((zb n).map bv))(l:n<=4000000):
  Calls prog 123 #[.slice a n cp,.func (.func 79) #[] #[]] w λe w'=>e=.returned (.int .i64 (-1))/\w'=w:=by
 have H:=jq h;clear h
 go_enter func123,ntmps123
 go_wp2_with fail
 go_loopw[8] (λi wr=>∃j:Nat,j<=n/\i=.int .i64 (j:Int)/\wr=w) (λi _=>n-(intOf i).toNat)
 case atStart=>exact⟨0,by omega,rfl,rfl⟩
 case round=>
  obtain⟨j,k,rfl,rfl⟩:=hrel
  by_cases b:j<n
  ·obtain⟨g,off,rfl,_,hc⟩:=H.out.resolve_left (λe=>by
    rw[dM]at e;have:=congrArg List.length e;rw[oH]at this
    simp at this
    omega)
   have c:wr.cell? ⟨g,off+j,none⟩=some (.int .u8 0):=by
    have:=hc j (bv 0) (by unfold zb;rw[List.map_replicate,List.getElem?_replicate,if_pos b]);exact this
   clear hc
   go_wp2_with (first|(go_at_call 79;refine(VL _).mono ?_;rintro e w1 ⟨rfl,rfl⟩))
   go_roundw
   case rel=>exact⟨j+1,b,by simp,trivial⟩
   case measure=>simp[intOf];omega
  ·obtain rfl:j=n:=by omega
   go_wp2_with fail
   go_ret
   exact⟨rfl,rfl⟩
theorem VO(a:Option Addr)(cp n:Nat)(w:World)(h:Lies w a ((zb n).map bv))(b:n<=4000000):
  Calls prog 78 #[.slice a n cp,.func (.func 79) #[] #[]] w λe w'=>e=.returned (.bool false)/\w'=w:=by
 have H:=jq (VN a cp n w h b);clear h
 go_enter func78,ntmps78
 go_wp2_with fail
 refine H.out.mono ?_;rintro e w1 ⟨rfl,rfl⟩
 go_wp2_with fail
 go_ret
 exact⟨rfl,rfl⟩
theorem VP(a:Option Addr)(cp:Nat)(w:World)(h:Lies w a ((zb 2048).map bv))(hc:2048<=cp):
  Calls prog 80 #[.slice a 2048 cp] w λe w'=>e=.returned (.tuple #[.agg #[.int .u64 0,.int .u32 0,.slice none 0 0],.int .i64 5])/\Below w.heap.size w w':=by
 have i:=(Below.refl w.heap.size w).alloc jn (Obj.cells #[Value.int .u64 0,Value.int .u32 0,Value.slice none 0 0] 108);have k:=tL a cp (zb 2048) _ (h.later i) (by rw[oH];exact hc) (by rw[oH];omega);have hb:=Blk.new w 108 #[Value.int .u64 0,Value.int .u32 0,Value.slice none 0 0];rw[oH]at k;have H:=jq k;have u:=jq i;have l:=jq hb;clear h k i hb
 go_enter func80,ntmps80
 go_wp2_with fail
 refine H.out.mono ?_;rintro e w1 ⟨⟨v,rfl,m⟩,c⟩;obtain⟨va,vc,A,_,_,_,_⟩:=own_shape m;subst A;rw[FI];simp only[bv,UInt8.toNat_zero,List.length_nil];have o:=l.out.below c l.out.lt;have b:=o.alloc (.cells #[.int .u8 0,.slice va 0 vc] 136);have z:=b.cell 0;have c1:=b.cell 1;have c2:=b.cell 2;have f0:=b.frozen 0;have f1:=b.frozen 1;have F:=b.frozen 2
 simp at z c1 c2
 have x:=jq c;have E:=c.size
 simp at E
 have y:=jq b;clear m b c o
 go_wp2_with fail
 have j:=((y.out.set 0 (.int .u64 0)).set 1 (.int .u32 0)).set 2 (.slice none 0 0);have q:=j.cell 0;have r:=j.cell 1;have t:=j.cell 2
 simp at q r t
 refine bodyPost_ret (v:=.tuple #[.agg #[.int .u64 0,.int .u32 0,.slice none 0 0],.int .i64 5]) (by simp[results,results80,go_sem,q,r,t]) rfl ⟨rfl,?_⟩;have B:Below w.heap.size w (w1.alloc (.cells #[.int .u8 0,.slice va 0 vc] 136)):=((u.out.trans (x.out.mono (by simp)))).alloc (by omega) _;exact((B.setCell (p:=⟨w.heap.size,0,none⟩) jn _).setCell (p:=⟨w.heap.size,1,none⟩) jn _).setCell (p:=⟨w.heap.size,2,none⟩) jn _
end dW
namespace dW
open Go.RowKit Go.Deep Mem Crc jZ
theorem VQ{d g N:Nat}(Z:33<=N){w:World}(h:Blank w d g N false):
  Calls prog 43 #[.pointer (some ⟨d,0,none⟩)] w λe w'=>e=.returned (.tuple #[.agg #[.int .u64 0,.int .u32 0,.slice none 0 0],.int .i64 0])/\Below w.heap.size w w':=by
 have r:=(Below.refl w.heap.size w).alloc jn (Obj.cells #[Value.int .u64 0,Value.int .u32 0,Value.slice none 0 0] 108);have G:=jq (mK (h.later r));have H:=jq h;have x:=jq r;clear h r;have h0:decide ((N:Int)<=32)=false:=by simp;omega
 go_enter func43,ntmps43
 go_wp2_with fail
 refine G.out.mono ?_;rintro e w1 ⟨rfl,rfl⟩
 go_wp2_with fail
 obtain⟨W,k⟩:=jl ((w.alloc (Obj.cells #[Value.int .u64 0,Value.int .u32 0,Value.slice none 0 0] 108)).alloc (Obj.cells #[Value.int .u64 0,Value.int .u32 0,Value.slice none 0 0] 108));have a:Blk W w.heap.size 108 #[Value.int .u64 0,Value.int .u32 0,Value.slice none 0 0]:=by rw[k];exact(Blk.new w _ _).alloc _
 have c:Blk W (w.heap.size+1) 108 #[Value.int .u64 0,Value.int .u32 0,Value.slice none 0 0]:=by rw[k];exact Blk.at_ (by simp)
 have F:Below w.heap.size w W:=by rw[k];exact x.out.alloc (by simp) _
 rw[<-k];have S:=jq a;have T:=jq c;have U:=jq F;clear a c F k G x h0
 go_loopw[5,6,15] (λf b i wr=>∃j:Nat,j<=2/\f=.bool false/\b=.bool (decide (0<j))/\i=.int .i64 (j:Int)/\Hid (Blk wr w.heap.size 108 #[Value.int .u64 0,Value.int .u32 0,Value.slice none 0 0])/\Hid (Blk wr (w.heap.size+1) 108 #[Value.int .u64 0,Value.int .u32 0,Value.slice none 0 0])/\Hid (Below w.heap.size w wr)) (λ_ _ i _=>2-(intOf i).toNat)
 case atStart=>exact⟨0,by omega,rfl,rfl,rfl,S,T,U⟩
 case round=>
  obtain⟨j,hj,rfl,rfl,rfl,a,c,m⟩:=hrel
  by_cases M:j<2
  ·have hd:decide ((j:Int) <2)=true:=by simp;omega
   have hS:=jq (VK j M Z (H.out.later m.out));obtain⟨bl,u⟩:=jl (decide (0<j));rw[<-u];have h3:=jq u;have h1:=m.out.size;clear u
   go_wp2_with fail
   refine hS.out.mono ?_;rintro e w1 ⟨v,rfl,I,o⟩;obtain⟨va,vc,V,O,q,_,_⟩:=own_shape I;subst V;rw[oH]at O⊢;have X:=jq (VO va vc 2048 w1 q (by omega));have Y:=jq (VP va vc w1 q O);have J:=a.out.below o a.out.lt;have L:=c.out.below o c.out.lt;have E:=m.out.trans (o.mono h1);have y:=jq J;have z:=jq L;have A:=jq E;clear I q o hd J L E;cases bl
   all_goals
    go_wp2_with (first|(go_at_call 78;refine X.out.mono ?_;rintro e w2 ⟨rfl,rfl⟩))
    refine Y.out.mono ?_;rintro e w3 ⟨rfl,B⟩;have l:=jq B;clear B
    go_wp2_with fail
    have h4:=l.out.size;have h2:=A.out.size;exact⟨⟨j+1,M,rfl,by simp,by simp,jq ((y.out.below l.out y.out.lt).alloc _),jq ((z.out.below l.out z.out.lt).alloc _),jq ((A.out.trans (l.out.mono h2)).alloc (by omega) _)⟩,by simp[intOf];omega⟩
  ·obtain rfl:j=2:=by omega
   have hd:decide ((2:Int) <2)=false:=by decide
   have ht:decide (0<2)=true:=by decide
   have q0:=c.out.cell 0;have q1:=c.out.cell 1;have q2:=c.out.cell 2;have p0:=a.out.cell 0;have p1:=a.out.cell 1;have p2:=a.out.cell 2;have f0:=a.out.frozen 0;have f1:=a.out.frozen 1;have f2:=a.out.frozen 2
   simp at q0 q1 q2 p0 p1 p2
   go_wp2_with fail
   have t:=((a.out.set 0 (.int .u64 0)).set 1 (.int .u32 0)).set 2 (.slice none 0 0);have r0:=t.cell 0;have P:=t.cell 1;have R:=t.cell 2
   simp at r0 P R
   refine bodyPost_ret (v:=.tuple #[.agg #[.int .u64 0,.int .u32 0,.slice none 0 0],.int .i64 0]) (by simp[results,results43,go_sem,r0,P,R]) rfl ⟨rfl,?_⟩;exact((m.out.setCell (p:=⟨w.heap.size,0,none⟩) jn _).setCell (p:=⟨w.heap.size,1,none⟩) jn _).setCell (p:=⟨w.heap.size,2,none⟩) jn _
end dW
namespace Store
open Go.RowKit Go.Deep Mem Crc jZ dW
abbrev au:=List UInt8->Option (Option (List UInt8))
def fV(w:World)(Q:Nat->Prop):Option (List UInt8)->Value->Prop
 |none,v=>v=.agg #[.slice none 0 0,.bool true]
 |some b,v=>∃a cp,v=.agg #[.slice a b.length cp,.bool false]/\b.length<=cp/\Lies w a (b.map bv)/\∀g,blk a=some g->Q g
def bT(w:World)(Q:Nat->Prop)(f:Lit->Option Value)(C:au)(nm:List UInt8):Prop:=
 match C nm with
 |none=>f (.string nm)=none
 |some c=>∃v,f (.string nm)=some v/\fV w Q c v
structure St(w:World)(Q:Nat->Prop)(s d g N cm:Nat)(off:Bool)(C:au):Prop where
 store:Blk w s 119 #[.pointer (some ⟨d,0,none⟩),.int .u64 0,.int .u32 0,.slice none 0 0,.map (some cm),.bool false]
 disk:Blank w d g N off
 map:∃f,aY w 9 cm f/\(∀x,f x≠none->∃nm,x=.string nm)/\∀nm,bT w (λk=>Q k/\k≠cm) f C nm
 qs:Q s
 qd:Q d
 qg:Q g
 qm:Q cm
 lt:∀k,Q k->k<w.heap.size
theorem fV.keep{w w':World}{Q Q':Nat->Prop}{c:Option (List UInt8)}{v:Value}(h:fV w Q c v)(q:w.heap.size<=w'.heap.size)(p:∀k,Q k->w'.heap[k]? =w.heap[k]?)(o:∀k,Q k->Q' k):fV w' Q' c v:=by
 cases c with
 |none=>exact h
 |some b=>
  obtain⟨a,cp,e,l,m,j⟩:=h;exact⟨a,cp,e,l,m.keep q (λg i=>p g (j g i)),λg i=>o g (j g i)⟩
theorem bT.keep{w w':World}{Q Q':Nat->Prop}{f:Lit->Option Value}{C:au}{nm:List UInt8}(h:bT w Q f C nm)(j:w.heap.size<=w'.heap.size)(i:∀k,Q k->w'.heap[k]? =w.heap[k]?)(e:∀k,Q k->Q' k):bT w' Q' f C nm:=by
 unfold bT at h⊢
 cases hc:C nm with
 |none=>rw[hc]at h;exact h
 |some c=>
  rw[hc]at h;obtain⟨v,a,b⟩:=h;exact⟨v,a,b.keep j i e⟩
theorem St.keep{w w':World}{Q:Nat->Prop}{s d g N cm:Nat}{off:Bool}{C:au}(h:St w Q s d g N cm off C)(b:w.heap.size<=w'.heap.size)(a:∀k,Q k->w'.heap[k]? =w.heap[k]?):St w' Q s d g N cm off C:=by
 obtain⟨f,c,e,i⟩:=h.map;exact⟨(a s h.qs).trans h.store,h.disk.keep (a d h.qd) (a g h.qg),⟨f,c.keep (a cm h.qm),e,λnm=>(i nm).keep b (λk hq=>a k hq.1) (λ_ h=>h)⟩,h.qs,h.qd,h.qg,h.qm,λk hq=>aD (h.lt k hq) b⟩
variable {w w':World}{Q:Nat->Prop}{s d g N cm:Nat}{C:au}
theorem St.later{off:Bool}(h:St w Q s d g N cm off C)(a:Below w.heap.size w w'):St w' Q s d g N cm off C:=h.keep a.size (λk hq=>a.block k (h.lt k hq))
theorem St.only{off:Bool}{F:List Nat}(h:St w Q s d g N cm off C)(a:Only F w w')(hF:∀k∈F,¬Q k):St w' Q s d g N cm off C:=h.keep a.size (λk hq=>a.block k (h.lt k hq) (λb=>hF k b hq))
def none':au:=λ_=>none
theorem UZ(E:33<=N)(h:Blank w d g N false):
  Calls prog 16 #[.pointer (some ⟨d,0,none⟩)] w λe w'=>∃s cm,e=.returned (.tuple #[.pointer (some ⟨s,0,none⟩),.int .i64 0])/\St w' (λk=>k=s\/k=d\/k=g\/k=cm) s d g N cm false none'/\w.heap.size<=s/\w.heap.size<=cm/\Below w.heap.size w w':=by
 have m:=(Below.refl w.heap.size w).alloc jn (Obj.cells #[Value.pointer (some ⟨d,0,none⟩)] 24);have r:=jq (VQ E (h.later m));have H:=jq h;have o:=jq m;have y:=Blk.new w 24 #[Value.pointer (some ⟨d,0,none⟩)];have c:=jq y;clear h m y
 go_enter func16,ntmps16
 go_wp2_with fail
 refine r.out.mono ?_;rintro e w1 ⟨rfl,b⟩;have l:=(b.cell (p:=⟨w.heap.size,0,none⟩) c.out.lt).trans (c.out.cell 0)
 simp at l
 have q:=jq b;have I:=b.size
 simp at I
 clear b
 go_wp2_with fail
 obtain⟨W,a⟩:=jl (w1.alloc (.cells #[.int .u64 0,.int .u32 0,.slice none 0 0] 108));have hb:=Blk.new w1 108 #[.int .u64 0,.int .u32 0,.slice none 0 0];rw[<-a]at hb⊢;have J:=hb.cell 0;have L:=hb.cell 1;have m2:=hb.cell 2;have M:W.cell? ⟨w.heap.size,0,none⟩=some (.pointer (some ⟨d,0,none⟩)):=by rw[a];exact(((Below.refl w1.heap.size w1).alloc jn _).cell (p:=⟨w.heap.size,0,none⟩) (by show w.heap.size<_;omega)).trans l
 simp at J L m2
 have u:Below w.heap.size w W:=by rw[a];exact(o.out.trans (q.out.mono (by simp))).alloc (by omega) _
 have O:w.heap.size<W.heap.size:=by rw[a];simp;omega
 have j:=jq u;clear hb a q o r c u l
 go_loopw[20] (λi wr=>i=.int .i64 0/\wr=W) (λ_ _=>0)
 case atStart=>exact⟨rfl,rfl⟩
 case round=>
  obtain⟨rfl,rfl⟩:=hrel;have R:=run_makeMap (P:=prog) 117 wr
  go_wp2_with fail
  go_ret2
  have z:=j.out.size;have t:Below wr.heap.size wr ((wr.alloc (.map #[] 0)).alloc (.cells #[.pointer (some ⟨d,0,none⟩),.int .u64 0,.int .u32 0,.slice none 0 0,.map (some wr.heap.size),.bool false] 119)):=((Below.refl _ wr).alloc jn _).alloc (by simp) _;have hD:=(H.out.later j.out).later t;have G:aY ((wr.alloc (.map #[] 0)).alloc (.cells #[.pointer (some ⟨d,0,none⟩),.int .u64 0,.int .u32 0,.slice none 0 0,.map (some wr.heap.size),.bool false] 119)) 9 wr.heap.size (λ_=>none):=(aY.made wr _).keep (Below.heap_alloc _ _ _ (by simp));refine⟨wr.heap.size+1,wr.heap.size,rfl,⟨Blk.at_ (by simp),hD,⟨_,G,λx h=>absurd rfl h,λnm=>rfl⟩,.inl rfl,.inr (.inl rfl),.inr (.inr (.inl rfl)),.inr (.inr (.inr rfl)),λk F=>?_⟩,by omega,z,j.out.trans (t.mono z)⟩;have A:=hD.disk.lt;have B:=hD.row.lt;rcases F with rfl|rfl|rfl|rfl
  ·simp
  ·exact A
  ·exact B
  ·simp;omega
theorem lK{off:Bool}(h:St w Q s d g N cm off C):
  Calls prog 56 #[.pointer (some ⟨s,0,none⟩)] w λe w'=>e=.returned (.bool off)/\w'=w:=by
 have b:=h.store.cell 0;have c:=h.store.cell 5
 simp at b c
 have a:=jq (qO h.disk);clear h
 go_enter func56,ntmps56
 go_wp2_with fail
 refine a.out.mono ?_;rintro e w1 ⟨rfl,rfl⟩
 go_wp2_with fail
 go_ret
 exact⟨by simp,rfl⟩
open Go.Maps
noncomputable def dV(C:au)(nm:List UInt8)(c:Option (Option (List UInt8))):au:=λx=>open Classical in if x=nm then c else C x
theorem lT(C:au)(nm:List UInt8)(c:Option (Option (List UInt8))):dV C nm c nm=c:=by unfold dV;rw[if_pos rfl]
variable {nm:List UInt8}{fm f:Lit->Option Value}{D:DataW Value}{v:Value}
theorem jJ{C:au}{x:List UInt8}(c:Option (Option (List UInt8)))(h:x≠nm):dV C nm c x=C x:=by unfold dV;rw[if_neg h]
def nv(nm:List UInt8):Value:=.string ⟨nm.toArray⟩
theorem iQ(h:nm.length<=1000000):keyOf prog 9 (nv nm)=some (.string nm):=by
 have:=Go.WideMaps.keyOf_string_mk (P:=prog) (k:=9) underlying9 (s:=⟨nm.toArray⟩) (by show nm.toArray.size<=maxLen;unfold maxLen;simp;omega)
 simpa[nv]using this
theorem bU:Go.Maps.Keyed prog 9:=string_keyed underlying9
theorem St.changed{w w1:World}{Q:Nat->Prop}{s d g N cm:Nat}{off:Bool}{C:au}(h:St w Q s d g N cm off C)(p:Below w.heap.size w w1)(L:List (List UInt8))(E:∀x,C x≠none->x∈L)(T:L.length<=1000000)(nm:List UInt8)(J:nm.length<=1000000)(c:Option (List UInt8))(v:Value)(R:fV w1 (λk=>w.heap.size<=k/\k<w1.heap.size) c v):
  ∃w2,(Instr.mapUpdate 117 (.map (some cm)) (nv nm) v).run prog w1=.ok () w2/\St w2 (λk=>Q k\/(w.heap.size<=k/\k<w1.heap.size)) s d g N cm off (dV C nm (some c))/\Only [cm] w w2/\w2.heap.size=w1.heap.size:=by
 have a:=h.later p;obtain⟨f,j,m,z⟩:=a.map
 obtain⟨w2,M,H,q,A⟩:=j.update bU underlying117 (L.map Lit.string) (λx l=>by
  obtain⟨y,rfl⟩:=m x l;refine List.mem_map.2 ⟨y,E y (λhc=>?_),rfl⟩;have:=z y;unfold bT at this;rw[hc]at this;exact l this) (by rw[jP];unfold maxLen;omega) (iQ J) v
 have o:Only [cm] w1 w2:=Only.of_grown q (λg q=>by cases q;exact .inl (by simp))
 have F:d≠cm:=λe=>by
  have:=j.lt;obtain⟨D,n,⟨t,r,hb,_⟩,_⟩:=j;have hd:=a.disk.disk;unfold Blk at hd;rw[e,hb]at hd;cases hd
 have G:g≠cm:=λe=>by
  obtain⟨D,n,⟨t,r,hb,_⟩,_⟩:=j;have hd:=a.disk.row;unfold Blk at hd;rw[e,hb]at hd;cases hd
 have O:s≠cm:=λe=>by
  obtain⟨D,n,⟨t,r,hb,_⟩,_⟩:=j;have hd:=a.store;unfold Blk at hd;rw[e,hb]at hd;cases hd
 have S:=h.lt cm h.qm;have U:=p.size;have i:∀k,k<w1.heap.size->k≠cm->w2.heap[k]? =w1.heap[k]?:=λk m I=>o.block k m (by simpa using I)
 refine⟨w2,M,⟨(i s a.store.lt O).trans a.store,a.disk.keep (i d a.disk.disk.lt F) (i g a.disk.row.lt G),⟨_,H,λx l=>?_,λx=>?_⟩,.inl h.qs,.inl h.qd,.inl h.qg,.inl h.qm,λk hq=>?_⟩,(Only.of_below (bs:=[cm]) p).trans o,A⟩
 ·by_cases e:x=.string nm
  ·exact⟨nm,e⟩
  ·rw[fQ _ e]at l;exact m x l
 ·by_cases e:x=nm
  ·subst e;unfold bT;rw[lT,kK];exact⟨v,rfl,R.keep o.size (λk hq=>i k hq.2 (by omega)) (λk hq=>⟨.inr hq,by omega⟩)⟩
  ·have b:=z x;unfold bT at b⊢;rw[jJ _ e,fQ _ (λh=>e (by injection h))]
   cases hc:C x with
   |none=>rw[hc]at b;exact b
   |some c'=>
    rw[hc]at b;obtain⟨u,P,B⟩:=b;exact⟨u,P,B.keep o.size (λk hq=>i k (a.lt k hq.1) hq.2) (λk hq=>⟨.inl hq.1,hq.2⟩)⟩
 ·rw[A];rcases hq with hq|hq
  ·exact a.lt k hq
  ·exact hq.2
theorem qU(nm:List UInt8)(w:World): (Builtin.len_ #[9] 3 #[nv nm]).run prog w=.ok (.int .i64 (nm.length:Int)) w:=by
 simp[Builtin.len_,run_underlying underlying9,nv,goInt,Result.andThen]
 rfl
theorem vQ{w:World}{Q:Nat->Prop}{s d g N cm:Nat}{C:au}(h:St w Q s d g N cm false C)(L:List (List UInt8))(E:∀x,C x≠none->x∈L)(J:L.length<=1000000)(nm:List UInt8)(V:1<=nm.length)(W:nm.length<=32)(a:Option Addr)(cp:Nat)(b:List UInt8)(hb:Lies w a (b.map bv))(U:b.length<=1048576):
  Calls prog 30 #[.pointer (some ⟨s,0,none⟩),nv nm,.slice a b.length cp] w λe w'=>e=.returned (.int .i64 0)/\∃Q',St w' Q' s d g N cm false (dV C nm (some (some b)))/\(∀k,Q' k->Q k\/w.heap.size<=k)/\(∀k,Q k->Q' k)/\Only [cm] w w':=by
 have t:=jq (lK h);have r:=jq (lS a cp b w.drew hb (by omega));have H:=jq h;have i:=h.store.cell 4;have y:=jq h.store.lt;have u:=jq ((Below.refl w.heap.size w).drew)
 simp at i
 clear h hb
 have A: ((nm.length:Int)==0)=false:=by
  have:¬(nm.length:Int)=0:=by omega
  simpa using this
 have B:decide (32<(nm.length:Int))=false:=by
  have:¬32<(nm.length:Int):=by omega
  simpa using this
 have T:decide (1048576<(b.length:Int))=false:=by
  have:¬1048576<(b.length:Int):=by omega
  simpa using this
 have I:=qU nm;obtain⟨x,c⟩:=jl (nv nm);obtain⟨Y,l⟩:=jl nm.length;rw[<-c,<-l]at I;rw[<-l]at A B;rw[<-c];have z:=jq c;clear c l
 go_enter func30,ntmps30
 go_wp2_with fail
 refine t.out.mono ?_;rintro e w1 ⟨rfl,rfl⟩
 go_wp2_with fail
 go_region_held3 (λw'=>w'.cell? ⟨s,4,none⟩=some (.map (some cm))) (first|exact i|exact G|exact o) ((go_at_call 64;refine r.out.mono ?_;rintro e w2 ⟨v,rfl,F,m⟩;obtain⟨va,vc,rfl,R,S,P,_⟩:=own_shape F;obtain⟨Z,O,q,M,X⟩:=H.out.changed (w1:=w2) (u.out.trans m) L E J nm (by omega) (some b) (.agg #[.slice va b.length vc,.bool false]) ⟨va,vc,rfl,R,S,P⟩;rw[<-z.out]at O;have G:=(m.cell (p:=⟨s,4,none⟩) y.out).trans i;have o:=q.store.cell 4;simp at o;dsimp only))
 go_wp2_with fail
 go_ret
 exact⟨rfl,_,q,λk j=>j.imp id And.left,λk j=>.inl j,M⟩
theorem kV(w:World): (zeroValue 140).run prog w=.ok (.agg #[.slice none 0 0,.bool false]) w:=by kernel_rfl
theorem St.look{w:World}{Q:Nat->Prop}{s d g N cm:Nat}{off:Bool}{C:au}(h:St w Q s d g N cm off C)(nm:List UInt8)(p:nm.length<=1000000):
  (Instr.lookup 117 (.map (some cm)) (nv nm) true).run prog w=.ok (.tuple #[.agg #[.slice none 0 0,.bool false],.bool false]) w/\C nm=none\/
  (Instr.lookup 117 (.map (some cm)) (nv nm) true).run prog w=.ok (.tuple #[.agg #[.slice none 0 0,.bool true],.bool true]) w/\C nm=some none\/
  ∃b a cp,(Instr.lookup 117 (.map (some cm)) (nv nm) true).run prog w=.ok (.tuple #[.agg #[.slice a b.length cp,.bool false],.bool true]) w/\C nm=some (some b)/\b.length<=cp/\Lies w a (b.map bv):=by
 obtain⟨f,o,q,m⟩:=h.map;have hl:=o.look_ok bU underlying117 kV (iQ p);have e:=m nm;unfold bT at e
 cases hc:C nm with
 |none=>
  rw[hc]at e;rw[e]at hl;exact .inl ⟨hl,rfl⟩
 |some c=>
  rw[hc]at e;obtain⟨v,j,i⟩:=e;rw[j]at hl
  cases c with
  |none=>
   rw[show v=_ from i]at hl;exact .inr (.inl ⟨hl,rfl⟩)
  |some b=>
   obtain⟨a,cp,rfl,k,l,_⟩:=i;exact .inr (.inr ⟨b,a,cp,hl,rfl,k,l⟩)
theorem VR(x a:Value)(w:World):Calls prog 140 #[.slice none 0 0,x,a] w λe w'=>e=.returned (.tuple #[.int .i64 0,.bool false])/\w'=w:=by
 go_enter func140,ntmps140
 go_wp2_with fail
 go_loopw[9,10] (λi j wr=>i=.int .i64 0/\j=.int .i64 0/\wr=w) (λ_ _ _=>0)
 case atStart=>exact⟨rfl,rfl,rfl⟩
 case round=>
  obtain⟨rfl,rfl,rfl⟩:=hrel
  go_wp2_with fail
  go_ret2
  exact⟨rfl,rfl⟩
theorem VT(x:Value)(w:World):Calls prog 97 #[.agg #[.int .u64 0,.int .u32 0,.slice none 0 0],x] w λe w'=>e=.returned (.tuple #[.int .i64 0,.bool false])/\Below w.heap.size w w':=by
 go_enter func97,ntmps97
 go_wp2_with fail
 refine(VR _ _ _).mono ?_;rintro e w1 ⟨rfl,rfl⟩
 go_wp2_with fail
 go_ret2
 exact⟨rfl,(Below.refl _ w).alloc jn _⟩
theorem xV{w:World}{Q:Nat->Prop}{s d g N cm:Nat}{C:au}(h:St w Q s d g N cm true C)(x:Value):
  Calls prog 108 #[.pointer (some ⟨s,0,none⟩),x] w λe w'=>e=.returned (.tuple #[.slice none 0 0,.int .i64 6])/\Below w.heap.size w w':=by
 have a:=jq (lK h);clear h
 go_enter func108,ntmps108
 go_wp2_with fail
 refine a.out.mono ?_;rintro e w1 ⟨rfl,rfl⟩
 go_wp2_with fail
 go_ret2
 exact⟨rfl,Below.refl _ _⟩
theorem xU{w:World}{Q:Nat->Prop}{s d g N cm:Nat}{C:au}(h:St w Q s d g N cm true C)(x:Value)(a:Option Addr)(n cp:Nat):
  Calls prog 30 #[.pointer (some ⟨s,0,none⟩),x,.slice a n cp] w λe w'=>e=.returned (.int .i64 6)/\w'=w:=by
 have b:=jq (lK h);clear h
 go_enter func30,ntmps30
 go_wp2_with fail
 refine b.out.mono ?_;rintro e w1 ⟨rfl,rfl⟩
 go_wp2_with fail
 go_ret
 exact⟨rfl,rfl⟩
def kE(C:au)(nm:List UInt8):List UInt8×Int:=
 match C nm with
 |some (some b)=>(b,0)
 |_=>([],8)
theorem qY{w:World}{Q:Nat->Prop}{s d g N cm:Nat}{C:au}(h:St w Q s d g N cm false C)(nm:List UInt8)(B:nm.length<=1000000)(hb:∀b,C nm=some (some b)->b.length<=4000000):
  Calls prog 108 #[.pointer (some ⟨s,0,none⟩),nv nm] w λe w'=>∃v,e=.returned (.tuple #[v,.int .i64 (kE C nm).2])/\ak w' w.heap.size v (kE C nm).1/\Below w.heap.size w w':=by
 have j:=jq (lK h);have hl:=h.look nm B;have c1:=h.store.cell 1;have c2:=h.store.cell 2;have z:=h.store.cell 3;have A:=h.store.cell 4;have ha:=h.store.alloc (.cells #[.slice none 0 0,.bool false] 140);have E:=ha.cell 1;have F:=ha.cell 2;have G:=ha.cell 3
 simp at c1 c2 z A E F G
 clear ha;obtain⟨x,p⟩:=jl (nv nm);rw[<-p]at hl⊢;clear h p;rcases hl with⟨hl,hc⟩|⟨hl,hc⟩|⟨b,a,cp,hl,hc,I,m⟩
 ·have c:kE C nm=([],8):=by unfold kE;rw[hc]
  rw[c];clear hc hb
  go_enter func108,ntmps108
  go_wp2_with fail
  refine j.out.mono ?_;rintro e w1 ⟨rfl,rfl⟩
  go_wp2_with fail
  refine(VT _ _).mono ?_;rintro e w2 ⟨rfl,i⟩;have l:=((Below.refl w1.heap.size w1).alloc jn (.cells #[.slice none 0 0,.bool false] 140)).trans (i.mono (by simp));have t:=jq l;clear i l
  go_wp2_with fail
  go_ret2
  exact⟨_,rfl,World.ownsRow_nil _ _ _ _,t.out⟩
 ·have c:kE C nm=([],8):=by unfold kE;rw[hc]
  rw[c];clear hc hb
  go_enter func108,ntmps108
  go_wp2_with fail
  refine j.out.mono ?_;rintro e w1 ⟨rfl,rfl⟩
  go_wp2_with fail
  go_ret2
  exact⟨_,rfl,World.ownsRow_nil _ _ _ _,(Below.refl _ w1).alloc jn _⟩
 ·have c:kE C nm=(b,0):=by unfold kE;rw[hc]
  rw[c];have H:=hb b hc;clear hc hb c
  go_enter func108,ntmps108
  go_wp2_with fail
  refine j.out.mono ?_;rintro e w1 ⟨rfl,rfl⟩;have k:=(Below.refl w1.heap.size w1).alloc jn (.cells #[.slice a b.length cp,.bool false] 140);have u:=jq (lS a cp b _ (m.later k) (by omega));have q:=jq k;clear m k
  go_wp2_with fail
  refine u.out.mono ?_;rintro e w2 ⟨v,rfl,o,i⟩;have y:=jq (bH o (show w1.heap.size<=_ by simp));have r:=jq (q.out.trans (i.mono (by simp)));clear o i
  go_wp2_with fail
  go_ret2
  exact⟨_,rfl,y.out,r.out⟩
def gN:Value:=.agg #[]
def fD(C:au)(nm:List UInt8):Bool:=
 match C nm with
 |some (some _)=>true
 |_=>false
def Seen(C:au)(left:Lit->Bool)(fm:Lit->Option Value):Prop:=(∀x,fm x≠none->∃nm,x=.string nm)/\∀nm,fm (.string nm)=if !left (.string nm)&&fD C nm then some gN else none
theorem VU{C:au}{left:Lit->Bool}(h:Seen C left fm)(nm:List UInt8)(u:Option Value)(b:u=if fD C nm then some gN else none):Seen C (λz=>left z&& !z.sameKey (.string nm)) (iR fm (.string nm) u):=by
 refine⟨λx a=>?_,λx=>?_⟩
 ·by_cases e:x=.string nm
  ·exact⟨nm,e⟩
  ·rw[fQ _ e]at a;exact h.1 x a
 ·by_cases e:x=nm
  ·subst e;rw[kK,b];have: (Lit.string x).sameKey (.string x)=true:=WideAt.sameKey_self trivial
   simp[this]
  ·rw[fQ _ (λh=>e (by injection h)),h.2 x];have: (Lit.string x).sameKey (.string nm)=false:=Maps.sameKey_ne (λh=>e (by injection h))
   simp[this]
theorem zN(f:Lit->Option Value)(k:Lit)(u v:Option Value):iR (iR f k u) k v=iR f k v:=by
 funext x
 by_cases e:x=k
 ·subst e;rw[kK,kK]
 ·rw[fQ _ e,fQ _ e,fQ _ e]
theorem VW{w:World}{Q:Nat->Prop}{C:au}(hd:iE D f)(a:∀nm,bT w Q f C nm):Seen C (Maps.has D) (λ_=>none):=⟨λx h=>absurd rfl h,λnm=>by
 have:=a nm;unfold bT at this;unfold fD;rw[(hd _).1]
 cases hc:C nm with
 |none=>simp
 |some c=>
  rw[hc]at this;obtain⟨v,b,_⟩:=this;rw[b]
  simp⟩
theorem support{L:List (List UInt8)}{C:au}{left:Lit->Bool}(b:∀x,C x≠none->x∈L)(h:Seen C left fm):∀x,fm x≠none->x∈L.map Lit.string:=λx a=>by
 obtain⟨nm,rfl⟩:=h.1 x a;refine List.mem_map.2 ⟨nm,b nm (λhc=>a ?_),rfl⟩;rw[h.2 nm];unfold fD;rw[hc]
 simp
theorem qR(hd:iE D fm)(l:∀x,fm x≠none->∃nm,x=.string nm)(hD:∃a,D=.map a/\a.Pairwise (λp q=>p.1≠q.1)/\∀p∈a,WideAt.IsKeyLit p.1)(nm:List UInt8):nm∈strKeys D↔fm (.string nm)≠none:=by
 obtain⟨a,rfl,_,i⟩:=hD
 constructor
 ·intro h;obtain⟨p,c,rfl⟩:=List.mem_map.1 h;have b:Maps.has (.map a) p.1=true:=jm.2 ⟨p,c,WideAt.sameKey_self (i p c)⟩;rw[(hd p.1).1]at b;have e:fm p.1≠none:=λh=>by rw[h]at b;cases b
  obtain⟨m,j⟩:=l p.1 e;rw[j]at e⊢;exact e
 ·intro h
  have b:Maps.has (.map a) (.string nm)=true:=by
   rw[(hd _).1];exact Option.isSome_iff_ne_none.2 h
  obtain⟨p,c,k⟩:=jm.1 b;refine List.mem_map.2 ⟨p,c,?_⟩;rw[WideAt.sameKey_eq k]
  rfl
theorem zM{w:World}{Q:Nat->Prop}{C:au}{c:Option (List UInt8)}(hc:C nm=some c)(h:fV w Q c v):∃a n cp i,v=.agg #[.slice a n cp,.bool i]/\fD C nm= !i:=by
 cases c with
 |none=>exact⟨none,0,0,true,h,by unfold fD;rw[hc];rfl⟩
 |some b=>
  obtain⟨a,cp,e,_⟩:=h;exact⟨a,b.length,cp,false,e,by unfold fD;rw[hc];rfl⟩
theorem tJ(hD:∃a,D=.map a/\a.Pairwise (λp q=>p.1≠q.1)/\∀p∈a,WideAt.IsKeyLit p.1): (strKeys D).length=Maps.size D:=by
 obtain⟨a,rfl,_,_⟩:=hD
 simp[strKeys,Maps.size]
theorem met{w:World}{Q:Nat->Prop}{C:au}(hd:iE D f)(r:∀nm,bT w Q f C nm)(t:∀x,f x≠none->∃nm,x=.string nm)(hb:∀nm,C nm≠none->nm.length<=1000000){key:Value}{i:Lit}{y:DataW Value×List MemPlace}(z:keyOf prog 9 key=some i)(A:jH v=some y)(k:∀zd,D.atKey i zd=y.1):∃nm c,i=.string nm/\key=nv nm/\C nm=some c/\fV w Q c v:=by
 have j:=Maps.has_true_of_atKey k;rw[(hd i).1]at j;obtain⟨u,b⟩:=Option.isSome_iff_exists.1 j;obtain⟨nm,rfl⟩:=t i (by rw[b];exact λh=>by cases h);have a:=r nm;unfold bT at a
 cases hc:C nm with
 |none=>rw[hc]at a;rw[a]at b;cases b
 |some c=>
  rw[hc]at a;obtain⟨B,p,q⟩:=a
  have l:v=u:=by
   have e:=(k (.held u)).symm.trans ((hd _).2 u b (.held u));have o:y=(.held v,[]):=(Option.some.inj A).symm;rw[o]at e;exact DataW.held.inj e
  have m:B=u:=Option.some.inj (p.symm.trans b);refine⟨nm,c,rfl,bU.inj z (iQ (hb nm (by rw[hc];exact λh=>by cases h))),hc,?_⟩;rw[l,<-m];exact q
theorem JK{w:World}{Q:Nat->Prop}{s d g N cm:Nat}{off:Bool}{C:au}(h:St w Q s d g N cm off C)(L:List (List UInt8))(z:∀x,C x≠none->x∈L)(hn:L.length<=1000000)(x9:∀x∈L,x.length<=1000000):
  Calls prog 48 #[.pointer (some ⟨s,0,none⟩)] w λe w'=>∃(v:Value) (m:List (List UInt8)),e=.returned v/\w'.ownsRow w.heap.size 9 1 v m.length (m.map encStr)/\(∀nm,nm∈m↔fD C nm=true)/\m.length<=L.length/\Below w.heap.size w w':=by
 have c3:=h.store.cell 3;have c4:=h.store.cell 4
 simp at c3 c4
 have H:=jq h;have b6:=run_makeMap (P:=prog) 167 w;have ha:=h.store.alloc (.map #[] 0);have k3:=ha.cell 3;have k4:=ha.cell 4
 simp at k3 k4
 clear h ha
 go_enter func48,ntmps48
 go_wp2_with fail
 obtain⟨W,A⟩:=jl (w.alloc (.map #[] 0));have y0:aY W 9 w.heap.size (λ_=>none):=by rw[A];exact aY.made w _
 have x7:Below w.heap.size w W:=by rw[A];exact(Below.refl _ w).alloc jn _
 rw[<-A]at k3 k4⊢;have T:=jq y0;have S:=jq x7;clear y0 x7 A b6 c3 c4
 go_loopw[17] (λi wr=>i=.int .i64 0/\wr=W) (λ_ _=>0)
 case atStart=>exact⟨rfl,rfl⟩
 case round=>
  obtain⟨rfl,rfl⟩:=hrel;obtain⟨f,⟨D,n,z5,hd⟩,G,hf⟩:=(H.out.later S.out).map;obtain⟨W2,O,z8,l,z9⟩:=z5.range bU underlying117;have c7:=H.out.lt cm H.out.qm;have B:Below wr.heap.size wr W2:=⟨l.os,l.tape,l.output,l.size,λk G=>l.block k G (by simp)⟩;have HR:=jq z8;have c5:=jq B;have HF:=jq hf;have HD:=jq hd;have HK:=jq G;have b7:=T.out.lt;have y1:=T.out.keep (B.block w.heap.size b7);have a7:=jq y1;have a:Seen C (Maps.has D) (λ_=>none):=VW hd hf;have HS:=jq a;have a4:=jq (S.out.trans (B.mono S.out.size));clear z8 l B hf hd G y1 a z5
  go_wp2_with fail
  obtain⟨r,M⟩:=jl wr.heap.size;rw[<-M]at HR⊢;have c9:w.heap.size<r:=by rw[M];exact T.out.lt
  have c2:=jq M;clear M O
  go_loopw[] (λp=>∃left cnt fm,Hid (p.ranges prog 9 jH cm r n D left cnt)/\Hid (aY p 9 w.heap.size fm)/\Hid (Seen C left fm)/\Hid (Below w.heap.size w p)) (λp=>p.rangeLeft cm r)
  case atStart=>exact⟨_,_,_,HR,a7,HS,a4⟩
  case round=>
   obtain⟨left,cnt,fm,hR,o,a,U⟩:=hrel;have z9:=U.out.size;rcases hR.out.next bU 0 with⟨h0,hl,O⟩|⟨key,v,kl,y,w5,x2,I,b5,hv,y6,O,y3,hlt,h4,c0,b4⟩
   ·have HL:=jq hl;clear hl h0;obtain⟨D2,J,y9⟩:=o.out.bounded bU (L.map Lit.string) (support z a.out);have z2:=J.size_le;rw[jP]at z2;have x8:=callsIn_wide.1 (Tryz.maps_Keys_87 (some w.heap.size) wr);have y5:=callsIn_wide.1 (Tryz.slices_Sorted_keys_86_87 w.heap.size _ D2 jH wr J (by unfold maxLen;omega) (by omega));have a6:=jq x8;have b2:=jq y5;have a5:=jq y9;have h8:=jq J;clear J y9 x8 y5
    go_wp2_with fail
    refine a6.out.mono ?_;rintro e w6 ⟨rfl,rfl⟩
    go_wp2_with fail
    refine b2.out.mono ?_;rintro e w7 ⟨v,m,rfl,z7,z6,_,x6⟩;have b0:=jq z6;have a3:=jq x6;have HP:=jq z7;clear z6 x6 z7
    go_wp2_with fail
    go_ret
    refine⟨v,m.mergeSort (λx y=>decide (x<=y)),rfl,?_,λnm=>?_,?_,?_⟩
    ·rw[vw];exact bH b0.out (by simp;omega)
    ·rw[List.mem_mergeSort,HP.out.mem_iff,qR a5.out a.out.1 (h8.out.entries bU),a.out.2 nm,HL.out];cases fD C nm <;> simp
    ·rw[vw,HP.out.length_eq,tJ (h8.out.entries bU)];exact z2
    ·exact(U.out.alloc z9 _).trans (a3.out.mono (by simp;omega))
   ·obtain⟨nm,c,rfl,rfl,hc,y8⟩:=met HD.out HF.out HK.out (λnm h=>x9 nm (z nm h)) I hv y6;obtain⟨t,R,u,j,rfl,z1⟩:=zM hc y8;have c8:nm.length<=1000000:=x9 nm (z nm (by rw[hc];exact λh=>by cases h));have h6:w.heap.size≠r:=by omega
    have z4:w.heap.size≠cm:=by have:=H.out.lt cm H.out.qm;omega
    have Y:=o.out.keep (h4.block w.heap.size o.out.lt (λe=>h6 (by injection e)));obtain⟨W3,b⟩:=jl (w5.alloc (.cells #[.slice t R u,.bool j] 140));have y2:aY W3 9 w.heap.size fm:=by rw[b];exact Y.keep (Below.heap_alloc _ _ _ Y.lt)
    have h1:=y3.alloc (.cells #[.slice t R u,.bool j] 140);have E:=Blk.new w5 140 #[.slice t R u,.bool j];have x4:Below w.heap.size w w5:=U.out.grown h4 (by omega) (λq e=>by cases e;omega);have x3:Below w.heap.size w W3:=by rw[b];exact x4.alloc (by omega) _
    rw[<-b]at h1 E;have b8:W3.heap.size=w5.heap.size+1:=by rw[b];simp
    obtain⟨W4,hU,X,F,b9⟩:=y2.update bU underlying167 (L.map Lit.string) (support z a.out) (by rw[jP];unfold maxLen;omega) I gN;have V:Below w.heap.size w W4:=x3.grown F (by omega) (λq e=>by cases e;exact aj _);have h2:=h1.kept F (λe=>z4 (by injection e with e;exact e.symm)) (λe=>h6 (by injection e with e;exact e.symm));have y7:Blk W4 w5.heap.size 140 #[.slice t R u,.bool j]:=(F.block w5.heap.size E.lt (λe=>by injection e with e;have:=o.out.lt;omega)).trans E;obtain⟨W6,b3,Z,h5,c1⟩:=X.drop bU underlying167 I 0;have x5:Below w.heap.size w W6:=V.grown h5 (by omega) (λq e=>by cases e;exact aj _);have y4:=h2.kept h5 (λe=>z4 (by injection e with e;exact e.symm)) (λe=>h6 (by injection e with e;exact e.symm));rw[zN]at Z;have b1:=y7.cell 1
    simp at b1
    have z0:fD C nm= !j:=z1;have h3:=VU a.out nm (if fD C nm then some gN else none) rfl;rw[z0]at h3;obtain⟨x,hx⟩:=jl (nv nm);have z3:wr.rangeLeft cm r=cnt:=hR.out.left_eq;rw[<-hx]at O b4 hU b3;have c6:=jq b;have h9:=jq h2;have x0:=jq y4;have a8:=jq X;have a9:=jq Z;have x1:=jq h3;have a1:=jq V;have a2:=jq x5;have h7:=jq z3;rw[b]at hU;unfold gN at hU;clear h2 y4 X Z h3 V x5 Y y2 h1 E x3 x4 y7 F h4 h5 y3 y8 y6 hv I hx a o hR z3 b b8 b9 c0 c1 b5 hc z0 z1;cases j
    ·go_wp2_with fail
     exact⟨⟨_,x2,_,h9,a8,jq (by have:=x1.out;simpa using this),a1⟩,by rw[h9.out.left_eq,h7.out];exact hlt⟩
    ·go_wp2_with fail
     exact⟨⟨_,x2,_,x0,a9,jq (by have:=x1.out;simpa using this),a2⟩,by rw[x0.out.left_eq,h7.out];exact hlt⟩
end Store
end Go.Proofs.YtndkohocgfmamaaGreatDoor
