/- Part. -/
import Derived.Test.YtndkohocgfmamaaGreatDoorF7
import Derived.Test.YtndkohocgfmamaaGreatDoorF15
set_option maxHeartbeats 400000
set_option maxRecDepth 100000
namespace Go.Proofs.YtndkohocgfmamaaGreatDoor
open Go.Proofs.Tryz
namespace Dk
open Go.RowKit Go.Deep Go.Shelf Mem Crc
open jZ (zs sU zf zh zi zk)
variable {w:World}{d g:Nat}{m:DM}{b:List UInt8}
theorem zm{i:Nat}{e:Value}(h:Dk w d g e m)(hb:m.bl[i]? =some b):w.rangeAt g (i*128) (b.map bv):=λj v a=>by
 rw[h.row.cell,jt];exact oU (f:=λb:List UInt8=>b.map bv) (s:=128) (λx c=>by rw[jP];exact h.len x c) hb a
theorem CX(i:Nat)(h:Dk w d g (.slice none 0 0) m)(h6:m.off=false)(F:m.bl[i]? =some b):
  Calls prog 122 #[.pointer (some ⟨d,0,none⟩),.int .i64 (i:Int)] w λe w'=>∃a,e=.returned (.tuple #[.slice a 128 128,.int .i64 0])/\Lies w' a (b.map bv)/\Below w.heap.size w w':=by
 have hi:i<m.bl.length:=(jS.1 F).1;have h3:b.length=128:=h.len b (jM F);have E:=(Below.refl w.heap.size w).alloc jn (Obj.cells #[Value.int .i64 (i:Int)] 3);have c:=h.later E;have h4:qP m i=0:=by unfold qP;rw[h6,if_neg (by decide),if_pos (by omega)]
 have l:=mH i c;rw[h4]at l;have l:=jq l;have q:=c.cells.1;have c1:=c.cells.2.1;have o:=zm c F;have y0:=jq h;obtain⟨n,h5⟩:=jl m.bl.length;rw[<-h5]at q hi;have H: (w.alloc (Obj.cells #[Value.int .i64 (i:Int)] 3)).cell? ⟨w.heap.size,0,none⟩=some (.int .i64 (i:Int)):=by rw[(Blk.new w 3 #[Value.int .i64 (i:Int)]).cell];rfl
 obtain⟨zl,s⟩:∃zl:List Value,zl=b.map bv:=⟨_,rfl⟩;rw[<-s]at o;have y4:∀v∈zl,v.oneCell'=true:=λv G=>by rw[s]at G;exact kN b v G
 have t:zl.length=128:=by rw[s,jP,h3]
 have Q:prog.underlying 220=_:=underlying220;have x8: (prog.info? 220).map (·.size)=some zl.length:=by rw[t];exact sG
 have x9: (prog.info? 220).map (·.size)=some zl.toArray.size:=by simp only[List.size_toArray,t];exact sG
 obtain⟨A,r⟩:=jl (w.alloc (Obj.cells #[Value.int .i64 (i:Int)] 3));clear h4 F h3 h5 h6;have U:A.heap.size=w.heap.size+1:=by rw[r];simp
 rw[<-r]at c l q c1 H o E
 have h8: (A.alloc (.cells Tryz.zeroCells220 220)).drew.there (w.heap.size+1) 0 zl.toArray.size:=by
  have e:zl.toArray.size=128:=by simp[t]
  rw[e,sU,<-U];exact zf A 220 128
 have C:∀W,Below A.heap.size A W->W.cell? ⟨d,0,none⟩=some (.slice (some ⟨g,0,none⟩) n n)/\W.cell? ⟨w.heap.size,0,none⟩=some (.int .i64 (i:Int))/\W.rangeAt g (i*128) zl:=λW f=>
  ⟨(f.cell (p:=⟨d,0,none⟩) c.disk.lt).trans q,(f.cell (p:=⟨w.heap.size,0,none⟩) (by show w.heap.size<_;omega)).trans H,λj v G=>(f.cell (p:=⟨g,i*128+j,none⟩) c.row.lt).trans (o j v G)⟩
 have N:=C A.drew ((Below.refl _ A).drew);have I:Below A.heap.size A (A.alloc (.cells Tryz.zeroCells220 220)).drew:=((Below.refl _ A).alloc jn _).drew;have O:=C _ I;have J:=below_setCells (g:=w.heap.size+1) (by omega) zl 0 I;have P:=C _ J;have R:=jq J;have y:=jq r;have x4:=jq s;have T:=jq t;have HA:=jq E;have y1: (i:Int) <(n:Int):=by omega
 have x2:=jq (show d<w.heap.size+1 from Nat.lt_succ_of_lt h.disk.lt);rw[r]at l N O P q c1 h8;clear h c E s t o H C I J r;refine(callsIn_wide (n:=5)).1 ?_;refine callsIn_of_wp_marks func122 rfl trivial ?_ rfl;simp only[ntmps122,List.size_toArray,List.length_cons,List.length_nil,Nat.reduceAdd,Nat.reduceSub,Array.replicate_succ,Array.replicate_zero,List.push_toArray,List.append_toArray,List.nil_append,List.cons_append];refine wpIn_wide.2 ?_
 go_wp2_with fail
 refine l.out.mono ?_;rintro e w1 ⟨rfl,rfl⟩
 go_wp2_with fail
 go_region_held3 (λw'=>w'.cell? ⟨d,0,none⟩=some (.slice (some ⟨g,0,none⟩) n n)/\w'.cell? ⟨w.heap.size,0,none⟩=some (.int .i64 (i:Int))/\w'.rangeAt g (i*128) zl) (first|exact N|exact O|exact P) (skip)
 obtain⟨W,f⟩:=jl (((w.alloc (Obj.cells #[Value.int .i64 (i:Int)] 3)).alloc (Obj.cells Tryz.zeroCells220 220)).drew.setCells (w.heap.size+1) 0 zl);have L:Below A.heap.size A W:=by rw[f,<-y.out];exact R.out
 have d1:W.cell? ⟨d,1,none⟩=some (.slice none 0 0):=(L.cell (p:=⟨d,1,none⟩) (by rw[U];exact x2.out)).trans (by rw[y.out];exact c1)
 have M:Blk W (w.heap.size+1) 220 zl.toArray:=by
  have h0:Blk ((w.alloc (Obj.cells #[Value.int .i64 (i:Int)] 3)).alloc (Obj.cells Tryz.zeroCells220 220)).drew (w.heap.size+1) 220 (zs 128):=by rw[<-sU];exact Blk.at_ (by simp)
  obtain⟨x5,c,h2⟩:=Blk.splice zl 0 _ _ h0 (by rw[T.out];simp[zs]);rw[f]
  have e:x5=zl.toArray:=by
   apply Array.ext'
   rw[h2,Nat.zero_add,T.out]
   simp[zs]
  rw[<-e];exact c
 have Z:Below w.heap.size w W:=by
  have c:Below w.heap.size w A:=by rw[y.out];exact(Below.refl _ w).alloc jn _
  exact c.trans (L.mono (by omega))
 have x7:w.heap.size+1<W.heap.size:=M.lt;rw[<-f];have x0:=jq M;have x1:=jq Z;clear f L M Z q c1 N O P h8 R y l Q x8 x9
 go_wp2_with (go_at_call 157;refine(zi _).mono ?_;rintro e w3 ⟨rfl,rfl⟩)
 refine(wpIn_wide (n:=4)).1 ?_
 refine wpIn_rangeFunc_ownG (α:=Empty) (encs:=λ_=>#[Value.int .i64 0,Value.int .i64 0]) (gf:=178) (lb:=#[.pointer (some ⟨W.heap.size,0,none⟩)]) rfl (by omega) rfl trivial (enters_of func178 (by kernel_rfl) rfl)
  ((zk _ W.heap.size (W.alloc (.cells #[.slice none 0 0] 103)) (by simp) (by rw[(Blk.new W 103 #[Value.slice none 0 0]).cell];rfl))) (λ_ _=>trivial) (λ_ _ _ _ _ _ _ _=>trivial) (Below.refl _ _) (λ_=>rfl)
  (λ_ V=>Below W.heap.size W V) (λ_ _ _=>False) (ownFrom_below jn (by simp)) (λ_ _ _ _ _ hs _ _=>hs) ((Below.refl _ W).alloc jn _) (λ_=>⟨#[],[]⟩) (λ_ x=>nomatch x) (λ_ _ x=>nomatch x) ?done (λ_ _ _ _ _ h _ _=>False.elim h)
 case done=>
  rintro D ys z hD rfl B hK;have y2:=B.size;dsimp only;have S:=jq hK;have h9:=jq B;have o:=x0.out.below B x7;have y3:=λX:World=>zh (w.heap.size+1) X
  have x3:=jq o;clear hK B o
  go_wp2_with fail
  have x6:w.heap.size+1<D:=by simp at hD;omega
  have Y:Below D z (z.putObj D (.deferred none)):=(Below.refl D z).grown (grownBy_putObj' z D _) (kF (dG.1 S.out).1) (λk e=>by cases e;exact aj _);have h7:=x3.out.below Y x6;refine⟨by simp,.inl ⟨_,_,rfl,run_takeDeferred S.out,?_⟩⟩;refine⟨.tuple #[.slice (some ⟨w.heap.size+1,0,none⟩) 128 128,.int .i64 0],by simp[results,results122,go_sem],_,rfl,?_,(x1.out.trans (h9.out.mono (by omega))).trans (Y.mono (by omega))⟩;refine .inr ⟨_,_,rfl,h7.lt,λj u Q=>?_⟩;rw[h7.cell,Nat.zero_add,jt,x4.out];exact Q
end Dk
end Go.Proofs.YtndkohocgfmamaaGreatDoor
