/- Part. -/
import Derived.Test.YtfgjnpbffppocaaGreatDoorF0
import Derived.Test.YtfgjnpbffppocaaGreatDoorF0Q
import Derived.Test.YtfgjnpbffppocaaGreatDoorF6
import Derived.Test.YtfgjnpbffppocaaGreatDoorF7
import Derived.Deep.AppendLies
import Derived.Deep.RegionHeld3
import Derived.Deep.QuietTactic
import Derived.Deep.RegionLaw
set_option maxHeartbeats 4000000
set_option maxRecDepth 100000
namespace Go.Proofs.YtfgjnpbffppocaaGreatDoor
namespace Pool
open Go.RowKit Go.Deep Mem Crc Walk
theorem flatW_append (a b:List (List Nat)):flatW (a++b)=flatW a++flatW b:=by simp[flatW]
theorem run_append_zero (w:World) (ty:TypeId) (a b:Option Addr) (n cap c:Nat) (hle:n<=cap): (Builtin.append_ #[54,54] ty #[.slice a n cap,.slice b 0 c]).run Tryz.prog w=.ok (.slice a n cap) w:=by
 obtain⟨i0,hi0,hz0,hz1,hz2⟩:=info_parts infoW7;cases a <;> cases b <;> simp[Builtin.append_,run_underlying Tryz.underlying54,sizeOf,typeInfo,hi0,Builtin.lenOf,hle,Builtin.firstCells,loadCells,loadCellsFrom,storeCells,Result.andThen]
theorem step_append_any {ops:Array Oper} {o:Oper} {a:Act} {w:World} {K:Act->World->Prop} {Q:Exit->Act->World->Prop} {E:Prop} (hgd:o.guard=none) (s x:Operand)
  (ho:o.op=.call {callee:=.builtin .append,args:=#[s,x],argTypes:=#[54,54]})
  (base:Nat) (v:Value) (n:Nat) (xs:List Value) (hs:a.eval s=v) (hown:w.ownsRow base 26 7 v n xs)
  (ax:Option Addr) (m c:Nat) (news:List Value) (hx:a.eval x=.slice ax m c) (hl:news.length=m*7) (hL:Lies w ax news) (h1:∀u∈news,u.oneCell'=true)
  (h63:n+m<=1000000) (hbase:base<=w.heap.size)
  (h:∀v' w',w'.ownsRow base 26 7 v' (n+m) (xs++news)->w.grownBy w' v.ownBlock->(∀k,v'.ownBlock=some k->v.ownBlock=some k\/w.heap.size<=k)->K (a.put o.dst v') w'):
  if Region.wanted o (yielded ops a.tmps)=true then Oper.wp Tryz.prog o a w K Q else E:=by
 obtain⟨i0,hi0,hz0,hz1,hz2⟩:=info_parts infoW7
 by_cases hm:m=0
 ·subst hm;obtain⟨sa,sc,rfl,hle,_,_,_⟩:=own_shape hown;have hn:news= []:=List.eq_nil_of_length_eq_zero (by omega);subst hn;have hw:Region.wanted o (yielded ops a.tmps)=true:=by simp[Region.wanted,hgd]
  rw[if_pos hw];have hrun:=run_append_zero w o.type sa ax n sc c hle;unfold Oper.wp
  simp[execOp,ho,resolve,invoke,builtin,hs,hx,hrun,Result.andThen]
  exact h _ _ (by simpa using hown) (World.grownBy.refl w _) (λk hk=>.inl hk)
 ·obtain⟨g,off,rfl,_,_⟩:=hL.resolve_left (λe=>by rw[e]at hl;simp at hl;omega);refine step_append_lies _ hgd s x 54 ho base 26 i0 (.agg #[.int .u32 0,.int .u32 0,.int .u32 0,.int .u32 0,.int .u32 0,.int .u32 0,.int .u32 0]) 7 28 Tryz.underlying54 hi0 hz0 hz1 hz2 rfl (by decide) v n xs hs hown ⟨g,off,none⟩ m c news hx hl (lies_add hL) h1 (by omega) (by unfold maxLen;omega) (by omega) hbase _ rfl ?_;intro g3 cap3 w3 hown3 hgrow3 hat3 _;refine h _ _ hown3 hgrow3 (λk hk=>?_);have:g3=k:=by simpa[Value.ownBlock]using hk
  subst this;rcases hat3 with e|e
  ·exact .inl e
  ·exact .inr (by omega)
theorem flatW_drop:∀(l:List (List Nat)) (n:Nat),(∀x∈l,ok x)->(flatW l).drop (n*7)=flatW (l.drop n)
 |l,0,_=>by simp
 | [],n+1,_=>by simp[flatW]
 |x ::l,n+1,h=>by
  have hx: (vals x).length=7:=by rw[vals_length];exact(h x (by simp)).1
  have e:flatW (x ::l)=vals x++flatW l:=rfl;rw[e,List.drop_append,List.drop_of_length_le (by rw[hx];omega),hx,List.nil_append,show(n+1)*7-7=n*7 by omega,flatW_drop l n (λy hy=>h y (by simp[hy]))]
  rfl
theorem flatW_take:∀(l:List (List Nat)) (n:Nat),(∀x∈l,ok x)->(flatW l).take (n*7)=flatW (l.take n)
 |l,0,_=>by simp[flatW]
 | [],n+1,_=>by simp[flatW]
 |x ::l,n+1,h=>by
  have hx: (vals x).length=7:=by rw[vals_length];exact(h x (by simp)).1
  have e:flatW (x ::l)=vals x++flatW l:=rfl;rw[e,List.take_append,jW (by rw[hx];omega),hx,show(n+1)*7-7=n*7 by omega,flatW_take l n (λy hy=>h y (by simp[hy]))]
  rfl
theorem sub_ok {l:List (List Nat)} (h:∀x∈l,ok x) (n:Nat): (∀x∈l.take n,ok x)/\∀x∈l.drop n,ok x:=⟨λx hx=>h x (List.mem_of_mem_take hx),λx hx=>h x (List.mem_of_mem_drop hx)⟩
def lowA (a:Option Addr) (cap m:Nat):Option Addr:=if cap=m then a else a.map (·.add (m*7))
theorem lowA_blk {a:Option Addr} {cap m g:Nat} (h:blk (lowA a cap m)=some g):blk a=some g:=by
 unfold lowA at h
 split at h
 ·exact h
 ·cases a with
  |none=>cases h
  |some p=>
   unfold Addr.add at h;simp only[Option.map_some,blk]at h⊢
   split at h <;> simpa using h
theorem low_run (a:Option Addr) (len cap m:Nat) (h1:m<=len) (_:len<=cap) (W:World): (Instr.sliceAt 54 (.slice a len cap) (some (.int .i64 (m:Int))) none none).run Tryz.prog W=.ok (.slice (lowA a cap m) (len-m) (cap-m)) W:=by
 have hel:Tryz.prog.elem 54=26:=by kernel_rfl
 have hu:Tryz.prog.underlying 54=some (.slice (Tryz.prog.elem 54)):=by rw[hel];exact Tryz.underlying54
 have hsz:∀W:World,(sizeOf 26).run Tryz.prog W=.ok 7 W:=λW=>by kernel_rfl
 rw[run_sliceAt_slice W _ _ _ _ _ hu,run_slice_l W _ _ _ _ hu .i64 (m:Int) (by omega) (by omega),hel,hsz];unfold lowA
 simp[Result.andThen,sliced]
theorem low_lies {a:Option Addr} {len cap m:Nat} (h1:m<=len) (h2:len<=cap) (W:World) (l:List (List Nat)) (hok:∀x∈l,ok x) (hl:l.length=len) (hL:Lies W a (flatW l)):Lies W (lowA a cap m) (flatW (l.drop m)):=by
 unfold lowA
 by_cases hm:m=len
 ·rw[List.drop_of_length_le (by omega)];exact .inl rfl
 ·rw[if_neg (by omega)]
  by_cases hl0:flatW l= []
  ·have:=flatW_length l hok;rw[hl0]at this
   simp at this
   rw[show l= []from List.eq_nil_of_length_eq_zero (by omega)];exact .inl (by simp[flatW])
  ·obtain⟨g,off,rfl,_,_⟩:=hL.resolve_left hl0;have:=hL.drop (m*7);rw[flatW_drop l m hok]at this;have e: (⟨g,off,none⟩:Addr).add (m*7)=⟨g,off+m*7,none⟩:=by unfold Addr.add;split <;> simp_all
   simp only[Option.map_some,e];exact this
theorem slice_low (a:Option Addr) (len cap m:Nat) (h1:m<=len) (h2:len<=cap):∃a',(∀W:World,(Instr.sliceAt 54 (.slice a len cap) (some (.int .i64 (m:Int))) none none).run Tryz.prog W=.ok (.slice a' (len-m) (cap-m)) W)/\
  ∀(W:World) (l:List (List Nat)),(∀x∈l,ok x)->l.length=len->Lies W a (flatW l)->Lies W a' (flatW (l.drop m)):=
 ⟨_,λW=>low_run a len cap m h1 h2 W,λW l hok hl hL=>low_lies h1 h2 W l hok hl hL⟩
theorem slice_high (a:Option Addr) (len cap m:Nat) (h1:m<=cap) (W:World): (Instr.sliceAt 54 (.slice a len cap) none (some (.int .i64 (m:Int))) none).run Tryz.prog W=.ok (.slice a m cap) W:=by
 have hel:Tryz.prog.elem 54=26:=by kernel_rfl
 have hu:Tryz.prog.underlying 54=some (.slice (Tryz.prog.elem 54)):=by rw[hel];exact Tryz.underlying54
 have hsz:∀W:World,(sizeOf 26).run Tryz.prog W=.ok 7 W:=λW=>by kernel_rfl
 rw[run_sliceAt_slice W _ _ _ _ _ hu,run_slice_h W _ _ _ _ hu .i64 (m:Int) (by omega) (by omega),hel,hsz]
 cases a with
 |none=>simp[Result.andThen,sliced]
 |some p=>
  have:p.add 0=p:=by unfold Addr.add;cases p;split <;> simp_all
  simp[Result.andThen,sliced,this]
theorem run_append_walkers (w:World) (ty:TypeId) (base:Nat) (v:Value) (n:Nat) (xs:List Value) (hown:w.ownsRow base 26 7 v n xs) (ax:Option Addr) (m c:Nat) (news:List Value) (hl:news.length=m*7) (hL:Lies w ax news) (h1:∀u∈news,u.oneCell'=true) (h63:n+m<=1000000) (hbase:base<=w.heap.size):
  ∃va vc w',(Builtin.append_ #[54,54] ty #[v,.slice ax m c]).run Tryz.prog w=.ok (.slice va (n+m) vc) w'/\w'.ownsRow base 26 7 (.slice va (n+m) vc) (n+m) (xs++news)/\w.grownBy w' v.ownBlock/\∀k,(Value.slice va (n+m) vc).ownBlock=some k->v.ownBlock=some k\/w.heap.size<=k:=by
 obtain⟨i0,hi0,hz0,hz1,hz2⟩:=info_parts infoW7
 by_cases hm:m=0
 ·subst hm;obtain⟨sa,sc,rfl,hle,_,_,_⟩:=own_shape hown;have hn:news= []:=List.eq_nil_of_length_eq_zero (by omega);subst hn;exact⟨sa,sc,w,run_append_zero w ty sa ax n sc c hle,by simpa using hown,World.grownBy.refl w _,λk hk=>.inl hk⟩
 ·obtain⟨g,off,rfl,_,_⟩:=hL.resolve_left (λe=>by rw[e]at hl;simp at hl;omega);obtain⟨g3,c3,w3,hr,ho,hg,hat,hlt⟩:=run_append_lies (P:=Tryz.prog) w 54 ty base 26 i0 (.agg #[.int .u32 0,.int .u32 0,.int .u32 0,.int .u32 0,.int .u32 0,.int .u32 0,.int .u32 0]) 7 28 Tryz.underlying54 hi0 hz0 hz1 hz2 rfl (by decide) v n xs hown ⟨g,off,none⟩ m c news hl (lies_add hL) h1 (by omega) (by unfold maxLen;omega) (by omega) hbase w.heap.size rfl;refine⟨_,_,w3,hr,ho,hg,λk hk=>?_⟩;have:g3=k:=by simpa[Value.ownBlock]using hk
  subst this;rcases hat with e|e
  ·exact .inl e
  ·exact .inr (by omega)
theorem take_two {α:Type} (l k:List α) (most:Nat): (l++k).take most=l.take (min most l.length)++k.take (min (most-min most l.length) k.length):=by
 rw[List.take_append]
 by_cases h:most<=l.length
 ·rw[Nat.min_eq_left h,show most-l.length=0 by omega,show most-most=0 by omega]
  simp
 ·rw[Nat.min_eq_right (by omega),List.take_of_length_le (l:=l) (by omega),List.take_of_length_le (l:=l) jn]
  by_cases h2:most-l.length<=k.length
  ·rw[Nat.min_eq_left h2]
  ·rw[Nat.min_eq_right (by omega),List.take_of_length_le (l:=k) (by omega),List.take_of_length_le (l:=k) jn]
theorem drop_min {α:Type} (l:List α) (most:Nat):l.drop (min most l.length)=l.drop most:=by
 by_cases h:most<=l.length
 ·rw[Nat.min_eq_left h]
 ·rw[Nat.min_eq_right (by omega),List.drop_of_length_le jn,List.drop_of_length_le (by omega)]
theorem take_min {α:Type} (l:List α) (most:Nat):l.take (min most l.length)=l.take most:=by
 by_cases h:most<=l.length
 ·rw[Nat.min_eq_left h]
 ·rw[Nat.min_eq_right (by omega),jW jn,jW (by omega)]
end Pool
namespace Pool
open Go.RowKit Go.Deep Mem Crc Walk
attribute [local go_sem] Oper.semAt_some
theorem number_any (g o n c b0 b1 b2 b3:Nat) (W:World) (h0:b0<256) (h1:b1<256) (h2:b2<256) (h3:b3<256) (hn:4<=n)
  (c0:W.cell? ⟨g,o,none⟩=some (.int .u8 (b0:Int))) (c1:W.cell? ⟨g,o+1,none⟩=some (.int .u8 (b1:Int))) (c2:W.cell? ⟨g,o+2,none⟩=some (.int .u8 (b2:Int))) (c3:W.cell? ⟨g,o+3,none⟩=some (.int .u8 (b3:Int))):
  Calls Tryz.prog 89 #[.slice (some ⟨g,o,none⟩) n c] W λe w'=>e=.returned (.int .u32 ((b0+b1*256+b2*65536+b3*16777216:Nat):Int))/\∃q,w'=W.drewN q:=by
 have w0:IntKind.u32.wrap (b0:Int)=b0:=IntWalk.u32_in _ (by omega);have w1:IntKind.u32.wrap (b1:Int)=b1:=IntWalk.u32_in _ (by omega);have w2:IntKind.u32.wrap (b2:Int)=b2:=IntWalk.u32_in _ (by omega);have w3:IntKind.u32.wrap (b3:Int)=b3:=IntWalk.u32_in _ (by omega);have m1:IntKind.u32.wrap (256*(b1:Int))=256*(b1:Int):=IntWalk.u32_in _ (by omega);have m2:IntKind.u32.wrap (65536*(b2:Int))=65536*(b2:Int):=IntWalk.u32_in _ (by omega);have m3:IntKind.u32.wrap (16777216*(b3:Int))=16777216*(b3:Int):=IntWalk.u32_in _ (by omega);have a1:IntKind.u32.wrap ((b0:Int)+256*(b1:Int))=(b0:Int)+256*(b1:Int):=IntWalk.u32_in _ (by omega);have a2:IntKind.u32.wrap ((b0:Int)+256*(b1:Int)+65536*(b2:Int))=(b0:Int)+256*(b1:Int)+65536*(b2:Int):=IntWalk.u32_in _ (by omega);have a3:IntKind.u32.wrap ((b0:Int)+256*(b1:Int)+65536*(b2:Int)+16777216*(b3:Int))=(b0:Int)+256*(b1:Int)+65536*(b2:Int)+16777216*(b3:Int):=IntWalk.u32_in _ (by omega);have e: ((b0+b1*256+b2*65536+b3*16777216:Nat):Int)=(b0:Int)+256*(b1:Int)+65536*(b2:Int)+16777216*(b3:Int):=by omega
 rw[e];clear e
 go_enter Tryz.func89,Tryz.ntmps89
 go_wp2_with fail
 go_quiet (fail)
 go_wp2_with fail
 go_ret
 exact⟨rfl,_,rfl⟩
def All20 (bs:List UInt8) (w:World) (e:Ending) (w':World):Prop:=if bs.length%28=0 then∃v,e=.returned (.tuple #[v,.bool true])/\OwnW w' w.heap.size v (unall (bs.length/28) bs)else∃v,e=.returned (.tuple #[v,.bool false])
theorem all20_any (a:Option Addr) (cp:Nat) (bs:List UInt8) (w:World) (h:Lies w a (bs.map bv)) (hcp:bs.length<=cp) (hm:bs.length<=2000000):
  Calls Tryz.prog 59 #[.slice a bs.length cp] w λe w'=>All20 bs w e w'/\Below w.heap.size w w':=by
 obtain⟨n,hn⟩:=jl bs.length;have HL:=jq h;have HN:=jq hn;rw[<-hn]at hcp hm⊢;clear h hn
 go_enter Tryz.func59,Tryz.ntmps59
 go_wp2_with fail
 go_loopw[0,4] (λb o wr=>∃(k m:Nat) (a':Option Addr) (cp':Nat) (oa:Option Addr) (oc:Nat),b=.slice a' m cp'/\m+k*28=n/\m<=cp'/\o=.slice oa k oc/\Hid (Lies w a' ((bs.drop (k*28)).map bv))/\Hid (OwnW wr w.heap.size o (unall k bs))/\Hid (Below w.heap.size w wr)) (λb _ _=>Walk.lenOf b)
 case atStart=>exact⟨0,n,a,cp,_,_,rfl,by omega,hcp,rfl,jq (by simpa using HL.out),jq (own_empty w 26 7),jq ((Below.refl _ w).alloc jn _)⟩
 case round=>
  obtain⟨k,m,a',cp',oa,oc,rfl,hmk,hmc,rfl,hL,hO,hB⟩:=hrel;have hBs:=hB.out.size
  by_cases h0:0<m
  ·have d0:decide (0<m)=true:=jd h0
   by_cases h28:m<28
   ·have d28:decide (m<28)=true:=jd h28
    go_wp2_with fail
    go_ret2
    refine⟨?_,hB.out.alloc hBs _⟩;unfold All20;rw[if_neg (by rw[<-HN.out];omega)];exact⟨_,rfl⟩
   have d28:decide (m<28)=false:=jf h28;obtain⟨ds,hds⟩:=jl (bs.drop (k*28));have hdl:ds.length=m:=by rw[hds,List.length_drop,<-HN.out];omega
   rw[<-hds]at hL
   obtain⟨g,o,rfl,hg,hc⟩:=hL.out.resolve_left (λe=>by
    rw[List.map_eq_nil_iff]at e;rw[e]at hdl
    simp at hdl
    omega)
   have HCB:Hid (∀j,j<28->wr.cell? ⟨g,o+j,none⟩=some (.int .u8 (at0 ds j:Int))):=jq (λj hj=>by
    have hjl:j<ds.length:=by omega
    refine(hB.out.cell (p:=⟨g,o+j,none⟩) hg).trans ((hc j _ (bv_at (jg hjl))).trans ?_);unfold bv at0;rw[List.getD_eq_getElem?_getD,jg hjl]
    rfl)
   obtain⟨x0,hx0⟩:=jl (Walk.part ds 0 4);obtain⟨x1,hx1⟩:=jl (Walk.part ds 1 4);obtain⟨x2,hx2⟩:=jl (Walk.part ds 2 4);obtain⟨x3,hx3⟩:=jl (Walk.part ds 3 4);obtain⟨x4,hx4⟩:=jl (Walk.part ds 4 4);obtain⟨x5,hx5⟩:=jl (Walk.part ds 5 4);obtain⟨x6,hx6⟩:=jl (Walk.part ds 6 4)
   have HN0:Hid (∀Q:Nat,Calls Tryz.prog 89 #[.slice (some ⟨g,o,none⟩) m cp'] (wr.drewN Q) λe w'=>e=.returned (.int .u32 (x0:Int))/\∃q,w'=wr.drewN q):=jq (λQ=>by
    have:=number_any g (o+0) m cp' (at0 ds 0) (at0 ds (0+1)) (at0 ds (0+2)) (at0 ds (0+3)) (wr.drewN Q) (at0_lt _ _) (at0_lt _ _) (at0_lt _ _) (at0_lt _ _) (by omega) (HCB.out 0 (by omega)) (HCB.out (0+1) (by omega)) (HCB.out (0+2) (by omega)) (HCB.out (0+3) (by omega));rw[show at0 ds 0+at0 ds (0+1)*256+at0 ds (0+2)*65536+at0 ds (0+3)*16777216=x0 by rw[hx0];simp[Walk.part]]at this;refine this.mono (λe w' hh=>⟨hh.1,?_⟩);obtain⟨q,hq⟩:=hh.2;exact⟨_,by rw[hq,World.drewN_drewN]⟩)
   have HN1:Hid (∀Q:Nat,Calls Tryz.prog 89 #[.slice (some ⟨g,o+4,none⟩) (m-4) (cp'-4)] (wr.drewN Q) λe w'=>e=.returned (.int .u32 (x1:Int))/\∃q,w'=wr.drewN q):=jq (λQ=>by
    have:=number_any g (o+4) (m-4) (cp'-4) (at0 ds 4) (at0 ds (4+1)) (at0 ds (4+2)) (at0 ds (4+3)) (wr.drewN Q) (at0_lt _ _) (at0_lt _ _) (at0_lt _ _) (at0_lt _ _) (by omega) (HCB.out 4 (by omega)) (HCB.out (4+1) (by omega)) (HCB.out (4+2) (by omega)) (HCB.out (4+3) (by omega));rw[show at0 ds 4+at0 ds (4+1)*256+at0 ds (4+2)*65536+at0 ds (4+3)*16777216=x1 by rw[hx1];simp[Walk.part]]at this;refine this.mono (λe w' hh=>⟨hh.1,?_⟩);obtain⟨q,hq⟩:=hh.2;exact⟨_,by rw[hq,World.drewN_drewN]⟩)
   have HN2:Hid (∀Q:Nat,Calls Tryz.prog 89 #[.slice (some ⟨g,o+8,none⟩) (m-8) (cp'-8)] (wr.drewN Q) λe w'=>e=.returned (.int .u32 (x2:Int))/\∃q,w'=wr.drewN q):=jq (λQ=>by
    have:=number_any g (o+8) (m-8) (cp'-8) (at0 ds 8) (at0 ds (8+1)) (at0 ds (8+2)) (at0 ds (8+3)) (wr.drewN Q) (at0_lt _ _) (at0_lt _ _) (at0_lt _ _) (at0_lt _ _) (by omega) (HCB.out 8 (by omega)) (HCB.out (8+1) (by omega)) (HCB.out (8+2) (by omega)) (HCB.out (8+3) (by omega));rw[show at0 ds 8+at0 ds (8+1)*256+at0 ds (8+2)*65536+at0 ds (8+3)*16777216=x2 by rw[hx2];simp[Walk.part]]at this;refine this.mono (λe w' hh=>⟨hh.1,?_⟩);obtain⟨q,hq⟩:=hh.2;exact⟨_,by rw[hq,World.drewN_drewN]⟩)
   have HN3:Hid (∀Q:Nat,Calls Tryz.prog 89 #[.slice (some ⟨g,o+12,none⟩) (m-12) (cp'-12)] (wr.drewN Q) λe w'=>e=.returned (.int .u32 (x3:Int))/\∃q,w'=wr.drewN q):=jq (λQ=>by
    have:=number_any g (o+12) (m-12) (cp'-12) (at0 ds 12) (at0 ds (12+1)) (at0 ds (12+2)) (at0 ds (12+3)) (wr.drewN Q) (at0_lt _ _) (at0_lt _ _) (at0_lt _ _) (at0_lt _ _) (by omega) (HCB.out 12 (by omega)) (HCB.out (12+1) (by omega)) (HCB.out (12+2) (by omega)) (HCB.out (12+3) (by omega));rw[show at0 ds 12+at0 ds (12+1)*256+at0 ds (12+2)*65536+at0 ds (12+3)*16777216=x3 by rw[hx3];simp[Walk.part]]at this;refine this.mono (λe w' hh=>⟨hh.1,?_⟩);obtain⟨q,hq⟩:=hh.2;exact⟨_,by rw[hq,World.drewN_drewN]⟩)
   have HN4:Hid (∀Q:Nat,Calls Tryz.prog 89 #[.slice (some ⟨g,o+16,none⟩) (m-16) (cp'-16)] (wr.drewN Q) λe w'=>e=.returned (.int .u32 (x4:Int))/\∃q,w'=wr.drewN q):=jq (λQ=>by
    have:=number_any g (o+16) (m-16) (cp'-16) (at0 ds 16) (at0 ds (16+1)) (at0 ds (16+2)) (at0 ds (16+3)) (wr.drewN Q) (at0_lt _ _) (at0_lt _ _) (at0_lt _ _) (at0_lt _ _) (by omega) (HCB.out 16 (by omega)) (HCB.out (16+1) (by omega)) (HCB.out (16+2) (by omega)) (HCB.out (16+3) (by omega));rw[show at0 ds 16+at0 ds (16+1)*256+at0 ds (16+2)*65536+at0 ds (16+3)*16777216=x4 by rw[hx4];simp[Walk.part]]at this;refine this.mono (λe w' hh=>⟨hh.1,?_⟩);obtain⟨q,hq⟩:=hh.2;exact⟨_,by rw[hq,World.drewN_drewN]⟩)
   have HN5:Hid (∀Q:Nat,Calls Tryz.prog 89 #[.slice (some ⟨g,o+20,none⟩) (m-20) (cp'-20)] (wr.drewN Q) λe w'=>e=.returned (.int .u32 (x5:Int))/\∃q,w'=wr.drewN q):=jq (λQ=>by
    have:=number_any g (o+20) (m-20) (cp'-20) (at0 ds 20) (at0 ds (20+1)) (at0 ds (20+2)) (at0 ds (20+3)) (wr.drewN Q) (at0_lt _ _) (at0_lt _ _) (at0_lt _ _) (at0_lt _ _) (by omega) (HCB.out 20 (by omega)) (HCB.out (20+1) (by omega)) (HCB.out (20+2) (by omega)) (HCB.out (20+3) (by omega));rw[show at0 ds 20+at0 ds (20+1)*256+at0 ds (20+2)*65536+at0 ds (20+3)*16777216=x5 by rw[hx5];simp[Walk.part]]at this;refine this.mono (λe w' hh=>⟨hh.1,?_⟩);obtain⟨q,hq⟩:=hh.2;exact⟨_,by rw[hq,World.drewN_drewN]⟩)
   have HN6:Hid (∀Q:Nat,Calls Tryz.prog 89 #[.slice (some ⟨g,o+24,none⟩) (m-24) (cp'-24)] (wr.drewN Q) λe w'=>e=.returned (.int .u32 (x6:Int))/\∃q,w'=wr.drewN q):=jq (λQ=>by
    have:=number_any g (o+24) (m-24) (cp'-24) (at0 ds 24) (at0 ds (24+1)) (at0 ds (24+2)) (at0 ds (24+3)) (wr.drewN Q) (at0_lt _ _) (at0_lt _ _) (at0_lt _ _) (at0_lt _ _) (by omega) (HCB.out 24 (by omega)) (HCB.out (24+1) (by omega)) (HCB.out (24+2) (by omega)) (HCB.out (24+3) (by omega));rw[show at0 ds 24+at0 ds (24+1)*256+at0 ds (24+2)*65536+at0 ds (24+3)*16777216=x6 by rw[hx6];simp[Walk.part]]at this;refine this.mono (λe w' hh=>⟨hh.1,?_⟩);obtain⟨q,hq⟩:=hh.2;exact⟨_,by rw[hq,World.drewN_drewN]⟩)
   have hsv:seven ds= [x0,x1,x2,x3,x4,x5,x6]:=by
    rw[hx0,hx1,hx2,hx3,hx4,hx5,hx6]
    rfl
   have hul: (unall k bs).length=k:=unall_length k bs;have hO':=hO.out
   have HOV:Hid (∀Q:Nat,((wr.drewN Q).alloc (.cells #[.int .u32 (x0:Int),.int .u32 (x1:Int),.int .u32 (x2:Int),.int .u32 (x3:Int),.int .u32 (x4:Int),.int .u32 (x5:Int),.int .u32 (x6:Int)] 26)).ownsRow w.heap.size 26 7 (.slice oa k oc) k (flatW (unall k bs))):=jq (λQ=>by
    have h1:Below wr.heap.size wr ((wr.drewN Q).alloc (.cells #[.int .u32 (x0:Int),.int .u32 (x1:Int),.int .u32 (x2:Int),.int .u32 (x3:Int),.int .u32 (x4:Int),.int .u32 (x5:Int),.int .u32 (x6:Int)] 26)):=(⟨rfl,rfl,rfl,Nat.le_refl _,λ_ _=>rfl⟩:Below wr.heap.size wr (wr.drewN Q)).alloc jn _;have h2:=own_later hO' h1;rw[hul]at h2;exact h2)
   have HNL:Hid (∀Q:Nat,Lies ((wr.drewN Q).alloc (.cells #[.int .u32 (x0:Int),.int .u32 (x1:Int),.int .u32 (x2:Int),.int .u32 (x3:Int),.int .u32 (x4:Int),.int .u32 (x5:Int),.int .u32 (x6:Int)] 26)) (some ⟨wr.heap.size,0,none⟩) (vals [x0,x1,x2,x3,x4,x5,x6])):=jq (λQ=>new_lies (wr.drewN Q) 26 #[.int .u32 (x0:Int),.int .u32 (x1:Int),.int .u32 (x2:Int),.int .u32 (x3:Int),.int .u32 (x4:Int),.int .u32 (x5:Int),.int .u32 (x6:Int)]);have HSV:=jq hsv;have HDS:=jq hds;have e4: (4:Int)<=(m:Int):=by omega
   have e8: (8:Int)<=(m:Int):=by omega
   have e12: (12:Int)<=(m:Int):=by omega
   have e16: (16:Int)<=(m:Int):=by omega
   have e20: (20:Int)<=(m:Int):=by omega
   have e24: (24:Int)<=(m:Int):=by omega
   have e28: (28:Int)<=(m:Int):=by omega
   have f4:¬cp'=4:=by omega
   have f8:¬cp'=8:=by omega
   have f12:¬cp'=12:=by omega
   have f16:¬cp'=16:=by omega
   have f20:¬cp'=20:=by omega
   have f24:¬cp'=24:=by omega
   clear hc hx0 hx1 hx2 hx3 hx4 hx5 hx6 hds hsv hul hO'
   go_wp2_with fail
   refine wp_region_noPanic ?_;refine wp_region_held_drew (S:=λ_=>True) (by kernel_rfl) trivial (λ_=>?_);refine' Tk.tk1 0 ?_ (hS:=trivial)
   try(simp only[Act.put,ji];try simp only[js,ju])
   refine' Tk.tk1 1 ?_ (hS:=trivial)
   try(simp only[Act.put,ji];try simp only[js,ju])
   refine' Tk.tk1 3 ?_ (hS:=trivial)
   try(simp only[Act.put,ji];try simp only[js,ju])
   refine' Tk.tk1 4 ?_ (hS:=trivial)
   try(simp only[Act.put,ji];try simp only[js,ju])
   refine' Tk.tk1 6 ?_ (hS:=trivial)
   try(simp only[Act.put,ji];try simp only[js,ju])
   refine' Tk.tk1 7 ?_ (hS:=trivial)
   try(simp only[Act.put,ji];try simp only[js,ju])
   refine' Tk.tk1 9 ?_ (hS:=trivial)
   try(simp only[Act.put,ji];try simp only[js,ju])
   refine' Tk.tk1 10 ?_ (hS:=trivial)
   try(simp only[Act.put,ji];try simp only[js,ju])
   refine' Tk.tk1 12 ?_ (hS:=trivial)
   try(simp only[Act.put,ji];try simp only[js,ju])
   refine' Tk.tk1 13 ?_ (hS:=trivial)
   try(simp only[Act.put,ji];try simp only[js,ju])
   refine' Tk.tk1 15 ?_ (hS:=trivial)
   try(simp only[Act.put,ji];try simp only[js,ju])
   refine' Tk.tk1 16 ?_ (hS:=trivial)
   try(simp only[Act.put,ji];try simp only[js,ju])
   refine' Tk.tk1 18 ?_ (hS:=trivial)
   try(simp only[Act.put,ji];try simp only[js,ju])
   refine' Tk.tk1 19 ?_ (hS:=trivial)
   try(simp only[Act.put,ji];try simp only[js,ju])
   refine wpAnyH_ready (rs:=[2]) (by kernel_rfl) (by simp) ?_;refine AllReadyH.cons (by(simp only[jt,jb,ja];rfl)) (λK hK=>?_) AllReadyH.nil;go_simp
   go_at_call 89
   refine(HN0.out 1).mono ?_;rintro e0 w0 ⟨rfl,Q0,rfl⟩;dsimp only;refine hK.out _ _ trivial (λ_=>?_);clear hK K
   try(simp only[Act.put,ji];try simp only[js,ju])
   refine wpAnyH_ready (rs:=[5]) (by kernel_rfl) (by simp) ?_;refine AllReadyH.cons (by(simp only[jt,jb,ja];rfl)) (λK hK=>?_) AllReadyH.nil;go_simp
   go_at_call 89
   refine(HN1.out Q0).mono ?_;rintro e1 w1 ⟨rfl,Q1,rfl⟩;dsimp only;refine hK.out _ _ trivial (λ_=>?_);clear hK K
   try(simp only[Act.put,ji];try simp only[js,ju])
   refine wpAnyH_ready (rs:=[8]) (by kernel_rfl) (by simp) ?_;refine AllReadyH.cons (by(simp only[jt,jb,ja];rfl)) (λK hK=>?_) AllReadyH.nil;go_simp
   go_at_call 89
   refine(HN2.out Q1).mono ?_;rintro e2 w2 ⟨rfl,Q2,rfl⟩;dsimp only;refine hK.out _ _ trivial (λ_=>?_);clear hK K
   try(simp only[Act.put,ji];try simp only[js,ju])
   refine wpAnyH_ready (rs:=[11]) (by kernel_rfl) (by simp) ?_;refine AllReadyH.cons (by(simp only[jt,jb,ja];rfl)) (λK hK=>?_) AllReadyH.nil;go_simp
   go_at_call 89
   refine(HN3.out Q2).mono ?_;rintro e3 w3 ⟨rfl,Q3,rfl⟩;dsimp only;refine hK.out _ _ trivial (λ_=>?_);clear hK K
   try(simp only[Act.put,ji];try simp only[js,ju])
   refine wpAnyH_ready (rs:=[14]) (by kernel_rfl) (by simp) ?_;refine AllReadyH.cons (by(simp only[jt,jb,ja];rfl)) (λK hK=>?_) AllReadyH.nil;go_simp
   go_at_call 89
   refine(HN4.out Q3).mono ?_;rintro e4 w4 ⟨rfl,Q4,rfl⟩;dsimp only;refine hK.out _ _ trivial (λ_=>?_);clear hK K
   try(simp only[Act.put,ji];try simp only[js,ju])
   refine wpAnyH_ready (rs:=[17]) (by kernel_rfl) (by simp) ?_;refine AllReadyH.cons (by(simp only[jt,jb,ja];rfl)) (λK hK=>?_) AllReadyH.nil;go_simp
   go_at_call 89
   refine(HN5.out Q4).mono ?_;rintro e5 w5 ⟨rfl,Q5,rfl⟩;dsimp only;refine hK.out _ _ trivial (λ_=>?_);clear hK K
   try(simp only[Act.put,ji];try simp only[js,ju])
   refine wpAnyH_ready (rs:=[20]) (by kernel_rfl) (by simp) ?_;refine AllReadyH.cons (by(simp only[jt,jb,ja];rfl)) (λK hK=>?_) AllReadyH.nil;go_simp
   go_at_call 89
   refine(HN6.out Q5).mono ?_;rintro e6 w6 ⟨rfl,Q6,rfl⟩;dsimp only;refine hK.out _ _ trivial (λ_=>?_);clear hK K
   try(simp only[Act.put,ji];try simp only[js,ju])
   refine' Tk.tk1 21 ?_ (hS:=trivial)
   try(simp only[Act.put,ji];try simp only[js,ju])
   refine wpAnyH_ready (rs:=[22]) (by kernel_rfl) (by simp) ?_;refine AllReadyH.cons (by(simp only[jt,jb,ja];rfl)) (λK hK=>?_) AllReadyH.nil;go_simp;refine hK.out _ _ trivial (λ_=>?_);clear hK K
   try(simp only[Act.put,ji];try simp only[js,ju])
   refine wpAnyH_ready (rs:=[23]) (by kernel_rfl) (by simp) ?_;refine AllReadyH.cons (by(simp only[jt,jb,ja];rfl)) (λK hK=>?_) AllReadyH.nil;refine step_append_any rfl (.tmp 13) (.tmp 35) rfl w.heap.size _ k (flatW (unall k bs)) (by simp[Act.eval]) (HOV.out Q6) (some ⟨wr.heap.size,0,none⟩) 1 1 (vals [x0,x1,x2,x3,x4,x5,x6]) (by simp[Act.eval]) rfl (HNL.out Q6) (λu hu=>by simp[vals]at hu;rcases hu with rfl|rfl|rfl|rfl|rfl|rfl|rfl <;> rfl) (by omega) (by simp;omega) ?_;intro v5 w5 hown5 hg5 hb5;refine hK.out _ _ trivial (λ_=>?_);clear hK K
   try(simp only[Act.put,ji];try simp only[js,ju])
   refine' Tk.tk1 24 ?_ (hS:=trivial)
   try(simp only[Act.put,ji];try simp only[js,ju])
   refine wpAnyH_done (by kernel_rfl) ?_ _;refine NoPanic.normal ?_;have hAQ:Below w.heap.size w ((wr.drewN Q6).alloc (.cells #[.int .u32 (x0:Int),.int .u32 (x1:Int),.int .u32 (x2:Int),.int .u32 (x3:Int),.int .u32 (x4:Int),.int .u32 (x5:Int),.int .u32 (x6:Int)] 26)):=(hB.out.trans ((⟨rfl,rfl,rfl,Nat.le_refl _,λ_ _=>rfl⟩:Below wr.heap.size wr (wr.drewN Q6)).mono hBs)).alloc hBs _;have hB5:Below w.heap.size w w5:=hAQ.grown hg5 (by simp;omega) (λq hq=>((HOV.out Q6).lt q hq).1);obtain⟨a5,c5,rfl,-⟩:=own_shape hown5
   have hO5:OwnW w5 w.heap.size (.slice a5 (k+1) c5) (unall (k+1) bs):=by
    show World.ownsRow w5 w.heap.size 26 7 _ (unall (k+1) bs).length (flatW (unall (k+1) bs));rw[unall_length,unall_snoc,flatW_snoc,<-HDS.out,HSV.out];exact hown5
   have hLd:Lies w (some ⟨g,o+28,none⟩) ((bs.drop ((k+1)*28)).map bv):=by
    have h1:=hL.out.drop 28;rw[<-List.map_drop,HDS.out,List.drop_drop,show k*28+28=(k+1)*28 by omega]at h1;exact h1
   have hLn:m=28->(bs.drop ((k+1)*28)).map bv= []:=λh=>by
    rw[List.map_eq_nil_iff];exact List.eq_nil_of_length_eq_zero (by rw[List.length_drop,<-HN.out];omega)
   have HB5:=jq hB5;have HO5:=jq hO5;have HLD:=jq hLd;have HLN:=jq hLn;clear hAQ hB5 hO5 hLd hLn hown5 hg5 hb5
   by_cases hlast:cp'=28
   ·subst hlast;obtain rfl:m=28:=by omega
    go_wp2_with fail
    go_roundw
    case rel=>exact⟨k+1,0,some ⟨g,o,none⟩,0,a5,c5,rfl,by omega,Nat.le_refl _,rfl,jq (.inl (HLN.out rfl)),HO5,HB5⟩
    case measure=>simp[Walk.lenOf]
   ·go_wp2_with fail
    go_roundw
    case rel=>exact⟨k+1,m-28,_,cp'-28,a5,c5,rfl,by omega,by omega,rfl,HLD,HO5,HB5⟩
    case measure=>simp[Walk.lenOf];omega
  ·have hm0:m=0:=by omega
   subst hm0;have hk: (unall k bs).length=k:=unall_length k bs
   go_wp2_with fail
   go_ret2
   refine⟨?_,hB.out⟩;unfold All20;rw[if_pos (by rw[<-HN.out];omega)];exact⟨_,rfl,by rw[<-HN.out,show n/28=k by omega];exact hO.out⟩
end Pool
end Go.Proofs.YtfgjnpbffppocaaGreatDoor
