/- Part. -/
import Derived.Test.YtfgjnpbffppocaaGreatDoorF0
import Derived.Test.YtfgjnpbffppocaaGreatDoorF0Q
import Derived.Test.YtfgjnpbffppocaaGreatDoorF23
import Derived.Test.YtfgjnpbffppocaaGreatDoorF25
import Derived.Lib.Overlaps
import Derived.Lib.AppendZerosOnto
import Derived.Laws.Externs
import Derived.Deep.RegionLaw
set_option maxHeartbeats 2000000
set_option maxRecDepth 100000
namespace Go.Proofs.YtfgjnpbffppocaaGreatDoor
namespace Mani
open Go.RowKit Go.Deep Mem Crc
theorem infoF: (Tryz.prog.info? 106).map (λi=>(i.zero,i.size,i.bytes))=some (some (.agg #[.string ⟨#[]⟩,.int .u32 0,.int .i64 0,.slice none 0 0]),4,56):=by kernel_rfl
theorem run_copy_cellsN {P:Program} (w:World) (dT sT ty elem:TypeId) (sz g o dLen dCap:Nat) (a:Addr) (sLen sCap:Nat) (cur:Array Value) (t:TypeId) (cs:List Value)
  (hu:P.underlying dT=some (.slice elem)) (hs: (P.info? elem).map (·.size)=some sz)
  (hg:w.heap[g]? =some (.cells cur t (0,0))) (hn:cs.length=Nat.min sLen dLen*sz)
  (hsrc:∀j v,cs[j]? =some v->w.cell? (a.add j)=some v) (hfit:o+cs.length<=cur.size) (h1:∀v∈cs,v.oneCell'=true):
  (Builtin.copy_ #[dT,sT] ty #[.slice (some ⟨g,o,none⟩) dLen dCap,.slice (some a) sLen sCap]).run P w =
   .ok (goInt (Nat.min sLen dLen:Nat)) (w.setRow g (cur.toList.take o++cs++cur.toList.drop (o+cs.length)).toArray):=by
 have hl:=run_loadCells_list (P:=P) w a cs hsrc;have hst:=run_storeCells_at P g o t cs 0 cur w hg (by simpa using hfit) h1
 cases hq:P.info? elem with
 |none=>simp[hq]at hs
 |some i=>
  have hi:i.size=sz:=by simpa[hq]using hs
  rw[hn]at hl
  simp[Builtin.copy_,run_underlying hu,Builtin.lenOf,Builtin.firstCells,sizeOf,typeInfo,hq,hi,hl,hst]
section
variable {P:Program} {ops:Array Oper} {o:Oper} {a:Act} {w:World} {K:Act->World->Prop} {Q:Exit->Act->World->Prop} {E:Prop}
theorem step_copy_run (hg:o.guard=none) (d x:Operand) (dT sT:TypeId) (hop:o.op=.call {callee:=.builtin .copy,args:=#[d,x],argTypes:=#[dT,sT]}) (v u:Value) (hd:a.eval d=v) (hx:a.eval x=u) {v':Value} {w':World}
  (hr: (Builtin.copy_ #[dT,sT] o.type #[v,u]).run P w=.ok v' w') (hK:K (a.put o.dst v') w'):if Region.wanted o (yielded ops a.tmps)=true then Oper.wp P o a w K Q else E:=by
 rw[if_pos (by simp[Region.wanted,hg])];unfold Oper.wp execOp;simp only[hop,resolve,invoke,builtin,Sem.run_bind,Sem.run_pure,Result.andThen_ok,List.map_toArray,List.map_cons,List.map_nil,hd,hx,hr];exact hK
theorem list_copy_run {rest:List Oper} (hgd:o.guard=none) (d x:Operand) (dT sT:TypeId) (hop:o.op=.call {callee:=.builtin .copy,args:=#[d,x],argTypes:=#[dT,sT]}) (v u:Value) (hd:a.eval d=v) (hx:a.eval x=u) {v':Value} {w':World}
  (hr: (Builtin.copy_ #[dT,sT] o.type #[v,u]).run P w=.ok v' w') (h:wpList P ops Q rest (a.put o.dst v') w'):wpList P ops Q (o ::rest) a w:=
 wpList_plain hgd λK hK=>by
  unfold Oper.wp execOp;simp only[hop,resolve,invoke,builtin,Sem.run_bind,Sem.run_pure,Result.andThen_ok,List.map_toArray,List.map_cons,List.map_nil,hd,hx,hr];exact hK _ _ h
end
theorem flatF_append (l m:List FR):flatF (l++m)=flatF l++flatF m:=by unfold flatF;rw[List.flatMap_append]
theorem flatF_cons (x:FR) (l:List FR):flatF (x ::l)=x.vs++flatF l:=by unfold flatF;rw[jC]
theorem flatF_take (l:List FR) (i:Nat): (flatF l).take (i*4)=flatF (l.take i):=by
 by_cases h:i<=l.length
 ·have e:flatF l=flatF (l.take i)++flatF (l.drop i):=by rw[<-flatF_append,List.take_append_drop]
  have hl: (flatF (l.take i)).length=i*4:=by rw[flatF_length,jT];omega
  rw[e,<-hl];exact List.take_left
 ·rw[jW (by rw[flatF_length];omega),jW (by omega)]
theorem vs_one (x:FR):∀v∈x.vs,v.oneCell'=true:=λv hv=>by
 unfold FR.vs sv iv at hv;simp only[List.mem_cons,List.not_mem_nil,or_false]at hv;rcases hv with rfl|rfl|rfl|rfl <;> rfl
theorem flatF_one (l:List FR):∀v∈flatF l,v.oneCell'=true:=λv hv=>by
 obtain⟨x,_,hx⟩:=List.mem_flatMap.1 hv;exact vs_one x v hx
theorem spliced {l:List FR} {x:FR} {i n:Nat} {A:List Value} (hl:l.length=n) (hi:i<=n) (hA:A.take (i*4)=flatF (l.take i)) (_: (n+1)*4<=A.length):
  ((A.take (i*4)++x.vs++A.drop (i*4+x.vs.length)).take ((i+1)*4)++flatF (l.drop i)++(A.take (i*4)++x.vs++A.drop (i*4+x.vs.length)).drop ((i+1)*4+(flatF (l.drop i)).length)).take ((n+1)*4)=flatF (l.take i++x ::l.drop i):=by
 have hv:x.vs.length=4:=rfl;have h1: (flatF (l.take i)).length=i*4:=by rw[flatF_length,jT];omega
 have h2: (flatF (l.drop i)).length=(n-i)*4:=by rw[flatF_length,List.length_drop,hl]
 rw[hA,flatF_append,flatF_cons]
 have e1: (flatF (l.take i)++x.vs++A.drop (i*4+x.vs.length)).take ((i+1)*4)=flatF (l.take i)++x.vs:=by
  rw[show(i+1)*4=(flatF (l.take i)++x.vs).length by rw[jL,h1,hv];omega];exact List.take_left
 rw[e1,show(n+1)*4=(flatF (l.take i)++x.vs++flatF (l.drop i)).length by rw[jL,jL,h1,h2,hv];omega,List.take_left]
 simp
theorem spliced_down {l:List FR} {x:FR} {i n:Nat} {A:List Value} (hl:l.length=n) (hi:i<=n) (hA:A.take (n*4)=flatF l) (hs: (n+1)*4<=A.length):
  ((A.take ((i+1)*4)++flatF (l.drop i)++A.drop ((i+1)*4+(flatF (l.drop i)).length)).take (i*4)++x.vs++(A.take ((i+1)*4)++flatF (l.drop i)++A.drop ((i+1)*4+(flatF (l.drop i)).length)).drop (i*4+x.vs.length)).take ((n+1)*4)=flatF (l.take i++x ::l.drop i):=by
 have hv:x.vs.length=4:=rfl;have h1: (flatF (l.take i)).length=i*4:=by rw[flatF_length,jT];omega
 have h2: (flatF (l.drop i)).length=(n-i)*4:=by rw[flatF_length,List.length_drop,hl]
 have hAi:A.take (i*4)=flatF (l.take i):=by
  rw[<-flatF_take,<-hA,List.take_take,Nat.min_eq_left (by omega)]
 have h3: (A.take ((i+1)*4)).length=(i+1)*4:=by rw[jT];omega
 rw[flatF_append,flatF_cons]
 have e1: (A.take ((i+1)*4)++flatF (l.drop i)++A.drop ((i+1)*4+(flatF (l.drop i)).length)).take (i*4)=flatF (l.take i):=by
  rw[List.append_assoc,List.take_append_of_le_length (by rw[h3];omega),List.take_take,Nat.min_eq_left (by omega),hAi]
 have e2: (A.take ((i+1)*4)++flatF (l.drop i)++A.drop ((i+1)*4+(flatF (l.drop i)).length)).drop (i*4+x.vs.length)=flatF (l.drop i)++A.drop ((i+1)*4+(flatF (l.drop i)).length):=by
  rw[List.append_assoc,show i*4+x.vs.length=(A.take ((i+1)*4)).length by rw[h3,hv];omega];exact List.drop_left
 rw[e1,e2,show(n+1)*4=(flatF (l.take i)++x.vs++flatF (l.drop i)).length by rw[jL,jL,h1,h2,hv];omega,<-List.append_assoc,List.take_left]
 simp
end Mani
namespace Mani
open Go.RowKit Go.Deep Mem Crc
attribute [local go_sem] Oper.semAt_some
theorem vs_cells {w:World} {vb:Nat} {x:FR} (hx:Blk w vb 106 x.vs.toArray):∀j u,x.vs[j]? =some u->w.cell? ((⟨vb,0,none⟩:Addr).add j)=some u:=λj u hu=>by
 rw[Addr.add_lit,Nat.zero_add,hx.cell]
 simpa using hu
theorem ins_end {base:Nat} (l:List FR) (x:FR) (v:Value) (vb:Nat) (W:World) (h:W.ownsRow base 106 4 v l.length (flatF l)) (hb:base<=W.heap.size) (hx:Blk W vb 106 x.vs.toArray) (hn:l.length<=200000):
  Calls Tryz.prog 96 #[v,.int .i64 (l.length:Int),.slice (some ⟨vb,0,none⟩) 1 1] W λe w'=>∃v',e=.returned v'/\w'.ownsRow base 106 4 v' (l.length+1) (flatF (l++ [x]))/\Upon (λk=>v.ownBlock=some k) W w':=by
 obtain⟨i0,hi0,hz0,hz1,hz2⟩:=info_parts infoF;have hcs:=vs_cells hx;have hfl:flatF (l++ [x])=flatF l++x.vs:=by rw[flatF_append,flatF_cons];simp[flatF]
 rw[hfl];obtain⟨n,hln⟩:=jl l.length;rw[<-hln]at h hn⊢;obtain⟨xs,hxs⟩:=jl (flatF l);obtain⟨ys,hys⟩:=jl x.vs;have hy4:ys.length=1*4:=by rw[hys];rfl
 have h1:∀u∈ys,u.oneCell'=true:=by rw[hys];exact vs_one x
 rw[<-hxs]at h⊢;rw[<-hys]at hcs⊢;have HO:=jq h;have HCS:=jq hcs;have H1:=jq h1;have fin:∀v' w',w'.ownsRow base 106 4 v' (n+1) (xs++ys)->W.grownBy w' v.ownBlock->∃v'',Ending.returned v'=Ending.returned v''/\w'.ownsRow base 106 4 v'' (n+1) (xs++ys)/\Upon (λk=>v.ownBlock=some k) W w':=λv' w' h1 h2=>⟨v',rfl,h1,Upon.of_grown h2 (λg hg=>.inl hg)⟩
 have HF:=jq fin;clear hcs h1 hxs hys hfl hx hln fin;rcases h.2 with⟨rfl,rfl⟩|⟨g,cap,cur,rfl,_,_,hnc,hcm,_⟩
 ·clear h
  go_enter Tryz.func96,Tryz.ntmps96
  go_wp2_with (first|(at_builtin;refine wpList_append_own _ rfl _ _ 99 rfl base 106 i0 (.agg #[.string ⟨#[]⟩,.int .u32 0,.int .i64 0,.slice none 0 0]) 4 56 Tryz.underlying99 hi0 hz0 hz1 hz2 rfl (by decide) _ _ _ rfl HO.out ⟨vb,0,none⟩ 1 1 _ rfl hy4 HCS.out H1.out ?c1 ?c2 hb ?_))
  case c1=>unfold maxLen;omega
  case c2=>omega
  intro v' w' ho hg _;have HR:=jq (HF.out v' w' ho hg);clear ho hg
  go_wp2_with fail
  go_ret
  exact HR.out
 ·clear h;have hcm2:cap<=9223372036854775807:=by unfold maxLen at hcm;omega
  by_cases he:cap=n
  ·subst he
   go_enter Tryz.func96,Tryz.ntmps96
   go_wp2_with (first|(at_builtin;refine wpList_append_own _ rfl _ _ 99 rfl base 106 i0 (.agg #[.string ⟨#[]⟩,.int .u32 0,.int .i64 0,.slice none 0 0]) 4 56 Tryz.underlying99 hi0 hz0 hz1 hz2 rfl (by decide) _ _ _ rfl HO.out ⟨vb,0,none⟩ 1 1 _ rfl hy4 HCS.out H1.out ?c1 ?c2 hb ?_))
   case c1=>unfold maxLen;omega
   case c2=>omega
   intro v' w' ho hg _;have HR:=jq (HF.out v' w' ho hg);clear ho hg
   go_wp2_with fail
   go_ret
   exact HR.out
  ·have he2:¬((cap:Int)=(n:Int)):=by omega
   go_enter Tryz.func96,Tryz.ntmps96
   go_wp2_with (first|(at_builtin;refine wpList_append_own _ rfl _ _ 99 rfl base 106 i0 (.agg #[.string ⟨#[]⟩,.int .u32 0,.int .i64 0,.slice none 0 0]) 4 56 Tryz.underlying99 hi0 hz0 hz1 hz2 rfl (by decide) _ _ _ rfl HO.out ⟨vb,0,none⟩ 1 1 _ rfl hy4 HCS.out H1.out ?c1 ?c2 hb ?_))
   case c1=>unfold maxLen;omega
   case c2=>omega
   intro v' w' ho hg _;have HR:=jq (HF.out v' w' ho hg);clear ho hg
   go_wp2_with fail
   go_ret
   exact HR.out
theorem ins_room {base:Nat} (l:List FR) (i:Nat) (x:FR) (g cap vb:Nat) (W:World) (h:W.ownsRow base 106 4 (.slice (some ⟨g,0,none⟩) l.length cap) l.length (flatF l)) (hi:i<l.length) (hroom:l.length+1<=cap) (hx:Blk W vb 106 x.vs.toArray) (hne:vb≠g) (hn:l.length<=200000):
  Calls Tryz.prog 96 #[.slice (some ⟨g,0,none⟩) l.length cap,.int .i64 (i:Int),.slice (some ⟨vb,0,none⟩) 1 1] W λe w'=>∃v',e=.returned v'/\w'.ownsRow base 106 4 v' (l.length+1) (flatF (l.take i++x ::l.drop i))/\Upon (λk=>k=g) W w':=by
 obtain⟨i0,hi0,hz0,hz1,hz2⟩:=info_parts infoF;have hsz: (Tryz.prog.info? 106).map (·.size)=some 4:=by rw[hi0];simp[hz1]
 have hcs:=vs_cells hx;obtain⟨_,h2⟩:=h;rcases h2 with⟨e,_⟩|⟨g',cap',cur,e,hbg,hg,hnc,hcm,hcur,htake⟩
 ·cases e
 ·cases e;obtain⟨n,hln⟩:=jl l.length;rw[<-hln]at hi hroom hn hnc htake⊢;have hcl:cur.toList.length=cap*4:=by rw[Array.length_toList,hcur]
  have hdl: (flatF (l.drop i)).length=(n-i)*4:=by rw[flatF_length,List.length_drop,hln]
  have hsO:∀w,(Go.sizeOf 106).run Tryz.prog w=.ok 4 w:=λw=>by simp[sizeOf,typeInfo,hi0,hz1]
  have hshv:W.shape? vb=some (106,4):=by unfold Blk at hx;simp[World.shape?,hx];rfl
  have hshg:W.shape? g=some (106,cap*4):=by simp[World.shape?,hg,hcur]
  have hov:∀lb cb,(callFunc 126 #[.slice (some ⟨vb,0,none⟩) 1 1,.slice (some ⟨g,(i+1)*4,none⟩) lb cb]).run Tryz.prog W=.ok (.value (.bool false)) W:=λlb cb=>by
   rw[run_callFunc_extern Tryz.func126 (by kernel_rfl) (by kernel_rfl) (by kernel_rfl) (e:=Extern.SlicesOverlaps.overlaps #[99,99] #[4]) (by kernel_rfl),
    Lib.run_overlaps_apart W 99 4 106 Tryz.underlying99 4 hsO ⟨vb,0,none⟩ ⟨g,(i+1)*4,none⟩ 1 1 lb cb hne _ _ 4 (cap*4) hshv hshg (by omega) (hx.frozen 0) (hx.frozen 4)]
   rfl
  obtain⟨B1,hB1⟩:∃B1:Array Value,B1=(cur.toList.take ((i+1)*4)++flatF (l.drop i)++cur.toList.drop ((i+1)*4+(flatF (l.drop i)).length)).toArray:=⟨_,rfl⟩
  have hB1s:B1.size=cap*4:=by
   rw[hB1];simp only[List.size_toArray,jL,jT,List.length_drop,hcl,hdl]
   omega
  obtain⟨W1,hW1⟩:=jl (W.drew.setRow g B1)
  have hcp1:∀ty dc sc,(Builtin.copy_ #[99,99] ty #[.slice (some ⟨g,(i+1)*4,none⟩) (n-i) dc,.slice (some ⟨g,i*4,none⟩) (n+1-i) sc]).run Tryz.prog W.drew=.ok (goInt (Nat.min (n+1-i) (n-i):Nat)) W1:=λty dc sc=>by
   rw[hW1,hB1];refine run_copy_cellsN W.drew _ _ ty 106 4 g ((i+1)*4) (n-i) dc ⟨g,i*4,none⟩ (n+1-i) sc cur 106 (flatF (l.drop i)) Tryz.underlying99 hsz hg (by rw[hdl];simp only[Nat.min_def];split <;> omega) (λj u hj=>?_) (by rw[hdl,hcur];omega) (flatF_one _);rw[Addr.add_lit];have hjl:j<(n-i)*4:=by rw[<-hdl];exact(jS.1 hj).1
   have e3: (flatF l)[i*4+j]? =some u:=by
    have e4:flatF l=flatF (l.take i)++flatF (l.drop i):=by rw[<-flatF_append,List.take_append_drop]
    have e5: (flatF (l.take i)).length=i*4:=by rw[flatF_length,jT];omega
    rw[e4,List.getElem?_append_right (by omega),e5,show i*4+j-i*4=j by omega];exact hj
   rw[<-htake,List.getElem?_take_of_lt (by omega),Array.getElem?_toList]at e3;show W.cell? ⟨g,i*4+j,none⟩=_;rw[cell_of_row W g (i*4+j) cur _ (0,0) hg];exact e3
  have hg1:W1.heap[g]? =some (.cells B1 106 (0,0)):=by rw[hW1];exact setRow_heap W.drew g cur B1 _ _ hg
  obtain⟨B2,hB2⟩:∃B2:Array Value,B2=(B1.toList.take (i*4)++x.vs++B1.toList.drop (i*4+x.vs.length)).toArray:=⟨_,rfl⟩;have hv4:x.vs.length=4:=rfl
  have hcp2:∀ty dc,(Builtin.copy_ #[99,99] ty #[.slice (some ⟨g,i*4,none⟩) (n+1-i) dc,.slice (some ⟨vb,0,none⟩) 1 1]).run Tryz.prog W1=.ok (goInt (Nat.min 1 (n+1-i):Nat)) (W1.setRow g B2):=λty dc=>by
   rw[hB2];refine run_copy_cellsN W1 _ _ ty 106 4 g (i*4) (n+1-i) dc ⟨vb,0,none⟩ 1 1 B1 106 x.vs Tryz.underlying99 hsz hg1 (by rw[hv4];simp only[Nat.min_def];split <;> omega) (λj u hj=>?_) (by rw[hv4,hB1s];omega) (vs_one x);rw[hW1];have:=hcs j u hj;rw[Addr.add_lit]at this⊢;rw[cell_setRow_other _ _ _ _ (show vb≠g from hne)];exact this
  have hres:B2.toList.take ((n+1)*4)=flatF (l.take i++x ::l.drop i):=by
   rw[hB2,hB1];exact spliced_down hln.symm (by omega) htake (by rw[hcl];omega)
  have hB2s:B2.size=cap*4:=by
   rw[hB2];simp only[List.size_toArray,jL,jT,List.length_drop,Array.length_toList,hB1s,hv4]
   omega
  have hown: (W1.setRow g B2).ownsRow base 106 4 (.slice (some ⟨g,0,none⟩) (n+1) cap) (n+1) (flatF (l.take i++x ::l.drop i)):=⟨by rw[flatF_length];simp;omega,.inr ⟨g,cap,B2,rfl,hbg,setRow_heap W1 g B1 B2 _ _ hg1,hroom,hcm,hB2s,hres⟩⟩
  have hup:Upon (λk=>k=g) W (W1.setRow g B2):=by
   rw[hW1];refine⟨rfl,rfl,rfl,by simp,λk _ hk=>?_⟩;rw[setRow_other _ _ _ _ hk,setRow_other _ _ _ _ hk]
   rfl
  have HOWN:=jq hown;have HUP:=jq hup;have hcm2:cap<=9223372036854775807:=by unfold maxLen at hcm;omega
  have hne1: ((i:Int)==(n:Int))=false:=by simp;omega
  have hne2:¬((i:Int)=(n:Int)):=by omega
  have hw1:IntKind.i64.wrap ((i:Int)+1)=(i:Int)+1:=by rw[IntKind.wrap_i64];omega
  have hb2:¬(cap=i+1):=by omega
  have hb1: (0:Int)<=(i:Int)+1:=by omega
  have hin:i<=n:=by omega
  have htn: ((i:Int)+1).toNat=i+1:=by omega
  have hb3: (i:Int)<=(n:Int)+1:=by omega
  have hb4:¬(cap=i):=by omega
  have hgt:decide ((cap:Int) <(n:Int)+1)=false:=by simp;omega
  clear hown hup hres hW1 hB2 hB1 hcs htake hcur hdl hcl hB1s hB2s hg1 hg hshv hshg hx hsO hi0 hz0 hz1 hz2 hln hbg hnc hsz
  go_enter Tryz.func96,Tryz.ntmps96
  go_wp2_with (simp only[hov])
  go_region_law (refine step_copy_run rfl _ _ 99 99 rfl (.slice (some ⟨g,(i+1)*4,none⟩) (n-i) (cap-(i+1))) (.slice (some ⟨g,i*4,none⟩) (n+1-i) (cap-i)) (by simp[Act.eval,Act.put]) (by simp[Act.eval,Act.put]) (hcp1 _ _ _) ?_)
  go_wp2_with (at_builtin;refine list_copy_run rfl _ _ 99 99 rfl _ _ rfl rfl (hcp2 _ _) ?_)
  go_ret
  exact⟨_,rfl,HOWN.out,HUP.out⟩
theorem ins_grow {base:Nat} (l:List FR) (i:Nat) (x:FR) (g cap vb:Nat) (W:World) (h:W.ownsRow base 106 4 (.slice (some ⟨g,0,none⟩) l.length cap) l.length (flatF l)) (hb:base<=W.heap.size) (hi:i<l.length) (hroom:cap<l.length+1) (hx:Blk W vb 106 x.vs.toArray) (hn:l.length<=200000):
  Calls Tryz.prog 96 #[.slice (some ⟨g,0,none⟩) l.length cap,.int .i64 (i:Int),.slice (some ⟨vb,0,none⟩) 1 1] W λe w'=>∃v',e=.returned v'/\w'.ownsRow base 106 4 v' (l.length+1) (flatF (l.take i++x ::l.drop i))/\Upon (λk=>k=g) W w':=by
 obtain⟨i0,hi0,hz0,hz1,hz2⟩:=info_parts infoF;have hsz: (Tryz.prog.info? 106).map (·.size)=some 4:=by rw[hi0];simp[hz1]
 have hcs:=vs_cells hx;have hcells:=World.ownsRow.cells (w:=W) h (g:=g) rfl;obtain⟨_,h2⟩:=h;rcases h2 with⟨e,_⟩|⟨g',cap',cur,e,hbg,hg,hnc,hcm,hcur,htake⟩
 ·cases e
 ·cases e;obtain⟨n,hln⟩:=jl l.length;rw[<-hln]at hi hroom hn hnc htake⊢;have hdl: (flatF (l.drop i)).length=(n-i)*4:=by rw[flatF_length,List.length_drop,hln]
  have htl: (flatF (l.take i)).length=i*4:=by rw[flatF_length,jT];omega
  have hfl:flatF l=flatF (l.take i)++flatF (l.drop i):=by rw[<-flatF_append,List.take_append_drop]
  have hold: (Builtin.firstCells i0.size i (.slice (some ⟨g,0,none⟩) i cap)).run Tryz.prog W.drew=.ok (flatF (l.take i)).toArray W.drew:=by
   rw[hz1];refine run_firstCells_some W.drew 4 i ⟨g,0,none⟩ i cap (flatF (l.take i)) htl (λj u hj=>?_);have hj2: (flatF l)[j]? =some u:=by rw[hfl,List.getElem?_append_left (by have:=(jS.1 hj).1;omega)];exact hj
   exact hcells j u hj2
  have hrz:∀ty,(Builtin.append_ #[99,3] ty #[.slice (some ⟨g,0,none⟩) i cap,.int .i64 ((n:Int)+1-(i:Int))]).run Tryz.prog W=.ok (.slice (some ⟨W.heap.size,0,none⟩) (n+1) (grownCap W (n+1) cap 106)) (W.drew.alloc (.cells ((flatF (l.take i)).toArray++Builtin.zeroCells (Value.agg #[.string ⟨#[]⟩,.int .u32 0,.int .i64 0,.slice none 0 0]).cells (n+1-i)++Builtin.zeroCells (Value.agg #[.string ⟨#[]⟩,.int .u32 0,.int .i64 0,.slice none 0 0]).cells (grownCap W (n+1) cap 106-(n+1))) 106)):=λty=>by
   have h:=Lib.run_append_grow_zeros (P:=Tryz.prog) W 99 3 ty 106 i0 _ .i64 .i64 Tryz.underlying99 Tryz.underlying3 hi0 hz0 (some ⟨g,0,none⟩) i cap _ hold (n+1-i) (by omega) (by rw[hz1];decide) (by omega) (by omega) (by rw[hz2];omega) (growslice_fits (by omega) (by rw[hz2];omega));rw[show i+(n+1-i)=n+1 by omega]at h;rw[show(n:Int)+1-(i:Int)=((n+1-i:Nat):Int)by omega];exact h
  obtain⟨G,hG⟩:=jl (grownCap W (n+1) cap 106);have hGn:n+1<=G:=by rw[hG];exact grownCap_ge W _ _ _
  have hGm:G<=maxLen:=by rw[hG];exact grownCap_le_maxLen W (n+1) cap _ (by unfold maxLen;omega)
  obtain⟨N,hN⟩:=jl W.heap.size;obtain⟨ROW,hROW⟩:∃ROW:Array Value,ROW=(flatF (l.take i)).toArray++Builtin.zeroCells (Value.agg #[.string ⟨#[]⟩,.int .u32 0,.int .i64 0,.slice none 0 0]).cells (n+1-i)++Builtin.zeroCells (Value.agg #[.string ⟨#[]⟩,.int .u32 0,.int .i64 0,.slice none 0 0]).cells (G-(n+1)):=⟨_,rfl⟩
  have hRs:ROW.size=G*4:=by
   have hzs: (Value.agg #[Value.string ⟨#[]⟩,.int .u32 0,.int .i64 0,.slice none 0 0]).cells.size=4:=rfl;rw[hROW];simp only[Array.size_append,List.size_toArray,size_zeroCells,hzs,htl]
   omega
  have hRt:ROW.toList.take (i*4)=flatF (l.take i):=by
   rw[hROW,Array.toList_append,Array.toList_append,List.append_assoc,<-htl];exact List.take_left
  rw[<-hG,<-hROW,<-hN]at hrz;obtain⟨W1,hW1⟩:=jl (W.drew.alloc (.cells ROW 106));rw[<-hW1]at hrz;have hg1:W1.heap[N]? =some (.cells ROW 106 (0,0)):=by rw[hW1,hN];exact heap_alloc_new W.drew _
  have hvl:vb<W.heap.size:=hx.lt;have hgl:g<W.heap.size:=(Array.getElem?_eq_some_iff.1 hg).1;have hv4:x.vs.length=4:=rfl;obtain⟨B1,hB1⟩:∃B1:Array Value,B1=(ROW.toList.take (i*4)++x.vs++ROW.toList.drop (i*4+x.vs.length)).toArray:=⟨_,rfl⟩
  have hB1s:B1.size=G*4:=by
   rw[hB1];simp only[List.size_toArray,jL,jT,List.length_drop,Array.length_toList,hRs,hv4]
   omega
  obtain⟨W2,hW2⟩:=jl (W1.setRow N B1);have hold1:∀(k j:Nat),k<W.heap.size->W1.cell? ⟨k,j,none⟩=W.cell? ⟨k,j,none⟩:=λk j hk=>by rw[hW1,World.cell?_alloc_past (w:=W.drew) _ k j hk];rfl
  have hcp1:∀ty dc,(Builtin.copy_ #[99,99] ty #[.slice (some ⟨N,i*4,none⟩) (n+1-i) dc,.slice (some ⟨vb,0,none⟩) 1 1]).run Tryz.prog W1=.ok (goInt (Nat.min 1 (n+1-i):Nat)) W2:=λty dc=>by
   rw[hW2,hB1];refine run_copy_cellsN W1 _ _ ty 106 4 N (i*4) (n+1-i) dc ⟨vb,0,none⟩ 1 1 ROW 106 x.vs Tryz.underlying99 hsz hg1 (by rw[hv4];simp only[Nat.min_def];split <;> omega) (λj u hj=>?_) (by rw[hv4,hRs];omega) (vs_one x);have:=hcs j u hj;rw[Addr.add_lit]at this⊢;rw[hold1 _ _ hvl];exact this
  have hg2:W2.heap[N]? =some (.cells B1 106 (0,0)):=by rw[hW2];exact setRow_heap W1 N ROW B1 _ _ hg1
  obtain⟨B2,hB2⟩:∃B2:Array Value,B2=(B1.toList.take ((i+1)*4)++flatF (l.drop i)++B1.toList.drop ((i+1)*4+(flatF (l.drop i)).length)).toArray:=⟨_,rfl⟩
  have hcp2:∀ty dc sc,(Builtin.copy_ #[99,99] ty #[.slice (some ⟨N,(i+1)*4,none⟩) (n-i) dc,.slice (some ⟨g,i*4,none⟩) (n-i) sc]).run Tryz.prog W2.drew=.ok (goInt (Nat.min (n-i) (n-i):Nat)) (W2.drew.setRow N B2):=λty dc sc=>by
   rw[hB2];refine run_copy_cellsN W2.drew _ _ ty 106 4 N ((i+1)*4) (n-i) dc ⟨g,i*4,none⟩ (n-i) sc B1 106 (flatF (l.drop i)) Tryz.underlying99 hsz hg2 (by rw[hdl];simp only[Nat.min_def];split <;> omega) (λj u hj=>?_) (by rw[hdl,hB1s];omega) (flatF_one _);rw[Addr.add_lit];show W2.cell? ⟨g,i*4+j,none⟩=_;rw[hW2,cell_setRow_other _ _ _ _ (show g≠N by omega),hold1 _ _ hgl];have hj2: (flatF l)[i*4+j]? =some u:=by rw[hfl,List.getElem?_append_right (by omega),htl,show i*4+j-i*4=j by omega];exact hj
   have:=hcells _ _ hj2;rw[Addr.add_lit,Nat.zero_add]at this;exact this
  have hres:B2.toList.take ((n+1)*4)=flatF (l.take i++x ::l.drop i):=by
   rw[hB2,hB1];exact spliced hln.symm (by omega) hRt (by rw[Array.length_toList,hRs];omega)
  have hB2s:B2.size=G*4:=by
   rw[hB2];simp only[List.size_toArray,jL,jT,List.length_drop,Array.length_toList,hB1s,hdl]
   omega
  have hown: (W2.drew.setRow N B2).ownsRow base 106 4 (.slice (some ⟨N,0,none⟩) (n+1) G) (n+1) (flatF (l.take i++x ::l.drop i)):=⟨by rw[flatF_length];simp;omega,.inr ⟨N,G,B2,rfl,by omega,setRow_heap W2.drew N B1 B2 _ _ hg2,hGn,hGm,hB2s,hres⟩⟩
  have hup:Upon (λk=>k=g) W (W2.drew.setRow N B2):=by
   refine Upon.of_below ?_;have hb1:Below W.heap.size W W1:=by rw[hW1];exact(Below.refl _ W).drew.alloc jn _
   have hb2:Below W.heap.size W W2:=by rw[hW2,hN];exact below_setRow hb1 jn _
   rw[hN];exact below_setRow hb2.drew jn _
  have HOWN:=jq hown;have HUP:=jq hup;have hcm2:cap<=9223372036854775807:=by unfold maxLen at hcm;omega
  have hG2:G<=9223372036854775807:=by unfold maxLen at hGm;omega
  have hcn:cap=n:=by omega
  subst hcn;have hne1: ((i:Int)==(cap:Int))=false:=by simp;omega
  have hne2:¬((i:Int)=(cap:Int)):=by omega
  have hw1:IntKind.i64.wrap ((i:Int)+1)=(i:Int)+1:=by rw[IntKind.wrap_i64];omega
  have hb4:¬(cap=i):=by omega
  have hGi:¬(G=i):=by omega
  have hGim:¬(G=i+1):=by omega
  have hb1: (0:Int)<=(i:Int)+1:=by omega
  have hin:i<=cap:=by omega
  have htn: ((i:Int)+1).toNat=i+1:=by omega
  have hb3: (i:Int)<=(cap:Int)+1:=by omega
  have hb5: (i:Int)<=(cap:Int):=by omega
  have hgt:decide ((cap:Int) <(cap:Int)+1)=true:=jd (by omega);clear hN hown hup hres hW1 hW2 hB2 hB1 hROW hG hRs hRt hcells hold hold1 hfl htl hcs htake hcur hdl hB1s hB2s hg1 hg2 hg hx hi0 hz0 hz1 hz2 hln hbg hnc hsz
  go_enter Tryz.func96,Tryz.ntmps96
  go_wp2_with (first|(at_builtin;refine Lib.wpList_append_run _ rfl _ _ _ _ rfl _ _ rfl rfl _ _ (hrz _) ?_)|(at_builtin;refine list_copy_run rfl _ _ 99 99 rfl _ _ rfl rfl (hcp1 _ _) ?_))
  go_region_law (refine step_copy_run rfl _ _ 99 99 rfl (.slice (some ⟨N,(i+1)*4,none⟩) (cap-i) (G-(i+1))) (.slice (some ⟨g,i*4,none⟩) (cap-i) (cap-i)) (by simp[Act.eval,Act.put]) (by simp[Act.eval,Act.put]) (hcp2 _ _ _) ?_)
  go_wp2_with fail
  go_ret
  exact⟨_,rfl,HOWN.out,HUP.out⟩
theorem insert_any {base:Nat} (l:List FR) (i:Nat) (x:FR) (v:Value) (vb:Nat) (W:World) (h:W.ownsRow base 106 4 v l.length (flatF l)) (hb:base<=W.heap.size) (hi:i<=l.length) (hx:Blk W vb 106 x.vs.toArray) (hne:v.ownBlock≠some vb) (hn:l.length<=200000):
  Calls Tryz.prog 96 #[v,.int .i64 (i:Int),.slice (some ⟨vb,0,none⟩) 1 1] W λe w'=>∃v',e=.returned v'/\w'.ownsRow base 106 4 v' (l.length+1) (flatF (l.take i++x ::l.drop i))/\Upon (λk=>v.ownBlock=some k) W w':=by
 by_cases he:i=l.length
 ·subst he;rw[List.take_length,List.drop_length];exact ins_end l x v vb W h hb hx hn
 ·have hv:∃g cap,v=.slice (some ⟨g,0,none⟩) l.length cap:=by
   rcases h.2 with⟨_,h0⟩|⟨g,cap,cur,rfl,_⟩
   ·omega
   ·exact⟨g,cap,rfl⟩
  obtain⟨g,cap,rfl⟩:=hv;have hne2:vb≠g:=λe=>hne (by rw[e];rfl)
  have hw:∀e w',(∃v',e=Ending.returned v'/\World.ownsRow w' base 106 4 v' (l.length+1) (flatF (l.take i++x ::l.drop i))/\Upon (λk=>k=g) W w')->∃v',e=Ending.returned v'/\World.ownsRow w' base 106 4 v' (l.length+1) (flatF (l.take i++x ::l.drop i))/\Upon (λk=>(Value.slice (some ⟨g,0,none⟩) l.length cap).ownBlock=some k) W w':=λe w' ⟨v',h1,h2,h3⟩=>⟨v',h1,h2,h3.mono (λk hk=>by rw[hk];rfl)⟩
  by_cases hr:l.length+1<=cap
  ·exact(ins_room l i x g cap vb W h (by omega) hr hx hne2 hn).mono hw
  ·exact(ins_grow l i x g cap vb W h hb (by omega) (by omega) hx hn).mono hw
end Mani
end Go.Proofs.YtfgjnpbffppocaaGreatDoor
