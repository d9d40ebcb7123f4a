/- Part. -/
import Derived.Test.YtcdcnhecimajkaaGreatDoorF0
import Derived.Test.YtcdcnhecimajkaaGreatDoorF0Q
import Derived.Test.YtcdcnhecimajkaaGreatDoorF2
import Derived.Test.YtcdcnhecimajkaaGreatDoorF7
import Derived.Shelf.SlIter.Collect
import Derived.Deep.QuietTactic
import Derived.BigQuiet
import Derived.RegionTactic
import Derived.ChangeAlike
import Derived.ChangeKeysEq
import Derived.Lib.SliceRun
set_option maxHeartbeats 4000000
set_option maxRecDepth 100000
namespace Go.Proofs.YtcdcnhecimajkaaGreatDoor
namespace Runs
open Go.RowKit Go.Deep Go.Shelf Mem Crc Merge
attribute [local go_sem] Oper.semAt_some
theorem infoSl: (Tryz.prog.info? 24).map (λi=>(i.zero,i.size,i.bytes))=some (some (.slice none 0 0),1,24):=by kernel_rfl
abbrev OwnL (w:World) (base:Nat) (v:Value) (xs:List SL):Prop:=w.ownsRow base 24 1 v xs.length (xs.map sl)
theorem belowK_from {n0:Nat} {w:World} (hn:n0<=w.heap.size) (W:World) (l:Nat) (o o':Obj) (hl:w.heap.size<=l) (h:W.heap[l]? =some o) (_:o.isCells=false) (_:o.isWalk=false):Below n0 W (W.putObj l o'):=by
 have hlt:=(Array.getElem?_eq_some_iff.1 h).1;exact(Below.refl _ W).grown (grownBy_putObj' W l o') (by omega) (λq e=>by cases e;omega)
theorem boxed_put {W:World} {B D:Nat} {t:TypeId} {v:Value} {o:Obj} (o':Obj) (h:Boxed W B t v) (hK:W.heap[D]? =some o) (hc:o.isCells=false):Boxed (W.putObj D o') B t v:=
 h.kept (grownBy_putObj' W D o') (λe=>by
  have e:B=D:=by simpa using e
  subst e;rw[show W.heap[B]? =_ from h]at hK;cases hK;cases hc)
theorem appendSeq_any {n0:Nat} (g:Nat) (lb:Array Value) (eg:∀args w,(callFunc g args).run Tryz.prog w=.ok (.enter g args) w) {S Sp:List SL->Prop} {N:Nat} (hN:N<=1000000) (w:World) (hn0:n0<=w.heap.size)
  (hseq:SeqStopsK Fence.wide 4 Tryz.prog g lb (λx:SL=>#[sl x]) (Below n0) S Sp N w):
  Calls Tryz.prog 131 #[.slice none 0 0,.func (.func g) #[] lb] w λe w'=>∃v xs,e=.returned v/\S xs/\xs.length<=N/\OwnL w' w.heap.size v xs/\Below w.heap.size w w':=by
 obtain⟨i0,hi0,hz0,hz1,hz2⟩:=info_parts infoSl;have HSEQ:=jq hseq;clear hseq;refine(callsIn_wide (n:=5)).1 ?_;refine callsIn_of_wp_marks Tryz.func131 rfl trivial ?_ rfl;simp only[Tryz.ntmps131,List.size_toArray,List.length_cons,List.length_nil,Nat.reduceAdd,Nat.reduceSub,Array.replicate_succ,Array.replicate_zero,List.push_toArray,List.append_toArray,List.nil_append,List.cons_append];refine wpIn_wide.2 ?_
 go_wp2_with fail
 obtain⟨W0,hW0⟩:=jl (w.alloc (Obj.cells #[Value.slice none 0 0] 25));have hbx:Boxed W0 w.heap.size 25 (.slice none 0 0):=by rw[hW0];exact Boxed.new _ _ _
 have hB0:Below w.heap.size w W0:=by rw[hW0];exact(Below.refl _ w).alloc jn _
 have hsz:W0.heap.size=w.heap.size+1:=by rw[hW0];simp
 have hown0:OwnL W0 w.heap.size (.slice none 0 0) []:=⟨rfl,.inl ⟨rfl,rfl⟩⟩;rw[<-hW0];clear hW0;refine(wpIn_wide (n:=5)).1 ?_
 refine wpIn_rangeFunc_ownG rfl (by omega) (gf:=g) (lb:=lb) rfl trivial eg HSEQ.out (λh k=>h.trans k) (belowK_from (by omega)) hB0 (λ_=>rfl)
  (λpre W=>((∃v,Boxed W w.heap.size 25 v/\W.ownsRow w.heap.size 24 1 v pre.length (pre.map sl)/\True)/\Below w.heap.size w W)/\pre.length<=N)
  (λ_ _ _=>False)
  (OwnFrom.and (OwnFrom.and (Own.from (holdsRow_own w.heap.size w.heap.size 25 24 1 (λpre:List SL=>pre.length) (λpre=>pre.map sl) (λ_ _=>True)) _) (ownFrom_below jn (by omega))) (λ_ _ _ _ hs _ _=>hs))
  (λ_ _ _ _ _ hs _ _=>hs)
  ⟨⟨⟨_,hbx,hown0,trivial⟩,hB0⟩,Nat.zero_le _⟩
  (λx=>{tmps:=#[.slice none 0 0,.func (.func g) #[] lb,.pointer (some ⟨w.heap.size,0,none⟩),undef,.slice none 0 0,sl x,.func (.func g) #[] lb,sl x,undef,undef,undef,undef,undef],defers:=[]}) ?assign ?body ?done ?stop
 case assign=>
  intro l x W K hK;unfold sl at hK⊢
  gi_wp2
  exact hK
 case body=>
  rintro l pre x W ⟨⟨⟨v,hv,hrow,_⟩,hB⟩,hlN⟩ hlt;have c1:=hv.cell;have hs:=hB.size;have HV:=jq hv;have HB:=jq hB;have HROW:=jq hrow;obtain⟨va,vc,rfl,_,_,_,_⟩:=own_shape hrow;clear hv hB hrow;unfold sl
  gi_wp2_with (first
   |(gi_at_builtin
     refine wpListIn_append_own _ rfl _ _ 25 rfl w.heap.size 24 i0 (.slice none 0 0) 1 24 Tryz.underlying25 hi0 hz0 hz1 hz2 rfl (by decide) _ _ _ rfl (HROW.out.alloc _) ⟨W.heap.size,0,none⟩ 1 1 [sl x] rfl rfl (one_at rfl) (by simp[sl,Value.oneCell']) (by unfold maxLen;omega) (by omega) (by rw[World.size_alloc];omega) ?_;intro v3 w3 hown3 hg3 hnil3;have hap:=HV.out.appended (by decide) HROW.out hs jn hown3 hg3;obtain⟨q1,q2,q3,q4,q5⟩:=hap;obtain⟨ga,gc,rfl⟩:=ownsRow_succ hown3;have g1:=q1.cell;have g2:=q1.frozen;have HQ2:=jq q2;have HQ3:=jq q3;have HQ4:=jq q4;have HQ5:=jq q5;clear q1 q2 q3 q4 q5 hown3 hg3 hnil3)
   |gi_round_op_a)
  refine⟨HQ4.out.from _,?_,⟨⟨_,HQ2.out,?_,trivial⟩,HB.out.trans HQ5.out⟩,by simp;omega⟩
  ·exact HQ5.out.mono hn0
  ·have h3:=HQ3.out;have e: (pre++ [x]).map sl=pre.map sl++ [sl x]:=by simp
   rw[<-e]at h3;rw[jL];exact h3
 case done=>
  rintro D ys W hD hys ⟨⟨⟨v,hv,hrow,_⟩,hB⟩,hlN⟩ hK;have c1:=hv.cell;have g0:=(boxed_put (.deferred none) hv hK rfl).cell;have HK:=jq hK;have HB:=jq hB;have HROW:=jq hrow;have hDW:=(Array.getElem?_eq_some_iff.1 hK).1;obtain⟨va,vc,rfl,_,_,_,_⟩:=own_shape hrow;clear hK hB hv hrow;dsimp only
  go_wp2_with fail
  refine⟨by simp,.inl ⟨_,_,rfl,run_takeDeferred HK.out,?_⟩⟩;refine⟨.slice va ys.length vc,by simp[results,Tryz.f131,go_sem],_,ys,rfl,hys,hlN,ownsRow_putObj HROW.out _ HK.out rfl,?_⟩;exact HB.out.trans ((Below.refl _ W).grown (grownBy_putObj' W D _) (by have:=HB.out.size;omega) (λq e=>by cases e;omega))
 case stop=>
  rintro D c pre W hD _ hI hK;exact hI.elim
theorem collect_any {n0:Nat} (g:Nat) (lb:Array Value) (eg:∀args w,(callFunc g args).run Tryz.prog w=.ok (.enter g args) w) {S Sp:List SL->Prop} {N:Nat} (hN:N<=1000000) (w:World) (hn0:n0<=w.heap.size)
  (hseq:SeqStopsK Fence.wide 4 Tryz.prog g lb (λx:SL=>#[sl x]) (Below n0) S Sp N w):
  Calls Tryz.prog 89 #[.func (.func g) #[] lb] w λe w'=>∃v xs,e=.returned v/\S xs/\xs.length<=N/\OwnL w' w.heap.size v xs/\Below w.heap.size w w':=by
 have HA:=jq (appendSeq_any g lb eg hN w hn0 hseq);clear hseq
 go_enter Tryz.func89,Tryz.ntmps89
 go_wp2_with (refine HA.out.mono ?_;rintro e w1 ⟨v,xs,rfl,h1,h2,h3,h4⟩;obtain⟨va,vc,rfl,_,_,_,_⟩:=own_shape h3;have H3:=jq h3;have H4:=jq h4;clear h3 h4)
 go_ret
 exact⟨_,xs,rfl,h1,h2,H3.out,H4.out⟩
theorem collect_values {a:Option Addr} {c:Nat} {vs:List SL} (w:World) (Bs:Nat) (hBs:Bs<w.heap.size) {w0:World} (hL:Lies w0 a (vs.map sl)) (hlc:vs.length<=c) (hmax:vs.length<=1000000) (hB:Below w0.heap.size w0 w) (hc:w.cell? ⟨Bs,0,none⟩=some (.slice a vs.length c)):
  Calls Tryz.prog 89 #[.func (.func 114) #[] #[.pointer (some ⟨Bs,0,none⟩)]] w λe w'=>∃v,e=.returned v/\OwnL w' w.heap.size v vs/\Below w.heap.size w w':=by
 refine(collect_any _ _ (enters_of Tryz.func114 (by kernel_rfl) rfl) hmax w hB.size (values_gives Fence.wide 4 trivial rfl (by omega) Bs hL hlc hmax hB hBs hc)).mono ?_;rintro e w' ⟨v,xs,rfl,rfl,_,h1,h2⟩;exact⟨v,rfl,h1,h2⟩
end Runs
namespace Runs
open Go.RowKit Go.Deep Go.Shelf Mem Crc Merge
attribute [local go_sem] Oper.semAt_some
theorem infoRow: (Tryz.prog.info? 25).map (λi=>(i.zero,i.size,i.bytes))=some (some (.slice none 0 0),1,24):=by kernel_rfl
abbrev OwnR (w:World) (base:Nat) (v:Value) (xs:List SL):Prop:=w.ownsRow base 25 1 v xs.length (xs.map sl)
theorem cloneRows_any (ad:Addr) (cp:Nat) (vs:List SL) (w:World) (h:Lies w (some ad) (vs.map sl)) (hm:vs.length<=1000000):
  Calls Tryz.prog 93 #[.slice (some ad) vs.length cp] w λe w'=>∃v,e=.returned v/\OwnR w' w.heap.size v vs/\Below w.heap.size w w':=by
 obtain⟨i0,hi0,hz0,hz1,hz2⟩:=info_parts infoRow;have hne:=λw=>Lib.run_eql_slice_nil (P:=Tryz.prog) w 127 25 (some ad) vs.length cp 0 0 Tryz.underlying127
 have hal:=(Below.refl w.heap.size w).alloc jn (.cells #[] 25);have hown:=own_empty w 25 1;have HC:=jq (lies_add (h.later hal))
 have H1:=jq (show∀u∈vs.map sl,u.oneCell'=true from λu hu=>by
  obtain⟨x,_,rfl⟩:=List.mem_map.1 hu
  rfl)
 have HA:=jq hal;clear h hal
 go_enter Tryz.func93,Tryz.ntmps93
 go_wp2_with (first|(at_builtin;refine wpList_append_own _ rfl _ _ 127 rfl w.heap.size 25 i0 (.slice none 0 0) 1 24 Tryz.underlying127 hi0 hz0 hz1 hz2 rfl (by decide) _ _ _ rfl hown ad vs.length cp (vs.map sl) rfl ?c1 HC.out H1.out ?c3 ?c4 ?c5 ?_))
 case c1=>simp
 case c3=>unfold maxLen;omega
 case c4=>omega
 case c5=>simp
 intro v' w1 hown1 hgrow1 hv;have hB1:Below w.heap.size w w1:=HA.out.grown hgrow1 (by simp) (λq hq=>(hown.lt q hq).1);have HO:=jq (show OwnR w1 w.heap.size v' vs by simpa using hown1);clear hown1 hgrow1 hv
 go_wp2_with fail
 go_ret
 exact⟨v',rfl,HO.out,hB1⟩
end Runs
namespace Runs
open Go.RowKit Go.Deep Go.Shelf Mem Crc Merge
attribute [local go_sem] Oper.semAt_some
theorem RecAt.drewN {w:World} {v:Value} {b:B} (h:RecAt w v b) (n:Nat):RecAt (w.drewN n) v b:=h
theorem cmp_neg (a b:B):decide (cmpB a b<0)=decide (a<b):=by
 rw[decide_eq_decide];exact cmpB_lt _ _
theorem less_any (w:World) (g off n c i k:Nat) (hi:i<n) (hk:k<n) (_:n<=1000000) (p q:Addr) (np cp nq cq:Nat) (hp0:0<np) (hq0:0<nq) (x y:SL) (a b:B)
  (h1:w.cell? ⟨g,off+i,none⟩=some (.slice (some p) np cp)) (h2:w.cell? ⟨g,off+k,none⟩=some (.slice (some q) nq cq)) (h3:w.cell? p=some (sl x)) (h4:w.cell? q=some (sl y)) (h5:RecAt w (sl x) a) (h6:RecAt w (sl y) b):
  Calls Tryz.prog 211 #[.slice (some ⟨g,off,none⟩) n c,.int .i64 i,.int .i64 k] w λe w'=>e=.returned (.bool (decide (a<b)))/\∃m,w'=w.drewN m:=by
 obtain⟨xa,xn,xc⟩:=x;obtain⟨ya,yn,yc⟩:=y;have HC:=jq (λm=>compare_any _ _ a b (w.drewN m) (h5.drewN m) (h6.drewN m));have HE:=jq (cmp_neg a b);unfold sl at h3 h4 HC;dsimp only at h3 h4 HC;have e3:p.add 0=p:=by unfold Addr.add;split <;> simp_all
 have e4:q.add 0=q:=by unfold Addr.add;split <;> simp_all
 clear h5 h6
 go_enter Tryz.func211,Tryz.ntmps211
 go_wp2_with fail
 go_quiet ((go_at_call 76;refine Calls.quiet_of_same (HC.out _)))
 go_wp2_with fail
 go_ret
 exact⟨by rw[HE.out];rfl,_,rfl⟩
end Runs
namespace Runs
open Go.RowKit Go.Deep Go.Shelf Mem Crc Merge
attribute [local go_sem] Oper.semAt_some
theorem len_any (w:World) (a:Option Addr) (n c:Nat):Calls Tryz.prog 96 #[.slice a n c] w λe w'=>e=.returned (.int .i64 n)/\w'=w:=by
 go_enter Tryz.func96,Tryz.ntmps96
 go_wp2
 go_ret
 exact⟨rfl,rfl⟩
theorem swap_any (w:World) (g off n c i k:Nat) (hi:i<n) (hk:k<n) (_:n<=1000000) (x y:SL) (hne:i≠k)
  (h1:w.cell? ⟨g,off+i,none⟩=some (sl x)) (h2:w.cell? ⟨g,off+k,none⟩=some (sl y)) (f1:w.frozen? ⟨g,off+i,none⟩=false) (f2:w.frozen? ⟨g,off+k,none⟩=false):
  Calls Tryz.prog 212 #[.slice (some ⟨g,off,none⟩) n c,.int .i64 i,.int .i64 k] w λe w'=>e=.returned (.tuple #[])/\w'=((w.setCell ⟨g,off+i,none⟩ (sl y)).setCell ⟨g,off+k,none⟩ (sl x)).drew:=by
 obtain⟨xa,xn,xc⟩:=x;obtain⟨ya,yn,yc⟩:=y;unfold sl at h1 h2⊢;dsimp only at h1 h2⊢
 go_enter Tryz.func212,Tryz.ntmps212
 go_wp2
 go_region
 go_wp2
 go_end0
 exact⟨rfl,rfl⟩
theorem swap_self (w:World) (g off n c i:Nat) (hi:i<n) (_:n<=1000000) (x:SL)
  (h1:w.cell? ⟨g,off+i,none⟩=some (sl x)) (f1:w.frozen? ⟨g,off+i,none⟩=false):
  Calls Tryz.prog 212 #[.slice (some ⟨g,off,none⟩) n c,.int .i64 i,.int .i64 i] w λe w'=>e=.returned (.tuple #[])/\w'=((w.setCell ⟨g,off+i,none⟩ (sl x)).setCell ⟨g,off+i,none⟩ (sl x)).drew:=by
 obtain⟨xa,xn,xc⟩:=x;unfold sl at h1⊢;dsimp only at h1⊢
 go_enter Tryz.func212,Tryz.ntmps212
 go_wp2
 go_region
 go_wp2
 go_end0
 exact⟨rfl,rfl⟩
end Runs
namespace Runs
open Go.RowKit Go.Deep Go.Shelf Mem Crc Merge
attribute [local go_sem] Oper.semAt_some
theorem pop_any (w:World) (hb g off n c:Nat) (hn:n+1<=1000000) (hc:n+1<=c) (x:SL) (h0:w.cell? ⟨hb,0,none⟩=some (.slice (some ⟨g,off,none⟩) (n+1) c)) (f0:w.frozen? ⟨hb,0,none⟩=false) (h1:w.cell? ⟨g,off+n,none⟩=some (sl x)):
  Calls Tryz.prog 213 #[.pointer (some ⟨hb,0,none⟩)] w λe w'=>e=.returned (.iface 25 (sl x))/\∃m,w'=(w.drewN m).setCell ⟨hb,0,none⟩ (.slice (some ⟨g,off,none⟩) n c):=by
 obtain⟨xa,xn,xc⟩:=x;unfold sl at h1⊢;dsimp only at h1⊢;have hs:RowKit.wrap64 ((n:Int)+1-1)=n:=IntWalk.wrap64_in _ (by omega) |>.trans (by omega)
 go_enter Tryz.func213,Tryz.ntmps213
 go_wp2
 go_quiet (fail)
 go_wp2
 go_region
 go_wp2
 go_ret
 exact⟨rfl,_,rfl⟩
end Runs
namespace Runs
open Go.RowKit Go.Deep Go.Shelf Mem Crc Merge
theorem meth_one (P:Program) (fuel:Nat) (t:TypeId) (name:String) (i:TypeInfo) (m:Go.Method) (f:FuncId) (el e0:TypeId) (w:World) (a:Addr) (v:Value) (hi:P.info? t=some i) (hm:i.methods.find? (·.name==name)=some m) (hp:m.path=#[]) (hf:m.func=some (f,false)) (hu:P.underlying t=some (.pointer el)) (he:P.underlying el=some (.slice e0)) (h:w.cell? a=some v):
  (method (fuel+1) t (.pointer (some a)) name).run P w=.ok (f,v) w:=by
 have e1:=run_typeInfo w hi;have e2:=run_underlying hu w;have e3:=run_isAgg_plain he rfl w
 have e4 : ∀ s : String, (Builtin.ssaWrapNilChk_ #[t] t #[.pointer (some a), strVal "", strVal s]).run P w = .ok (.pointer (some a)) w := λs => rfl
 simp only[method,Sem.run_bind,e1,Result.andThen_ok,hm,hp,hf,follow,Sem.run_pure,receiverAt,e2,Place.get,Array.isEmpty,List.size_toArray,List.length_nil,decide_true,if_true,e4]
 simp[loadVar,asAddr,e3,h,Result.andThen]
theorem infoLen : ((Tryz.prog.info? 174).bind (λi => i.methods.find? (·.name == "Len"))).map (λm => (m.path, m.func)) = some (#[], some (96, false)) := by kernel_rfl
theorem infoLess : ((Tryz.prog.info? 174).bind (λi => i.methods.find? (·.name == "Less"))).map (λm => (m.path, m.func)) = some (#[], some (211, false)) := by kernel_rfl
theorem infoSwap : ((Tryz.prog.info? 174).bind (λi => i.methods.find? (·.name == "Swap"))).map (λm => (m.path, m.func)) = some (#[], some (212, false)) := by kernel_rfl
theorem meth_of (n:Nat) (name:String) (f:FuncId) (hI: ((Tryz.prog.info? 174).bind (λi=>i.methods.find? (·.name==name))).map (λm=>(m.path,m.func))=some (#[],some (f,false))) (w:World) (a:Addr) (v:Value) (h:w.cell? a=some v):
  (method (n+1) 174 (.pointer (some a)) name).run Tryz.prog w=.ok (f,v) w:=by
 rw[Option.map_eq_some_iff]at hI;obtain⟨m,h1,h2⟩:=hI;rw[Option.bind_eq_some_iff]at h1;obtain⟨i,hi,hm⟩:=h1;exact meth_one Tryz.prog n _ name i m f _ _ w a v hi hm (congrArg Prod.fst h2) (congrArg Prod.snd h2) Tryz.underlying174 Tryz.underlying170 h
theorem meth_len (n : Nat) (w : World) (a : Addr) (v : Value) (h : w.cell? a = some v) : (method (n + 1) 174 (.pointer (some a)) "Len").run Tryz.prog w = .ok (96, v) w := meth_of n _ _ infoLen w a v h
theorem meth_less (n : Nat) (w : World) (a : Addr) (v : Value) (h : w.cell? a = some v) : (method (n + 1) 174 (.pointer (some a)) "Less").run Tryz.prog w = .ok (211, v) w := meth_of n _ _ infoLess w a v h
theorem meth_swap (n : Nat) (w : World) (a : Addr) (v : Value) (h : w.cell? a = some v) : (method (n + 1) 174 (.pointer (some a)) "Swap").run Tryz.prog w = .ok (212, v) w := meth_of n _ _ infoSwap w a v h
theorem meth_pop (n : Nat) (w : World) (a : Addr) : (method (n + 1) 174 (.pointer (some a)) "Pop").run Tryz.prog w = .ok (213, .pointer (some a)) w := by kernel_rfl
end Runs
namespace Runs
open Go.RowKit Go.Deep Go.Shelf Mem Crc Merge Heap
attribute [local go_sem] Oper.semAt_some
abbrev El:=SL×Row
def ltE (a b:El):Prop:=lt a.2 b.2
theorem ordE:Ord ltE:=⟨λa b=>ord.asym a.2 b.2,λa b c=>ord.trans a.2 b.2 c.2⟩
theorem recs_upon {w w':World} {vs:List SL} {held:List B} {R P:Nat->Prop} (h:RecsIn w (vs.map sl) held) (hu:Upon P w w') (rb:∀y∈vs,∀g,Mem.blk y.1=some g->R g) (hR:∀g,R g->¬P g):RecsIn w' (vs.map sl) held:=
 ⟨h.len,λi v b hv' hb=>by
  obtain⟨a,c,e,h1,h2⟩:=h.at_ i v b hv' hb;refine⟨a,c,e,h1,h2.upon hu (λg hg=>?_)⟩;rw[List.getElem?_map,Option.map_eq_some_iff]at hv';obtain⟨y,hy,e2⟩:=hv'
  have ey:y.1=a:=by
   rw[e]at e2;unfold sl at e2;injection e2
  exact hR g (rb y (jM hy) g (by rw[ey];exact hg))⟩
def RowB (w:World) (U:Nat->Prop) (r:SL×List B):Prop:=
 ∃(a:Option Addr) (c:Nat) (vs:List SL),r.1=(a,r.2.length,c)/\r.2.length<=c/\vs.length=r.2.length/\Lies w a (vs.map sl)/\(∀g,Mem.blk a=some g->U g)/\RecsIn w (vs.map sl) r.2/\∀y∈vs,∀g,Mem.blk y.1=some g->U g
theorem RowB.at_ {w:World} {U:Nat->Prop} {r:SL×List B} (h:RowB w U r):RowAt w (sl r.1) r.2:=by
 obtain⟨a,c,vs,e,h1,h2,h3,h4,h5,h6⟩:=h;exact⟨a,c,vs.map sl,by rw[e];rfl,h1,h3,h5⟩
theorem RowB.upon {w w':World} {U P:Nat->Prop} {r:SL×List B} (h:RowB w U r) (hu:Upon P w w') (hP:∀g,U g->¬P g):RowB w' U r:=by
 obtain⟨a,c,vs,e,h1,h2,h3,h4,h5,h6⟩:=h;exact⟨a,c,vs,e,h1,h2,h3.upon hu (λg hg=>hP g (h4 g hg)),h4,recs_upon h5 hu h6 hP,h6⟩
theorem RowB.later {w w':World} {U:Nat->Prop} {r:SL×List B} (h:RowB w U r) (hB:Below w.heap.size w w'):RowB w' U r:=h.upon (P:=λ_=>False) (Upon.of_below hB) (λ_ _ h=>h)
theorem RowB.mono {w:World} {U V:Nat->Prop} {r:SL×List B} (h:RowB w U r) (hU:∀g,U g->V g):RowB w V r:=by
 obtain⟨a,c,vs,e,h1,h2,h3,h4,h5,h6⟩:=h;exact⟨a,c,vs,e,h1,h2,h3,λg hg=>hU g (h4 g hg),h5,λy hy g hg=>hU g (h6 y hy g hg)⟩
structure Base where
 w:World
 U:Nat->Prop
 lt:∀k,U k->k<w.heap.size
structure Keeps (w0:Base) (w:World):Prop where
 size:w0.w.heap.size<=w.heap.size
 block:∀k,w0.U k->w.heap[k]? =w0.w.heap[k]?
theorem Keeps.only {w0:Base} {X Y:World} (h:Keeps w0 X) {bs:List Nat} (ho:Only bs X Y) (hb:∀k∈bs,w0.w.heap.size<=k):Keeps w0 Y:=
 ⟨Nat.le_trans h.size ho.size,λk hk=>(ho.block k (Nat.lt_of_lt_of_le (w0.lt k hk) h.size) (λhm=>by have:=hb k hm;have:=w0.lt k hk;omega)).trans (h.block k hk)⟩
theorem Keeps.below {w0:Base} {X Y:World} (h:Keeps w0 X) {B0:Nat} (hB:Below B0 X Y) (h0:w0.w.heap.size<=B0):Keeps w0 Y:=
 ⟨Nat.le_trans h.size hB.size,λk hk=>(hB.block k (Nat.lt_of_lt_of_le (w0.lt k hk) h0)).trans (h.block k hk)⟩
theorem RowB.keep {w0:Base} {X:World} {r:SL×List B} (h:RowB w0.w w0.U r) (hk:Keeps w0 X):RowB X w0.U r:=by
 obtain⟨a,c,vs,e,h1,h2,h3,h4,h5,h6⟩:=h;refine⟨a,c,vs,e,h1,h2,h3.keep hk.size (λg hg=>hk.block g (h4 g hg)),h4,⟨h5.len,λi v b hv' hb=>?_⟩,h6⟩;obtain⟨a',c',e',h7,h8⟩:=h5.at_ i v b hv' hb;refine⟨a',c',e',h7,h8.keep hk.size (λg hg=>hk.block g ?_)⟩;rw[List.getElem?_map,Option.map_eq_some_iff]at hv';obtain⟨y,hy,e2⟩:=hv'
 have ey:y.1=a':=by
  rw[e']at e2;unfold sl at e2;injection e2
 exact h6 y (jM hy) g (by rw[ey];exact hg)
structure Heads (w0:Base) (w:World) (hb g N c:Nat) (x:Nat->SL):Prop where
 cell:Blk w hb 170 #[.slice (some ⟨g,0,none⟩) N c]
 row:∃cs,Blk w g 25 cs/\∀k,k<N->cs[k]? =some (sl (x k))
 le:N<=c
 below:Keeps w0 w
 old:w0.w.heap.size<=hb/\w0.w.heap.size<=g
 few:N<=1000000
theorem Heads.ne {w0:Base} {w:World} {hb g N c:Nat} {x:Nat->SL} (h:Heads w0 w hb g N c x):hb≠g:=by
 obtain⟨cs,h1,_⟩:=h.row;exact h.cell.ne h1 (by decide)
theorem Heads.drewN {w0:Base} {w:World} {hb g N c:Nat} {x:Nat->SL} (h:Heads w0 w hb g N c x) (n:Nat):Heads w0 (w.drewN n) hb g N c x:=
 ⟨h.cell,h.row,h.le,⟨h.below.size,h.below.block⟩,h.old,h.few⟩
theorem Heads.swap {w0:Base} {w:World} {hb g N c:Nat} {x:Nat->SL} (h:Heads w0 w hb g N c x) {i k:Nat} (hi:i<N) (hk:k<N):
  Heads w0 ((w.setCell ⟨g,i,none⟩ (sl (x k))).setCell ⟨g,k,none⟩ (sl (x i))).drew hb g N c (Heap.swap x i k)/\Only [g] w ((w.setCell ⟨g,i,none⟩ (sl (x k))).setCell ⟨g,k,none⟩ (sl (x i))).drew:=by
 obtain⟨cs,h1,h2⟩:=h.row;have hne:=h.ne;have ho:Only [g] w ((w.setCell ⟨g,i,none⟩ (sl (x k))).setCell ⟨g,k,none⟩ (sl (x i))).drew:=(((Only.refl [g] w).set (p:=⟨g,i,none⟩) (.inl (by simp)) _).set (p:=⟨g,k,none⟩) (.inl (by simp)) _).drew
 have hsz:N<=cs.size:=by
  rcases Nat.eq_zero_or_pos N with h0|h0
  ·omega
  ·have:=(Array.getElem?_eq_some_iff.1 (h2 (N-1) (by omega))).1
   omega
 refine⟨⟨Blk.only h.cell ho (by simpa using hne),⟨_,((h1.set i (sl (x k))).set k (sl (x i))).drew,λj hj=>?_⟩,h.le,h.below.only ho (by simpa using h.old.2),h.old,h.few⟩,ho⟩;rw[Array.getElem?_setIfInBounds,Array.getElem?_setIfInBounds];simp only[Array.size_setIfInBounds];unfold Heap.swap
 by_cases e1:j=i
 ·subst e1
  by_cases e2:k=j
  ·subst e2
   simp[show k<cs.size by omega]
  ·simp[e2,show j<cs.size by omega]
 ·by_cases e2:j=k
  ·subst e2
   simp[e1,show j<cs.size by omega]
  ·rw[if_neg (Ne.symm e2),if_neg (Ne.symm e1),if_neg e1,if_neg e2];exact h2 j hj
def Up (w0:Base) (f:Nat->El) (n:Nat):Prop:=∀k,k<n->RowB w0.w w0.U ((f k).1,(f k).2.1)
theorem Up.swap {w0:Base} {f:Nat->El} {n i k:Nat} (h:Up w0 f n) (hi:i<n) (hk:k<n):Up w0 (Heap.swap f i k) n:=λj hj=>by
 unfold Heap.swap
 split
 ·exact h k hk
 ·split
  ·exact h i hi
  ·exact h j hj
theorem swap_fst (f:Nat->El) (i k:Nat): (λj=>(Heap.swap f i k j).1)=Heap.swap (λj=>(f j).1) i k:=by
 funext j
 unfold Heap.swap
 split
 ·rfl
 ·split <;> rfl
theorem less_of {w0:Base} {w:World} {hb g N c:Nat} {f:Nat->El} (h:Heads w0 w hb g N c (λk=>(f k).1)) {n:Nat} (hu:Up w0 f n) (hnN:n<=N) {i k:Nat} (hi:i<n) (hk:k<n):
  Calls Tryz.prog 211 #[.slice (some ⟨g,0,none⟩) N c,.int .i64 i,.int .i64 k] w λe w'=>∃b:Bool,e=.returned (.bool b)/\(b=true↔ltE (f i) (f k))/\∃m,w'=w.drewN m:=by
 obtain⟨cs,h1,h2⟩:=h.row;obtain⟨ai,ci,vi,ei,li,Li,Ri⟩:=((hu i hi).keep h.below).at_;obtain⟨ak,ck,vk,ek,lk,Lk,Rk⟩:=((hu k hk).keep h.below).at_;have pos:∀r:Row,0<r.1.length:=λr=>List.length_pos_iff.2 r.2
 have one:∀(a:Option Addr) (vs:List Value) (r:Row),Lies w a vs->RecsIn w vs r.1->∃p v,a=some p/\w.cell? p=some (v:Value)/\RecAt w v (hd r):=λa vs r hL hR=>by
  have hl:=hR.len;have h0:=pos r;rcases hL with e|⟨q,o,e,_,hc⟩
  ·simp[e]at hl;omega
  ·obtain⟨v,hv⟩:∃v,vs[0]? =some v:=⟨vs[0],jg (by omega)⟩;refine⟨⟨q,o,none⟩,v,e,hc 0 v hv,hR.at_ 0 v _ hv ?_⟩;have:=hd_some r;rw[List.head?_eq_getElem?]at this;exact this
 obtain⟨p,u,rfl,hp,hpr⟩:=one ai vi _ Li Ri;obtain⟨q,v,rfl,hq,hqr⟩:=one ak vk _ Lk Rk;obtain⟨pa,pc,eu,_,_⟩:=id hpr;obtain⟨qa,qc,ev,_,_⟩:=id hqr;have c1:=h2 i (by omega);have c2:=h2 k (by omega);have e1:=ei;have e2:=ek
 try dsimp only at c1 c2
 rw[ei]at c1;rw[ek]at c2;refine(less_any w g 0 N c i k (by omega) (by omega) h.few p q _ ci _ ck (pos (f i).2) (pos (f k).2) (pa,_,pc) (qa,_,qc) _ _ ((h1.cell _).trans (by simpa using c1)) ((h1.cell _).trans (by simpa using c2)) (by rw[hp,eu];rfl) (by rw[hq,ev];rfl) (by rw[eu]at hpr;exact hpr) (by rw[ev]at hqr;exact hqr)).mono ?_;rintro e w' ⟨rfl,hm⟩;refine⟨_,rfl,?_,hm⟩;rw[decide_eq_true_iff];exact(lt_iff _ _).symm
theorem swap_of {w0:Base} {w:World} {hb g N c:Nat} {x:Nat->SL} (h:Heads w0 w hb g N c x) {i k:Nat} (hi:i<N) (hk:k<N):
  Calls Tryz.prog 212 #[.slice (some ⟨g,0,none⟩) N c,.int .i64 i,.int .i64 k] w λe w'=>e=.returned (.tuple #[])/\Heads w0 w' hb g N c (Heap.swap x i k)/\Only [g] w w':=by
 obtain⟨cs,h1,h2⟩:=h.row;have hs:=h.swap hi hk;have c1:w.cell? ⟨g,0+i,none⟩=some (sl (x i)):=(h1.cell _).trans (by simpa using h2 i hi);have c2:w.cell? ⟨g,0+k,none⟩=some (sl (x k)):=(h1.cell _).trans (by simpa using h2 k hk)
 by_cases e:i=k
 ·subst e;refine(swap_self w g 0 N c i hi h.few (x i) c1 (h1.frozen _)).mono ?_;rintro e w' ⟨rfl,rfl⟩;rw[Nat.zero_add];exact⟨rfl,hs⟩
 ·refine(swap_any w g 0 N c i k hi hk h.few (x i) (x k) e c1 c2 (h1.frozen _) (h1.frozen _)).mono ?_;rintro e w' ⟨rfl,rfl⟩;rw[Nat.zero_add,Nat.zero_add];exact⟨rfl,hs⟩
end Runs
namespace Runs
open Go.RowKit Go.Deep Go.Shelf Mem Crc Merge Heap
attribute [local go_sem] Oper.semAt_some
structure Down (w0:Base) (w w':World) (hb g N c:Nat) (f f':Nat->El) (k n:Nat):Prop where
 heads:Heads w0 w' hb g N c (λk=>(f' k).1)
 up:Up w0 f' n
 out:∀j,n<=j->f' j=f j
 perm: (row f' n).Perm (row f n)
 only:Only [g] w w'
theorem parent_two {c j:Nat} (h:0<c) (hp:parent c=j):c=2*j+1\/c=2*j+2:=by unfold parent at hp;omega
theorem parent_l (j:Nat):parent (2*j+1)=j:=by unfold parent;omega
theorem parent_r (j:Nat):parent (2*j+2)=j:=by unfold parent;omega
theorem Down.refl {w0:Base} {w:World} {hb g N c:Nat} {f:Nat->El} {n:Nat} (k:Nat) (h:Heads w0 w hb g N c (λk=>(f k).1)) (hu:Up w0 f n):Down w0 w w hb g N c f f k n:=
 ⟨h,hu,λ_ _=>rfl,List.Perm.refl _,Only.refl _ _⟩
theorem Down.drewN {w0:Base} {w w':World} {hb g N c:Nat} {f f':Nat->El} {k n:Nat} (h:Down w0 w w' hb g N c f f' k n) (m:Nat):Down w0 w (w'.drewN m) hb g N c f f' k n:=⟨h.heads.drewN m,h.up,h.out,h.perm,h.only.drewN m⟩
theorem Down.swap {w0:Base} {w w1 w2:World} {hb g N c:Nat} {f f':Nat->El} {k n i j:Nat} (h:Down w0 w w1 hb g N c f f' k n) (hi:i<n) (hj:j<n) (hh:Heads w0 w2 hb g N c (Heap.swap (λk=>(f' k).1) i j)) (ho:Only [g] w1 w2):Down w0 w w2 hb g N c f (Heap.swap f' i j) k n:=
 ⟨by rw[swap_fst];exact hh,h.up.swap hi hj,λq hq=>by rw[swap_o f' (by omega) (by omega)];exact h.out q hq,(row_swap f' hi hj).trans h.perm,h.only.trans ho⟩
def Loop (w0:Base) (w:World) (hb g N c:Nat) (f:Nat->El) (k n:Nat) (i:Value) (wr:World):Prop:=
 ∃(j:Nat) (f':Nat->El),j<=n/\i=.int .i64 j/\Down w0 w wr hb g N c f f' k n/\Dn ltE f' k n j
def Ends (w0:Base) (w:World) (hb g N c:Nat) (f:Nat->El) (k n:Nat) (e:Ending) (w':World):Prop:=
 ∃(b:Bool) (f':Nat->El),e=.returned (.bool b)/\Down w0 w w' hb g N c f f' k n/\Heap ltE f' k n
theorem ends_here {w0:Base} {w wr:World} {hb g N c:Nat} {f f':Nat->El} {k n j:Nat} {b:Bool} (hD:Down w0 w wr hb g N c f f' k n) (hdn:Dn ltE f' k n j) (hs:∀q,q=2*j+1\/q=2*j+2->q<n->¬ltE (f' q) (f' j)):Ends w0 w hb g N c f k n (.returned (.bool b)) wr:=
 ⟨b,f',rfl,hD,dn_stop hdn (λq h0 hq hp=>hs q (parent_two h0 hp) hq)⟩
structure Child (f:Nat->El) (n j q:Nat):Prop where
 le:q<n
 child:parent q=j
 min:∀p,0<p->p<n->parent p=j->¬ltE (f p) (f q)
theorem irrE (a:El):¬ltE a a:=λh=>ordE.asym _ _ h h
theorem child_one {f:Nat->El} {n j:Nat} (h1:2*j+1<n) (h2:¬2*j+2<n):Child f n j (2*j+1):=
 ⟨h1,parent_l j,λp h0 hp hpp=>by
  rcases parent_two h0 hpp with rfl|rfl
  ·exact irrE _
  ·exact absurd hp h2⟩
theorem child_two {f:Nat->El} {n j:Nat} (h2:2*j+2<n) (h:ltE (f (2*j+2)) (f (2*j+1))):Child f n j (2*j+2):=
 ⟨h2,parent_r j,λp h0 hp hpp=>by
  rcases parent_two h0 hpp with rfl|rfl
  ·exact ordE.asym _ _ h
  ·exact irrE _⟩
theorem child_three {f:Nat->El} {n j:Nat} (h1:2*j+1<n) (h:¬ltE (f (2*j+2)) (f (2*j+1))):Child f n j (2*j+1):=
 ⟨h1,parent_l j,λp h0 hp hpp=>by
  rcases parent_two h0 hpp with rfl|rfl
  ·exact irrE _
  ·exact h⟩
theorem ends_child {w0:Base} {w wr:World} {hb g N c:Nat} {f f':Nat->El} {k n j q:Nat} {b:Bool} (hD:Down w0 w wr hb g N c f f' k n) (hdn:Dn ltE f' k n j) (hc:Child f' n j q) (hl:¬ltE (f' q) (f' j)):Ends w0 w hb g N c f k n (.returned (.bool b)) wr:=
 ⟨b,f',rfl,hD,dn_stop hdn (λp h0 hp hpp=>ordE.trans _ _ _ hl (hc.min p h0 hp hpp))⟩
theorem next_child {w0:Base} {w wr w2:World} {hb g N c:Nat} {f f':Nat->El} {k n j q:Nat} (hD:Down w0 w wr hb g N c f f' k n) (hdn:Dn ltE f' k n j) (hc:Child f' n j q) (hl:ltE (f' q) (f' j)) (hj:j<q) (hh:Heads w0 w2 hb g N c (Heap.swap (λk=>(f' k).1) j q)) (ho:Only [g] wr w2):Loop w0 w hb g N c f k n (.int .i64 q) w2:=
 ⟨q,Heap.swap f' j q,Nat.le_of_lt hc.le,rfl,hD.swap (by have:=hc.le;omega) hc.le hh ho,dn_step ordE hdn (by omega) hc.le hc.child hl hc.min⟩
def Same (w w':World):Prop:=∃m,w'=w.drewN m
theorem Down.same {w0:Base} {w w1 w2:World} {hb g N c:Nat} {f f':Nat->El} {k n:Nat} (h:Down w0 w w1 hb g N c f f' k n) (hs:Same w1 w2):Down w0 w w2 hb g N c f f' k n:=by
 obtain⟨m,rfl⟩:=hs;exact h.drewN m
theorem Down.cell {w0:Base} {w w1:World} {hb g N c:Nat} {f f':Nat->El} {k n:Nat} (h:Down w0 w w1 hb g N c f f' k n):w1.cell? ⟨hb,0,none⟩=some (.slice (some ⟨g,0,none⟩) N c):=by
 have c0:=h.heads.cell.cell 0
 simpa using c0
theorem less_at {w0:Base} {w:World} {hb g N c:Nat} {f:Nat->El} (h:Heads w0 w hb g N c (λk=>(f k).1)) {n:Nat} (hu:Up w0 f n) (hnN:n<=N) {i k:Nat} (hi:i<n) (hk:k<n) {a b:Int} (ha:a=(i:Int)) (hb':b=(k:Int)):
  Calls Tryz.prog 211 #[.slice (some ⟨g,0,none⟩) N c,.int .i64 a,.int .i64 b] w λe w'=>∃b:Bool,e=.returned (.bool b)/\(b=true↔ltE (f i) (f k))/\Same w w':=by
 subst ha hb';exact less_of h hu hnN hi hk
theorem swap_at {w0:Base} {w:World} {hb g N c:Nat} {x:Nat->SL} (h:Heads w0 w hb g N c x) {i k:Nat} (hi:i<N) (hk:k<N) {a b:Int} (ha:a=(i:Int)) (hb':b=(k:Int)):
  Calls Tryz.prog 212 #[.slice (some ⟨g,0,none⟩) N c,.int .i64 a,.int .i64 b] w λe w'=>e=.returned (.tuple #[])/\Heads w0 w' hb g N c (Heap.swap x i k)/\Only [g] w w':=by
 subst ha hb';exact swap_of h hi hk
theorem cast_loop {w0:Base} {w wr:World} {hb g N c:Nat} {f:Nat->El} {k n q:Nat} {a:Int} (ha:a=(q:Int)) (h:Loop w0 w hb g N c f k n (.int .i64 q) wr):Loop w0 w hb g N c f k n (.int .i64 a) wr:=by subst ha;exact h
theorem down_any {w0:Base} {w:World} {hb g N c:Nat} {f:Nat->El} {k n:Nat} (h:Heads w0 w hb g N c (λk=>(f k).1)) (hn:n<=N) (hu:Up w0 f n) (hk:k<=n) (hh:Heap ltE f (k+1) n):
  Calls Tryz.prog 133 #[.iface 174 (.pointer (some ⟨hb,0,none⟩)),.int .i64 k,.int .i64 n] w (Ends w0 w hb g N c f k n):=by
 have hst:Loop w0 w hb g N c f k n (.int .i64 k) w:=⟨k,f,hk,rfl,Down.refl k h hu,dn_start hh⟩;have hfew:=h.few;clear h hh hu
 go_enter Tryz.func133,Tryz.ntmps133
 go_wp2_with fail
 go_loopw[7] (Loop w0 w hb g N c f k n) (λi _=>n-(intOf i).toNat)
 case atStart=>exact hst
 case round=>
  obtain⟨j,f',hj,rfl,hD,hdn⟩:=hrel;have M1:=λq=>meth_less q wr ⟨hb,0,none⟩ _ hD.cell
  have HD:=jq hD;have HN:=jq hdn;clear hD hdn
  by_cases h1:2*j+1<n
  ·by_cases h2:2*j+2<n
   ·go_wp2_with fail
    refine(less_at HD.out.heads HD.out.up hn (i:=2*j+2) (k:=2*j+1) h2 h1 (by omega) (by omega)).mono ?_;rintro e w1 ⟨b1,rfl,hb1,hs1⟩;have HF:=jq (HD.out.same hs1);have M2:=λu=>meth_less u w1 ⟨hb,0,none⟩ _ HF.out.cell
    clear hs1 M1;cases b1
    ·have HB1:=jq (show¬ltE (f' (2*j+2)) (f' (2*j+1))from λhl=>absurd (hb1.2 hl) (by simp));clear hb1;have HC:=jq (child_three h1 HB1.out)
     go_wp2_with fail
     refine(less_at HF.out.heads HD.out.up hn (i:=(2*j+1)) (k:=j) HC.out.le (by omega) (by omega) rfl).mono ?_;rintro e w2 ⟨b2,rfl,hb2,hs2⟩;have HE:=jq (HF.out.same hs2);clear hs2;cases b2
     ·have HX:=jq (λb:Bool=>ends_child (b:=b) HE.out HN.out HC.out (λhl=>absurd (hb2.2 hl) (by simp)));clear hb2
      go_wp2_with fail
      go_ret
      exact HX.out _
     ·have HX:=jq (hb2.1 rfl);have M3:=λu=>meth_swap u w2 ⟨hb,0,none⟩ _ HE.out.cell
      clear hb2
      go_wp2_with fail
      refine(swap_at HE.out.heads (i:=j) (k:=(2*j+1)) (by omega) (by have:=HC.out.le;omega) rfl (by omega)).mono ?_;rintro e w3 ⟨rfl,hh3,ho3⟩;have HY:=jq (next_child HE.out HN.out HC.out HX.out (by omega) hh3 ho3);clear M3 hh3 ho3
      go_wp2_with fail
      go_roundw
      case rel=>exact cast_loop (by omega) HY.out
      case measure=>simp[intOf];omega
    ·have HB1:=jq (hb1.1 rfl);clear hb1;have HC:=jq (child_two h2 HB1.out)
     go_wp2_with fail
     refine(less_at HF.out.heads HD.out.up hn (i:=(2*j+2)) (k:=j) HC.out.le (by omega) (by omega) rfl).mono ?_;rintro e w2 ⟨b2,rfl,hb2,hs2⟩;have HE:=jq (HF.out.same hs2);clear hs2;cases b2
     ·have HX:=jq (λb:Bool=>ends_child (b:=b) HE.out HN.out HC.out (λhl=>absurd (hb2.2 hl) (by simp)));clear hb2
      go_wp2_with fail
      go_ret
      exact HX.out _
     ·have HX:=jq (hb2.1 rfl);have M3:=λu=>meth_swap u w2 ⟨hb,0,none⟩ _ HE.out.cell
      clear hb2
      go_wp2_with fail
      refine(swap_at HE.out.heads (i:=j) (k:=(2*j+2)) (by omega) (by have:=HC.out.le;omega) rfl (by omega)).mono ?_;rintro e w3 ⟨rfl,hh3,ho3⟩;have HY:=jq (next_child HE.out HN.out HC.out HX.out (by omega) hh3 ho3);clear M3 hh3 ho3
      go_wp2_with fail
      go_roundw
      case rel=>exact cast_loop (by omega) HY.out
      case measure=>simp[intOf];omega
   ·have HB1:=jq h2;have HC:=jq (child_one (f:=f') h1 HB1.out)
    go_wp2_with fail
    refine(less_at HD.out.heads HD.out.up hn (i:=(2*j+1)) (k:=j) HC.out.le (by omega) (by omega) rfl).mono ?_;rintro e w2 ⟨b2,rfl,hb2,hs2⟩;have HE:=jq (HD.out.same hs2);clear hs2;cases b2
    ·have HX:=jq (λb:Bool=>ends_child (b:=b) HE.out HN.out HC.out (λhl=>absurd (hb2.2 hl) (by simp)));clear hb2
     go_wp2_with fail
     go_ret
     exact HX.out _
    ·have HX:=jq (hb2.1 rfl);have M3:=λu=>meth_swap u w2 ⟨hb,0,none⟩ _ HE.out.cell
     clear hb2
     go_wp2_with fail
     refine(swap_at HE.out.heads (i:=j) (k:=(2*j+1)) (by omega) (by have:=HC.out.le;omega) rfl (by omega)).mono ?_;rintro e w3 ⟨rfl,hh3,ho3⟩;have HY:=jq (next_child HE.out HN.out HC.out HX.out (by omega) hh3 ho3);clear M3 hh3 ho3
     go_wp2_with fail
     go_roundw
     case rel=>exact cast_loop (by omega) HY.out
     case measure=>simp[intOf];omega
  ·go_wp2_with fail
   go_ret
   exact ends_here HD.out HN.out (λq hq hqn=>by omega)
end Runs
namespace Runs
open Go.RowKit Go.Deep Go.Shelf Mem Crc Merge Heap
attribute [local go_sem] Oper.semAt_some
structure Hp (w0:Base) (w:World) (hb g n c:Nat) (f:Nat->El):Prop where
 heads:Heads w0 w hb g n c (λk=>(f k).1)
 up:Up w0 f n
 heap:Heap ltE f 0 n
def InitLoop (w0:Base) (w:World) (hb g n c:Nat) (f:Nat->El) (i:Value) (wr:World):Prop:=
 ∃(q:Nat) (f':Nat->El),q<=n/2/\i=.int .i64 ((q:Int)-1)/\Down w0 w wr hb g n c f f' 0 n/\Heap ltE f' q n
def InitEnds (w0:Base) (w:World) (hb g n c:Nat) (f:Nat->El) (w':World):Prop:=∃f',Hp w0 w' hb g n c f'/\(row f' n).Perm (row f n)/\Only [g] w w'
theorem heap_half (f:Nat->El) (n:Nat):Heap ltE f (n/2) n:=λc h0 hc hp=>by unfold parent at hp;omega
theorem Down.then {w0:Base} {w w1 w2:World} {hb g N c:Nat} {f f1 f2:Nat->El} {k k1 k2 n:Nat} (h:Down w0 w w1 hb g N c f f1 k n) (h2:Down w0 w1 w2 hb g N c f1 f2 k1 n):Down w0 w w2 hb g N c f f2 k2 n:=
 ⟨h2.heads,h2.up,λj hj=>(h2.out j hj).trans (h.out j hj),h2.perm.trans h.perm,h.only.trans h2.only⟩
theorem len_of (w:World) (a:Option Addr) (n c:Nat):Calls Tryz.prog 96 #[.slice a n c] w λe w'=>e=.returned (.int .i64 n)/\w=w':=(len_any w a n c).mono (λ_ _ h=>⟨h.1,h.2.symm⟩)
theorem down_at {w0:Base} {w:World} {hb g N c:Nat} {f:Nat->El} {k n:Nat} (h:Heads w0 w hb g N c (λk=>(f k).1)) (hn:n<=N) (hu:Up w0 f n) (hk:k<=n) (hh:Heap ltE f (k+1) n) {a b:Int} (ha:a=(k:Int)) (hb':b=(n:Int)):
  Calls Tryz.prog 133 #[.iface 174 (.pointer (some ⟨hb,0,none⟩)),.int .i64 a,.int .i64 b] w (Ends w0 w hb g N c f k n):=by
 subst ha hb';exact down_any h hn hu hk hh
theorem init_any {w0:Base} {w:World} {hb g n c:Nat} {f:Nat->El} (h:Heads w0 w hb g n c (λk=>(f k).1)) (hu:Up w0 f n):
  Calls Tryz.prog 95 #[.iface 174 (.pointer (some ⟨hb,0,none⟩))] w λe w'=>e=.returned (.tuple #[])/\InitEnds w0 w hb g n c f w':=by
 have hst:InitLoop w0 w hb g n c f (.int .i64 (((n/2:Nat):Int)-1)) w:=⟨n/2,f,Nat.le_refl _,rfl,Down.refl 0 h hu,heap_half f n⟩;have HS:=jq hst;have M1:=λq=>meth_len q w ⟨hb,0,none⟩ _ (Down.refl 0 h hu).cell
 have hfew:=h.few;have HL:=jq (len_of w (some ⟨g,0,none⟩) n c);clear h hu hst
 go_enter Tryz.func95,Tryz.ntmps95
 go_wp2_with fail
 refine HL.out.mono ?_;rintro e w1 ⟨rfl,rfl⟩
 go_wp2_with fail
 clear M1 HL
 go_loopw[3] (InitLoop w0 w hb g n c f) (λi _=>(intOf i+1).toNat)
 case atStart=>exact HS.out
 case round=>
  obtain⟨q,f',hq,rfl,hD,hh⟩:=hrel;have HD:=jq hD;have HH:=jq hh;clear hD hh
  by_cases h0:1<=q
  ·go_wp2_with fail
   refine(down_at HD.out.heads (Nat.le_refl n) HD.out.up (k:=q-1) (by omega) (by rw[Nat.sub_add_cancel h0];exact HH.out) (by omega) rfl).mono ?_;rintro e w2 ⟨b,f2,rfl,hD2,hh2⟩;have HX:=jq (show InitLoop w0 w hb g n c f (.int .i64 (((q-1:Nat):Int)-1)) w2 from⟨q-1,f2,by omega,rfl,HD.out.then hD2,hh2⟩);clear hD2 hh2
   go_wp2_with fail
   go_roundw
   case rel=>
    have:=HX.out;rw[show((q-1:Nat):Int)-1=(q:Int)-1-1 by omega]at this;exact this
   case measure=>simp[intOf];omega
  ·have h00:q=0:=by omega
   have HX:=jq (show InitEnds w0 w hb g n c f wr from⟨f',⟨HD.out.heads,HD.out.up,by have:=HH.out;rwa [h00]at this⟩,HD.out.perm,HD.out.only⟩);clear h00
   go_wp2_with fail
   go_end0
   exact⟨rfl,HX.out⟩
def PopEnds (w0:Base) (w:World) (hb g n c:Nat) (f:Nat->El) (w':World):Prop:=∃f',Hp w0 w' hb g n c f'/\(f 0 ::row f' n).Perm (row f (n+1))/\Only [hb,g] w w'
theorem row_front (f:Nat->El) (n:Nat):row f (n+1)=f 0 ::(List.range n).map (λk=>f (k+1)):=by
 unfold row;rw[List.range_succ_eq_map]
 simp[Function.comp_def]
theorem popped {w0:Base} {w wa w1:World} {hb g n c:Nat} {f f':Nat->El} {x0:SL} (ho0:Only [g] w wa) (hD:Down w0 wa w1 hb g (n+1) c (Heap.swap (put f 0 (x0,(f 0).2)) 0 n) f' 0 n) (hh:Heap ltE f' 0 n) (m:Nat):PopEnds w0 w hb g n c f ((w1.drewN m).setCell ⟨hb,0,none⟩ (.slice (some ⟨g,0,none⟩) n c)):=by
 have hH:=hD.heads.drewN m;obtain⟨cs,h1,h2⟩:=hH.row;have hne:=hH.ne;have ho:Only [hb,g] (w1.drewN m) ((w1.drewN m).setCell ⟨hb,0,none⟩ (.slice (some ⟨g,0,none⟩) n c)):=(Only.refl _ _).set (.inl (by simp)) _;refine⟨f',⟨⟨by simpa using hH.cell.set 0 (.slice (some ⟨g,0,none⟩) n c),⟨cs,h1.far (Ne.symm hne) _,λk hk=>h2 k (by omega)⟩,by have:=hH.le;omega,hH.below.only ho (by simpa using⟨hH.old.1,hH.old.2⟩),hH.old,by have:=hH.few;omega⟩,hD.up,hh⟩,?_,(((ho0.trans hD.only).drewN m).mono (by simp)).trans ho⟩;obtain⟨f0,hf0⟩:=jl (put f 0 (x0,(f 0).2));rw[<-hf0]at hD;have hp:=hD.perm;have h3: (f0 0 ::row f' n).Perm (row (Heap.swap f0 0 n) n++ [f0 0]):=(List.Perm.cons _ hp).trans (List.perm_append_singleton _ _).symm;have e2:row (Heap.swap f0 0 n) n++ [f0 0]=row (Heap.swap f0 0 n) (n+1):=by rw[row_succ,swap_r]
 rw[e2]at h3;have h4:=h3.trans (row_swap f0 (i:=0) (j:=n) (n:=n+1) (by omega) (by omega));rw[row_front]at h4⊢;have h5:=(List.perm_cons _).1 h4
 have e3: (λk=>f0 (k+1))=λk=>f (k+1):=by
  funext k
  rw[hf0,put_other f _ (by omega)]
 rw[e3]at h5;exact List.Perm.cons _ h5
theorem pop_heap {f:Nat->El} {n:Nat} (y:El) (h:Heap ltE f 0 (n+1)):Heap ltE (Heap.swap (put f 0 y) 0 n) 1 n:=λq h0 hq hp=>by
 have:=parent_lt h0;rw[swap_o _ (by omega) (by omega),swap_o _ (by omega) (by omega),put_other f _ (by omega),put_other f _ (by omega)];exact h q h0 (by omega) (Nat.zero_le _)
theorem put_fst (f:Nat->El) (x0:SL): (λk=>(put f 0 (x0,(f 0).2) k).1)=put (λk=>(f k).1) 0 x0:=by
 funext k
 unfold put
 split <;> rfl
theorem heapPop_any {w0:Base} {w:World} {hb g n c:Nat} {f:Nat->El} {x0:SL} (h:Heads w0 w hb g (n+1) c (put (λk=>(f k).1) 0 x0)) (hu:∀k,0<k->k<n+1->RowB w0.w w0.U ((f k).1,(f k).2.1)) (hh:Heap ltE f 0 (n+1)):
  Calls Tryz.prog 97 #[.iface 174 (.pointer (some ⟨hb,0,none⟩))] w λe w'=>(∃v,e=.returned v)/\PopEnds w0 w hb g n c f w':=by
 have hc:w.cell? ⟨hb,0,none⟩=some (.slice (some ⟨g,0,none⟩) (n+1) c):=by
  have c0:=h.cell.cell 0
  simpa using c0
 have M1:=λq=>meth_len q w ⟨hb,0,none⟩ _ hc
 have M2:=λq=>meth_swap q w ⟨hb,0,none⟩ _ hc
 have hfew:=h.few;have HH:=jq h;have HP:=jq (pop_heap (x0,(f 0).2) hh);have HU:=jq hu;have HL:=jq (len_of w (some ⟨g,0,none⟩) (n+1) c);clear h hu hc hh
 go_enter Tryz.func97,Tryz.ntmps97
 go_wp2_with fail
 refine HL.out.mono ?_;rintro e w1 ⟨rfl,rfl⟩
 go_wp2_with fail
 refine(swap_at HH.out (i:=0) (k:=n) (by omega) (by omega) rfl (by omega)).mono ?_;rintro e w2 ⟨rfl,hh2,ho2⟩;rw[<-put_fst,<-swap_fst]at hh2;have HH2:=jq hh2;have HO2:=jq ho2;clear hh2 ho2 M1 M2 HL
 go_wp2_with fail
 refine(down_at HH2.out (k:=0) (n:=n) (by omega) (λk hk=>?up) (by omega) HP.out rfl (by omega)).mono ?_
 case up=>
  unfold Heap.swap
  split
  ·unfold put
   split
   ·omega
   ·exact HU.out n (by omega) (by omega)
  ·split
   ·omega
   ·rw[put_other f _ (by assumption)];exact HU.out k (by omega) (by omega)
 rintro e w3 ⟨b,f',rfl,hD,hh3⟩;have c3:=hD.cell;have fz:=hD.heads.cell.frozen 0;obtain⟨cs,g1,g2⟩:=hD.heads.row;have g3:=g2 n (by omega);have hle:=hD.heads.le;have HPOP:=jq (pop_any w3 hb g 0 n c hfew hle (f' n).1 c3 fz ((g1.cell _).trans (by simpa using g3)));have M3:=λq=>meth_pop q w3 ⟨hb,0,none⟩
 have HE:=jq (λm=>popped HO2.out hD hh3 m);clear c3 fz g1 g2 g3 hle hD hh3 HO2 HH2 HH HP HU
 go_wp2_with fail
 refine HPOP.out.mono ?_;rintro e w4 ⟨rfl,m,rfl⟩
 go_wp2_with fail
 go_ret
 exact⟨⟨_,rfl⟩,HE.out m⟩
def FixEnds (w0:Base) (w:World) (hb g n c:Nat) (f:Nat->El) (w':World):Prop:=∃f',Hp w0 w' hb g n c f'/\(row f' n).Perm (row f n)/\Only [g] w w'
theorem up_zero (w:World) (v:Value):Calls Tryz.prog 134 #[v,.int .i64 0] w λe w'=>e=.returned (.tuple #[])/\w=w':=by
 go_enter Tryz.func134,Tryz.ntmps134
 go_wp2_with fail
 go_loopw[1] (λi wr=>i=.int .i64 0/\w=wr) (λ_ _=>0)
 case atStart=>exact⟨rfl,rfl⟩
 case round=>
  obtain⟨rfl,rfl⟩:=hrel
  go_wp2_with fail
  go_end0
  exact⟨rfl,rfl⟩
theorem fix_any {w0:Base} {w:World} {hb g n c:Nat} {f:Nat->El} (h:Heads w0 w hb g n c (λk=>(f k).1)) (hu:Up w0 f n) (hh:Heap ltE f 1 n):
  Calls Tryz.prog 98 #[.iface 174 (.pointer (some ⟨hb,0,none⟩)),.int .i64 0] w λe w'=>e=.returned (.tuple #[])/\FixEnds w0 w hb g n c f w':=by
 have M1:=λq=>meth_len q w ⟨hb,0,none⟩ _ (Down.refl 0 h hu).cell
 have HL:=jq (len_of w (some ⟨g,0,none⟩) n c);have HD:=jq (down_at h (Nat.le_refl n) hu (k:=0) (Nat.zero_le _) hh (a:=0) (b:=n) rfl rfl);clear h hu hh
 go_enter Tryz.func98,Tryz.ntmps98
 go_wp2_with fail
 refine HL.out.mono ?_;rintro e w1 ⟨rfl,rfl⟩;clear M1 HL
 go_wp2_with fail
 refine HD.out.mono ?_;rintro e w2 ⟨b,f',rfl,hD,hh2⟩;have HE:=jq (show FixEnds w0 w hb g n c f w2 from⟨f',⟨hD.heads,hD.up,hh2⟩,hD.perm,hD.only⟩);clear hD hh2 HD;cases b
 ·go_wp2_with fail
  refine(up_zero _ _).mono ?_;rintro e w3 ⟨rfl,rfl⟩
  go_wp2_with fail
  go_end0
  exact⟨rfl,HE.out⟩
 ·go_wp2_with fail
  go_end0
  exact⟨rfl,HE.out⟩
end Runs
namespace Runs
open Go.RowKit Go.Deep Go.Shelf Mem Crc Merge
attribute [local go_sem] Oper.semAt_some
def keep (y:SL):Bool:= !(y.2.1==0)
theorem del_any (w:World) (y:SL):Calls Tryz.prog 94 #[sl y] w λe w'=>e=.returned (.bool (!keep y))/\w=w':=by
 obtain⟨a,n,c⟩:=y;unfold sl keep;dsimp only
 by_cases h:n=0
 ·subst h
  go_enter Tryz.func94,Tryz.ntmps94
  go_wp2_with fail
  go_ret
  exact⟨rfl,rfl⟩
 ·have h0: ((n:Int)==0)=false:=by simpa using h
  have e: (n==0)=false:=by simpa using h
  rw[e]
  go_enter Tryz.func94,Tryz.ntmps94
  go_wp2_with fail
  go_ret
  exact⟨rfl,rfl⟩
structure RowsAt (w:World) (g:Nat) (xs:List SL):Prop where
 row:∃cs,Blk w g 25 cs/\∀(k:Nat) (y:SL),xs[k]? =some y->cs[k]? =some (sl y)
theorem RowsAt.cell {w:World} {g:Nat} {xs:List SL} (h:RowsAt w g xs) {k:Nat} {y:SL} (hy:xs[k]? =some y):w.cell? ⟨g,k,none⟩=some (sl y)/\w.frozen? ⟨g,k,none⟩=false:=by
 obtain⟨cs,h1,h2⟩:=h.row;exact⟨(h1.cell _).trans (h2 k y hy),h1.frozen _⟩
def FirstOut (xs:List SL) (i:Int):Prop:=(i= -1/\∀y∈xs,keep y=true)\/∃(k:Nat) (y:SL),i=(k:Int)/\xs[k]? =some y/\keep y=false/\∀z∈xs.take k,keep z=true
theorem index_any (w:World) (g n c:Nat) (xs:List SL) (hx:xs.length=n) (h:RowsAt w g xs) (hn:n<=1000000):
  Calls Tryz.prog 132 #[.slice (some ⟨g,0,none⟩) n c,.func (.func 94) #[] #[]] w λe w'=>(∃i,e=.returned (.int .i64 i)/\FirstOut xs i)/\w=w':=by
 have H:=jq h;have HX:=jq hx;clear h hx
 go_enter Tryz.func132,Tryz.ntmps132
 go_wp2_with fail
 go_loopw[8] (λi wr=>w=wr/\∃k:Nat,k<=n/\i=.int .i64 k/\∀z∈xs.take k,keep z=true) (λi _=>n-(intOf i).toNat)
 case atStart=>exact⟨rfl,0,Nat.zero_le _,rfl,by simp⟩
 case round=>
  obtain⟨rfl,k,hk,rfl,hz⟩:=hrel;have HZ:=jq hz;clear hz
  by_cases hlt:k<n
  ·obtain⟨y,hy⟩:∃y,xs[k]? =some y:=⟨xs[k]'(by rw[HX.out];exact hlt),jg _⟩;have hc:=(H.out.cell hy).1;have hw:RowKit.wrap64 ((k:Int)+1)=(k:Int)+1:=IntWalk.wrap64_in _ (by omega);have HD:=jq (del_any w y);have HY:=jq hy;clear hy;obtain⟨ya,yn,yc⟩:=y;unfold sl at hc HD;dsimp only at hc HD;cases hkp:keep (ya,yn,yc)
   ·have HK:=jq hkp;clear hkp
    go_wp2_with fail
    refine HD.out.mono ?_;rintro e w1 ⟨rfl,rfl⟩;rw[HK.out]
    go_wp2_with fail
    go_ret
    exact⟨⟨_,rfl,.inr ⟨k,_,rfl,HY.out,HK.out,HZ.out⟩⟩,rfl⟩
   ·have HK:=jq hkp;clear hkp
    go_wp2_with fail
    refine HD.out.mono ?_;rintro e w1 ⟨rfl,rfl⟩;rw[HK.out]
    go_wp2_with fail
    go_roundw
    case rel=>exact⟨trivial,k+1,by omega,by simp,λz hz=>by
     rw[List.take_add_one,HY.out]at hz;rcases List.mem_append.1 hz with hz|hz
     ·exact HZ.out z hz
     ·have:z=(ya,yn,yc):=by simpa using hz
      rw[this];exact HK.out⟩
    case measure=>simp[intOf];omega
  ·have hkn:k=n:=by omega
   have HE:=jq (show FirstOut xs (-1)from .inl ⟨rfl,λy hy=>HZ.out y (by rw[jW (by rw[HX.out];omega)];exact hy)⟩);clear hkn
   go_wp2_with fail
   go_ret
   exact⟨⟨_,rfl,HE.out⟩,rfl⟩
structure Moved (w wr:World) (g:Nat) (xs:List SL) (j:Nat):Prop where
 row:∃cs,Blk wr g 25 cs/\(∀(k:Nat) (y:SL),((xs.take j).filter keep)[k]? =some y->cs[k]? =some (sl y))/\(∀(k:Nat) (y:SL),j<=k->xs[k]? =some y->cs[k]? =some (sl y))/\xs.length<=cs.size
 only:Only [g] w wr
theorem Moved.start {w:World} {g:Nat} {xs:List SL} {k:Nat} {y:SL} (h:RowsAt w g xs) (hy:xs[k]? =some y) (hk:keep y=false) (ha:∀z∈xs.take k,keep z=true):Moved w w g xs (k+1)/\((xs.take (k+1)).filter keep).length=k:=by
 obtain⟨cs,h1,h2⟩:=h.row
 have e: (xs.take (k+1)).filter keep=xs.take k:=by
  rw[List.take_add_one,hy,List.filter_append,List.filter_eq_self.2 ha]
  simp[hk]
 have hl:=(jS.1 hy).1
 have hs:xs.length<=cs.size:=by
  obtain⟨z,hz⟩:∃z,xs[xs.length-1]? =some z:=⟨xs[xs.length-1],jg _⟩;have:=(Array.getElem?_eq_some_iff.1 (h2 _ z hz)).1
  omega
 refine⟨⟨⟨cs,h1,λq z hz=>?_,λq z _ hz=>h2 q z hz,hs⟩,Only.refl _ _⟩,by rw[e,jT];omega⟩;rw[e,List.getElem?_take]at hz
 split at hz
 ·exact h2 q z hz
 ·cases hz
theorem Moved.skip {w wr:World} {g:Nat} {xs:List SL} {j:Nat} {y:SL} (h:Moved w wr g xs j) (hy:xs[j]? =some y) (hk:keep y=false):Moved w wr g xs (j+1)/\((xs.take (j+1)).filter keep).length=((xs.take j).filter keep).length:=by
 obtain⟨cs,h1,h2,h3,h4⟩:=h.row
 have e: (xs.take (j+1)).filter keep=(xs.take j).filter keep:=by
  rw[List.take_add_one,hy,List.filter_append]
  simp[hk]
 exact⟨⟨⟨cs,h1,by rw[e];exact h2,λq z hq hz=>h3 q z (by omega) hz,h4⟩,h.only⟩,by rw[e]⟩
theorem Moved.move {w wr:World} {g:Nat} {xs:List SL} {j m:Nat} {y:SL} (h:Moved w wr g xs j) (hy:xs[j]? =some y) (hk:keep y=true) (hm: ((xs.take j).filter keep).length=m) (hmj:m<j):
  Moved w (wr.setCell ⟨g,m,none⟩ (sl y)) g xs (j+1)/\((xs.take (j+1)).filter keep).length=m+1:=by
 obtain⟨cs,h1,h2,h3,h4⟩:=h.row
 have e: (xs.take (j+1)).filter keep=(xs.take j).filter keep++ [y]:=by
  rw[List.take_add_one,hy,List.filter_append]
  simp[hk]
 have hsz:j<cs.size:=(Array.getElem?_eq_some_iff.1 (h3 j y jn hy)).1;refine⟨⟨⟨_,h1.set m (sl y),λq z hz=>?_,λq z hq hz=>?_,by rw[Array.size_setIfInBounds];exact h4⟩,h.only.set (p:=⟨g,m,none⟩) (.inl (by simp)) _⟩,by rw[e];simp[hm]⟩
 ·rw[e]at hz;rw[Array.getElem?_setIfInBounds]
  by_cases e1:m=q
  ·subst e1;rw[List.getElem?_append_right (by omega),hm,Nat.sub_self]at hz
   simp at hz
   rw[if_pos rfl,if_pos (by omega),hz]
  ·rw[if_neg e1]
   by_cases e2:q<m
   ·rw[List.getElem?_append_left (by omega)]at hz;exact h2 q z hz
   ·rw[List.getElem?_append_right (by omega),hm]at hz;rw[List.getElem?_eq_none (by simp;omega)]at hz;cases hz
 ·rw[Array.getElem?_setIfInBounds,if_neg (by omega)];exact h3 q z (by omega) hz
theorem clear_rows (w:World) (ty:TypeId) (b o n c:Nat) (hn:0<n) (hc:∀j,j<n->(w.cell? ⟨b,o+j,none⟩).isSome=true) (hf:∀j,j<n->w.frozen? ⟨b,o+j,none⟩=false):
  (Builtin.clear_ #[127] ty #[.slice (some ⟨b,o,none⟩) n c]).run Tryz.prog w=.ok (.tuple #[]) (w.setCells b o (List.replicate n (.slice none 0 0))):=
 Lib.run_clear_slice w _ _ ty _ Tryz.underlying127 (λw=>by kernel_rfl) rfl rfl b o n c hn hc hf
def DelEnds (w:World) (g c:Nat) (xs:List SL) (e:Ending) (w':World):Prop:=e=.returned (.slice (some ⟨g,0,none⟩) (xs.filter keep).length c)/\RowsAt w' g (xs.filter keep)/\Only [g] w w'
theorem Moved.cleared {w wr:World} {g n c m:Nat} {xs:List SL} (h:Moved w wr g xs n) (hn:xs.length=n) (hm: (xs.filter keep).length=m) (hmn:m<=n):DelEnds w g c xs (.returned (.slice (some ⟨g,0,none⟩) m c)) (wr.setCells g m (List.replicate (n-m) (.slice none 0 0))):=by
 obtain⟨cs,h1,h2,h3,h4⟩:=h.row;obtain⟨cs',g1,g2⟩:=Blk.splice (List.replicate (n-m) (.slice none 0 0)) m wr cs h1 (by simp;omega);subst hm;refine⟨rfl,⟨cs',g1,λq z hz=>?_⟩,Only.setCells _ _ h.only (.inl (by simp))⟩;rw[jW (by omega)]at h2;have:=h2 q z hz;have hq:=(jS.1 hz).1;rw[<-Array.getElem?_toList]at this⊢;rw[g2,List.append_assoc,List.getElem?_append_left (by simp;omega),List.getElem?_take,if_pos hq];exact this
theorem deleteFunc_any (w:World) (g n c:Nat) (xs:List SL) (hx:xs.length=n) (h:RowsAt w g xs) (hn:n<=1000000) (hc:n<=c):
  Calls Tryz.prog 92 #[.slice (some ⟨g,0,none⟩) n c,.func (.func 94) #[] #[]] w (DelEnds w g c xs):=by
 have HI:=jq (index_any w g n c xs hx h hn);have H:=jq h;have HX:=jq hx;clear h hx
 go_enter Tryz.func92,Tryz.ntmps92
 go_wp2_with fail
 refine HI.out.mono ?_;rintro e w1 ⟨⟨i,rfl,hi⟩,rfl⟩;rcases hi with⟨rfl,ha⟩|⟨i,y0,rfl,hy0,hk0,ha⟩
 ·have HE:=jq (show DelEnds w g c xs (.returned (.slice (some ⟨g,0,none⟩) n c)) w from by
   have e:xs.filter keep=xs:=List.filter_eq_self.2 ha;unfold DelEnds;rw[e,HX.out];exact⟨rfl,H.out,Only.refl _ _⟩)
  clear ha
  go_wp2_with fail
  go_ret
  exact HE.out
 ·have hil:i<n:=by rw[<-HX.out];exact(jS.1 hy0).1
  have h0: ((i:Int)== -1)=false:=by simp
  have HS:=jq (Moved.start H.out hy0 hk0 ha);have HY0:=jq hy0;have HK0:=jq hk0;clear hy0 hk0 ha
  go_wp2_with fail
  go_loopw[5,6] (λi' j' wr=>∃j m:Nat,i<j/\j<=n/\m<j/\i'=.int .i64 m/\j'=.int .i64 j/\Moved w wr g xs j/\((xs.take j).filter keep).length=m) (λ_ j' _=>n-(intOf j').toNat)
  case atStart=>exact⟨i+1,i,by omega,by omega,by omega,rfl,by go_num,HS.out.1,HS.out.2⟩
  case round=>
   obtain⟨j,m,hij,hjn,hmj,rfl,rfl,hM,hm⟩:=hrel;have HM:=jq hM;have Hm:=jq hm;clear hM hm
   by_cases hlt:j<n
   ·obtain⟨y,hy⟩:∃y,xs[j]? =some y:=⟨xs[j]'(by rw[HX.out];exact hlt),jg _⟩
    have hcell:wr.cell? ⟨g,j,none⟩=some (sl y):=by
     obtain⟨cs,h1,_,h3,_⟩:=HM.out.row;exact(h1.cell _).trans (h3 j y jn hy)
    have hw:RowKit.wrap64 ((j:Int)+1)=(j:Int)+1:=IntWalk.wrap64_in _ (by omega);have hwm:RowKit.wrap64 ((m:Int)+1)=(m:Int)+1:=IntWalk.wrap64_in _ (by omega);have HD:=jq (del_any wr y);have HY:=jq hy;clear hy;cases hkp:keep y
    ·have HK:=jq hkp;have HN:=jq (HM.out.skip HY.out HK.out);clear hkp;obtain⟨ya,yn,yc⟩:=y;unfold sl at hcell HD;dsimp only at hcell HD
     go_wp2_with fail
     refine HD.out.mono ?_;rintro e w1 ⟨rfl,rfl⟩;rw[HK.out]
     go_wp2_with fail
     go_roundw
     case rel=>exact⟨j+1,m,by omega,by omega,by omega,rfl,by simp,HN.out.1,HN.out.2.trans Hm.out⟩
     case measure=>simp[intOf];omega
    ·have HK:=jq hkp;have HN:=jq (HM.out.move HY.out HK.out Hm.out hmj);clear hkp
     have hfz:wr.frozen? ⟨g,m,none⟩=false:=by
      obtain⟨cs,h1,_⟩:=HM.out.row;exact h1.frozen _
     have hcm:∃v,wr.cell? ⟨g,m,none⟩=some v:=by
      obtain⟨cs,h1,_,h3,_⟩:=HM.out.row;have:=(Array.getElem?_eq_some_iff.1 (h3 j y jn HY.out)).1;exact⟨cs[m],(h1.cell _).trans (Array.getElem?_eq_getElem (by omega))⟩
     obtain⟨vm,hvm⟩:=hcm;obtain⟨ya,yn,yc⟩:=y;unfold sl at hcell HD HN;dsimp only at hcell HD HN
     go_wp2_with fail
     refine HD.out.mono ?_;rintro e w1 ⟨rfl,rfl⟩;rw[HK.out]
     go_wp2_with fail
     go_roundw
     case rel=>exact⟨j+1,m+1,by omega,by omega,by omega,by simp,by simp,HN.out.1,HN.out.2⟩
     case measure=>simp[intOf];omega
   ·obtain rfl:n=j:=by omega
    have Hm2:=jq (show(xs.filter keep).length=m by have:=Hm.out;rwa [jW (by rw[HX.out];exact Nat.le_refl _)]at this);have HZ:=jq (HM.out.cleared (c:=c) HX.out Hm2.out (by omega))
    have hcl:∀ty,(Builtin.clear_ #[127] ty #[.slice (some ⟨g,m,none⟩) (n-m) (c-m)]).run Tryz.prog wr=.ok (.tuple #[]) (wr.setCells g m (List.replicate (n-m) (.slice none 0 0))):=by
     obtain⟨cs,h1,_,_,h4⟩:=HM.out.row;have hxl:=HX.out;exact λty=>clear_rows wr ty g m (n-m) (c-m) (by omega) (λj hj=>by rw[h1.cell,Array.getElem?_eq_getElem (by omega)];rfl) (λj hj=>h1.frozen _)
    have hcm:c≠m:=by omega
    go_wp2_with fail
    go_ret
    exact HZ.out
end Runs
end Go.Proofs.YtcdcnhecimajkaaGreatDoor
