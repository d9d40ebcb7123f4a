/- Part. -/
import Derived.Test.YtndkohocgfmamaaGreatDoorF27
import Derived.Shelf.SlIter.Collect
set_option maxHeartbeats 4000000
set_option maxRecDepth 100000
namespace Go.Proofs.YtndkohocgfmamaaGreatDoor
open Go.Proofs.Tryz
namespace Runs
open Go.RowKit Go.Deep Go.Shelf Mem Crc Merge
attribute [local go_sem] Oper.semAt_some
theorem wU: (prog.info? 84).map (λi=>(i.zero,i.size,i.bytes))=some (some (.slice none 0 0),1,24):=by kernel_rfl
abbrev gY(w:World)(base:Nat)(v:Value)(xs:List SL):Prop:=w.ownsRow base 84 1 v xs.length (xs.map sl)
variable {n0 N:Nat}{S Sp:List SL->Prop}
theorem Qt{w:World}(p:n0<=w.heap.size)(W:World)(l:Nat)(o d:Obj)(hl:w.heap.size<=l)(h:W.heap[l]? =some o)(_:o.isCells=false)(_:o.isWalk=false):Below n0 W (W.putObj l d):=by
 have hlt:=(dG.1 h).1;exact(Below.refl _ W).grown (grownBy_putObj' W l d) (by omega) (λq e=>by cases e;omega)
theorem FM{W:World}{B D:Nat}{t:TypeId}{v:Value}{o:Obj}(d:Obj)(h:Boxed W B t v)(hK:W.heap[D]? =some o)(hc:o.isCells=false):Boxed (W.putObj D d) B t v:=
 h.kept (grownBy_putObj' W D d) (λe=>by
  have e:B=D:=by simpa using e
  subst e;rw[show W.heap[B]? =_ from h]at hK;cases hK;cases hc)
theorem Qu(g:Nat)(lb:Array Value)(eg:∀args w,(callFunc g args).run prog w=.ok (.enter g args) w)(hN:N<=1000000)(w:World)(h4:n0<=w.heap.size)(J:SeqStopsK Fence.wide 4 prog g lb (λx:SL=>#[sl x]) (Below n0) S Sp N w):
  Calls prog 152 #[.slice none 0 0,.func (.func g) #[] lb] w λe w'=>∃v xs,e=.returned v/\S xs/\xs.length<=N/\gY w' w.heap.size v xs/\Below w.heap.size w w':=by
 obtain⟨i0,h2,h8,h9,x0⟩:=info_parts wU;have Z:=jq J;clear J;refine(callsIn_wide (n:=5)).1 ?_;refine callsIn_of_wp_marks func152 rfl trivial ?_ rfl;simp only[ntmps152,List.size_toArray,List.length_cons,List.length_nil,Nat.reduceAdd,Nat.reduceSub,Array.replicate_succ,Array.replicate_zero,List.push_toArray,List.append_toArray,List.nil_append,List.cons_append];refine wpIn_wide.2 ?_
 go_wp2_with fail
 obtain⟨W0,s⟩:=jl (w.alloc (Obj.cells #[Value.slice none 0 0] 120));have h1:Boxed W0 w.heap.size 120 (.slice none 0 0):=by rw[s];exact Boxed.new _ _ _
 have G:Below w.heap.size w W0:=by rw[s];exact(Below.refl _ w).alloc jn _
 have x2:W0.heap.size=w.heap.size+1:=by rw[s];simp
 have h6:gY W0 w.heap.size (.slice none 0 0) []:=⟨rfl,.inl ⟨rfl,rfl⟩⟩;rw[<-s];clear s;refine(wpIn_wide (n:=5)).1 ?_
 refine wpIn_rangeFunc_ownG rfl (by omega) (gf:=g) (lb:=lb) rfl trivial eg Z.out (λh k=>h.trans k) (Qt (by omega)) G (λ_=>rfl)
  (λpre W=>((∃v,Boxed W w.heap.size 120 v/\W.ownsRow w.heap.size 84 1 v pre.length (pre.map sl)/\True)/\Below w.heap.size w W)/\pre.length<=N)
  (λ_ _ _=>False)
  (OwnFrom.and (OwnFrom.and (Own.from (holdsRow_own w.heap.size w.heap.size 120 84 1 (λpre:List SL=>pre.length) (λpre=>pre.map sl) (λ_ _=>True)) _) (ownFrom_below jn (by omega))) (λ_ _ _ _ t _ _=>t))
  (λ_ _ _ _ _ t _ _=>t)
  ⟨⟨⟨_,h1,h6,trivial⟩,G⟩,aC _⟩
  (λx=>{tmps:=#[.slice none 0 0,.func (.func g) #[] lb,.pointer (some ⟨w.heap.size,0,none⟩),undef,.slice none 0 0,sl x,.func (.func g) #[] lb,sl x,undef,undef,undef,undef,undef],defers:=[]}) ?assign ?body ?done ?stop
 case assign=>
  intro l x W K hK;unfold sl at hK⊢
  gi_wp2
  exact hK
 case body=>
  rintro l pre x W ⟨⟨⟨v,o,d,_⟩,p⟩,I⟩ hlt;have c1:=o.cell;have t:=p.size;have HV:=jq o;have u:=jq p;have z:=jq d;obtain⟨va,vc,rfl,_,_,_,_⟩:=own_shape d;clear o p d;unfold sl
  gi_wp2_with (first
   |(gi_at_builtin
     refine wpListIn_append_own _ rfl _ _ 120 rfl w.heap.size 84 i0 (.slice none 0 0) 1 24 underlying120 h2 h8 h9 x0 rfl (by decide) _ _ _ rfl (z.out.alloc _) ⟨W.heap.size,0,none⟩ 1 1 [sl x] rfl rfl (one_at rfl) (by simp[sl,Value.oneCell']) (by unfold maxLen;omega) (by omega) (by rw[World.size_alloc];omega) ?_;intro v3 w3 A H h5;have h0:=HV.out.appended (by decide) z.out t jn A H;obtain⟨B,L,M,O,P⟩:=h0;obtain⟨ga,gc,rfl⟩:=ownsRow_succ A;have g1:=B.cell;have g2:=B.frozen;have R:=jq L;have T:=jq M;have V:=jq O;have E:=jq P;clear B L M O P A H h5)
   |gi_round_op_a)
  refine⟨V.out.from _,?_,⟨⟨_,R.out,?_,trivial⟩,u.out.trans E.out⟩,by simp;omega⟩
  ·exact E.out.mono h4
  ·have F:=T.out;have e: (pre++ [x]).map sl=pre.map sl++ [sl x]:=by simp
   rw[<-e]at F;rw[jL];exact F
 case done=>
  rintro D Q W hD h7 ⟨⟨⟨v,o,d,_⟩,p⟩,I⟩ hK;have c1:=o.cell;have g0:=(FM (.deferred none) o hK rfl).cell;have C:=jq hK;have u:=jq p;have z:=jq d;have x1:=(dG.1 hK).1;obtain⟨va,vc,rfl,_,_,_,_⟩:=own_shape d;clear hK p o d;dsimp only
  go_wp2_with fail
  refine⟨by simp,.inl ⟨_,_,rfl,run_takeDeferred C.out,?_⟩⟩;refine⟨.slice va Q.length vc,by simp[results,Tryz.f152,go_sem],_,Q,rfl,h7,I,ownsRow_putObj z.out _ C.out rfl,?_⟩;exact u.out.trans ((Below.refl _ W).grown (grownBy_putObj' W D _) (by have:=u.out.size;omega) (λq e=>by cases e;omega))
 case stop=>
  rintro D c pre W hD _ hI hK;exact hI.elim
theorem Af(g:Nat)(lb:Array Value)(t:∀args w,(callFunc g args).run prog w=.ok (.enter g args) w)(A:N<=1000000)(w:World)(B:n0<=w.heap.size)(l:SeqStopsK Fence.wide 4 prog g lb (λx:SL=>#[sl x]) (Below n0) S Sp N w):
  Calls prog 110 #[.func (.func g) #[] lb] w λe w'=>∃v xs,e=.returned v/\S xs/\xs.length<=N/\gY w' w.heap.size v xs/\Below w.heap.size w w':=by
 have s:=jq (Qu g lb t A w B l);clear l
 go_enter func110,ntmps110
 go_wp2_with (refine s.out.mono ?_;rintro e w1 ⟨v,xs,rfl,u,z,d,h⟩;obtain⟨va,vc,rfl,_,_,_,_⟩:=own_shape d;have o:=jq d;have p:=jq h;clear d h)
 go_ret
 exact⟨_,xs,rfl,u,z,o.out,p.out⟩
theorem Qv{a:Option Addr}{c:Nat}{vs:List SL}(w:World)(d:Nat)(s:d<w.heap.size){w0:World}(t:Lies w0 a (vs.map sl))(u:vs.length<=c)(l:vs.length<=1000000)(h:Below w0.heap.size w0 w)(hc:w.cell? ⟨d,0,none⟩=some (.slice a vs.length c)):
  Calls prog 110 #[.func (.func 149) #[] #[.pointer (some ⟨d,0,none⟩)]] w λe w'=>∃v,e=.returned v/\gY w' w.heap.size v vs/\Below w.heap.size w w':=by
 refine(Af _ _ (enters_of func149 (by kernel_rfl) rfl) l w h.size (Qs Fence.wide 4 trivial rfl (by omega) d t u l h s hc)).mono ?_;rintro e w' ⟨v,xs,rfl,rfl,_,o,p⟩;exact⟨v,rfl,o,p⟩
theorem infoRow: (prog.info? 120).map (λi=>(i.zero,i.size,i.bytes))=some (some (.slice none 0 0),1,24):=by kernel_rfl
abbrev OwnR(w:World)(base:Nat)(v:Value)(xs:List SL):Prop:=w.ownsRow base 120 1 v xs.length (xs.map sl)
theorem Qw(d:Addr)(cp:Nat)(vs:List SL)(w:World)(h:Lies w (some d) (vs.map sl))(M:vs.length<=1000000):
  Calls prog 114 #[.slice (some d) vs.length cp] w λe w'=>∃v,e=.returned v/\OwnR w' w.heap.size v vs/\Below w.heap.size w w':=by
 obtain⟨L,E,H,I,J⟩:=info_parts infoRow;have O:=λw=>Lib.run_eql_slice_nil (P:=prog) w 148 120 (some d) vs.length cp 0 0 underlying148
 have l:=(Below.refl w.heap.size w).alloc jn (.cells #[] 120);have p:=fT w 120 1;have B:=jq (dQ (h.later l))
 have z:=jq (show∀u∈vs.map sl,u.oneCell'=true from λu F=>by
  obtain⟨x,_,rfl⟩:=List.mem_map.1 F
  rfl)
 have A:=jq l;clear h l
 go_enter func114,ntmps114
 go_wp2_with (first|(at_builtin;refine wpList_append_own _ rfl _ _ 148 rfl w.heap.size 120 L (.slice none 0 0) 1 24 underlying148 E H I J rfl (by decide) _ _ _ rfl p d vs.length cp (vs.map sl) rfl ?c1 B.out z.out ?c3 ?c4 ?c5 ?_))
 case c1=>simp
 case c3=>unfold maxLen;omega
 case c4=>omega
 case c5=>simp
 intro t w1 s o G;have D:Below w.heap.size w w1:=A.out.grown o (by simp) (λq hq=>(p.lt q hq).1);have C:=jq (show OwnR w1 w.heap.size t vs by simpa using s);clear s o G
 go_wp2_with fail
 go_ret
 exact⟨t,rfl,C.out,D⟩
theorem eT.drewN{w:World}{v:Value}{b:B}(h:eT w v b)(n:Nat):eT (w.drewN n) v b:=h
theorem Qx(a b:B):decide (iV a b<0)=decide (a<b):=by
 rw[decide_eq_decide];exact Ag _ _
theorem Qy(w:World)(g off n c i k:Nat)(E:i<n)(F:k<n)(_:n<=1000000)(p q:Addr)(t cp nq v:Nat)(G:0<t)(H:0<nq)(x y:SL)(a b:B)(C:w.cell? ⟨g,off+i,none⟩=some (.slice (some p) t cp))(D:w.cell? ⟨g,off+k,none⟩=some (.slice (some q) nq v))(h:w.cell? p=some (sl x))(l:w.cell? q=some (sl y))(o:eT w (sl x) a)(s:eT w (sl y) b):
  Calls prog 237 #[.slice (some ⟨g,off,none⟩) n c,.int .i64 i,.int .i64 k] w λe w'=>e=.returned (.bool (decide (a<b)))/\∃m,w'=w.drewN m:=by
 obtain⟨I,J,xc⟩:=x;obtain⟨L,O,M⟩:=y;have d:=jq (λm=>Ae _ _ a b (w.drewN m) (o.drewN m) (s.drewN m));have u:=jq (Qx a b);unfold sl at h l d;dsimp only at h l d;have z:p.add 0=p:=by unfold Addr.add;split <;> simp_all
 have A:q.add 0=q:=by unfold Addr.add;split <;> simp_all
 clear o s
 go_enter func237,ntmps237
 go_wp2_with fail
 go_quiet ((go_at_call 107;refine Calls.quiet_of_same (d.out _)))
 go_wp2_with fail
 go_ret
 exact⟨by rw[u.out];rfl,_,rfl⟩
theorem Qz(w:World)(a:Option Addr)(n c:Nat):Calls prog 117 #[.slice a n c] w λe w'=>e=.returned (.int .i64 n)/\w'=w:=by
 go_enter func117,ntmps117
 go_wp2
 go_ret
 exact⟨rfl,rfl⟩
theorem QA(w:World)(g off n c i k:Nat)(o:i<n)(p:k<n)(_:n<=1000000)(x y:SL)(s:i≠k)(d:w.cell? ⟨g,off+i,none⟩=some (sl x))(h:w.cell? ⟨g,off+k,none⟩=some (sl y))(f1:w.frozen? ⟨g,off+i,none⟩=false)(l:w.frozen? ⟨g,off+k,none⟩=false):
  Calls prog 238 #[.slice (some ⟨g,off,none⟩) n c,.int .i64 i,.int .i64 k] w λe w'=>e=.returned (.tuple #[])/\w'=((w.setCell ⟨g,off+i,none⟩ (sl y)).setCell ⟨g,off+k,none⟩ (sl x)).drew:=by
 obtain⟨t,u,xc⟩:=x;obtain⟨v,A,z⟩:=y;unfold sl at d h⊢;dsimp only at d h⊢
 go_enter func238,ntmps238
 go_wp2
 go_region
 go_wp2
 go_end0
 exact⟨rfl,rfl⟩
theorem QB(w:World)(g off n c i:Nat)(h:i<n)(_:n<=1000000)(x:SL)(d:w.cell? ⟨g,off+i,none⟩=some (sl x))(f1:w.frozen? ⟨g,off+i,none⟩=false):
  Calls prog 238 #[.slice (some ⟨g,off,none⟩) n c,.int .i64 i,.int .i64 i] w λe w'=>e=.returned (.tuple #[])/\w'=((w.setCell ⟨g,off+i,none⟩ (sl x)).setCell ⟨g,off+i,none⟩ (sl x)).drew:=by
 obtain⟨l,o,xc⟩:=x;unfold sl at d⊢;dsimp only at d⊢
 go_enter func238,ntmps238
 go_wp2
 go_region
 go_wp2
 go_end0
 exact⟨rfl,rfl⟩
theorem QC(w:World)(hb g off n c:Nat)(l:n+1<=1000000)(hc:n+1<=c)(x:SL)(h:w.cell? ⟨hb,0,none⟩=some (.slice (some ⟨g,off,none⟩) (n+1) c))(f0:w.frozen? ⟨hb,0,none⟩=false)(d:w.cell? ⟨g,off+n,none⟩=some (sl x)):
  Calls prog 239 #[.pointer (some ⟨hb,0,none⟩)] w λe w'=>e=.returned (.iface 120 (sl x))/\∃m,w'=(w.drewN m).setCell ⟨hb,0,none⟩ (.slice (some ⟨g,off,none⟩) n c):=by
 obtain⟨p,s,xc⟩:=x;unfold sl at d⊢;dsimp only at d⊢;have o:RowKit.wrap64 ((n:Int)+1-1)=n:=IntWalk.wrap64_in _ (by omega) |>.trans (by omega)
 go_enter func239,ntmps239
 go_wp2
 go_quiet (fail)
 go_wp2
 go_region
 go_wp2
 go_ret
 exact⟨rfl,_,rfl⟩
end Runs
namespace Runs
open Go.RowKit Go.Deep Go.Shelf Mem Crc Merge
theorem QD(P:Program)(fuel:Nat)(t:TypeId)(name:String)(i:TypeInfo)(m:Go.Method)(f:FuncId)(el d:TypeId)(w:World)(a:Addr)(v:Value)(A:P.info? t=some i)(B:i.methods.find? (·.name==name)=some m)(C:m.path=#[])(z:m.func=some (f,false))(D:P.underlying t=some (.pointer el))(u:P.underlying el=some (.slice d))(h:w.cell? a=some v):
  (method (fuel+1) t (.pointer (some a)) name).run P w=.ok (f,v) w:=by
 have e:=run_typeInfo w A;have l:=run_underlying D w;have o:=run_isAgg_plain u rfl w
 have p : ∀ s : String, (Builtin.ssaWrapNilChk_ #[t] t #[.pointer (some a), strVal "", strVal s]).run P w = .ok (.pointer (some a)) w := λs => rfl
 simp only[method,Sem.run_bind,e,Result.andThen_ok,B,C,z,follow,Sem.run_pure,receiverAt,l,Place.get,Array.isEmpty,List.size_toArray,List.length_nil,decide_true,if_true,p]
 simp[loadVar,asAddr,o,h,Result.andThen]
theorem QE: ((prog.info? 206).bind (λi => i.methods.find? (·.name == "Len"))).map (λm => (m.path, m.func)) = some (#[], some (117, false)) := by kernel_rfl
theorem QF: ((prog.info? 206).bind (λi => i.methods.find? (·.name == "Less"))).map (λm => (m.path, m.func)) = some (#[], some (237, false)) := by kernel_rfl
theorem QG: ((prog.info? 206).bind (λi => i.methods.find? (·.name == "Swap"))).map (λm => (m.path, m.func)) = some (#[], some (238, false)) := by kernel_rfl
theorem Ah(n:Nat)(name:String)(f:FuncId)(l: ((prog.info? 206).bind (λi=>i.methods.find? (·.name==name))).map (λm=>(m.path,m.func))=some (#[],some (f,false)))(w:World)(a:Addr)(v:Value)(h:w.cell? a=some v):
  (method (n+1) 206 (.pointer (some a)) name).run prog w=.ok (f,v) w:=by
 rw[Option.map_eq_some_iff]at l;obtain⟨m,d,e⟩:=l;rw[Option.bind_eq_some_iff]at d;obtain⟨i,o,p⟩:=d;exact QD prog n _ name i m f _ _ w a v o p (congrArg Prod.fst e) (congrArg Prod.snd e) underlying206 underlying202 h
theorem Ai(n : Nat)(w : World)(a : Addr)(v : Value)(h : w.cell? a = some v): (method (n + 1) 206 (.pointer (some a)) "Len").run prog w = .ok (117, v) w := Ah n _ _ QE w a v h
theorem FN(n : Nat)(w : World)(a : Addr)(v : Value)(h : w.cell? a = some v): (method (n + 1) 206 (.pointer (some a)) "Less").run prog w = .ok (237, v) w := Ah n _ _ QF w a v h
theorem wV(n : Nat)(w : World)(a : Addr)(v : Value)(h : w.cell? a = some v): (method (n + 1) 206 (.pointer (some a)) "Swap").run prog w = .ok (238, v) w := Ah n _ _ QG w a v h
theorem QH(n : Nat)(w : World)(a : Addr): (method (n + 1) 206 (.pointer (some a)) "Pop").run prog w = .ok (239, .pointer (some a)) w := by kernel_rfl
open Heap
attribute [local go_sem] Oper.semAt_some
abbrev El:=SL×Row
def dz(a b:El):Prop:=lt a.2 b.2
theorem wW:Ord dz:=⟨λa b=>ord.asym a.2 b.2,λa b c=>ord.trans a.2 b.2 c.2⟩
variable {w w' X Y wr w2 w1:World}{U:Nat->Prop}{r:SL×List B}{hb g N c n i k j q:Nat}{f f':Nat->El}{x:Nat->SL}{b a:Int}
theorem wX{vs:List SL}{held:List B}{R P:Nat->Prop}(h:bY w (vs.map sl) held)(z:Upon P w w')(rb:∀y∈vs,∀g,Mem.blk y.1=some g->R g)(t:∀g,R g->¬P g):bY w' (vs.map sl) held:=
 ⟨h.len,λi v b l hb=>by
  obtain⟨a,c,e,p,s⟩:=h.at_ i v b l hb;refine⟨a,c,e,p,s.upon z (λg u=>?_)⟩;rw[List.getElem?_map,Option.map_eq_some_iff]at l;obtain⟨y,A,d⟩:=l
  have o:y.1=a:=by
   rw[e]at d;unfold sl at d;injection d
  exact t g (rb y (jM A) g (by rw[o];exact u))⟩
def RowB(w:World)(U:Nat->Prop)(r:SL×List B):Prop:=
 ∃(a:Option Addr) (c:Nat) (vs:List SL),r.1=(a,r.2.length,c)/\r.2.length<=c/\vs.length=r.2.length/\Lies w a (vs.map sl)/\(∀g,Mem.blk a=some g->U g)/\bY w (vs.map sl) r.2/\∀y∈vs,∀g,Mem.blk y.1=some g->U g
theorem RowB.at_(h:RowB w U r):FO w (sl r.1) r.2:=by
 obtain⟨a,c,vs,e,d,p,l,s,o,t⟩:=h;exact⟨a,c,vs.map sl,by rw[e];rfl,d,l,o⟩
theorem RowB.upon{w w':World}{U P:Nat->Prop}{r:SL×List B}(h:RowB w U r)(p:Upon P w w')(o:∀g,U g->¬P g):RowB w' U r:=by
 obtain⟨a,c,vs,e,s,t,u,d,v,l⟩:=h;exact⟨a,c,vs,e,s,t,u.upon p (λg z=>o g (d g z)),d,wX v p l o,l⟩
theorem RowB.later(h:RowB w U r)(d:Below w.heap.size w w'):RowB w' U r:=h.upon (P:=λ_=>False) (Upon.of_below d) (λ_ _ h=>h)
theorem RowB.mono{V:Nat->Prop}(h:RowB w U r)(l:∀g,U g->V g):RowB w V r:=by
 obtain⟨a,c,vs,e,o,p,s,t,u,v⟩:=h;exact⟨a,c,vs,e,o,p,s,λg d=>l g (t g d),u,λy z g d=>l g (v y z g d)⟩
structure Base where
 w:World
 U:Nat->Prop
 lt:∀k,U k->k<w.heap.size
structure Keeps(w0:Base)(w:World):Prop where
 size:w0.w.heap.size<=w.heap.size
 block:∀k,w0.U k->w.heap[k]? =w0.w.heap[k]?
variable {w0:Base}
theorem Keeps.only(h:Keeps w0 X){bs:List Nat}(e:Only bs X Y)(hb:∀k∈bs,w0.w.heap.size<=k):Keeps w0 Y:=
 ⟨ax h.size e.size,λk d=>(e.block k (aD (w0.lt k d) h.size) (λl=>by have:=hb k l;have:=w0.lt k d;omega)).trans (h.block k d)⟩
theorem Keeps.below(h:Keeps w0 X){d:Nat}(e:Below d X Y)(o:w0.w.heap.size<=d):Keeps w0 Y:=
 ⟨ax h.size e.size,λk l=>(e.block k (aD (w0.lt k l) o)).trans (h.block k l)⟩
theorem RowB.keep{w0:Base}{X:World}{r:SL×List B}(h:RowB w0.w w0.U r)(d:Keeps w0 X):RowB X w0.U r:=by
 obtain⟨a,c,vs,e,C,D,E,t,u,z⟩:=h;refine⟨a,c,vs,e,C,D,E.keep d.size (λg o=>d.block g (t g o)),t,⟨u.len,λi v b p hb=>?_⟩,z⟩;obtain⟨a',c',s,F,G⟩:=u.at_ i v b p hb;refine⟨a',c',s,F,G.keep d.size (λg o=>d.block g ?_)⟩;rw[List.getElem?_map,Option.map_eq_some_iff]at p;obtain⟨y,H,l⟩:=p
 have A:y.1=a':=by
  rw[s]at l;unfold sl at l;injection l
 exact z y (jM H) g (by rw[A];exact o)
structure bZ(w0:Base)(w:World)(hb g N c:Nat)(x:Nat->SL):Prop where
 cell:Blk w hb 202 #[.slice (some ⟨g,0,none⟩) N c]
 row:∃cs,Blk w g 120 cs/\∀k,k<N->cs[k]? =some (sl (x k))
 le:N<=c
 below:Keeps w0 w
 old:w0.w.heap.size<=hb/\w0.w.heap.size<=g
 few:N<=1000000
theorem bZ.ne{w0:Base}{w:World}{hb g N c:Nat}{x:Nat->SL}(h:bZ w0 w hb g N c x):hb≠g:=by
 obtain⟨e,d,_⟩:=h.row;exact h.cell.ne d (by decide)
theorem bZ.drewN{w0:Base}{w:World}{hb g N c:Nat}{x:Nat->SL}(h:bZ w0 w hb g N c x)(n:Nat):bZ w0 (w.drewN n) hb g N c x:=
 ⟨h.cell,h.row,h.le,⟨h.below.size,h.below.block⟩,h.old,h.few⟩
theorem bZ.swap{w0:Base}{w:World}{hb g N c:Nat}{x:Nat->SL}(h:bZ w0 w hb g N c x){i k:Nat}(A:i<N)(B:k<N):
  bZ w0 ((w.setCell ⟨g,i,none⟩ (sl (x k))).setCell ⟨g,k,none⟩ (sl (x i))).drew hb g N c (Heap.swap x i k)/\Only [g] w ((w.setCell ⟨g,i,none⟩ (sl (x k))).setCell ⟨g,k,none⟩ (sl (x i))).drew:=by
 obtain⟨e,u,s⟩:=h.row;have z:=h.ne;have o:Only [g] w ((w.setCell ⟨g,i,none⟩ (sl (x k))).setCell ⟨g,k,none⟩ (sl (x i))).drew:=(((Only.refl [g] w).set (p:=⟨g,i,none⟩) (.inl (by simp)) _).set (p:=⟨g,k,none⟩) (.inl (by simp)) _).drew
 have C:N<=e.size:=by
  rcases Nat.eq_zero_or_pos N with t|t
  ·omega
  ·have:=(dG.1 (s (N-1) (by omega))).1
   omega
 refine⟨⟨Blk.only h.cell o (by simpa using z),⟨_,((u.set i (sl (x k))).set k (sl (x i))).drew,λj v=>?_⟩,h.le,h.below.only o (by simpa using h.old.2),h.old,h.few⟩,o⟩;rw[kI,kI];simp only[Array.size_setIfInBounds];unfold Heap.swap
 by_cases l:j=i
 ·subst l
  by_cases d:k=j
  ·subst d
   simp[show k<e.size by omega]
  ·simp[d,show j<e.size by omega]
 ·by_cases d:j=k
  ·subst d
   simp[l,show j<e.size by omega]
  ·rw[if_neg (gL d),if_neg (gL l),if_neg l,if_neg d];exact s j v
def Up(w0:Base)(f:Nat->El)(n:Nat):Prop:=∀k,k<n->RowB w0.w w0.U ((f k).1,(f k).2.1)
theorem Up.swap{w0:Base}{f:Nat->El}{n i k:Nat}(h:Up w0 f n)(d:i<n)(l:k<n):Up w0 (Heap.swap f i k) n:=λj e=>by
 unfold Heap.swap
 split
 ·exact h k l
 ·split
  ·exact h i d
  ·exact h j e
theorem FP(f:Nat->El)(i k:Nat): (λj=>(Heap.swap f i k j).1)=Heap.swap (λj=>(f j).1) i k:=by
 funext j
 unfold Heap.swap
 split
 ·rfl
 ·split <;> rfl
theorem QI(h:bZ w0 w hb g N c (λk=>(f k).1))(E:Up w0 f n)(h3:n<=N)(R:i<n)(T:k<n):
  Calls prog 237 #[.slice (some ⟨g,0,none⟩) N c,.int .i64 i,.int .i64 k] w λe w'=>∃b:Bool,e=.returned (.bool b)/\(b=true↔dz (f i) (f k))/\∃m,w'=w.drewN m:=by
 obtain⟨cs,B,C⟩:=h.row;obtain⟨L,O,vi,s,li,G,I⟩:=((E i R).keep h.below).at_;obtain⟨M,P,vk,t,lk,H,J⟩:=((E k T).keep h.below).at_;have pos:∀r:Row,0<r.1.length:=λr=>lD.2 r.2
 have one:∀(a:Option Addr) (vs:List Value) (r:Row),Lies w a vs->bY w vs r.1->∃p v,a=some p/\w.cell? p=some (v:Value)/\eT w v (hd r):=λa vs r Q D=>by
  have hl:=D.len;have h0:=pos r;rcases Q with e|⟨q,o,e,_,hc⟩
  ·simp[e]at hl;omega
  ·obtain⟨v,F⟩:∃v,vs[0]? =some v:=⟨vs[0],jg (by omega)⟩;refine⟨⟨q,o,none⟩,v,e,hc 0 v F,D.at_ 0 v _ F ?_⟩;have:=wY r;rw[List.head?_eq_getElem?]at this;exact this
 obtain⟨p,u,rfl,W,d⟩:=one L vi _ G I;obtain⟨q,v,rfl,hq,l⟩:=one M vk _ H J;obtain⟨Z,pc,z,_,_⟩:=id d;obtain⟨qa,qc,A,_,_⟩:=id l;have c1:=C i (by omega);have c2:=C k (by omega);have e1:=s;have e2:=t
 try dsimp only at c1 c2
 rw[s]at c1;rw[t]at c2;refine(Qy w g 0 N c i k (by omega) (by omega) h.few p q _ O _ P (pos (f i).2) (pos (f k).2) (Z,_,pc) (qa,_,qc) _ _ ((B.cell _).trans (by simpa using c1)) ((B.cell _).trans (by simpa using c2)) (by rw[W,z];rfl) (by rw[hq,A];rfl) (by rw[z]at d;exact d) (by rw[A]at l;exact l)).mono ?_;rintro e w' ⟨rfl,V⟩;refine⟨_,rfl,?_,V⟩;rw[decide_eq_true_iff];exact(lt_iff _ _).symm
theorem QJ(h:bZ w0 w hb g N c x)(l:i<N)(o:k<N):
  Calls prog 238 #[.slice (some ⟨g,0,none⟩) N c,.int .i64 i,.int .i64 k] w λe w'=>e=.returned (.tuple #[])/\bZ w0 w' hb g N c (Heap.swap x i k)/\Only [g] w w':=by
 obtain⟨t,d,p⟩:=h.row;have s:=h.swap l o;have c1:w.cell? ⟨g,0+i,none⟩=some (sl (x i)):=(d.cell _).trans (by simpa using p i l);have c2:w.cell? ⟨g,0+k,none⟩=some (sl (x k)):=(d.cell _).trans (by simpa using p k o)
 by_cases e:i=k
 ·subst e;refine(QB w g 0 N c i l h.few (x i) c1 (d.frozen _)).mono ?_;rintro e w' ⟨rfl,rfl⟩;rw[Nat.zero_add];exact⟨rfl,s⟩
 ·refine(QA w g 0 N c i k l o h.few (x i) (x k) e c1 c2 (d.frozen _) (d.frozen _)).mono ?_;rintro e w' ⟨rfl,rfl⟩;rw[Nat.zero_add,Nat.zero_add];exact⟨rfl,s⟩
structure Down(w0:Base)(w w':World)(hb g N c:Nat)(f f':Nat->El)(k n:Nat):Prop where
 heads:bZ w0 w' hb g N c (λk=>(f' k).1)
 up:Up w0 f' n
 out:∀j,n<=j->f' j=f j
 perm: (row f' n).Perm (row f n)
 only:Only [g] w w'
theorem wZ(h:0<c)(d:parent c=j):c=2*j+1\/c=2*j+2:=by unfold parent at d;omega
theorem FQ(j:Nat):parent (2*j+1)=j:=by unfold parent;omega
theorem QK(j:Nat):parent (2*j+2)=j:=by unfold parent;omega
theorem Down.refl{w0:Base}{w:World}{hb g N c:Nat}{f:Nat->El}{n:Nat}(k:Nat)(h:bZ w0 w hb g N c (λk=>(f k).1))(d:Up w0 f n):Down w0 w w hb g N c f f k n:=
 ⟨h,d,λ_ _=>rfl,oN _,Only.refl _ _⟩
theorem Down.drewN{w0:Base}{w w':World}{hb g N c:Nat}{f f':Nat->El}{k n:Nat}(h:Down w0 w w' hb g N c f f' k n)(m:Nat):Down w0 w (w'.drewN m) hb g N c f f' k n:=⟨h.heads.drewN m,h.up,h.out,h.perm,h.only.drewN m⟩
theorem Down.swap{w0:Base}{w w1 w2:World}{hb g N c:Nat}{f f':Nat->El}{k n i j:Nat}(h:Down w0 w w1 hb g N c f f' k n)(d:i<n)(e:j<n)(l:bZ w0 w2 hb g N c (Heap.swap (λk=>(f' k).1) i j))(o:Only [g] w1 w2):Down w0 w w2 hb g N c f (Heap.swap f' i j) k n:=
 ⟨by rw[FP];exact l,h.up.swap d e,λq hq=>by rw[pR f' (by omega) (by omega)];exact h.out q hq,(FT f' d e).trans h.perm,h.only.trans o⟩
def Loop(w0:Base)(w:World)(hb g N c:Nat)(f:Nat->El)(k n:Nat)(i:Value)(wr:World):Prop:=
 ∃(j:Nat) (f':Nat->El),j<=n/\i=.int .i64 j/\Down w0 w wr hb g N c f f' k n/\Dn dz f' k n j
def Ends(w0:Base)(w:World)(hb g N c:Nat)(f:Nat->El)(k n:Nat)(e:Ending)(w':World):Prop:=
 ∃(b:Bool) (f':Nat->El),e=.returned (.bool b)/\Down w0 w w' hb g N c f f' k n/\Heap dz f' k n
theorem QL{b:Bool}(hD:Down w0 w wr hb g N c f f' k n)(e:Dn dz f' k n j)(l:∀q,q=2*j+1\/q=2*j+2->q<n->¬dz (f' q) (f' j)):Ends w0 w hb g N c f k n (.returned (.bool b)) wr:=
 ⟨b,f',rfl,hD,FU e (λq d hq h=>l q (wZ d h) hq)⟩
structure Child(f:Nat->El)(n j q:Nat):Prop where
 le:q<n
 child:parent q=j
 min:∀p,0<p->p<n->parent p=j->¬dz (f p) (f q)
theorem Aj(a:El):¬dz a a:=λh=>wW.asym _ _ h h
theorem QM(e:2*j+1<n)(h:¬2*j+2<n):Child f n j (2*j+1):=
 ⟨e,FQ j,λp d l o=>by
  rcases wZ d o with rfl|rfl
  ·exact Aj _
  ·exact absurd l h⟩
theorem QN(e:2*j+2<n)(h:dz (f (2*j+2)) (f (2*j+1))):Child f n j (2*j+2):=
 ⟨e,QK j,λp d o l=>by
  rcases wZ d l with rfl|rfl
  ·exact wW.asym _ _ h
  ·exact Aj _⟩
theorem QO(e:2*j+1<n)(h:¬dz (f (2*j+2)) (f (2*j+1))):Child f n j (2*j+1):=
 ⟨e,FQ j,λp d o l=>by
  rcases wZ d l with rfl|rfl
  ·exact Aj _
  ·exact h⟩
theorem Ak{b:Bool}(hD:Down w0 w wr hb g N c f f' k n)(e:Dn dz f' k n j)(hc:Child f' n j q)(hl:¬dz (f' q) (f' j)):Ends w0 w hb g N c f k n (.returned (.bool b)) wr:=
 ⟨b,f',rfl,hD,FU e (λp d h l=>wW.trans _ _ _ hl (hc.min p d h l))⟩
theorem Al(hD:Down w0 w wr hb g N c f f' k n)(d:Dn dz f' k n j)(hc:Child f' n j q)(hl:dz (f' q) (f' j))(l:j<q)(e:bZ w0 w2 hb g N c (Heap.swap (λk=>(f' k).1) j q))(h:Only [g] wr w2):Loop w0 w hb g N c f k n (.int .i64 q) w2:=
 ⟨q,Heap.swap f' j q,kF hc.le,rfl,hD.swap (by have:=hc.le;omega) hc.le e h,QR wW d (by omega) hc.le hc.child hl hc.min⟩
def Same(w w':World):Prop:=∃m,w'=w.drewN m
theorem Down.same(h:Down w0 w w1 hb g N c f f' k n)(d:Same w1 w2):Down w0 w w2 hb g N c f f' k n:=by
 obtain⟨m,rfl⟩:=d;exact h.drewN m
theorem Down.cell{w0:Base}{w w1:World}{hb g N c:Nat}{f f':Nat->El}{k n:Nat}(h:Down w0 w w1 hb g N c f f' k n):w1.cell? ⟨hb,0,none⟩=some (.slice (some ⟨g,0,none⟩) N c):=by
 have d:=h.heads.cell.cell 0
 simpa using d
theorem xe(h:bZ w0 w hb g N c (λk=>(f k).1))(s:Up w0 f n)(p:n<=N)(l:i<n)(o:k<n)(ha:a=(i:Int))(d:b=(k:Int)):
  Calls prog 237 #[.slice (some ⟨g,0,none⟩) N c,.int .i64 a,.int .i64 b] w λe w'=>∃b:Bool,e=.returned (.bool b)/\(b=true↔dz (f i) (f k))/\Same w w':=by
 subst ha d;exact QI h s p l o
theorem xf(h:bZ w0 w hb g N c x)(l:i<N)(o:k<N)(ha:a=(i:Int))(d:b=(k:Int)):
  Calls prog 238 #[.slice (some ⟨g,0,none⟩) N c,.int .i64 a,.int .i64 b] w λe w'=>e=.returned (.tuple #[])/\bZ w0 w' hb g N c (Heap.swap x i k)/\Only [g] w w':=by
 subst ha d;exact QJ h l o
theorem Am(ha:a=(q:Int))(h:Loop w0 w hb g N c f k n (.int .i64 q) wr):Loop w0 w hb g N c f k n (.int .i64 a) wr:=by subst ha;exact h
theorem lK(h:bZ w0 w hb g N c (λk=>(f k).1))(H:n<=N)(P:Up w0 f n)(V:k<=n)(M:Heap dz f (k+1) n):
  Calls prog 154 #[.iface 206 (.pointer (some ⟨hb,0,none⟩)),.int .i64 k,.int .i64 n] w (Ends w0 w hb g N c f k n):=by
 have W:Loop w0 w hb g N c f k n (.int .i64 k) w:=⟨k,f,V,rfl,Down.refl k h P,QS M⟩;have h0:=h.few;clear h M P
 go_enter func154,ntmps154
 go_wp2_with fail
 go_loopw[7] (Loop w0 w hb g N c f k n) (λi _=>n-(intOf i).toNat)
 case atStart=>exact W
 case round=>
  obtain⟨j,f',hj,rfl,hD,L⟩:=hrel;have R:=λq=>FN q wr ⟨hb,0,none⟩ _ hD.cell
  have s:=jq hD;have A:=jq L;clear hD L
  by_cases I:2*j+1<n
  ·by_cases J:2*j+2<n
   ·go_wp2_with fail
    refine(xe s.out.heads s.out.up H (i:=2*j+2) (k:=2*j+1) J I (by omega) (by omega)).mono ?_;rintro e w1 ⟨T,rfl,G,O⟩;have C:=jq (s.out.same O);have Z:=λu=>FN u w1 ⟨hb,0,none⟩ _ C.out.cell
    clear O R;cases T
    ·have B:=jq (show¬dz (f' (2*j+2)) (f' (2*j+1))from λhl=>absurd (G.2 hl) (by simp));clear G;have d:=jq (QO I B.out)
     go_wp2_with fail
     refine(xe C.out.heads s.out.up H (i:=(2*j+1)) (k:=j) d.out.le (by omega) (by omega) rfl).mono ?_;rintro e w2 ⟨F,rfl,o,z⟩;have l:=jq (C.out.same z);clear z;cases F
     ·have p:=jq (λb:Bool=>Ak (b:=b) l.out A.out d.out (λhl=>absurd (o.2 hl) (by simp)));clear o
      go_wp2_with fail
      go_ret
      exact p.out _
     ·have p:=jq (o.1 rfl);have E:=λu=>wV u w2 ⟨hb,0,none⟩ _ l.out.cell
      clear o
      go_wp2_with fail
      refine(xf l.out.heads (i:=j) (k:=(2*j+1)) (by omega) (by have:=d.out.le;omega) rfl (by omega)).mono ?_;rintro e Q ⟨rfl,t,v⟩;have D:=jq (Al l.out A.out d.out p.out (by omega) t v);clear E t v
      go_wp2_with fail
      go_roundw
      case rel=>exact Am (by omega) D.out
      case measure=>simp[intOf];omega
    ·have B:=jq (G.1 rfl);clear G;have d:=jq (QN J B.out)
     go_wp2_with fail
     refine(xe C.out.heads s.out.up H (i:=(2*j+2)) (k:=j) d.out.le (by omega) (by omega) rfl).mono ?_;rintro e w2 ⟨F,rfl,o,z⟩;have l:=jq (C.out.same z);clear z;cases F
     ·have p:=jq (λb:Bool=>Ak (b:=b) l.out A.out d.out (λhl=>absurd (o.2 hl) (by simp)));clear o
      go_wp2_with fail
      go_ret
      exact p.out _
     ·have p:=jq (o.1 rfl);have E:=λu=>wV u w2 ⟨hb,0,none⟩ _ l.out.cell
      clear o
      go_wp2_with fail
      refine(xf l.out.heads (i:=j) (k:=(2*j+2)) (by omega) (by have:=d.out.le;omega) rfl (by omega)).mono ?_;rintro e Q ⟨rfl,t,v⟩;have D:=jq (Al l.out A.out d.out p.out (by omega) t v);clear E t v
      go_wp2_with fail
      go_roundw
      case rel=>exact Am (by omega) D.out
      case measure=>simp[intOf];omega
   ·have B:=jq J;have d:=jq (QM (f:=f') I B.out)
    go_wp2_with fail
    refine(xe s.out.heads s.out.up H (i:=(2*j+1)) (k:=j) d.out.le (by omega) (by omega) rfl).mono ?_;rintro e w2 ⟨F,rfl,o,z⟩;have l:=jq (s.out.same z);clear z;cases F
    ·have p:=jq (λb:Bool=>Ak (b:=b) l.out A.out d.out (λhl=>absurd (o.2 hl) (by simp)));clear o
     go_wp2_with fail
     go_ret
     exact p.out _
    ·have p:=jq (o.1 rfl);have E:=λu=>wV u w2 ⟨hb,0,none⟩ _ l.out.cell
     clear o
     go_wp2_with fail
     refine(xf l.out.heads (i:=j) (k:=(2*j+1)) (by omega) (by have:=d.out.le;omega) rfl (by omega)).mono ?_;rintro e Q ⟨rfl,t,v⟩;have D:=jq (Al l.out A.out d.out p.out (by omega) t v);clear E t v
     go_wp2_with fail
     go_roundw
     case rel=>exact Am (by omega) D.out
     case measure=>simp[intOf];omega
  ·go_wp2_with fail
   go_ret
   exact QL s.out A.out (λq hq h3=>by omega)
structure Hp(w0:Base)(w:World)(hb g n c:Nat)(f:Nat->El):Prop where
 heads:bZ w0 w hb g n c (λk=>(f k).1)
 up:Up w0 f n
 heap:Heap dz f 0 n
def Ao(w0:Base)(w:World)(hb g n c:Nat)(f:Nat->El)(i:Value)(wr:World):Prop:=
 ∃(q:Nat) (f':Nat->El),q<=n/2/\i=.int .i64 ((q:Int)-1)/\Down w0 w wr hb g n c f f' 0 n/\Heap dz f' q n
def FV(w0:Base)(w:World)(hb g n c:Nat)(f:Nat->El)(w':World):Prop:=∃f',Hp w0 w' hb g n c f'/\(row f' n).Perm (row f n)/\Only [g] w w'
theorem QT(f:Nat->El)(n:Nat):Heap dz f (n/2) n:=λc e hc d=>by unfold parent at d;omega
theorem Down.then{f1 e:Nat->El}{o p:Nat}(h:Down w0 w w1 hb g N c f f1 k n)(d:Down w0 w1 w2 hb g N c f1 e o n):Down w0 w w2 hb g N c f e p n:=
 ⟨d.heads,d.up,λj l=>(d.out j l).trans (h.out j l),d.perm.trans h.perm,h.only.trans d.only⟩
theorem xg(w:World)(a:Option Addr)(n c:Nat):Calls prog 117 #[.slice a n c] w λe w'=>e=.returned (.int .i64 n)/\w=w':=(Qz w a n c).mono (λ_ _ h=>⟨h.1,h.2.symm⟩)
theorem Ap(h:bZ w0 w hb g N c (λk=>(f k).1))(o:n<=N)(p:Up w0 f n)(l:k<=n)(e:Heap dz f (k+1) n)(ha:a=(k:Int))(d:b=(n:Int)):
  Calls prog 154 #[.iface 206 (.pointer (some ⟨hb,0,none⟩)),.int .i64 a,.int .i64 b] w (Ends w0 w hb g N c f k n):=by
 subst ha d;exact lK h o p l e
theorem QU(h:bZ w0 w hb g n c (λk=>(f k).1))(o:Up w0 f n):
  Calls prog 116 #[.iface 206 (.pointer (some ⟨hb,0,none⟩))] w λe w'=>e=.returned (.tuple #[])/\FV w0 w hb g n c f w':=by
 have A:Ao w0 w hb g n c f (.int .i64 (((n/2:Nat):Int)-1)) w:=⟨n/2,f,aj _,rfl,Down.refl 0 h o,QT f n⟩;have B:=jq A;have C:=λq=>Ai q w ⟨hb,0,none⟩ _ (Down.refl 0 h o).cell
 have F:=h.few;have s:=jq (xg w (some ⟨g,0,none⟩) n c);clear h o A
 go_enter func116,ntmps116
 go_wp2_with fail
 refine s.out.mono ?_;rintro e w1 ⟨rfl,rfl⟩
 go_wp2_with fail
 clear C s
 go_loopw[3] (Ao w0 w hb g n c f) (λi _=>(intOf i+1).toNat)
 case atStart=>exact B.out
 case round=>
  obtain⟨q,f',hq,rfl,hD,v⟩:=hrel;have d:=jq hD;have p:=jq v;clear hD v
  by_cases E:1<=q
  ·go_wp2_with fail
   refine(Ap d.out.heads (aj n) d.out.up (k:=q-1) (by omega) (by rw[Nat.sub_add_cancel E];exact p.out) (by omega) rfl).mono ?_;rintro e w2 ⟨b,D,rfl,u,z⟩;have l:=jq (show Ao w0 w hb g n c f (.int .i64 (((q-1:Nat):Int)-1)) w2 from⟨q-1,D,by omega,rfl,d.out.then u,z⟩);clear u z
   go_wp2_with fail
   go_roundw
   case rel=>
    have:=l.out;rw[show((q-1:Nat):Int)-1=(q:Int)-1-1 by omega]at this;exact this
   case measure=>simp[intOf];omega
  ·have t:q=0:=by omega
   have l:=jq (show FV w0 w hb g n c f wr from⟨f',⟨d.out.heads,d.out.up,by have:=p.out;rwa [t]at this⟩,d.out.perm,d.out.only⟩);clear t
   go_wp2_with fail
   go_end0
   exact⟨rfl,l.out⟩
def FW(w0:Base)(w:World)(hb g n c:Nat)(f:Nat->El)(w':World):Prop:=∃f',Hp w0 w' hb g n c f'/\(f 0 ::row f' n).Perm (row f (n+1))/\Only [hb,g] w w'
theorem QV(f:Nat->El)(n:Nat):row f (n+1)=f 0 ::(List.range n).map (λk=>f (k+1)):=by
 unfold row;rw[List.range_succ_eq_map]
 simp[Function.comp_def]
theorem popped{s:World}{x0:SL}(D:Only [g] w s)(hD:Down w0 s w1 hb g (n+1) c (Heap.swap (put f 0 (x0,(f 0).2)) 0 n) f' 0 n)(B:Heap dz f' 0 n)(m:Nat):FW w0 w hb g n c f ((w1.drewN m).setCell ⟨hb,0,none⟩ (.slice (some ⟨g,0,none⟩) n c)):=by
 have d:=hD.heads.drewN m;obtain⟨t,z,A⟩:=d.row;have C:=d.ne;have p:Only [hb,g] (w1.drewN m) ((w1.drewN m).setCell ⟨hb,0,none⟩ (.slice (some ⟨g,0,none⟩) n c)):=(Only.refl _ _).set (.inl (by simp)) _;refine⟨f',⟨⟨by simpa using d.cell.set 0 (.slice (some ⟨g,0,none⟩) n c),⟨t,z.far (gL C) _,λk F=>A k (by omega)⟩,by have:=d.le;omega,d.below.only p (by simpa using⟨d.old.1,d.old.2⟩),d.old,by have:=d.few;omega⟩,hD.up,B⟩,?_,(((D.trans hD.only).drewN m).mono (by simp)).trans p⟩;obtain⟨f0,o⟩:=jl (put f 0 (x0,(f 0).2));rw[<-o]at hD;have E:=hD.perm;have e: (f0 0 ::row f' n).Perm (row (Heap.swap f0 0 n) n++ [f0 0]):=(List.Perm.cons _ E).trans (vB _ _).symm;have u:row (Heap.swap f0 0 n) n++ [f0 0]=row (Heap.swap f0 0 n) (n+1):=by rw[Aq,FX]
 rw[u]at e;have h:=e.trans (FT f0 (i:=0) (j:=n) (n:=n+1) (by omega) (by omega));rw[QV]at h⊢;have l:=(List.perm_cons _).1 h
 have v: (λk=>f0 (k+1))=λk=>f (k+1):=by
  funext k
  rw[o,ku f _ (by omega)]
 rw[v]at l;exact List.Perm.cons _ l
theorem QW(y:El)(h:Heap dz f 0 (n+1)):Heap dz (Heap.swap (put f 0 y) 0 n) 1 n:=λq d hq e=>by
 have:=ru d;rw[pR _ (by omega) (by omega),pR _ (by omega) (by omega),ku f _ (by omega),ku f _ (by omega)];exact h q d (by omega) (aC _)
theorem QX(f:Nat->El)(x0:SL): (λk=>(put f 0 (x0,(f 0).2) k).1)=put (λk=>(f k).1) 0 x0:=by
 funext k
 unfold put
 split <;> rfl
theorem QY{x0:SL}(h:bZ w0 w hb g (n+1) c (put (λk=>(f k).1) 0 x0))(H:∀k,0<k->k<n+1->RowB w0.w w0.U ((f k).1,(f k).2.1))(D:Heap dz f 0 (n+1)):
  Calls prog 118 #[.iface 206 (.pointer (some ⟨hb,0,none⟩))] w λe w'=>(∃v,e=.returned v)/\FW w0 w hb g n c f w':=by
 have hc:w.cell? ⟨hb,0,none⟩=some (.slice (some ⟨g,0,none⟩) (n+1) c):=by
  have P:=h.cell.cell 0
  simpa using P
 have M:=λq=>Ai q w ⟨hb,0,none⟩ _ hc
 have O:=λq=>wV q w ⟨hb,0,none⟩ _ hc
 have Q:=h.few;have o:=jq h;have u:=jq (QW (x0,(f 0).2) D);have d:=jq H;have s:=jq (xg w (some ⟨g,0,none⟩) (n+1) c);clear h H hc D
 go_enter func118,ntmps118
 go_wp2_with fail
 refine s.out.mono ?_;rintro e w1 ⟨rfl,rfl⟩
 go_wp2_with fail
 refine(xf o.out (i:=0) (k:=n) (by omega) (by omega) rfl (by omega)).mono ?_;rintro e w2 ⟨rfl,l,G⟩;rw[<-QX,<-FP]at l;have p:=jq l;have t:=jq G;clear l G M O s
 go_wp2_with fail
 refine(Ap p.out (k:=0) (n:=n) (by omega) (λk V=>?up) (by omega) u.out rfl (by omega)).mono ?_
 case up=>
  unfold Heap.swap
  split
  ·unfold put
   split
   ·omega
   ·exact d.out n (by omega) (by omega)
  ·split
   ·omega
   ·rw[ku f _ (by assumption)];exact d.out k (by omega) (by omega)
 rintro e I ⟨b,f',rfl,hD,E⟩;have z:=hD.cell;have A:=hD.heads.cell.frozen 0;obtain⟨T,B,C⟩:=hD.heads.row;have g3:=C n (by omega);have F:=hD.heads.le;have L:=jq (QC I hb g 0 n c Q F (f' n).1 z A ((B.cell _).trans (by simpa using g3)));have R:=λq=>QH q I ⟨hb,0,none⟩
 have J:=jq (λm=>popped t.out hD E m);clear z A B C g3 F hD E t p o u d
 go_wp2_with fail
 refine L.out.mono ?_;rintro e W ⟨rfl,m,rfl⟩
 go_wp2_with fail
 go_ret
 exact⟨⟨_,rfl⟩,J.out m⟩
def FY(w0:Base)(w:World)(hb g n c:Nat)(f:Nat->El)(w':World):Prop:=∃f',Hp w0 w' hb g n c f'/\(row f' n).Perm (row f n)/\Only [g] w w'
theorem QZ(w:World)(v:Value):Calls prog 155 #[v,.int .i64 0] w λe w'=>e=.returned (.tuple #[])/\w=w':=by
 go_enter func155,ntmps155
 go_wp2_with fail
 go_loopw[1] (λi wr=>i=.int .i64 0/\w=wr) (λ_ _=>0)
 case atStart=>exact⟨rfl,rfl⟩
 case round=>
  obtain⟨rfl,rfl⟩:=hrel
  go_wp2_with fail
  go_end0
  exact⟨rfl,rfl⟩
theorem Q6(h:bZ w0 w hb g n c (λk=>(f k).1))(d:Up w0 f n)(s:Heap dz f 1 n):
  Calls prog 119 #[.iface 206 (.pointer (some ⟨hb,0,none⟩)),.int .i64 0] w λe w'=>e=.returned (.tuple #[])/\FY w0 w hb g n c f w':=by
 have u:=λq=>Ai q w ⟨hb,0,none⟩ _ (Down.refl 0 h d).cell
 have p:=jq (xg w (some ⟨g,0,none⟩) n c);have l:=jq (Ap h (aj n) d (k:=0) (aC _) s (a:=0) (b:=n) rfl rfl);clear h d s
 go_enter func119,ntmps119
 go_wp2_with fail
 refine p.out.mono ?_;rintro e w1 ⟨rfl,rfl⟩;clear u p
 go_wp2_with fail
 refine l.out.mono ?_;rintro e w2 ⟨b,f',rfl,hD,t⟩;have o:=jq (show FY w0 w hb g n c f w2 from⟨f',⟨hD.heads,hD.up,t⟩,hD.perm,hD.only⟩);clear hD t l;cases b
 ·go_wp2_with fail
  refine(QZ _ _).mono ?_;rintro e v ⟨rfl,rfl⟩
  go_wp2_with fail
  go_end0
  exact⟨rfl,o.out⟩
 ·go_wp2_with fail
  go_end0
  exact⟨rfl,o.out⟩
end Runs
namespace Runs
open Go.RowKit Go.Deep Go.Shelf Mem Crc Merge
attribute [local go_sem] Oper.semAt_some
def keep(y:SL):Bool:= !(y.2.1==0)
theorem FZ(w:World)(y:SL):Calls prog 115 #[sl y] w λe w'=>e=.returned (.bool (!keep y))/\w=w':=by
 obtain⟨a,n,c⟩:=y;unfold sl keep;dsimp only
 by_cases h:n=0
 ·subst h
  go_enter func115,ntmps115
  go_wp2_with fail
  go_ret
  exact⟨rfl,rfl⟩
 ·have d: ((n:Int)==0)=false:=by simpa using h
  have e: (n==0)=false:=by simpa using h
  rw[e]
  go_enter func115,ntmps115
  go_wp2_with fail
  go_ret
  exact⟨rfl,rfl⟩
structure nX(w:World)(g:Nat)(xs:List SL):Prop where
 row:∃cs,Blk w g 120 cs/\∀(k:Nat) (y:SL),xs[k]? =some y->cs[k]? =some (sl y)
theorem nX.cell{w:World}{g:Nat}{xs:List SL}(h:nX w g xs){k:Nat}{y:SL}(l:xs[k]? =some y):w.cell? ⟨g,k,none⟩=some (sl y)/\w.frozen? ⟨g,k,none⟩=false:=by
 obtain⟨o,d,e⟩:=h.row;exact⟨(d.cell _).trans (e k y l),d.frozen _⟩
def Ga(xs:List SL)(i:Int):Prop:=(i= -1/\∀y∈xs,keep y=true)\/∃(k:Nat) (y:SL),i=(k:Int)/\xs[k]? =some y/\keep y=false/\∀z∈xs.take k,keep z=true
theorem sZ(w:World)(g n c:Nat)(xs:List SL)(v:xs.length=n)(h:nX w g xs)(G:n<=1000000):
  Calls prog 153 #[.slice (some ⟨g,0,none⟩) n c,.func (.func 115) #[] #[]] w λe w'=>(∃i,e=.returned (.int .i64 i)/\Ga xs i)/\w=w':=by
 have H:=jq h;have t:=jq v;clear h v
 go_enter func153,ntmps153
 go_wp2_with fail
 go_loopw[8] (λi wr=>w=wr/\∃k:Nat,k<=n/\i=.int .i64 k/\∀z∈xs.take k,keep z=true) (λi _=>n-(intOf i).toNat)
 case atStart=>exact⟨rfl,0,aC _,rfl,by simp⟩
 case round=>
  obtain⟨rfl,k,F,rfl,d⟩:=hrel;have s:=jq d;clear d
  by_cases hlt:k<n
  ·obtain⟨y,o⟩:∃y,xs[k]? =some y:=⟨xs[k]'(by rw[t.out];exact hlt),jg _⟩;have hc:=(H.out.cell o).1;have I:RowKit.wrap64 ((k:Int)+1)=(k:Int)+1:=IntWalk.wrap64_in _ (by omega);have p:=jq (FZ w y);have u:=jq o;clear o;obtain⟨A,C,B⟩:=y;unfold sl at hc p;dsimp only at hc p;cases hkp:keep (A,C,B)
   ·have l:=jq hkp;clear hkp
    go_wp2_with fail
    refine p.out.mono ?_;rintro e w1 ⟨rfl,rfl⟩;rw[l.out]
    go_wp2_with fail
    go_ret
    exact⟨⟨_,rfl,.inr ⟨k,_,rfl,u.out,l.out,s.out⟩⟩,rfl⟩
   ·have l:=jq hkp;clear hkp
    go_wp2_with fail
    refine p.out.mono ?_;rintro e w1 ⟨rfl,rfl⟩;rw[l.out]
    go_wp2_with fail
    go_roundw
    case rel=>exact⟨trivial,k+1,by omega,by simp,λz d=>by
     rw[bF,u.out]at d;rcases List.mem_append.1 d with d|d
     ·exact s.out z d
     ·have:z=(A,C,B):=by simpa using d
      rw[this];exact l.out⟩
    case measure=>simp[intOf];omega
  ·have E:k=n:=by omega
   have D:=jq (show Ga xs (-1)from .inl ⟨rfl,λy o=>s.out y (by rw[jW (by rw[t.out];omega)];exact o)⟩);clear E
   go_wp2_with fail
   go_ret
   exact⟨⟨_,rfl,D.out⟩,rfl⟩
structure Moved(w wr:World)(g:Nat)(xs:List SL)(j:Nat):Prop where
 row:∃cs,Blk wr g 120 cs/\(∀(k:Nat) (y:SL),((xs.take j).filter keep)[k]? =some y->cs[k]? =some (sl y))/\(∀(k:Nat) (y:SL),j<=k->xs[k]? =some y->cs[k]? =some (sl y))/\xs.length<=cs.size
 only:Only [g] w wr
variable {w wr:World}{g j m:Nat}{xs:List SL}{y:SL}
theorem Moved.start{k:Nat}(h:nX w g xs)(p:xs[k]? =some y)(t:keep y=false)(ha:∀z∈xs.take k,keep z=true):Moved w w g xs (k+1)/\((xs.take (k+1)).filter keep).length=k:=by
 obtain⟨o,s,l⟩:=h.row
 have e: (xs.take (k+1)).filter keep=xs.take k:=by
  rw[bF,p,oK,vz.2 ha]
  simp[t]
 have hl:=(jS.1 p).1
 have u:xs.length<=o.size:=by
  obtain⟨z,d⟩:∃z,xs[xs.length-1]? =some z:=⟨xs[xs.length-1],jg _⟩;have:=(dG.1 (l _ z d)).1
  omega
 refine⟨⟨⟨o,s,λq z d=>?_,λq z _ d=>l q z d,u⟩,Only.refl _ _⟩,by rw[e,jT];omega⟩;rw[e,jh]at d
 split at d
 ·exact l q z d
 ·cases d
theorem Moved.skip(h:Moved w wr g xs j)(u:xs[j]? =some y)(t:keep y=false):Moved w wr g xs (j+1)/\((xs.take (j+1)).filter keep).length=((xs.take j).filter keep).length:=by
 obtain⟨d,l,o,p,s⟩:=h.row
 have e: (xs.take (j+1)).filter keep=(xs.take j).filter keep:=by
  rw[bF,u,oK]
  simp[t]
 exact⟨⟨⟨d,l,by rw[e];exact o,λq z hq v=>p q z (by omega) v,s⟩,h.only⟩,by rw[e]⟩
theorem Moved.move(h:Moved w wr g xs j)(t:xs[j]? =some y)(C:keep y=true)(l: ((xs.take j).filter keep).length=m)(E:m<j):
  Moved w (wr.setCell ⟨g,m,none⟩ (sl y)) g xs (j+1)/\((xs.take (j+1)).filter keep).length=m+1:=by
 obtain⟨u,v,A,s,B⟩:=h.row
 have e: (xs.take (j+1)).filter keep=(xs.take j).filter keep++ [y]:=by
  rw[bF,t,oK]
  simp[C]
 have F:j<u.size:=(dG.1 (s j y jn t)).1;refine⟨⟨⟨_,v.set m (sl y),λq z d=>?_,λq z hq d=>?_,by rw[Array.size_setIfInBounds];exact B⟩,h.only.set (p:=⟨g,m,none⟩) (.inl (by simp)) _⟩,by rw[e];simp[l]⟩
 ·rw[e]at d;rw[kI]
  by_cases o:m=q
  ·subst o;rw[iL (by omega),l,Nat.sub_self]at d
   simp at d
   rw[if_pos rfl,if_pos (by omega),d]
  ·rw[if_neg o]
   by_cases D:q<m
   ·rw[iK (by omega)]at d;exact A q z d
   ·rw[iL (by omega),l]at d;rw[vg (by simp;omega)]at d;cases d
 ·rw[kI,if_neg (by omega)];exact s q z (by omega) d
theorem Q7(w:World)(d:TypeId)(b o n c:Nat)(h:0<n)(hc:∀j,j<n->(w.cell? ⟨b,o+j,none⟩).isSome=true)(e:∀j,j<n->w.frozen? ⟨b,o+j,none⟩=false):
  (Builtin.clear_ #[148] d #[.slice (some ⟨b,o,none⟩) n c]).run prog w=.ok (.tuple #[]) (w.setCells b o (List.replicate n (.slice none 0 0))):=
 Lib.run_clear_slice w _ _ d _ underlying148 (λw=>by kernel_rfl) rfl rfl b o n c h hc e
def xk(w:World)(g c:Nat)(xs:List SL)(e:Ending)(w':World):Prop:=e=.returned (.slice (some ⟨g,0,none⟩) (xs.filter keep).length c)/\nX w' g (xs.filter keep)/\Only [g] w w'
theorem Moved.cleared{n c:Nat}(h:Moved w wr g xs n)(C:xs.length=n)(u: (xs.filter keep).length=m)(B:m<=n):xk w g c xs (.returned (.slice (some ⟨g,0,none⟩) m c)) (wr.setCells g m (List.replicate (n-m) (.slice none 0 0))):=by
 obtain⟨l,t,d,v,A⟩:=h.row;obtain⟨o,p,s⟩:=Blk.splice (List.replicate (n-m) (.slice none 0 0)) m wr l t (by simp;omega);subst u;refine⟨rfl,⟨o,p,λq z e=>?_⟩,Only.setCells _ _ h.only (.inl (by simp))⟩;rw[jW (by omega)]at d;have:=d q z e;have hq:=(jS.1 e).1;rw[<-mo]at this⊢;rw[s,List.append_assoc,iK (by simp;omega),jh,if_pos hq];exact this
theorem Q8(w:World)(g n c:Nat)(xs:List SL)(E:xs.length=n)(h:nX w g xs)(hn:n<=1000000)(hc:n<=c):
  Calls prog 113 #[.slice (some ⟨g,0,none⟩) n c,.func (.func 115) #[] #[]] w (xk w g c xs):=by
 have Q:=jq (sZ w g n c xs E h hn);have H:=jq h;have s:=jq E;clear h E
 go_enter func113,ntmps113
 go_wp2_with fail
 refine Q.out.mono ?_;rintro e w1 ⟨⟨i,rfl,V⟩,rfl⟩;rcases V with⟨rfl,ha⟩|⟨i,y0,rfl,z,D,ha⟩
 ·have P:=jq (show xk w g c xs (.returned (.slice (some ⟨g,0,none⟩) n c)) w from by
   have e:xs.filter keep=xs:=vz.2 ha;unfold xk;rw[e,s.out];exact⟨rfl,H.out,Only.refl _ _⟩)
  clear ha
  go_wp2_with fail
  go_ret
  exact P.out
 ·have h9:i<n:=by rw[<-s.out];exact(jS.1 z).1
  have h0: ((i:Int)== -1)=false:=by simp
  have J:=jq (Moved.start H.out z D ha);have h5:=jq z;have h2:=jq D;clear z D ha
  go_wp2_with fail
  go_loopw[5,6] (λi' G wr=>∃j m:Nat,i<j/\j<=n/\m<j/\i'=.int .i64 m/\G=.int .i64 j/\Moved w wr g xs j/\((xs.take j).filter keep).length=m) (λ_ G _=>n-(intOf G).toNat)
  case atStart=>exact⟨i+1,i,by omega,by omega,by omega,rfl,by go_num,J.out.1,J.out.2⟩
  case round=>
   obtain⟨j,m,h8,x0,Z,rfl,rfl,L,O⟩:=hrel;have l:=jq L;have B:=jq O;clear L O
   by_cases hlt:j<n
   ·obtain⟨y,F⟩:∃y,xs[j]? =some y:=⟨xs[j]'(by rw[s.out];exact hlt),jg _⟩
    have hcell:wr.cell? ⟨g,j,none⟩=some (sl y):=by
     obtain⟨u,d,_,C,_⟩:=l.out.row;exact(d.cell _).trans (C j y jn F)
    have hw:RowKit.wrap64 ((j:Int)+1)=(j:Int)+1:=IntWalk.wrap64_in _ (by omega);have x2:RowKit.wrap64 ((m:Int)+1)=(m:Int)+1:=IntWalk.wrap64_in _ (by omega);have p:=jq (FZ wr y);have A:=jq F;clear F;cases hkp:keep y
    ·have t:=jq hkp;have o:=jq (l.out.skip A.out t.out);clear hkp;obtain⟨ya,yn,yc⟩:=y;unfold sl at hcell p;dsimp only at hcell p
     go_wp2_with fail
     refine p.out.mono ?_;rintro e w1 ⟨rfl,rfl⟩;rw[t.out]
     go_wp2_with fail
     go_roundw
     case rel=>exact⟨j+1,m,by omega,by omega,by omega,rfl,by simp,o.out.1,o.out.2.trans B.out⟩
     case measure=>simp[intOf];omega
    ·have t:=jq hkp;have o:=jq (l.out.move A.out t.out B.out Z);clear hkp
     have h7:wr.frozen? ⟨g,m,none⟩=false:=by
      obtain⟨u,d,_⟩:=l.out.row;exact d.frozen _
     have M:∃v,wr.cell? ⟨g,m,none⟩=some v:=by
      obtain⟨u,d,_,C,_⟩:=l.out.row;have:=(dG.1 (C j y jn A.out)).1;exact⟨u[m],(d.cell _).trans (uY (by omega))⟩
     obtain⟨vm,x1⟩:=M;obtain⟨ya,yn,yc⟩:=y;unfold sl at hcell p o;dsimp only at hcell p o
     go_wp2_with fail
     refine p.out.mono ?_;rintro e w1 ⟨rfl,rfl⟩;rw[t.out]
     go_wp2_with fail
     go_roundw
     case rel=>exact⟨j+1,m+1,by omega,by omega,by omega,by simp,by simp,o.out.1,o.out.2⟩
     case measure=>simp[intOf];omega
   ·obtain rfl:n=j:=by omega
    have T:=jq (show(xs.filter keep).length=m by have:=B.out;rwa [jW (by rw[s.out];exact aj _)]at this);have R:=jq (l.out.cleared (c:=c) s.out T.out (by omega))
    have h6:∀I,(Builtin.clear_ #[148] I #[.slice (some ⟨g,m,none⟩) (n-m) (c-m)]).run prog wr=.ok (.tuple #[]) (wr.setCells g m (List.replicate (n-m) (.slice none 0 0))):=by
     obtain⟨u,d,_,_,h4⟩:=l.out.row;have x3:=s.out;exact λI=>Q7 wr I g m (n-m) (c-m) (by omega) (λj W=>by rw[d.cell,uY (by omega)];rfl) (λj W=>d.frozen _)
    have M:c≠m:=by omega
    go_wp2_with fail
    go_ret
    exact R.out
end Runs
end Go.Proofs.YtndkohocgfmamaaGreatDoor
