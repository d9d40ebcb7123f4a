/- A part of the proof. -/
import Derived.Test.YtbfochdoeibofaaGreatDoorG0
import Derived.Test.YtbfochdoeibofaaGreatDoorG35
import Derived.Test.YtbfochdoeibofaaGreatDoorG36
set_option maxRecDepth 100000
namespace Go.Proofs.YtbfochdoeibofaaGreatDoor
namespace Full
open Go.RowKit Go.Deep Go.ChangeShapes Go.WideShapes Mem Crc
open Ext (Tab)
open Store (nv)
instance:Inhabited AR:=⟨⟨0,[],[],none,0⟩⟩
theorem acts_open {H:Type} {enc:TypeId×Value->H} {base:Nat} {v:Value} {d:DataW H} {p:List MemPlace} {W:World} (q:Value.okWide Tryz.prog W .any base 44 v) (h:DataW.Trod enc Tryz.prog W 0 (λ_=>true) true 44 v d p):
  ∃a c l,v=.slice a (l:List AR).length c/\ActsIn W a l:=by
 have hint:Tryz.prog.cellsOf 3=1:=by kernel_rfl
 have hstr:Tryz.prog.cellsOf 9=1:=by kernel_rfl
 have hbts:Tryz.prog.cellsOf 22=1:=by kernel_rfl
 obtain⟨a,len,cap,l,rfl,_,_,rfl,h1,h2⟩:=Args.slice_open (α:=AR) AR.vs (λx=>Lies W x.a (x.b.map bv)) Tryz.underlying44 (by kernel_rfl:Tryz.prog.cellsOf 48=3) (by decide) (λfuel cs y hl hy=>by
  obtain⟨ys,n',_,_,_,hyl,hfld⟩:=DataW.trod_struct Tryz.underlying48 hy
  match cs,hl with
  | [c0,c1,c2],_=>
   have g0:=hfld 0 _ rfl;have g1:=hfld 1 _ rfl;have g2:=hfld 2 _ rfl
   simp[hint,hstr,hbts]at g0 g1 g2
   have hyl:ys.length=3:=hyl;obtain⟨y0,e0⟩:∃y,ys[0]? =some y:=⟨_,jg (by omega)⟩;obtain⟨y1,e1⟩:∃y,ys[1]? =some y:=⟨_,jg (by omega)⟩;obtain⟨y2,e2⟩:∃y,ys[2]? =some y:=⟨_,jg (by omega)⟩;rw[e0]at g0;rw[e1]at g1;rw[e2]at g2;obtain⟨k,hk,_,_⟩:=DataW.trod_int Tryz.underlying3 g0;obtain⟨s,hs,_,_⟩:=DataW.trod_string Tryz.underlying9 g1;obtain⟨a2,cp2,b2,hb,_,_,hL⟩:=Args.bytes_open_trod Tryz.underlying22 Tryz.underlying5 (by kernel_rfl) g2;injection hk with hk _;injection hs with hs _;injection hb with hb _;subst hk hs hb;refine⟨⟨k,s.data.toList,b2,a2,cp2⟩,?_,hL⟩;unfold AR.vs Store.nv
   rfl) q h
 exact⟨a,cap,l,rfl,⟨h2,h1⟩⟩
end Full
namespace Full
open Go.RowKit Go.Deep Go.ChangeShapes Go.WideShapes Mem Crc
open Ext (Tab)
theorem word_in {y:Int} (h: (Lit.int .u64 y).wf=true):∃n:Nat,y=(n:Int)/\n<18446744073709551616:=by
 have hb:=bounds_u64 h;exact⟨y.toNat,by omega,by omega⟩
end Full
namespace Full
open Go.RowKit Go.Deep Go.ChangeShapes Go.WideShapes Mem Crc
open Ext (Tab)
theorem again_in {H:Type} {enc:TypeId×Value->H} {base:Nat} (v0 v1 v2 v3 v4 v5 v6:Value) (d0 d1 d2 d3 d4 d5 d6:DataW H) (p0 p1 p2 p3 p4 p5 p6:List MemPlace) (W:World) (hT:Tab W)
  (q0:Value.okWide Tryz.prog W .any base 3 v0) (h0:DataW.Trod enc Tryz.prog W 0 (λ_=>true) true 3 v0 d0 p0)
  (q1:Value.okWide Tryz.prog W .any base 44 v1) (h1:DataW.Trod enc Tryz.prog W 0 (λ_=>true) true 44 v1 d1 p1)
  (q2:Value.okWide Tryz.prog W .any base 3 v2) (h2:DataW.Trod enc Tryz.prog W 0 (λ_=>true) true 3 v2 d2 p2)
  (q3:Value.okWide Tryz.prog W .any base 30 v3) (h3:DataW.Trod enc Tryz.prog W 0 (λ_=>true) true 30 v3 d3 p3)
  (q4:Value.okWide Tryz.prog W .any base 30 v4) (h4:DataW.Trod enc Tryz.prog W 0 (λ_=>true) true 30 v4 d4 p4)
  (q5:Value.okWide Tryz.prog W .any base 3 v5) (h5:DataW.Trod enc Tryz.prog W 0 (λ_=>true) true 3 v5 d5 p5)
  (q6:Value.okWide Tryz.prog W .any base 30 v6) (h6:DataW.Trod enc Tryz.prog W 0 (λ_=>true) true 30 v6 d6 p6):
  Calls Tryz.prog 8 #[v0,v1,v2,v3,v4,v5,v6] W λe w'=>e=.returned (.bool true)/\Below W.heap.size W w':=by
 obtain⟨m,rfl,_⟩:=Args.int_open Tryz.underlying3 q0 h0;obtain⟨a,c,l,rfl,hA⟩:=acts_open q1 h1;obtain⟨i,rfl,hi⟩:=Args.int_open Tryz.underlying3 q2 h2;obtain⟨x,rfl,hx⟩:=Args.int_open Tryz.underlying30 q3 h3;obtain⟨y,rfl,hy⟩:=Args.int_open Tryz.underlying30 q4 h4;obtain⟨j,rfl,hj⟩:=Args.int_open Tryz.underlying3 q5 h5;obtain⟨z,rfl,hz⟩:=Args.int_open Tryz.underlying30 q6 h6;have hb:=bounds_i64 hi;have hb2:=bounds_i64 hj;obtain⟨n,rfl,hn⟩:=word_in hx;obtain⟨k,rfl,hk⟩:=word_in hy;obtain⟨o,rfl,ho⟩:=word_in hz;exact again_law m a c l i (by omega) (by omega) n k hn hk j (by omega) (by omega) o ho W hA hT
end Full
end Go.Proofs.YtbfochdoeibofaaGreatDoor
