/- Part. -/
import Derived.Test.YtcdcnhecimajkaaGreatDoorF0
import Derived.Test.YtcdcnhecimajkaaGreatDoorF35
import Derived.Test.YtcdcnhecimajkaaGreatDoorF45
import Derived.Test.YtcdcnhecimajkaaGreatDoorF46
import Derived.Test.YtcdcnhecimajkaaGreatDoorTie
import Derived.ProofKit
import Derived.LaidMore
import Derived.MakeChecks
import Derived.Lib.LaidTab
set_option maxRecDepth 100000
namespace Go.Proofs.YtcdcnhecimajkaaGreatDoor
namespace Ext
open Go.RowKit Mem
theorem gTab : Tryz.prog.globalNamed "math/bits.deBruijn64tab" = some 1 := by kernel_rfl
theorem tab_of_laid {W : World} (h : laidMetH Tryz.prog [("math/bits.deBruijn64tab", Rows.laid_math_bits_deBruijn64tab)] W) : Tab W := by
 rw[MakeChecks.laidMetH_plain _ _ _ (by kernel_rfl)]at h;have e:Rows.laid_math_bits_deBruijn64tab=Lib.tabData (H:=Unit) .u8 (Lib.deBruijn64tab.map (λn:Nat=>(n:Int))):=by kernel_rfl
 rw[e]at h;have hT:=Lib.tabIs_of_head gTab (t:=241) (e:=5) (n:=64) (by kernel_rfl) (by kernel_rfl) (by kernel_rfl) (by kernel_rfl) (by kernel_rfl) h;intro j hj;have:=hT.cell gTab j (by rw[jP];exact hj);rw[this];simp only[List.getD_eq_getElem?_getD,List.getElem?_map];cases Lib.deBruijn64tab[j]? <;> rfl
theorem door_met (os : Os) (args : Array Value) : laidMetH Tryz.prog [("math/bits.deBruijn64tab", Rows.laid_math_bits_deBruijn64tab)] ((World.doorLaid Tryz.prog 14 os).forCall (λ_ _ => 0) ⟨#[], args, []⟩).memory :=
 laidMetH_of_parts3 (fuel:=8) (laidMet_of_run' 8 (by kernel_rfl) (by kernel_rfl)) (by kernel_rfl) (by kernel_rfl)
end Ext
namespace Runs
open Go.RowKit Go.Deep Go.ChangeShapes Go.WideShapes Mem Crc
open Ext (Tab)
open Store (nv)
instance:Inhabited AR:=⟨⟨0,[],none,0,0,[],none,0⟩⟩
theorem rows_open_trod {H:Type} {enc:TypeId×Value->H} {fuel:Nat} {cs0:List Value} {y0:DataW H×List MemPlace} {W:World} {t e b:TypeId} (hu:Tryz.prog.underlying t=some (.slice e)) (he:Tryz.prog.underlying e=some (.slice b)) (hb:Tryz.prog.underlying b=some (.int .u8)) (hc:Tryz.prog.cellsOf e=1) (hcb:Tryz.prog.cellsOf b=1)
  (hf:DataW.trod enc Tryz.prog W 0 (λ_=>true) true fuel t cs0=some y0):
  ∃(a:Option Addr) (cap:Nat) (l:List (SL×List UInt8)),cs0= [.slice a l.length cap]/\l.length<=cap/\(∀x∈l,x.1.2.1=x.2.length/\x.2.length<=x.1.2.2/\Lies W x.1.1 (x.2.map bv))/\Lies W a (l.map (λx=>sl x.1)):=by
 obtain⟨a,len,cap,l,rfl,h1,h2,rfl,h3,hL⟩:=Args.slice_open_trod (α:=SL×List UInt8) (λx=>[sl x.1]) (λx=>x.1.2.1=x.2.length/\x.2.length<=x.1.2.2/\Lies W x.1.1 (x.2.map bv)) hu hc (by decide) (λfuel cs y hl hy=>by
  obtain⟨a,cap,l,rfl,h1,h2,h3⟩:=Args.bytes_open_trod he hb hcb hy;exact⟨((a,l.length,cap),l),rfl,rfl,h1,h3⟩) hf
 refine⟨a,cap,l,rfl,h1,h3,?_⟩
 have:∀l:List (SL×List UInt8),l.flatMap (λx=>[sl x.1])=l.map (λx=>sl x.1):=λl=>by
  induction l with
  |nil=>rfl
  |cons x r ih=>rw[jC,ih];rfl
 rw[<-this];exact hL
theorem acts_open {H:Type} {enc:TypeId×Value->H} {base:Nat} {v:Value} {d:DataW H} {p:List MemPlace} {W:World} (q:Value.okWide Tryz.prog W .any base 22 v) (h:DataW.Trod enc Tryz.prog W 0 (λ_=>true) true 22 v d p):
  ∃a c l,v=.slice a (l:List AR).length c/\ActsIn W a l:=by
 have hint:Tryz.prog.cellsOf 3=1:=by kernel_rfl
 have hu8:Tryz.prog.cellsOf 5=1:=by kernel_rfl
 have hbts:Tryz.prog.cellsOf 24=1:=by kernel_rfl
 have hrws:Tryz.prog.cellsOf 25=1:=by kernel_rfl
 obtain⟨a,len,cap,l,rfl,_,_,rfl,h1,h2⟩:=Args.slice_open (α:=AR) AR.vs (λx=>ActIn W x) Tryz.underlying22 (by kernel_rfl:Tryz.prog.cellsOf 27=4) (by decide) (λfuel cs y hl hy=>by
  obtain⟨ys,n',_,_,_,hyl,hfld⟩:=DataW.trod_struct Tryz.underlying27 hy
  match cs,hl with
  | [c0,c1,c2,c3],_=>
   have g0:=hfld 0 _ rfl;have g1:=hfld 1 _ rfl;have g2:=hfld 2 _ rfl;have g3:=hfld 3 _ rfl
   simp[hint,hu8,hbts,hrws]at g0 g1 g2 g3
   have hyl:ys.length=4:=hyl;obtain⟨y0,e0⟩:∃y,ys[0]? =some y:=⟨_,jg (by omega)⟩;obtain⟨y1,e1⟩:∃y,ys[1]? =some y:=⟨_,jg (by omega)⟩;obtain⟨y2,e2⟩:∃y,ys[2]? =some y:=⟨_,jg (by omega)⟩;obtain⟨y3,e3⟩:∃y,ys[3]? =some y:=⟨_,jg (by omega)⟩;rw[e0]at g0;rw[e1]at g1;rw[e2]at g2;rw[e3]at g3;obtain⟨k,hk,_,_⟩:=DataW.trod_int Tryz.underlying3 g0;obtain⟨a1,cp1,b1,hb,_,_,hL1⟩:=Args.bytes_open_trod Tryz.underlying24 Tryz.underlying5 (by kernel_rfl) g1;obtain⟨n,hn,_,hnw⟩:=DataW.trod_int Tryz.underlying5 g2;obtain⟨a3,cp3,l3,hl3,hc3,h3,hL3⟩:=rows_open_trod Tryz.underlying25 Tryz.underlying24 Tryz.underlying5 (by kernel_rfl) (by kernel_rfl) g3;injection hk with hk _;injection hb with hb _;injection hn with hn _;injection hl3 with hl3 _;have hbn:=bounds_u8 hnw;obtain⟨nn,rfl⟩:∃q:Nat,n=q:=⟨n.toNat,by omega⟩;subst hk hb hn hl3;exact⟨⟨k,b1,a1,cp1,nn,l3,a3,cp3⟩,rfl,⟨hL1,hL3,h3,hc3⟩⟩) q h
 exact⟨a,cap,l,rfl,⟨h2,h1⟩⟩
theorem plays_in {H:Type} {enc:TypeId×Value->H} {base:Nat} (v0 v1 v2 v3:Value) (d0 d1 d2 d3:DataW H) (p0 p1 p2 p3:List MemPlace) (W:World) (hT:Tab W)
  (q0:Value.okWide Tryz.prog W .any base 9 v0) (h0:DataW.Trod enc Tryz.prog W 0 (λ_=>true) true 9 v0 d0 p0)
  (q1:Value.okWide Tryz.prog W .any base 3 v1) (h1:DataW.Trod enc Tryz.prog W 0 (λ_=>true) true 3 v1 d1 p1)
  (q2:Value.okWide Tryz.prog W .any base 3 v2) (h2:DataW.Trod enc Tryz.prog W 0 (λ_=>true) true 3 v2 d2 p2)
  (q3:Value.okWide Tryz.prog W .any base 22 v3) (h3:DataW.Trod enc Tryz.prog W 0 (λ_=>true) true 22 v3 d3 p3):
  Calls Tryz.prog 3 #[v0,v1,v2,v3] W λe w'=>e=.returned (.bool true)/\Below W.heap.size W w':=by
 obtain⟨s,rfl⟩:=okWide_string Tryz.underlying9 q0;obtain⟨m,rfl,-⟩:=Args.int_open Tryz.underlying3 q1 h1;obtain⟨k,rfl,-⟩:=Args.int_open Tryz.underlying3 q2 h2;obtain⟨a,c,l,rfl,hA⟩:=acts_open q3 h3;exact plays_law s.data.toList m k a c l W hA hT
end Runs
end Go.Proofs.YtcdcnhecimajkaaGreatDoor
