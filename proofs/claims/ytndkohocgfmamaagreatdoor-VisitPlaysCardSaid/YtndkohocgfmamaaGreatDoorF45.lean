/- Part. -/
import Derived.Test.YtndkohocgfmamaaGreatDoorF44
import Derived.Test.YtndkohocgfmamaaGreatDoorTie
import Derived.LaidMore
import Derived.Lib.LaidTab
set_option maxRecDepth 100000
namespace Go.Proofs.YtndkohocgfmamaaGreatDoor
open Go.Proofs.Tryz
namespace Ext
open Go.RowKit Mem
theorem JA: prog.globalNamed "math/bits.deBruijn64tab" = some 0 := by kernel_rfl
theorem tab_of_laid{W : World}(h : laidMetH prog [("math/bits.deBruijn64tab", Rows.laid_math_bits_deBruijn64tab)] W): Tab W := by
 rw[MakeChecks.laidMetH_plain _ _ _ (by kernel_rfl)]at h;have e:Rows.laid_math_bits_deBruijn64tab=Lib.tabData (H:=Unit) .u8 (Lib.deBruijn64tab.map (λn:Nat=>(n:Int))):=by kernel_rfl
 rw[e]at h;have a:=Lib.tabIs_of_head JA (t:=266) (e:=5) (n:=64) (by kernel_rfl) (by kernel_rfl) (by kernel_rfl) (by kernel_rfl) (by kernel_rfl) h;intro j b;have:=a.cell JA j (by rw[jP];exact b);rw[this];simp only[List.getD_eq_getElem?_getD,List.getElem?_map];cases Lib.deBruijn64tab[j]? <;> rfl
theorem door_met(os : Os)(args : Array Value): laidMetH prog [("math/bits.deBruijn64tab", Rows.laid_math_bits_deBruijn64tab)] ((World.doorLaid prog 14 os).forCall (λ_ _ => 0) ⟨#[], args, []⟩).memory :=
 laidMetH_of_parts3 (fuel:=8) (laidMet_of_run' 8 (by kernel_rfl) (by kernel_rfl)) (by kernel_rfl) (by kernel_rfl)
end Ext
namespace Vp
open Go.RowKit Go.Deep Go.ChangeShapes Go.WideShapes Mem Crc aX
open Ext (Tab)
instance : Inhabited AV:=⟨⟨0,0,0,0,0,0,0,0⟩⟩
variable {H:Type}{enc:TypeId×Value->H}{W:World}
theorem JB{fuel:Nat}{a:List Value}{y:DataW H×List MemPlace}(hl:a.length=3)(x:DataW.trod enc prog W 0 (λ_=>true) true fuel 49 a=some y):∃s u c:Nat,a= [.int .u32 (s:Int),.int .u32 (u:Int),.int .u64 (c:Int)]/\s<4294967296/\u<4294967296/\c<=av:=by
 have v:prog.cellsOf 46=1:=by kernel_rfl
 have t:prog.cellsOf 47=1:=by kernel_rfl
 have l:∀(n:Nat) (c:Value) (o:Option (DataW H×List MemPlace)),DataW.trod enc prog W 0 (λ_=>true) true n 46 [c]=o->o≠none->∃k:Nat,c=.int .u32 (k:Int)/\k<4294967296:=λn c o g w=>by
  cases o with
  |none=>exact absurd rfl w
  |some y=>
   obtain⟨k,f,_,h⟩:=DataW.trod_int underlying46 g;have hb:=Go.bounds_u32 h;exact⟨k.toNat,by rw[show c=.int .u32 k by simpa using f,Int.toNat_of_nonneg hb.1],by omega⟩
 obtain⟨m,n',_,_,_,b,e⟩:=DataW.trod_struct underlying49 x
 match a,hl with
 | [c0,c1,c2],_=>
  have i:=e 0 _ rfl;have j:=e 1 _ rfl;have d:=e 2 _ rfl
  simp[v,t]at i j d
  have b:m.length=3:=b;obtain⟨z,rfl,p⟩:=l _ _ _ i (by simp[b]);obtain⟨A,rfl,q⟩:=l _ _ _ j (by simp[b]);obtain⟨B,r⟩:∃y,m[2]? =some y:=⟨_,jg (by omega)⟩;rw[r]at d;obtain⟨k,f,_,h⟩:=DataW.trod_int underlying47 d;have hb:=Go.bounds_u64 h;exact⟨z,A,k.toNat,by rw[show c2=.int .u64 k by simpa using f,Int.toNat_of_nonneg hb.1],p,q,by unfold av;omega⟩
theorem U9{base:Nat}{v:Value}{d:DataW H}{p:List MemPlace}(q:Value.okWide prog W .any base 22 v)(h:DataW.Trod enc prog W 0 (λ_=>true) true 22 v d p):
  ∃a c l,v=.slice a (l:List AV).length c/\yt W a l:=by
 have hint:prog.cellsOf 3=1:=by kernel_rfl
 have P:prog.cellsOf 5=1:=by kernel_rfl
 have Q:prog.cellsOf 49=3:=by kernel_rfl
 obtain⟨a,len,cap,l,rfl,_,_,rfl,M,N⟩:=Args.TH (α:=AV) AV.vs AV.ok underlying22 (by kernel_rfl:prog.cellsOf 51=8) (by decide) (λfuel F y hl R=>by
  obtain⟨b,n',_,_,_,x,e⟩:=DataW.trod_struct underlying51 R
  match F,hl with
  | [c0,c1,c2,c3,c4,c5,c6,c7],_=>
   have f:=e 0 _ rfl;have g:=e 1 _ rfl;have i:=e 2 _ rfl;have g3:=e 3 _ rfl
   simp[hint,P,Q]at f g i g3
   have x:b.length=4:=x;obtain⟨T,G⟩:∃y,b[0]? =some y:=⟨_,jg (by omega)⟩;obtain⟨U,I⟩:∃y,b[1]? =some y:=⟨_,jg (by omega)⟩;obtain⟨V,J⟩:∃y,b[2]? =some y:=⟨_,jg (by omega)⟩;obtain⟨X,L⟩:∃y,b[3]? =some y:=⟨_,jg (by omega)⟩;rw[G]at f;rw[I]at g;rw[J]at i;rw[L]at g3;obtain⟨k,j,_,_⟩:=DataW.trod_int underlying3 f;obtain⟨s1,u1,n1,o,z,A,B⟩:=JB rfl g;obtain⟨s2,u2,n2,r,C,D,E⟩:=JB rfl i;obtain⟨n,m,_,O⟩:=DataW.trod_int underlying5 g3;injection j with j _;injection m with m _;injection o with o s;injection s with s t;injection t with t _;injection r with r u;injection u with u w;injection w with w _;have S:=bounds_u8 O;obtain⟨nn,rfl⟩:∃q:Nat,n=q:=⟨n.toNat,by omega⟩;subst j m o s t r u w;exact⟨⟨k,s1,u1,n1,s2,u2,n2,nn⟩,rfl,z,A,B,C,D,E,by dsimp only;omega⟩) q h
 exact⟨a,cap,l,rfl,⟨N,M⟩⟩
theorem plays_in{base:Nat}(b d f:Value)(g h i:DataW H)(p q r:List MemPlace)(o:Tab W)(t:Value.okWide prog W .any base 9 b)(w:DataW.Trod enc prog W 0 (λ_=>true) true 9 b g p)(u:Value.okWide prog W .any base 3 d)(j:DataW.Trod enc prog W 0 (λ_=>true) true 3 d h q)(v:Value.okWide prog W .any base 22 f)(k:DataW.Trod enc prog W 0 (λ_=>true) true 22 f i r):
  Calls prog 3 #[b,d,f] W λe w'=>e=.returned (.bool true)/\Below W.heap.size W w':=by
 obtain⟨s,rfl⟩:=okWide_string underlying9 t;obtain⟨m,rfl,-⟩:=Args.TI underlying3 u j;obtain⟨a,c,l,rfl,n⟩:=U9 v k;exact U8 s.data.toList m a c l W n o
end Vp
end Go.Proofs.YtndkohocgfmamaaGreatDoor
