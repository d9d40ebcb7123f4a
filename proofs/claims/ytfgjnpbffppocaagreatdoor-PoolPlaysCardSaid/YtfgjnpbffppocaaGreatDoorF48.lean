/- Part. -/
import Derived.Test.YtfgjnpbffppocaaGreatDoorF0
import Derived.Test.YtfgjnpbffppocaaGreatDoorF2
import Derived.Test.YtfgjnpbffppocaaGreatDoorF36
import Derived.Test.YtfgjnpbffppocaaGreatDoorF47
import Derived.Test.YtfgjnpbffppocaaGreatDoorTie
import Derived.ProofKit
import Derived.LaidMore
import Derived.MakeChecks
import Derived.Lib.LaidTab
import Derived.OpenShut
import Derived.Deep.Slices
set_option maxRecDepth 100000
namespace Go.Proofs.YtfgjnpbffppocaaGreatDoor
namespace Args
open Go.ChangeShapes Go.WideShapes Go.RowKit Go.Deep Mem
theorem add_at (b off n:Nat): (⟨b,off,none⟩:Addr).add n=⟨b,off+n,none⟩:=by
 unfold Addr.add
 split <;> simp_all
theorem flat_find {α:Type} (cells:α->List Value) (size:Nat):∀(l:List α),(∀x∈l,(cells x).length=size)->∀i u,(l.flatMap cells)[i]? =some u->∃q x j,l[q]? =some x/\(cells x)[j]? =some u/\i=q*size+j
 | [],_,i,u,h=>by simp at h
 |x ::r,hl,i,u,h=>by
  have hx:=hl x (by simp);rw[jC]at h
  by_cases hi:i<size
  ·rw[List.getElem?_append_left (by omega)]at h;exact⟨0,x,i,rfl,h,by omega⟩
  ·rw[List.getElem?_append_right (by omega),hx]at h;obtain⟨q,y,j,h1,h2,h3⟩:=flat_find cells size r (λy hy=>hl y (by simp[hy])) _ u h;exact⟨q+1,y,j,by simpa using h1,h2,by rw[Nat.add_mul];omega⟩
theorem slice_open_trod {H:Type} {enc:TypeId×Value->H} {fuel:Nat} {cs0:List Value} {y0:DataW H×List MemPlace} {W:World} {t e:TypeId} {size:Nat} {α:Type} [Inhabited α] (cells:α->List Value) (okE:α->Prop) (hu:Tryz.prog.underlying t=some (.slice e)) (hcells:Tryz.prog.cellsOf e=size) (hpos:0<size)
  (hel:∀fuel cs y,cs.length=size->DataW.trod enc Tryz.prog W 0 (λ_=>true) true fuel e cs=some y->∃x,cs=cells x/\okE x)
  (hf:DataW.trod enc Tryz.prog W 0 (λ_=>true) true fuel t cs0=some y0):
  ∃(a:Option Addr) (len cap:Nat) (l:List α),cs0= [.slice a len cap]/\len<=cap/\cap<=maxLen/\l.length=len/\(∀x∈l,okE x)/\Lies W a (l.flatMap cells):=by
 rcases open_slice hu hf with⟨hcs,_⟩|⟨a',len,cap,m,n,D,Pl,hcs,_,hl,hm,hmm,_,hi⟩
 ·exact⟨none,0,0,[],hcs,Nat.le_refl _,Nat.zero_le _,rfl,λx hx=>absurd hx (by simp),.inl rfl⟩
 ·have hmm2:len<=m:=by rw[hmm];split <;> omega
  rw[hcells]at hi
  have hspot:0<len->a'.spot=none:=λh0=>by
   obtain⟨cs',hc,_⟩:=hi 0 (by omega);obtain⟨_,hlen,hat⟩:=World.cells?_some hc;have e:=hat 0 (by omega);rw[jg (by omega)]at e;have:=World.cell?_spot e
   simpa[Addr.add]using this
  obtain⟨f,hfx⟩:=choose_lt (α:=α) (n:=len) (p:=λi x=>okE x/\(cells x).length=size/\∃b off,a'=⟨b,off,none⟩/\b<W.heap.size/\∀j u,(cells x)[j]? =some u->W.cell? ⟨b,off+(i*size+j),none⟩=some u) (λi hlt=>by
   obtain⟨cs',hc,ht⟩:=hi i (by omega);obtain⟨_,hlen,hat⟩:=World.cells?_some hc;obtain⟨x,rfl,hx⟩:=hel _ _ _ hlen ht;obtain⟨b,off,spot⟩:=a';have hs:spot=none:=hspot (by omega);subst hs;have e0:=hat 0 (by omega);rw[jg (by omega),add_at,add_at]at e0;have hb:=World.block_lt_of_cell? W _ e0;refine⟨x,hx,hlen,b,off,rfl,hb,λj u hu=>?_⟩;have hj:=(jS.1 hu).1;have e:=hat j (by omega);rw[hu,add_at,add_at,Nat.add_assoc]at e;exact e)
  refine⟨some a',_,_,(List.range len).map f,hcs,hl,hm,by simp,λx hx=>?_,?_⟩
  ·obtain⟨i,hi2,rfl⟩:=List.mem_map.1 hx;exact(hfx i (List.mem_range.1 hi2)).1
  ·by_cases h0:len=0
   ·subst h0;exact .inl rfl
   ·obtain⟨_,_,b,off,rfl,hb,_⟩:=hfx 0 (by omega);refine .inr ⟨b,off,rfl,hb,λi u hu=>?_⟩
    obtain⟨q,x,j,hq,hj,rfl⟩:=flat_find cells size _ (λx hx=>by
     obtain⟨i,hi2,rfl⟩:=List.mem_map.1 hx;exact(hfx i (List.mem_range.1 hi2)).2.1) i u hu
    have hlt:q<len:=by
     have:=(jS.1 hq).1
     simpa using this
    obtain rfl:f q=x:=by simpa[hlt]using hq
    obtain⟨_,_,b',off',e',_,hc⟩:=hfx q hlt;injection e' with e1 e2;subst e1;subst e2;exact hc j u hj
theorem slice_open {H:Type} {enc:TypeId×Value->H} {base:Nat} {v:Value} {d:DataW H} {p:List MemPlace} {W:World} {t e:TypeId} {size:Nat} {α:Type} [Inhabited α] (cells:α->List Value) (okE:α->Prop) (hu:Tryz.prog.underlying t=some (.slice e)) (hcells:Tryz.prog.cellsOf e=size) (hpos:0<size)
  (hel:∀fuel cs y,cs.length=size->DataW.trod enc Tryz.prog W 0 (λ_=>true) true fuel e cs=some y->∃x,cs=cells x/\okE x)
  (q:Value.okWide Tryz.prog W .any base t v) (h:DataW.Trod enc Tryz.prog W 0 (λ_=>true) true t v d p):
  ∃(a:Option Addr) (len cap:Nat) (l:List α),v=.slice a len cap/\len<=cap/\cap<=maxLen/\l.length=len/\(∀x∈l,okE x)/\Lies W a (l.flatMap cells):=by
 obtain⟨a,len,cap,rfl⟩:=okWide_slice hu q;obtain⟨fuel,hf⟩:=h;obtain⟨a',len',cap',l,hcs,r⟩:=slice_open_trod cells okE hu hcells hpos hel hf
 simp[Value.cells]at hcs
 obtain⟨rfl,rfl,rfl⟩:=hcs;exact⟨_,_,_,l,rfl,r⟩
theorem int_open {H:Type} {enc:TypeId×Value->H} {v:Value} {d:DataW H} {p:List MemPlace} {W:World} {base:Nat} {t:TypeId} {k:IntKind} (hu:Tryz.prog.underlying t=some (.int k)) (q:Value.okWide Tryz.prog W .any base t v) (h:DataW.Trod enc Tryz.prog W 0 (λ_=>true) true t v d p):∃n,v=.int k n/\(Lit.int k n).wf=true:=by
 obtain⟨n,rfl⟩:=okWide_int hu q;obtain⟨fuel,hf⟩:=h;obtain⟨m,hk,_,hw⟩:=DataW.trod_int hu hf
 simp[Value.cells]at hk
 subst hk;exact⟨n,rfl,hw⟩
theorem bytes_open_trod {H:Type} {enc:TypeId×Value->H} {fuel:Nat} {cs0:List Value} {y0:DataW H×List MemPlace} {W:World} {t e:TypeId} (hu:Tryz.prog.underlying t=some (.slice e)) (he:Tryz.prog.underlying e=some (.int .u8)) (hc:Tryz.prog.cellsOf e=1)
  (hf:DataW.trod enc Tryz.prog W 0 (λ_=>true) true fuel t cs0=some y0):
  ∃(a:Option Addr) (cap:Nat) (l:List UInt8),cs0= [.slice a l.length cap]/\l.length<=cap/\cap<=maxLen/\Lies W a (l.map bv):=by
 obtain⟨a,len,cap,l,rfl,h1,h2,rfl,_,hL⟩:=slice_open_trod (α:=UInt8) (λb=>[bv b]) (λ_=>True) hu hc (by decide) (λfuel cs y hl hy=>by
  obtain⟨n,rfl,_,hw⟩:=DataW.trod_int he hy;have hb:=bounds_u8 hw;refine⟨UInt8.ofNat n.toNat,?_,trivial⟩;unfold bv
  simp
  omega) hf
 refine⟨a,cap,l,rfl,h1,h2,?_⟩
 have:∀l:List UInt8,l.flatMap (λb=>[bv b])=l.map bv:=λl=>by
  induction l with
  |nil=>rfl
  |cons x r ih=>rw[jC,ih];rfl
 rw[<-this];exact hL
end Args
namespace Ext
open Go.RowKit Mem
theorem gTab : Tryz.prog.globalNamed "math/bits.deBruijn64tab" = some 0 := by kernel_rfl
theorem tab_of_laid {W : World} (h : laidMetH Tryz.prog [("math/bits.deBruijn64tab", Rows.laid_math_bits_deBruijn64tab)] W) : Tab W := by
 rw[MakeChecks.laidMetH_plain _ _ _ (by kernel_rfl)]at h;have e:Rows.laid_math_bits_deBruijn64tab=Lib.tabData (H:=Unit) .u8 (Lib.deBruijn64tab.map (λn:Nat=>(n:Int))):=by kernel_rfl
 rw[e]at h;have hT:=Lib.tabIs_of_head gTab (t:=233) (e:=5) (n:=64) (by kernel_rfl) (by kernel_rfl) (by kernel_rfl) (by kernel_rfl) (by kernel_rfl) h;intro j hj;have:=hT.cell gTab j (by rw[jP];exact hj);rw[this];simp only[List.getD_eq_getElem?_getD,List.getElem?_map];cases Lib.deBruijn64tab[j]? <;> rfl
theorem door_met (os : Os) (args : Array Value) : laidMetH Tryz.prog [("math/bits.deBruijn64tab", Rows.laid_math_bits_deBruijn64tab)] ((World.doorLaid Tryz.prog 14 os).forCall (λ_ _ => 0) ⟨#[], args, []⟩).memory :=
 laidMetH_of_parts3 (fuel:=8) (laidMet_of_run' 8 (by kernel_rfl) (by kernel_rfl)) (by kernel_rfl) (by kernel_rfl)
end Ext
namespace Pool
open Go.RowKit Go.Deep Go.ChangeShapes Go.WideShapes Mem Crc Walk
open Ext (Tab)
instance:Inhabited AR:=⟨⟨0,0,0,[],none,[],0⟩⟩
theorem acts_open {H:Type} {enc:TypeId×Value->H} {base:Nat} {v:Value} {d:DataW H} {p:List MemPlace} {W:World} (q:Value.okWide Tryz.prog W .any base 22 v) (h:DataW.Trod enc Tryz.prog W 0 (λ_=>true) true 22 v d p):
  ∃a c l,v=.slice a (l:List AR).length c/\ActsIn W a l:=by
 have hcu:Tryz.prog.cellsOf 24=1:=by kernel_rfl
 have hint:Tryz.prog.cellsOf 3=1:=by kernel_rfl
 have hbts:Tryz.prog.cellsOf 27=1:=by kernel_rfl
 have hwk:Tryz.prog.cellsOf 26=7:=by kernel_rfl
 have hfield:∀(n:Nat) (c:Value) (o:Option (DataW H×List MemPlace)),DataW.trod enc Tryz.prog W 0 (λ_=>true) true n 24 [c]=o->o≠none->∃k:Nat,c=.int .u32 (k:Int)/\k<4294967296:=λn c o g ho=>by
  cases o with
  |none=>exact absurd rfl ho
  |some y=>
   obtain⟨k,hk,_,hw⟩:=DataW.trod_int Tryz.underlying24 g;have hb:=Go.bounds_u32 hw;exact⟨k.toNat,by rw[show c=.int .u32 k by simpa using hk,Int.toNat_of_nonneg hb.1],by omega⟩
 obtain⟨a,len,cap,l,rfl,_,_,rfl,h1,h2⟩:=Args.slice_open (α:=AR) AR.vs (λx=>ActIn W x) Tryz.underlying22 (by kernel_rfl:Tryz.prog.cellsOf 29=11) (by decide) (λfuel cs y hl hy=>by
  obtain⟨ys,n',_,_,_,hyl,hfld⟩:=DataW.trod_struct Tryz.underlying29 hy
  match cs,hl with
  | [c0,c1,c2,c3,c4,c5,c6,c7,c8,c9,c10],_=>
   have g0:=hfld 0 _ rfl;have g1:=hfld 1 _ rfl;have g2:=hfld 2 _ rfl;have g3:=hfld 3 _ rfl;have g4:=hfld 4 _ rfl
   simp[hint,hwk,hbts]at g0 g1 g2 g3 g4
   have hyl:ys.length=5:=hyl;obtain⟨y0,e0⟩:∃y,ys[0]? =some y:=⟨_,jg (by omega)⟩;obtain⟨y1,e1⟩:∃y,ys[1]? =some y:=⟨_,jg (by omega)⟩;obtain⟨y2,e2⟩:∃y,ys[2]? =some y:=⟨_,jg (by omega)⟩;obtain⟨y3,e3⟩:∃y,ys[3]? =some y:=⟨_,jg (by omega)⟩;obtain⟨y4,e4⟩:∃y,ys[4]? =some y:=⟨_,jg (by omega)⟩;rw[e0]at g0;rw[e1]at g1;rw[e2]at g2;rw[e3]at g3;rw[e4]at g4;obtain⟨k,hk,_,_⟩:=DataW.trod_int Tryz.underlying3 g0;obtain⟨s,hs,_,_⟩:=DataW.trod_int Tryz.underlying3 g1;obtain⟨n,hn,_,hnw⟩:=DataW.trod_int Tryz.underlying3 g2;obtain⟨zs,n'',_,_,_,hzl,hzf⟩:=DataW.trod_struct Tryz.underlying26 g3;obtain⟨a1,cp1,b1,hb,_,_,hL1⟩:=Args.bytes_open_trod Tryz.underlying27 Tryz.underlying5 (by kernel_rfl) g4;have w0:=hzf 0 _ rfl;have w1:=hzf 1 _ rfl;have w2:=hzf 2 _ rfl;have w3:=hzf 3 _ rfl;have w4:=hzf 4 _ rfl;have w5:=hzf 5 _ rfl;have w6:=hzf 6 _ rfl
   simp[hcu]at w0 w1 w2 w3 w4 w5 w6
   have hzl:zs.length=7:=hzl;obtain⟨k0,rfl,b0⟩:=hfield _ _ _ w0 (by simp[hzl]);obtain⟨k1,rfl,bb1⟩:=hfield _ _ _ w1 (by simp[hzl]);obtain⟨k2,rfl,b2⟩:=hfield _ _ _ w2 (by simp[hzl]);obtain⟨k3,rfl,b3⟩:=hfield _ _ _ w3 (by simp[hzl]);obtain⟨k4,rfl,b4⟩:=hfield _ _ _ w4 (by simp[hzl]);obtain⟨k5,rfl,b5⟩:=hfield _ _ _ w5 (by simp[hzl]);obtain⟨k6,rfl,b6⟩:=hfield _ _ _ w6 (by simp[hzl]);injection hk with hk _;injection hs with hs _;injection hn with hn _;injection hb with hb _;have hnb:=(bounds_i64 hnw).2;subst hk hs hn hb;refine⟨⟨k,s,n,[k0,k1,k2,k3,k4,k5,k6],a1,b1,cp1⟩,rfl,⟨⟨rfl,λn hn=>?_⟩,hL1,hnb⟩⟩;simp only[List.mem_cons,List.not_mem_nil,or_false]at hn;rcases hn with rfl|rfl|rfl|rfl|rfl|rfl|rfl <;> assumption) q h
 exact⟨a,cap,l,rfl,⟨h2,h1⟩⟩
theorem plays_in {H:Type} {enc:TypeId×Value->H} {base:Nat} (v0 v1 v2:Value) (d0 d1 d2:DataW H) (p0 p1 p2:List MemPlace) (W:World) (hT:Tab W)
  (q0:Value.okWide Tryz.prog W .any base 3 v0) (h0:DataW.Trod enc Tryz.prog W 0 (λ_=>true) true 3 v0 d0 p0)
  (q1:Value.okWide Tryz.prog W .any base 3 v1) (h1:DataW.Trod enc Tryz.prog W 0 (λ_=>true) true 3 v1 d1 p1)
  (q2:Value.okWide Tryz.prog W .any base 22 v2) (h2:DataW.Trod enc Tryz.prog W 0 (λ_=>true) true 22 v2 d2 p2):
  Calls Tryz.prog 3 #[v0,v1,v2] W λe w'=>e=.returned (.bool true)/\Below W.heap.size W w':=by
 obtain⟨m,rfl,-⟩:=Args.int_open Tryz.underlying3 q0 h0;obtain⟨k,rfl,-⟩:=Args.int_open Tryz.underlying3 q1 h1;obtain⟨a,c,l,rfl,hA⟩:=acts_open q2 h2;exact plays_law m k a c l W hA hT
end Pool
end Go.Proofs.YtfgjnpbffppocaaGreatDoor
