/- Part. -/
import Derived.Test.YtcdcnhecimajkaaGreatDoorF0
import Derived.Test.YtcdcnhecimajkaaGreatDoorF2
import Derived.ProofKit
import Derived.OpenShut
import Derived.Deep.Slices
set_option maxRecDepth 100000
namespace Go.Proofs.YtcdcnhecimajkaaGreatDoor
namespace Args
open Go.ChangeShapes Go.WideShapes Go.RowKit Go.Deep Mem
theorem add_at (b off n:Nat): (⟨b,off,none⟩:Addr).add n=⟨b,off+n,none⟩:=by
 unfold Addr.add
 split <;> simp_all
theorem flat_find {α:Type} (cells:α->List Value) (size:Nat):∀(l:List α),(∀x∈l,(cells x).length=size)->∀i u,(l.flatMap cells)[i]? =some u->∃q x j,l[q]? =some x/\(cells x)[j]? =some u/\i=q*size+j
 | [],_,i,u,h=>by simp at h
 |x ::r,hl,i,u,h=>by
  have hx:=hl x (by simp);rw[jC]at h
  by_cases hi:i<size
  ·rw[List.getElem?_append_left (by omega)]at h;exact⟨0,x,i,rfl,h,by omega⟩
  ·rw[List.getElem?_append_right (by omega),hx]at h;obtain⟨q,y,j,h1,h2,h3⟩:=flat_find cells size r (λy hy=>hl y (by simp[hy])) _ u h;exact⟨q+1,y,j,by simpa using h1,h2,by rw[Nat.add_mul];omega⟩
theorem slice_open_trod {H:Type} {enc:TypeId×Value->H} {fuel:Nat} {cs0:List Value} {y0:DataW H×List MemPlace} {W:World} {t e:TypeId} {size:Nat} {α:Type} [Inhabited α] (cells:α->List Value) (okE:α->Prop) (hu:Tryz.prog.underlying t=some (.slice e)) (hcells:Tryz.prog.cellsOf e=size) (hpos:0<size)
  (hel:∀fuel cs y,cs.length=size->DataW.trod enc Tryz.prog W 0 (λ_=>true) true fuel e cs=some y->∃x,cs=cells x/\okE x)
  (hf:DataW.trod enc Tryz.prog W 0 (λ_=>true) true fuel t cs0=some y0):
  ∃(a:Option Addr) (len cap:Nat) (l:List α),cs0= [.slice a len cap]/\len<=cap/\cap<=maxLen/\l.length=len/\(∀x∈l,okE x)/\Lies W a (l.flatMap cells):=by
 rcases open_slice hu hf with⟨hcs,_⟩|⟨a',len,cap,m,n,D,Pl,hcs,_,hl,hm,hmm,_,hi⟩
 ·exact⟨none,0,0,[],hcs,Nat.le_refl _,Nat.zero_le _,rfl,λx hx=>absurd hx (by simp),.inl rfl⟩
 ·have hmm2:len<=m:=by rw[hmm];split <;> omega
  rw[hcells]at hi
  have hspot:0<len->a'.spot=none:=λh0=>by
   obtain⟨cs',hc,_⟩:=hi 0 (by omega);obtain⟨_,hlen,hat⟩:=World.cells?_some hc;have e:=hat 0 (by omega);rw[jg (by omega)]at e;have:=World.cell?_spot e
   simpa[Addr.add]using this
  obtain⟨f,hfx⟩:=choose_lt (α:=α) (n:=len) (p:=λi x=>okE x/\(cells x).length=size/\∃b off,a'=⟨b,off,none⟩/\b<W.heap.size/\∀j u,(cells x)[j]? =some u->W.cell? ⟨b,off+(i*size+j),none⟩=some u) (λi hlt=>by
   obtain⟨cs',hc,ht⟩:=hi i (by omega);obtain⟨_,hlen,hat⟩:=World.cells?_some hc;obtain⟨x,rfl,hx⟩:=hel _ _ _ hlen ht;obtain⟨b,off,spot⟩:=a';have hs:spot=none:=hspot (by omega);subst hs;have e0:=hat 0 (by omega);rw[jg (by omega),add_at,add_at]at e0;have hb:=World.block_lt_of_cell? W _ e0;refine⟨x,hx,hlen,b,off,rfl,hb,λj u hu=>?_⟩;have hj:=(jS.1 hu).1;have e:=hat j (by omega);rw[hu,add_at,add_at,Nat.add_assoc]at e;exact e)
  refine⟨some a',_,_,(List.range len).map f,hcs,hl,hm,by simp,λx hx=>?_,?_⟩
  ·obtain⟨i,hi2,rfl⟩:=List.mem_map.1 hx;exact(hfx i (List.mem_range.1 hi2)).1
  ·by_cases h0:len=0
   ·subst h0;exact .inl rfl
   ·obtain⟨_,_,b,off,rfl,hb,_⟩:=hfx 0 (by omega);refine .inr ⟨b,off,rfl,hb,λi u hu=>?_⟩
    obtain⟨q,x,j,hq,hj,rfl⟩:=flat_find cells size _ (λx hx=>by
     obtain⟨i,hi2,rfl⟩:=List.mem_map.1 hx;exact(hfx i (List.mem_range.1 hi2)).2.1) i u hu
    have hlt:q<len:=by
     have:=(jS.1 hq).1
     simpa using this
    obtain rfl:f q=x:=by simpa[hlt]using hq
    obtain⟨_,_,b',off',e',_,hc⟩:=hfx q hlt;injection e' with e1 e2;subst e1;subst e2;exact hc j u hj
theorem slice_open {H:Type} {enc:TypeId×Value->H} {base:Nat} {v:Value} {d:DataW H} {p:List MemPlace} {W:World} {t e:TypeId} {size:Nat} {α:Type} [Inhabited α] (cells:α->List Value) (okE:α->Prop) (hu:Tryz.prog.underlying t=some (.slice e)) (hcells:Tryz.prog.cellsOf e=size) (hpos:0<size)
  (hel:∀fuel cs y,cs.length=size->DataW.trod enc Tryz.prog W 0 (λ_=>true) true fuel e cs=some y->∃x,cs=cells x/\okE x)
  (q:Value.okWide Tryz.prog W .any base t v) (h:DataW.Trod enc Tryz.prog W 0 (λ_=>true) true t v d p):
  ∃(a:Option Addr) (len cap:Nat) (l:List α),v=.slice a len cap/\len<=cap/\cap<=maxLen/\l.length=len/\(∀x∈l,okE x)/\Lies W a (l.flatMap cells):=by
 obtain⟨a,len,cap,rfl⟩:=okWide_slice hu q;obtain⟨fuel,hf⟩:=h;obtain⟨a',len',cap',l,hcs,r⟩:=slice_open_trod cells okE hu hcells hpos hel hf
 simp[Value.cells]at hcs
 obtain⟨rfl,rfl,rfl⟩:=hcs;exact⟨_,_,_,l,rfl,r⟩
theorem int_open {H:Type} {enc:TypeId×Value->H} {v:Value} {d:DataW H} {p:List MemPlace} {W:World} {base:Nat} {t:TypeId} {k:IntKind} (hu:Tryz.prog.underlying t=some (.int k)) (q:Value.okWide Tryz.prog W .any base t v) (h:DataW.Trod enc Tryz.prog W 0 (λ_=>true) true t v d p):∃n,v=.int k n/\(Lit.int k n).wf=true:=by
 obtain⟨n,rfl⟩:=okWide_int hu q;obtain⟨fuel,hf⟩:=h;obtain⟨m,hk,_,hw⟩:=DataW.trod_int hu hf
 simp[Value.cells]at hk
 subst hk;exact⟨n,rfl,hw⟩
theorem bytes_open_trod {H:Type} {enc:TypeId×Value->H} {fuel:Nat} {cs0:List Value} {y0:DataW H×List MemPlace} {W:World} {t e:TypeId} (hu:Tryz.prog.underlying t=some (.slice e)) (he:Tryz.prog.underlying e=some (.int .u8)) (hc:Tryz.prog.cellsOf e=1)
  (hf:DataW.trod enc Tryz.prog W 0 (λ_=>true) true fuel t cs0=some y0):
  ∃(a:Option Addr) (cap:Nat) (l:List UInt8),cs0= [.slice a l.length cap]/\l.length<=cap/\cap<=maxLen/\Lies W a (l.map bv):=by
 obtain⟨a,len,cap,l,rfl,h1,h2,rfl,_,hL⟩:=slice_open_trod (α:=UInt8) (λb=>[bv b]) (λ_=>True) hu hc (by decide) (λfuel cs y hl hy=>by
  obtain⟨n,rfl,_,hw⟩:=DataW.trod_int he hy;have hb:=bounds_u8 hw;refine⟨UInt8.ofNat n.toNat,?_,trivial⟩;unfold bv
  simp
  omega) hf
 refine⟨a,cap,l,rfl,h1,h2,?_⟩
 have:∀l:List UInt8,l.flatMap (λb=>[bv b])=l.map bv:=λl=>by
  induction l with
  |nil=>rfl
  |cons x r ih=>rw[jC,ih];rfl
 rw[<-this];exact hL
end Args
end Go.Proofs.YtcdcnhecimajkaaGreatDoor
