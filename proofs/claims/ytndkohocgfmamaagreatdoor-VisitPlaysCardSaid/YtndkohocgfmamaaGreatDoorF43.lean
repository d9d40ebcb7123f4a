/- Part. -/
import Derived.Test.YtndkohocgfmamaaGreatDoorF26
import Derived.Test.YtndkohocgfmamaaGreatDoorF32
namespace Go.Proofs.YtndkohocgfmamaaGreatDoor
open Go.Proofs.Tryz
namespace Full
open Go.RowKit Go.Deep Mem Crc Go.Maps Dk aA bQ
open Store (au none' nv Files Sto dV setF)
open Ext (Tab)
structure T9(B s d cnt:Nat)(o:Option Obj)(H:Files)(w:World)(Q:Nat->Prop)(off:Bool)(F:Files)(n:Nat):Prop where
 on:∃g cm m ver next fs C k Q0,On B s d g cm w Q0 m ver next fs C H k/\Slots m.bl ver next fs/\m.aM<0/\m.bl.length=cnt/\F=cO C H/\k+20000<=n/\∀x,Q x↔Q0 x\/x=0
 up:off=false
 few:n<=100000
 zero:w.heap[0]? =o
theorem On.zero{B s d g cm:Nat}{w w':World}{Q:Nat->Prop}{m:DM}{ver next:Nat}{fs:List af}{C:au}{H:Files}{n:Nat}(h:On B s d g cm w Q m ver next fs C H n)(b:Upon Q w w'):w'.heap[0]? =w.heap[0]?:=
 b.block 0 h.tab.lt (λhq=>by have:=h.base 0 hq;have:=h.pos;omega)
def bL(B s d cnt:Nat)(o:Option Obj)(H:Files):Sto s where
 At:=T9 B s d cnt o H
 lt h k hk:=by
  obtain⟨g,cm,m,ver,next,fs,C,j,Q0,ho,-,-,-,-,-,hq⟩:=h.on;rcases(hq k).1 hk with h1|h1
  ·exact ho.lt k h1
  ·rw[h1];exact ho.tab.lt
 keep h hsz hk:=by
  obtain⟨g,cm,m,ver,next,fs,C,j,Q0,ho,h1,h2,h3,hF,hn,hq⟩:=h.on;exact⟨⟨g,cm,m,ver,next,fs,C,j,Q0,ho.stays hsz (λk h1=>hk k ((hq k).2 h1)),h1,h2,h3,hF,hn,hq⟩,h.up,h.few,(hk 0 ((hq 0).2 (.inr rfl))).trans h.zero⟩
 short h nm b hb:=by
  obtain⟨g,cm,m,ver,next,fs,C,j,Q0,ho,-,-,-,hF,-,-⟩:=h.on;rw[hF]at hb;exact ho.short hb
 write h hn nm a1 a2 a cp b hL hb:=by
  obtain⟨g,cm,m,ver,next,fs,C,j,Q0,ho,h1,h2,h3,hF,hj,hq⟩:=h.on;refine(OI ho (by omega) nm a1 a2 a cp b hL hb).mono ?_;rintro e w' ⟨rfl,Q',ho',hq',hu⟩;exact⟨rfl,λx=>Q' x\/x=0,⟨⟨g,cm,m,ver,next,fs,_,_,Q',ho',h1,h2,h3,by rw[hF,Ff],by omega,λx=>Iff.rfl⟩,rfl,by omega,(ho.zero hu).trans h.zero⟩,λk hk=>hk.elim (λh3=>(hq' k h3).imp (λh4=>(hq k).2 (.inl h4)) id) (λh3=>.inl ((hq k).2 (.inr h3))),hu.mono (λk hk=>(hq k).2 (.inl hk))⟩
 xU h x a m cp:=by have:=h.up;cases this
 AQ h nm b hb:=by
  obtain⟨g,cm,m,ver,next,fs,C,j,Q0,ho,-,-,-,hF,hj,hq⟩:=h.on;rw[hF]at hb;have:=Ez ho nm (by have:=(ho.short hb).1;omega);rw[hb]at this;exact this
 I5 h nm hn hb:=by
  obtain⟨g,cm,m,ver,next,fs,C,j,Q0,ho,-,-,-,hF,hj,hq⟩:=h.on;rw[hF]at hb;have:=Ez ho nm hn;rw[hb]at this;exact this
 xV h x:=by have:=h.up;cases this
 remove h hn nm hf:=by
  obtain⟨g,cm,m,ver,next,fs,C,j,Q0,ho,h1,h2,h3,hF,hj,hq⟩:=h.on;rw[hF]at hf
  have hl:nm.length<=32:=by
   cases hb:cO C H nm with
   |none=>exact absurd hb hf
   |some b=>exact(ho.short hb).1
  refine(OL ho (by omega) nm hl hf).mono ?_;rintro e w' ⟨rfl,Q',ho',hq',hu⟩;exact⟨rfl,λx=>Q' x\/x=0,⟨⟨g,cm,m,ver,next,fs,_,_,Q',ho',h1,h2,h3,by rw[hF,Ff],by omega,λx=>Iff.rfl⟩,rfl,by omega,(ho.zero hu).trans h.zero⟩,λk hk=>hk.elim (λh3=>(hq' k h3).imp (λh4=>(hq k).2 (.inl h4)) id) (λh3=>.inl ((hq k).2 (.inr h3))),hu.mono (λk hk=>(hq k).2 (.inl hk))⟩
 xW h x:=by have:=h.up;cases this
 names h:=by
  obtain⟨g,cm,m,ver,next,fs,C,j,Q0,ho,-,-,-,hF,hj,hq⟩:=h.on;have Ua:=h.few;refine(OJ ho (by omega)).mono ?_;rintro e w' ⟨v,ss,rfl,h1,h2,h3,h4,h5⟩;exact⟨v,ss,rfl,h1,λnm=>by rw[hF];exact h2 nm,by omega,h5⟩
variable {B s d cnt n:Nat}{o:Option Obj}{H F:Files}{w:World}{Q:Nat->Prop}
variable {g cm:Nat}
theorem On.xX{m:DM}{ver next:Nat}{fs:List af}{C:au}(h:On B s d g cm w Q m ver next fs C H 0)(c:Slots m.bl ver next fs)(e:m.aM<0)(hl:m.bl.length=cnt)(b:w.heap[0]? =o): (bL B s d cnt o H).At w (λx=>Q x\/x=0) false (cO C H) 20000:=
 ⟨⟨g,cm,m,ver,next,fs,C,0,Q,h,c,e,hl,rfl,by omega,λx=>Iff.rfl⟩,rfl,by omega,b⟩
theorem Ub(h: (bL B s d cnt o H).At w Q false F n)(G:n<=29000):
  Calls prog 22 #[.pointer (some ⟨s,0,none⟩)] w λe w'=>
   (e=.returned (.int .i64 0)/\∃Q',(bL B s d cnt o F).At w' Q' false F 20000/\(∀k,Q' k->Q k\/w.heap.size<=k)/\Upon Q w w')\/(e=.returned (.int .i64 7)/\Below w.heap.size w w'):=by
 obtain⟨g,cm,m,ver,next,fs,C,k,q,b,y,f,hl,hF,E,hq⟩:=h.on
 by_cases i:∀nm,C nm=none
 ·obtain rfl:C=none':=funext i;rw[um]at hF;subst hF;refine(OM b i).mono ?_;rintro e w' ⟨rfl,rfl⟩;have u:On B s d g cm w' q m ver next fs none' F 0:=⟨b.fu,b.off,b.wt,b.big,b.on,b.ok,wD 0,b.base,b.tab,b.pos,b.low⟩;have c:=u.xX y f hl h.zero;rw[um]at c;exact .inl ⟨rfl,_,c,λx c=>.inl ((hq x).2 c),Upon.refl _ _⟩
 ·obtain⟨z,hK⟩:=OH b.few;refine(OP b f (by omega) hK i).mono ?_;intro e w' hc
  cases hp:jI C z m.bl.length ver next fs with
  |none=>
   rw[hp]at hc;exact .inr hc
  |some p=>
   rw[hp]at hc;obtain⟨t,Q',j,v,l⟩:=hc;have A:=(wC f C p.2 (ver+1) (bI (ver+1) p.1 p.2)).1;have c:=j.xX (cnt:=cnt) (Qn b.wt b.big j.ok f) (OO f C ver p) ((Er b.wt A).trans hl) ((b.zero l).trans h.zero);rw[um,<-hF]at c;refine .inl ⟨t,_,c,λx c=>?_,l.mono (λx c=>(hq x).2 (.inl c))⟩;rcases c with c|c
   ·exact(v x c).imp (λr=>(hq x).2 (.inl r)) id
   ·exact .inl ((hq x).2 (.inr c))
theorem Uc(h: (bL B s d cnt o H).At w Q false F n):
  Calls prog 16 #[.pointer (some ⟨d,0,none⟩)] w λe w'=>∃s' Q',e=.returned (.tuple #[.pointer (some ⟨s',0,none⟩),.int .i64 0])/\(bL B s' d cnt o H).At w' Q' false H 20000/\(∀k,Q' k->Q k\/w.heap.size<=k)/\Upon Q w w':=by
 obtain⟨g,cm,m,ver,next,fs,C,k,y,c,r,u,hl,hF,A,hq⟩:=h.on;refine(Ql c u r).mono ?_;rintro e w' ⟨s',z,Q',E,rfl,l,t,j,q,f,v⟩;have b:=l.xX (cnt:=cnt) t v (j.trans hl) ((c.zero f).trans h.zero);rw[um]at b;refine⟨s',_,rfl,b,λx b=>?_,f.mono (λx b=>(hq x).2 (.inl b))⟩;rcases b with b|b
 ·exact(q x b).imp (λi=>(hq x).2 (.inl i)) id
 ·exact .inl ((hq x).2 (.inr b))
theorem Ud(h: (bL B s d cnt o H).At w Q false F n): (∀k,Q k->B<=k\/k=0)/\Tab w/\0<B/\B<=w.heap.size/\w.heap[0]? =o:=by
 obtain⟨g,cm,m,ver,next,fs,C,k,e,b,-,-,-,-,-,hq⟩:=h.on;exact⟨λx c=>((hq x).1 c).imp (b.base x) id,b.tab,b.pos,b.low,h.zero⟩
theorem Ue{s d N:Nat}{B:Nat}{w:World}{Q:Nat->Prop}(h:Store.St w Q s d g N cm false none')(b:33<=N)(j:N<=2000)(f:Tab w)(c:0<B)(e:B<=w.heap.size)(hq:∀k,Q k->B<=k): (bL B s d N w.heap[0]? (λ_=>none)).At w (λx=>Q x\/x=0) false (λ_=>none) 20000:=by
 have i:On B s d g cm w Q (D0 N) 0 0 [] none' (λ_=>none) 0:=⟨⟨_,_,_,_,h.full (by omega),rfl⟩,rfl,rfl,by rw[zP];exact b,OE N,by rw[zP];exact N9 N,wD 0,hq,f,c,e⟩;have:=i.xX (Qm N b) (show(-1:Int) <0 by decide) (zP N) rfl
 rwa [um]at this
end Full
namespace Runs
open Go.RowKit Go.Deep Go.Shelf Mem Crc Go.Maps Merge Full bQ
open Store (Sto Files setF fF fG nv)
structure RowK(B:Nat)(D:Nat->Prop)(p:Nat)(w:World)(a:Option Addr)(xs:List Value):Prop where
 lies:Lies w a xs
 away:∀k,Mem.blk a=some k->(¬D k/\k≠p)/\B<=k/\k<w.heap.size
theorem RowK.none{B:Nat}{D:Nat->Prop}{p:Nat}{w:World}:RowK B D p w none []:=⟨.inl rfl,λk b=>by cases b⟩
variable {D:Nat->Prop}{p:Nat}{w:World}{a:Option Addr}{xs:List Value}
theorem RowK.step{B:Nat}{D':Nat->Prop}{w':World}(h:RowK B D p w a xs)(c:Upon (λk=>D k\/k=p) w w')(hd:∀k,D' k->D k\/w.heap.size<=k):RowK B D' p w' a xs:=
 ⟨h.lies.upon c (λk b=>λhq=>hq.elim (h.away k b).1.1 (h.away k b).1.2),λk b=>by
  obtain⟨⟨e,f⟩,i,j⟩:=h.away k b;exact⟨⟨λl=>(hd k l).elim e (λm=>by omega),f⟩,i,aD j c.size⟩⟩
theorem RowK.fresh{B:Nat}{b:Nat}{e:TypeId}{size n:Nat}{c:Nat}(h:w.ownsRow b e size (.slice a n c) n xs)(t:B<=b)(hD:∀k,D k->k<b)(u:p<b):RowK B D p w a xs:=by
 obtain⟨_,_,f,_,m,hb,q⟩:=own_shape h;injection f with f _ _;subst f;refine⟨m,λk i=>?_⟩;have r:=hb k i;have j:=(h.lt k (q.trans i)).2;exact⟨⟨λl=>by have:=hD k l;omega,by omega⟩,by omega,j⟩
theorem oz{L:List FF}{F:Files}{pf:List UInt8}{ne:Nat}(h:aQ L F)(k:∀j,j<ne->F (rname pf j)≠none)(q:ne<10^20):ne<=L.length:=by
 have c: (L.map Prod.fst).length=L.length:=by simp
 rw[<-c];refine AA (rname pf) ne _ (λi j m b e=>xC (by omega) (by omega) e) (λj b=>?_);have:=k j b;refine rZ (λf=>this ((h.none_ _).2 (λx l e=>f ?_)));exact List.mem_map.2 ⟨x,l,e⟩
end Runs
namespace Runs
open Go.RowKit Go.Deep Go.Shelf Mem Crc Go.Maps Merge Full
open Store (Sto Files setF fF fG nv)
theorem I6{B:Nat}{o:Option Obj}{w:World}{s d x ne n:Nat}{H F:Files}{A:Fi}{D:Nat->Prop}{held:List (List UInt8)}(h:aW (bL B s d 400 o H) A D w x ne F held n)(y:n<=29000):
  Calls prog 22 #[.pointer (some ⟨s,0,none⟩)] w λe w'=>∃z:Int,e=.returned (.int .i64 z)/\((z=0/\aW (bL B s d 400 o F) A (Mid D w w') w' x ne F held 20000/\Upon D w w')\/(z=7/\Below w.heap.size w w')):=by
 obtain⟨Q,R,m,vs,h⟩:=h;refine(Ub h.aF.fq y).mono ?_;rintro e w' (⟨rfl,Q',l,hq,j⟩|⟨rfl,t⟩)
 ·have hlt:∀k,R k->¬Q' k:=λk b i=>(hq k i).elim (h.aF.rq k b).1 (λf=>by have:=h.lt k (h.r k b);omega)
  have u:∀k,m.ownBlock=some k->¬Q' k:=λk b i=>(hq k i).elim (h.aF.hq k b).1 (λf=>by have:=h.lt k (h.h k b);omega)
  have v:¬Q' x:=λi=>(hq x i).elim h.aF.xq (λf=>by have:=h.lt x h.x;omega)
  exact⟨0,rfl,.inl ⟨rfl,⟨Q',R,m,vs,⟨h.aF.nY,h.aF.blk.upon j h.aF.xq,l,h.aF.mem.keep j (λg c=>(h.aF.rq g c).1) (λg c=>(h.aF.hq g c).1),λg c=>⟨hlt g c,(h.aF.rq g c).2⟩,λg c=>⟨u g c,(h.aF.hq g c).2⟩,v,h.aF.ok,h.aF.room,h.aF.few⟩,λk b=>(hq k b).imp (h.q k) (λf=>⟨f,(bL B s d 400 o F).lt l k b⟩),λk b=>.inl (h.r k b),.inl h.x,λk b=>.inl (h.h k b),λk b=>b.elim (λf=>aD (h.lt k f) j.size) (λf=>f.2)⟩,j.mono h.q⟩⟩
 ·exact⟨7,rfl,.inr ⟨rfl,t⟩⟩
end Runs
end Go.Proofs.YtndkohocgfmamaaGreatDoor
