/- Part. -/
import Derived.Test.YtndkohocgfmamaaGreatDoorF8
import Derived.Test.YtndkohocgfmamaaGreatDoorF16
import Derived.Test.YtndkohocgfmamaaGreatDoorF19
import Derived.Test.YtndkohocgfmamaaGreatDoorF20
import Derived.Test.YtndkohocgfmamaaGreatDoorF23
set_option maxHeartbeats 8000000
set_option maxRecDepth 200000
namespace Go.Proofs.YtndkohocgfmamaaGreatDoor
open Go.Proofs.Tryz
namespace Full
open Go.RowKit Go.Deep Mem Crc Go.Maps Dk aA
open Store (au fV bT none')
def Own(Q:Nat->Prop)(s d g cm:Nat)(wv:Value)(k:Nat):Prop:=Q k/\k≠cm/\k≠s/\¬Has d g wv k
structure Fu(w:World)(Q:Nat->Prop)(s d g cm:Nat)(wv:Value)(m:DM)(ver next:Nat)(a:Option Addr)(c:Nat)(l:List FR)(bad:Bool)(C:au):Prop where
 store:Blk w s 119 #[.pointer (some ⟨d,0,none⟩),.int .u64 (ver:Int),.int .u32 (next:Int),.slice a l.length c,.map (some cm),.bool bad]
 disk:Dk w d g wv m
 files:bV w a l
 fr:∀k,Mem.blk a=some k->Own Q s d g cm wv k
 br:∀x∈l,∀k,Mem.blk x.a=some k->Own Q s d g cm wv k
 map:∃f,aY w 9 cm f/\(∀x,f x≠none->∃nm,x=.string nm)/\∀nm,bT w (Own Q s d g cm wv) f C nm
 qs:Q s
 qm:Q cm
 qd:∀k,Has d g wv k->Q k
 lt:∀k,Q k->k<w.heap.size
theorem _root_.Go.Proofs.YtndkohocgfmamaaGreatDoor.aA.bV.keep{w w':World}{a:Option Addr}{l:List FR}(h:bV w a l)(y:w.heap.size<=w'.heap.size)(z:∀k,Mem.blk a=some k->w'.heap[k]? =w.heap[k]?)(hb:∀x∈l,∀k,Mem.blk x.a=some k->w'.heap[k]? =w.heap[k]?):bV w' a l:=
 ⟨h.row.keep y z,λx o=>⟨(h.blocks x o).1.keep y (hb x o),(h.blocks x o).2⟩⟩
theorem Fu.keep{w w':World}{Q:Nat->Prop}{s d g cm:Nat}{wv:Value}{m:DM}{ver next:Nat}{a:Option Addr}{c:Nat}{l:List FR}{bad:Bool}{C:au}(h:Fu w Q s d g cm wv m ver next a c l bad C)(y:w.heap.size<=w'.heap.size)(o:∀k,Q k->w'.heap[k]? =w.heap[k]?):Fu w' Q s d g cm wv m ver next a c l bad C:=by
 obtain⟨f,z,A,D⟩:=h.map;exact⟨(o s h.qs).trans h.store,h.disk.keep y (λk hq=>o k (h.qd k hq)),h.files.keep y (λk e=>o k (h.fr k e).1) (λx E k e=>o k (h.br x E k e).1),h.fr,h.br,⟨f,z.keep (o cm h.qm),A,λnm=>(D nm).keep y (λk hq=>o k hq.1) (λ_ h=>h)⟩,h.qs,h.qm,h.qd,λk hq=>aD (h.lt k hq) y⟩
variable {w w':World}{Q:Nat->Prop}{s d g cm ver c:Nat}{wv:Value}{m:DM}{a:Option Addr}{l:List FR}{bad:Bool}{C:au}
theorem Fu.later{next:Nat}(h:Fu w Q s d g cm wv m ver next a c l bad C)(o:Below w.heap.size w w'):Fu w' Q s d g cm wv m ver next a c l bad C:=h.keep o.size (λk hq=>o.block k (h.lt k hq))
theorem Fu.upon{P:Nat->Prop}{next:Nat}(h:Fu w Q s d g cm wv m ver next a c l bad C)(o:Upon P w w')(y:∀k,P k->¬Q k):Fu w' Q s d g cm wv m ver next a c l bad C:=h.keep o.size (λk hq=>o.block k (h.lt k hq) (λz=>y k z hq))
theorem Fu.cells{next:Nat}(h:Fu w Q s d g cm wv m ver next a c l bad C):
  w.cell? ⟨s,0,none⟩=some (.pointer (some ⟨d,0,none⟩))/\w.cell? ⟨s,1,none⟩=some (.int .u64 (ver:Int))/\w.cell? ⟨s,2,none⟩=some (.int .u32 (next:Int))/\w.cell? ⟨s,3,none⟩=some (.slice a l.length c)/\w.cell? ⟨s,4,none⟩=some (.map (some cm))/\w.cell? ⟨s,5,none⟩=some (.bool bad):=by
 refine⟨?_,?_,?_,?_,?_,?_⟩ <;> rw[h.store.cell] <;> rfl
attribute [local go_sem] Oper.semAt_some
theorem lK{next:Nat}(h:Fu w Q s d g cm wv m ver next a c l bad C):
  Calls prog 56 #[.pointer (some ⟨s,0,none⟩)] w λe w'=>e=.returned (.bool (bad||m.off))/\w'=w:=by
 obtain⟨z,_,_,_,_,A⟩:=h.cells;have o:=jq (qO h.disk);obtain⟨off,y⟩:=jl m.off;rw[<-y]at o⊢;clear h y;cases bad
 ·go_enter func56,ntmps56
  go_wp2_with fail
  refine o.out.mono ?_;rintro e w1 ⟨rfl,rfl⟩
  go_wp2_with fail
  go_ret
  exact⟨by simp,rfl⟩
 ·go_enter func56,ntmps56
  go_wp2_with fail
  go_ret
  exact⟨by simp,rfl⟩
open Ext (Holds fK lJ Row Ints cnt vV kg Dt)
def ints(l:List Nat):List Int:=l.map (λi:Nat=>(i:Int))
def lM(n j:Nat):List Bool:=(List.range j).foldl (fun(k:List Bool) (i:Nat)=>fK k [(i:Int)] false) (List.replicate n false)
theorem Du(n j:Nat):lM n (j+1)=fK (lM n j) [(j:Int)] false:=by unfold lM;rw[List.range_succ,kG];rfl
def mP(k:List Bool)(fs:List af):List Bool:=fs.foldl (fun(k:List Bool) (f:af)=>fK k (ints f.blocks) false) k
theorem Nw{k:List Bool}{fs:List af}{j:Nat}{f:af}(h:fs[j]? =some f):mP k (fs.take (j+1))=fK (mP k (fs.take j)) (ints f.blocks) false:=by unfold mP;rw[bF,h,kG];rfl
def kR(n:Nat)(fs:List af):List Bool:=mP (lM n 32) fs
theorem Ny(l:List Nat):l.map iv=(ints l).map (Value.int .i64):=by unfold ints;rw[List.map_map];rfl
theorem ints_at{w:World}{b off:Nat}{l:List Nat}(h:∀j u,(l.map iv)[j]? =some u->w.cell? ⟨b,off+j,none⟩=some u):Ints w b off (ints l):=λi x o=>by
 refine h i _ ?_;rw[Ny,List.getElem?_map,o]
 rfl
theorem row_of{w:World}{bs:List Nat}{a:Option Addr}{cp:Nat}{l:List Nat}(h:Lies w a (l.map iv))(hc:l.length<=cp)(A:l.length<=100000)(hb:∀k,Mem.blk a=some k->k∉bs):Row w bs a cp (ints l):=by
 refine⟨by unfold ints;simpa using hc,by unfold ints;simpa using A,?_⟩;rcases h with y|⟨g,o,rfl,z,hc⟩
 ·left
  unfold ints;rw[dM]at y⊢;exact y
 ·exact .inr ⟨g,o,rfl,z,hb g rfl,ints_at hc⟩
theorem zn{w:World}{Q:Nat->Prop}{s d g cm:Nat}{wv:Value}{m:DM}{ver next:Nat}{a:Option Addr}{c:Nat}{l:List FR}{bad:Bool}{C:au}(h:Fu w Q s d g cm wv m ver next a c l bad C)(hl:l.length<=100000)(hb:∀x∈l,x.f.blocks.length<=100000):
  Calls prog 93 #[.pointer (some ⟨s,0,none⟩)] w λe w'=>∃Cb gb cap,e=.returned (.pointer (some ⟨Cb,0,none⟩))/\Holds Cb gb cap (kR m.bl.length (l.map FR.f)) w'/\w.heap.size<=Cb/\w.heap.size<=gb/\Below w.heap.size w w':=by
 obtain⟨c0,_,_,X,_,_⟩:=h.cells;have S:=jq (mK h.disk);have y0:=h.disk.small;obtain⟨n,hn⟩:=jl m.bl.length;rw[<-hn]at S y0⊢;have h2:=h.store.lt;obtain⟨L,Y⟩:=jl l.length;rw[<-Y]at X hl;have HN:=jq (kg (n:Int) w);have H:=jq h;have x3:=jq hb;have HL:=jq Y;clear h hb hn Y
 go_enter func93,ntmps93
 go_wp2_with fail
 refine S.out.mono ?_;rintro e w0 ⟨rfl,rfl⟩
 go_wp2_with fail
 refine HN.out.mono ?_;rintro e w1 ⟨rfl,hF⟩;have o:=Dt hF;have x0:cnt (n:Int)=n:=by unfold cnt;omega
 rw[x0,show((n:Int)).toNat=n by omega]at o;obtain⟨cap,h9⟩:=jl ((((n:Int)+63)/64).toNat);rw[<-h9]at o;have h4:=jq hF.below;have HH:=jq o;obtain⟨gb,h0⟩:=jl w0.heap.size;rw[<-h0]at HH⊢;have T:=jq h0;have x8:=(hF.below.cell (p:=⟨s,3,none⟩) h2).trans X;clear hF o x0 h9 h0 c0 X HN S
 go_wp2_with fail
 go_loopw[13] (λi wr=>∃j:Nat,j<=32/\i=.int .i64 j/\Hid (Holds (gb+1) gb cap (lM n j) wr)/\Hid (Below w0.heap.size w0 wr)) (λi _=>32-(intOf i).toNat)
 case atStart=>exact⟨0,by omega,rfl,HH,h4⟩
 case round=>
  obtain⟨j,hj,rfl,o,y⟩:=hrel
  by_cases hlt:j<32
  ·have h1:decide ((j:Int) <32)=true:=jd (by omega);have z:Holds (gb+1) gb cap (lM n j) (wr.alloc (.cells #[.int .i64 (j:Int)] 3)):=o.out.later ((Below.refl _ wr).alloc jn _);have x9:=o.out.lt
   have M:Row (wr.alloc (.cells #[.int .i64 (j:Int)] 3)) [gb+1,gb] (some ⟨wr.heap.size,0,none⟩) 1 [(j:Int)]:=by
    refine⟨by simp,by simp,.inr ⟨_,0,rfl,by simp,by simp;omega,λi x A=>?_⟩⟩
    cases i with
    |zero=>
     simp at A
     subst A;rw[(Blk.new wr _ _).cell]
     rfl
    |succ i=>simp at A
   have D:=vV (gb+1) gb cap 1 _ (lM n j) [(j:Int)] _ z M;rw[<-Du]at D;have F:=jq D;have E:=jq (y.out.alloc y.out.size (.cells #[.int .i64 (j:Int)] 3));clear z M D x9
   go_wp2_with fail
   refine F.out.mono ?_;rintro e w2 ⟨rfl,I,J⟩;have x7:=T.out;have G:Below w0.heap.size w0 w2:=E.out.trans (J.below (by have:=E.out.size;omega) (λq hq=>by simp at hq;omega));have U:=jq I;have R:=jq G;clear I J G x7 F E
   go_wp2_with fail
   exact⟨⟨j+1,by omega,by simp,U,R⟩,by simp[intOf];omega⟩
  ·have h5:j=32:=by omega
   have h1:decide ((j:Int) <32)=false:=jf (by omega);have hk:=(y.out.cell (p:=⟨s,3,none⟩) h2).trans ((h4.out.cell (p:=⟨s,3,none⟩) h2).symm.trans x8)
   go_wp2_with fail
   obtain⟨V,hK⟩:=jl (lM n 32);rw[h5,<-hK]at o;clear h5;have HK:=jq hK
   have h6:Hid (Holds (gb+1) gb cap (mP V ((l.map FR.f).take 0)) wr):=by
    rw[List.take_zero];exact o
   clear hK
   go_loopw[27] (λi wr=>∃j:Nat,j<=L/\i=.int .i64 j/\Hid (Holds (gb+1) gb cap (mP V ((l.map FR.f).take j)) wr)/\Hid (Below w0.heap.size w0 wr)) (λi _=>L-(intOf i).toNat)
   case atStart=>exact⟨0,aC _,rfl,h6,y⟩
   case round=>
    clear h6 o y hk;obtain⟨j,hj,rfl,o,y⟩:=hrel
    by_cases hlt:j<L
    ·have h1:decide ((j:Int) <(L:Int))=true:=jd (by omega);obtain⟨x,A⟩:∃x,l[j]? =some x:=⟨l[j]'(by rw[<-HL.out];exact hlt),jg _⟩;have O:=jM A;obtain⟨ga,oa,rfl,f0,f1,f2,f3⟩:=(H.out.later y.out).files.cells A;obtain⟨W,z⟩:=jl (wr.alloc (.cells #[sv x.f.name,.int .u32 (x.f.id:Int),iv x.f.size,.slice x.a x.f.blocks.length x.c] 113));have P:Below wr.heap.size wr W:=by rw[z];exact(Below.refl _ wr).alloc jn _
     have h7:=o.out.later P;have y1:w0.heap.size<=gb:=by have:=T.out;omega
     have x6:=y.out.size
     have M:Row W [gb+1,gb] x.a x.c (ints x.f.blocks):=row_of (((H.out.later y.out).later P).files.blocks x O).1 (H.out.files.blocks x O).2 (x3.out x O) (λk hk hm=>by
      have:=H.out.lt k (H.out.br x O k hk).1
      simp at hm
      omega)
     have D:=vV (gb+1) gb cap x.c x.a _ (ints x.f.blocks) W h7 M;rw[<-Nw (show(l.map FR.f)[j]? =some x.f by rw[List.getElem?_map,A];rfl),show(ints x.f.blocks).length=x.f.blocks.length by unfold ints;simp]at D;have b3:W.cell? ⟨wr.heap.size,3,none⟩=some (.slice x.a x.f.blocks.length x.c):=by rw[z,(Blk.new wr _ _).cell];rfl
     have E:=jq (y.out.trans (P.mono x6));have F:=jq D;obtain⟨sb,x2⟩:∃sb:ByteArray,sv x.f.name=.string sb:=⟨_,rfl⟩;obtain⟨sz,h3⟩:=jl x.f.size;obtain⟨id,hid⟩:=jl x.f.id;obtain⟨bn,h8⟩:=jl x.f.blocks.length;unfold iv at f2 z;rw[x2]at f0 z;rw[<-hid]at f1 z;rw[<-h3]at f2 z;rw[<-h8]at f3 z b3 F;have HW:=jq z;clear o y P h7 D M x2 hid h3 h8 A O z
     go_wp2_with fail
     rw[<-HW.out];refine F.out.mono ?_;rintro e w2 ⟨rfl,I,J⟩;have G:Below w0.heap.size w0 w2:=E.out.trans (J.below (by have:=E.out.size;omega) (λq hq=>by simp at hq;omega));have U:=jq I;have R:=jq G;clear I J G
     go_wp2_with fail
     exact⟨⟨j+1,by omega,by simp,U,R⟩,by simp[intOf];omega⟩
    ·obtain rfl:j=L:=by omega
     have h1:decide ((j:Int) <(j:Int))=false:=jf (by omega);have Z:=o.out;have x1:kR n (l.map FR.f)=mP V (l.map FR.f):=by unfold kR;rw[HK.out]
     have x5:=jq x1;clear x1;rw[jW (by rw[jP];have:=HL.out;omega)]at Z;have x4:=jq Z;have h3:=y.out.size;clear Z o
     go_wp2_with fail
     go_ret
     have:=T.out;exact⟨gb+1,gb,cap,rfl,by rw[x5.out];exact x4.out,by omega,by omega,y.out⟩
end Full
namespace Full
open Go.RowKit aA Varint
open Store (au)
open Ext (bX fU bP nS flips bS fits outs dI zu pE frees zw vW vX nR nQ)
def rises(l:List af):Prop:=l.Pairwise (λf g=>f.name<g.name)
def fM(nm:List UInt8):List af->Nat
 | []=>0
 |f ::r=>if f.name<nm then fM nm r+1 else 0
def iD(f:af)(l:List af):List af:=l.take (fM f.name l)++f ::l.drop (fM f.name l)
theorem Dv(nm:List UInt8):∀(l:List af) (i:Nat),i<=l.length->(∀k x,k<i->l[k]? =some x->x.name<nm)->(∀k x,i<=k->l[k]? =some x->¬x.name<nm)->fM nm l=i
 | [],i,hi,_,_=>by simp at hi;subst hi;rfl
 |f ::r,0,_,_,h2=>by
  have:=h2 0 f jn rfl;unfold fM;rw[if_neg this]
 |f ::r,i+1,hi,h1,h2=>by
  have:=h1 0 f (by omega) rfl;unfold fM;rw[if_pos this,Dv nm r i (by simpa using hi) (λk x o h=>h1 (k+1) x (by omega) (by simpa using h)) (λk x o h=>h2 (k+1) x (by omega) (by simpa using h))]
theorem Dw(nm:List UInt8):∀l:List af,fM nm l<=l.length
 | []=>aj _
 |f ::r=>by
  have:=Dw nm r;unfold fM
  split <;> simp <;> omega
theorem Dx(nm:List UInt8):∀(l:List af),∀x∈l.take (fM nm l),x.name<nm
 | [],x,o=>by simp at o
 |f ::r,x,o=>by
  unfold fM at o
  by_cases h:f.name<nm
  ·rw[if_pos h,List.take_succ_cons]at o;rcases List.mem_cons.1 o with rfl|o
   ·exact h
   ·exact Dx nm r x o
  ·rw[if_neg h]at o
   simp at o
theorem Dy(nm:List UInt8):∀(l:List af),rises l->∀x∈l.drop (fM nm l),¬x.name<nm
 | [],_,x,o=>by simp at o
 |f ::r,hr,x,o=>by
  have y:=eF.1 hr;unfold fM at o
  by_cases h:f.name<nm
  ·rw[if_pos h,List.drop_succ_cons]at o;exact Dy nm r y.2 x o
  ·rw[if_neg h,List.drop_zero]at o;rcases List.mem_cons.1 o with rfl|o
   ·exact h
   ·exact λz=>h (mD (y.1 x o) z)
variable {b nm:List UInt8}{l fs:List af}{f:af}{ss:List (List UInt8)}{j N n ver:Nat}{k:List Bool}{C:au}
theorem Nz{a:List UInt8}(h:¬a<b)(y:a≠b):b<a:=by
 have:b<=a:=iM.1 h;rcases oJ.1 this with o|o
 ·exact o
 ·exact absurd o.symm y
theorem NA(h:rises l)(E:∀x∈l,x.name≠f.name):rises (iD f l):=by
 have A:rises (l.take (fM f.name l)):=h.sublist (List.take_sublist _ _);have D:rises (l.drop (fM f.name l)):=h.sublist (List.drop_sublist _ _);have o:=Dx f.name l;have y:∀x∈l.drop (fM f.name l),f.name<x.name:=λx z=>Nz (Dy f.name l h x z) (E x (List.mem_of_mem_drop z))
 unfold iD rises;refine gM.2 ⟨A,eF.2 ⟨y,D⟩,λa ha b hb=>?_⟩;rcases List.mem_cons.1 hb with rfl|hb
 ·exact o a ha
 ·exact mD (o a ha) (y b hb)
theorem mQ{x:af}:x∈iD f l↔x=f\/x∈l:=by
 have e: (x∈l.take (fM f.name l)\/x∈l.drop (fM f.name l))↔x∈l:=by rw[<-List.mem_append,iq]
 unfold iD;rw[List.mem_append,List.mem_cons]
 constructor
 ·rintro(h|h|h)
  ·exact .inr (e.1 (.inl h))
  ·exact .inl h
  ·exact .inr (e.1 (.inr h))
 ·rintro(h|h)
  ·exact .inr (.inl h)
  ·rcases e.2 h with h|h
   ·exact .inl h
   ·exact .inr (.inr h)
theorem NC(f:af)(l:List af): (iD f l).length=l.length+1:=by
 have:=Dw f.name l;unfold iD;rw[jL,List.length_cons,jT,List.length_drop]
 omega
theorem ND(f:af)(l:List af): (iD f l).Perm (f ::l):=by
 unfold iD;have:=List.perm_middle (a:=f) (l₁:=l.take (fM f.name l)) (l₂:=l.drop (fM f.name l))
 rwa [iq]at this
theorem NE(f:af)(l:List af): (aI (iD f l)).length=f.blocks.length+(aI l).length:=by
 have h:=(List.Perm.flatMap_right af.blocks (ND f l)).length_eq;unfold aI;rw[h,jC,jL]
theorem vZ(h:f∈l):f.blocks.length<=(aI l).length:=by
 unfold aI
 induction l with
 |nil=>simp at h
 |cons x r o=>
  rw[jC,jL];rcases List.mem_cons.1 h with rfl|h
  ·omega
  ·have:=o h
   omega
structure PL where
 k:List Bool
 next:Nat
 fs:List af
def newF(nm b:List UInt8)(p:PL):af:=⟨nm,p.next,b.length,(bX p.k (many b.length:Nat)).map Int.toNat⟩
def dx(C:au)(nm:List UInt8)(p:PL):Option PL:=
 match C nm with
 |some (some b)=>if bP p.k<many b.length then none else some ⟨fU p.k (many b.length:Nat),(p.next+1)%4294967296,iD (newF nm b p) p.fs⟩
 |_=>some p
def dN(C:au)(ss:List (List UInt8))(p:PL):Option PL:=ss.foldl (λo nm=>o.bind (dx C nm)) (some p)
theorem NF(C:au)(h:ss[j]? =some nm)(p:PL):dN C (ss.take (j+1)) p=(dN C (ss.take j) p).bind (dx C nm):=by
 unfold dN;rw[bF,h,kG]
 rfl
theorem pF(C:au):∀ss:List (List UInt8),ss.foldl (fun(o:Option PL) nm=>o.bind (dx C nm)) none=none
 | []=>rfl
 |_ ::r=>pF C r
variable {p:PL}
theorem NG(C:au)(h:dN C (ss.take j) p=none):dN C ss p=none:=by
 unfold dN at h⊢;rw[<-iq j ss,kG,h];exact pF C _
def nT(C:au)(l:List af):List af:=l.filter (λf=>(C f.name).isNone)
def kS(C:au)(n next:Nat)(l:List af):PL:=⟨kR n l,next,nT C l⟩
theorem zy{N:Int}{x:Int}(h:x∈bX k N):∃i:Nat,x=i/\i<k.length/\k.getD i true=false:=by
 unfold Ext.bX at h
 split at h
 ·simp at h
 ·have:=rW h;unfold Ext.nS at this;exact(zw _ _ _).1 this
theorem zA(h:N<=bP k): (bX k (N:Int)).length=N:=by
 unfold Ext.bX;rw[if_neg (by omega),jT,vW]
 omega
theorem Dz:∀(l:List Int) (k:List Bool),fits false k l=true->l.any (outs k.length)=false->dI (flips k l)=dI k+l.length
 | [],k,_,_=>rfl
 |i ::r,k,h,ho=>by
  unfold Ext.fits at h;rw[Bool.and_eq_true]at h;rw[List.any_cons,Bool.or_eq_false_iff]at ho
  have D:i.toNat<k.length:=by
   have:=ho.1;unfold Ext.outs at this
   simp at this
   omega
  have y:k.getD i.toNat false=false:=by simpa using h.1
  have o:=zu k i.toNat D;rw[y]at o
  have z:dI (bS k i.toNat)=dI k+1:=by
   have:Ext.next (!false) (dI k:Int)=dI k+1:=rfl;rw[this]at o
   omega
  have A:=Dz r (bS k i.toNat) h.2 (by rw[nQ];exact ho.2);show dI (flips (bS k i.toNat) r)=_;rw[A,z,List.length_cons]
  omega
theorem NH(h:N<=bP k):bP (fU k (N:Int))+N=bP k:=by
 have o:=vX k (N:Int);have z:=Dz _ k o.1 o.2;have A:=zA h;have D:=pE k;have y:=pE (fU k (N:Int));unfold Ext.bP at h⊢;unfold Ext.fU at y⊢;rw[nR]at y⊢
 omega
structure mR(C:au)(n M S:Nat)(done:List (List UInt8))(p:PL):Prop where
 len:p.k.length=n
 next:p.next<4294967296
 rise:rises p.fs
 names:∀f∈p.fs,C f.name=none\/f.name∈done
 short:∀f∈p.fs,f.name.length<=32
 fit:∀f∈p.fs,f.fits/\∀i∈f.blocks,i<65536
 count:p.fs.length<=M+done.length
 sum: (aI p.fs).length+bP p.k<=S
theorem DC(h:many b.length<=bP p.k): (newF nm b p).blocks.length=many b.length:=by
 unfold newF;rw[jP];exact zA h
theorem mR.step{M S:Nat}{done:List (List UInt8)}{p':PL}(h:mR C n M S done p)(O:n<=65536)(I:nm∉done)(hc:C nm≠none)(J:nm.length<=32)(hb:∀b,C nm=some (some b)->b.length<=1048576)(y:dx C nm p=some p'):mR C n M S (done++ [nm]) p':=by
 unfold dx at y
 cases hC:C nm with
 |none=>exact absurd hC hc
 |some c=>
  rw[hC]at y
  cases c with
  |none=>
   have y:=Option.some.inj y;subst y;exact⟨h.len,h.next,h.rise,λf o=>(h.names f o).imp id (λh=>by simp[h]),h.short,h.fit,by have:=h.count;rw[jL];omega,h.sum⟩
  |some b=>
   dsimp only at y;have L:=hb b hC
   by_cases o:bP p.k<many b.length
   ·rw[if_pos o]at y;cases y
   ·rw[if_neg o]at y;have y:=Option.some.inj y;subst y;have F:many b.length<=bP p.k:=by omega
    have G:∀i∈(newF nm b p).blocks,i<65536:=λi A=>by
     unfold newF at A;obtain⟨x,D,rfl⟩:=List.mem_map.1 A;obtain⟨i,rfl,z,_⟩:=zy D;have:=h.len
     simp
     omega
    refine⟨?_,fJ _ (by decide),NA h.rise (λx D e=>?_),λf o=>?_,λf o=>?_,λf o=>?_,?_,?_⟩
    ·show(fU p.k _).length=n;unfold Ext.fU;rw[nR];exact h.len
    ·have E:x.name=nm:=e;rcases h.names x D with z|z
     ·rw[E]at z;exact hc z
     ·rw[E]at z;exact I z
    ·rcases mQ.1 o with rfl|o
     ·exact .inr (by show nm∈_;simp)
     ·exact(h.names f o).imp id (λh=>by simp[h])
    ·rcases mQ.1 o with rfl|o
     ·exact J
     ·exact h.short f o
    ·rcases mQ.1 o with rfl|o
     ·exact⟨⟨h.next,by show b.length<_;omega,λi A=>by have:=G i A;omega⟩,G⟩
     ·exact h.fit f o
    ·show(iD _ _).length<=_;rw[NC,jL];have:=h.count
     simp
     omega
    ·show(aI (iD _ _)).length+bP (fU p.k _)<=S;rw[NE,DC F];have:=NH F;have:=h.sum
     omega
theorem NI(M:f.name.length<=32)(o:f.fits)(A:∀i∈f.blocks,i<65536): (bW f).length<=43+3*f.blocks.length:=by
 have F:=fP 0 f.name.length (by omega);have G:=fP 4 f.id (by have:=o.id;omega);have I:=fP 4 f.size (by have:=o.size;omega)
 have y:∀l:List Nat,(∀i∈l,i<65536)->(eG l).length<=3*l.length:=by
  intro l
  induction l with
  |nil=>intro _;exact aj _
  |cons i r E=>
   intro h;have L:=fP 2 i (by have:=h i (by simp);omega);have z:=E (λx D=>h x (by simp[D]));unfold eG at z⊢;rw[jC,jL,List.length_cons]
   omega
 have J:=y f.blocks A;unfold bW;simp only[jL]
 omega
theorem NJ{next:Nat}(R:ver<18446744073709551616)(O:next<4294967296)(h:∀f∈fs,f.name.length<=32/\f.fits/\∀i∈f.blocks,i<65536)(hc:fs.length<=12000)(P: (aI fs).length<=100000): (bN ver next fs).length<=900000:=by
 have G:=fP 9 ver (by omega);have I:=fP 4 next (by omega);have J:=fP 9 fs.length (by omega)
 have o:∀l:List af,(∀f∈l,f.name.length<=32/\f.fits/\∀i∈f.blocks,i<65536)->(l.flatMap bW).length<=43*l.length+3*(aI l).length:=by
  intro l
  induction l with
  |nil=>intro _;exact aj _
  |cons f r F=>
   intro h;obtain⟨y,z,A⟩:=h f (by simp);have M:=NI y z A;have D:=F (λx E=>h x (by simp[E]));unfold aI at D⊢;rw[jC,jL,jC,jL,List.length_cons]
   omega
 have L:=o fs h;unfold bN;simp only[jL]
 omega
theorem DF(k:List Bool)(l:List Int)(t:Bool): (Ext.fK k l t).length=k.length:=by
 unfold Ext.fK
 split
 ·rfl
 ·split
  ·exact nR _ _
  ·rfl
theorem NK(fs:List af):∀k:List Bool,(mP k fs).length=k.length:=by
 induction fs with
 |nil=>intro k;rfl
 |cons f r h=>
  intro k;show(mP (Ext.fK k (ints f.blocks) false) r).length=_;rw[h,DF]
theorem DI(n:Nat):∀j,(lM n j).length=n
 |0=>by simp[lM]
 |j+1=>by rw[Du,DF,DI n j]
theorem zB(n:Nat)(fs:List af): (kR n fs).length=n:=by
 unfold kR;rw[NK,DI]
theorem DJ(q:af->Bool):∀l:List af,(aI (l.filter q)).length<=(aI l).length
 | []=>aj _
 |f ::r=>by
  have:=DJ q r;unfold aI at this⊢
  cases hq:q f with
  |true=>
   rw[List.filter_cons_of_pos hq,jC,jC,jL,jL]
   omega
  |false=>
   rw[List.filter_cons_of_neg (by rw[hq];decide),jC,jL]
   omega
theorem DK{next:Nat}(E:n<=65536)(A:next<4294967296)(z:rises fs)(hl:∀f∈fs,f.name.length<=32/\f.fits/\∀i∈f.blocks,i<65536)(hc:fs.length<=2100)(hb: (aI fs).length<=2100):mR C n 2100 70000 [] (kS C n next fs):=by
 have o:∀f∈nT C fs,f∈fs/\C f.name=none:=λf h=>by
  have:=iA.1 h;exact⟨this.1,Option.isNone_iff_eq_none.1 this.2⟩
 refine⟨zB n fs,A,z.sublist (vo),λf h=>.inl (o f h).2,λf h=>(hl f (o f h).1).1,λf h=>(hl f (o f h).1).2,?_,?_⟩
 ·show(nT C fs).length<=_;have: (nT C fs).length<=fs.length:=rX _ _
  simp
  omega
 ·show(aI (nT C fs)).length+bP (kR n fs)<=_;have D:=DJ (λf=>(C f.name).isNone) fs;have y:bP (kR n fs)<=(kR n fs).length:=by unfold Ext.bP;omega
  rw[zB]at y;unfold nT
  omega
theorem mR.may{done:List (List UInt8)}(h:mR C n 2100 70000 done p)(hd:done.length<=9000)(y:ver<18446744073709551616): (bN ver p.next p.fs).length<=900000:=
 NJ y h.next (λf o=>⟨h.short f o,h.fit f o⟩) (by have:=h.count;omega) (by have:=h.sum;omega)
end Full
namespace Full
open Go.RowKit aA
open Store (au)
open Ext (bX fU bP flips bS pz fits vX)
structure mU(n:Nat)(b:List UInt8)(f:af):Prop where
 size:f.size=b.length
 many:f.blocks.length=many b.length
 pG:∀i∈f.blocks,i<n
variable {C:au}{n:Nat}
theorem NM{nm:List UInt8}{p z:PL}(hl:p.k.length=n)(h:∀f∈p.fs,C f.name=none\/∃b,C f.name=some (some b)/\mU n b f)(o:dx C nm p=some z):z.k.length=n/\∀f∈z.fs,C f.name=none\/∃b,C f.name=some (some b)/\mU n b f:=by
 unfold dx at o
 cases hC:C nm with
 |none=>
  rw[hC]at o;have o:=Option.some.inj o;subst o;exact⟨hl,h⟩
 |some c=>
  rw[hC]at o
  cases c with
  |none=>
   have o:=Option.some.inj o;subst o;exact⟨hl,h⟩
  |some b=>
   dsimp only at o
   by_cases A:bP p.k<aA.many b.length
   ·rw[if_pos A]at o;cases o
   ·rw[if_neg A]at o;have o:=Option.some.inj o;subst o;refine⟨?_,λf y=>?_⟩
    ·show(fU p.k _).length=n;unfold Ext.fU;rw[Ext.nR];exact hl
    ·rcases mQ.1 y with rfl|y
     ·refine .inr ⟨b,hC,rfl,DC (by omega),λi D=>?_⟩;unfold newF at D;obtain⟨x,E,rfl⟩:=List.mem_map.1 D;obtain⟨j,rfl,F,_⟩:=zy E
      simp
      omega
     ·exact h f y
theorem DL{C:au}{n:Nat}:∀(ss:List (List UInt8)) {p p':PL},p.k.length=n->(∀f∈p.fs,C f.name=none\/∃b,C f.name=some (some b)/\mU n b f)->dN C ss p=some p'->∀f∈p'.fs,C f.name=none\/∃b,C f.name=some (some b)/\mU n b f
 | [],p,p',_,h,o=>by
  have o:some p=some p':=o;cases o;exact h
 |nm ::r,p,p',hl,h,o=>by
  unfold dN at o;rw[List.foldl_cons]at o
  cases hs:dx C nm p with
  |none=>
   rw[show(some p:Option PL).bind (dx C nm)=none from hs,pF]at o;cases o
  |some q=>
   rw[show(some p:Option PL).bind (dx C nm)=some q from hs]at o;obtain⟨y,z⟩:=NM hl h hs;exact DL r y z o
theorem DN{next:Nat}{fs:List af}: (kS C n next fs).k.length=n/\∀f∈(kS C n next fs).fs,C f.name=none\/∃b,C f.name=some (some b)/\mU n b f:=
 ⟨zB n fs,λ_ h=>.inl (Option.isNone_iff_eq_none.1 (iA.1 h).2)⟩
end Full
namespace Full
open Go.RowKit aA Dk
open Store (au)
open nP (cK)
def kT(C:au)(f:af):List (Nat×List UInt8):=
 match C f.name with
 |some (some b)=>cK f.id f.blocks b
 |_=>[]
def bG(C:au)(fs:List af):List (Nat×List UInt8):=fs.flatMap (kT C)
variable {fs:List af}{j n:Nat}{C:au}{m:DM}
theorem DR(C:au){f:af}(h:fs[j]? =some f):bG C (fs.take (j+1))=bG C (fs.take j)++kT C f:=by
 unfold bG;rw[bF,h,ig]
 simp
theorem DT:∀(a b:List (Nat×List UInt8)) (m:DM),(m.writes a).2=0->m.writes (a++b)=(m.writes a).1.writes b
 | [],_,_,_=>rfl
 |x ::r,b,m,h=>by
  by_cases o: (m.write x.1 x.2).2=0
  ·have y:m.writes (x ::r)=(m.write x.1 x.2).1.writes r:=by show(if _ then _ else _)=_;rw[if_pos o]
   have z:m.writes (x ::r++b)=(m.write x.1 x.2).1.writes (r++b):=by show(if _ then _ else _)=_;rw[if_pos o];rfl
   rw[y]at h⊢;rw[z];exact DT r b _ h
  ·have y:m.writes (x ::r)=m.write x.1 x.2:=by show(if _ then _ else _)=_;rw[if_neg o]
   rw[y]at h;exact absurd h o
def di(m:DM)(C:au)(fs:List af)(ver:Nat)(b:List UInt8):DM×Int:=
 if(m.writes (bG C fs)).2=0 then(if(m.writes (bG C fs)).1.sync.2=0 then(m.writes (bG C fs)).1.sync.1.dR ver b else(m.writes (bG C fs)).1.sync)else m.writes (bG C fs)
theorem NN(h: (m.writes (bG C (fs.take j))).2≠0):m.writes (bG C fs)=m.writes (bG C (fs.take j)):=by
 have e:bG C fs=bG C (fs.take j)++bG C (fs.drop j):=by
  unfold bG;rw[<-ig,iq]
 rw[e];exact vO h
theorem NP(C:au)(f:af): (kT C f).length<=f.blocks.length:=by
 unfold kT
 split
 ·rw[nP.CS];exact aj _
 ·exact aC _
theorem DU(C:au):∀fs:List af,(bG C fs).length<=(aI fs).length
 | []=>aj _
 |f ::r=>by
  have h:=DU C r;have o:=NP C f;unfold bG aI at h⊢;rw[jC,jC,jL,jL]
  omega
theorem NQ(fs:List af)(j:Nat): (aI (fs.take j)).length<=(aI fs).length:=by
 have e:aI fs=aI (fs.take j)++aI (fs.drop j):=by
  unfold aI;rw[<-ig,iq]
 rw[e,jL]
 omega
theorem DV(h: (m.writes (bG C (fs.take j))).2=0)(hb: (aI fs).length<=70000)(E:m.wt.length<=100000): (m.writes (bG C (fs.take j))).1.bl=m.bl/\(m.writes (bG C (fs.take j))).1.off=m.off/\(m.writes (bG C (fs.take j))).1.wt.length<=170000:=by
 obtain⟨o,y,z⟩:=lH h;refine⟨o,y,?_⟩;rw[z,jL];have A:=DU C (fs.take j);have D:=NQ fs j
 omega
theorem NR(h:aA.many n=0):n=0:=by
 unfold aA.many at h
 split at h
 ·assumption
 ·omega
theorem zC:n<=aA.many n*112/\∀k,k<aA.many n->k*112<n:=by
 unfold aA.many
 split
 ·exact⟨by omega,λk h=>by omega⟩
 ·exact⟨by omega,λk h=>by omega⟩
theorem sS(h:m.sync.2=0):m.sync.1.off=m.off/\m.sync.1.bl=puts m.bl m.wt/\m.sync.1.wt= []:=by
 unfold DM.sync at h⊢
 by_cases o:m.aM=0
 ·rw[if_pos o]at h;exact absurd (show(6:Int)=0 from h) (by decide)
 ·rw[if_neg o];refine⟨?_,rfl,rfl⟩;show m.deed.1.off=m.off;unfold DM.deed;rw[if_neg o]
  split <;> rfl
end Full
namespace Full
open Go.RowKit Go.Deep Mem Crc Go.Maps Dk aA
open Ext (Holds)
def iP(B:Nat)(W:World)(x:FR):Prop:=W.ownsRow B 3 1 (.slice x.a x.f.blocks.length x.c) x.f.blocks.length (x.f.blocks.map iv)
structure PS(w:World)(l0:List FR)(r q Cb gb cap:Nat)(k:List Bool)(ver next:Nat)(u v:Value)(l:List FR)(nv:Value)(nn:Nat)(nx:List Value)(W:World):Prop where
 below:Below w.heap.size w W
 res:Blk W r 108 #[.int .u64 0,.int .u32 0,.slice none 0 0]
 man:Blk W q 108 #[.int .u64 (ver:Int),.int .u32 (next:Int),u]
 row:W.ownsRow w.heap.size 113 4 v l.length (ay l)
 map:Holds Cb gb cap k W
 blocks:∀x∈l,x∈l0\/iP w.heap.size W x
 names:W.ownsRow w.heap.size 9 1 nv nn nx
 gq:w.heap.size<=q
 gr:w.heap.size<=r
 gC:w.heap.size<=Cb
 gg:w.heap.size<=gb
 ne:q≠r
variable {nv:Value}{nn:Nat}{nx:List Value}{w W W':World}{l0 l l':List FR}{r q Cb gb cap ver next:Nat}{k k':List Bool}{u v v':Value}
theorem PS.later(h:PS w l0 r q Cb gb cap k ver next u v l nv nn nx W)(o:Below W.heap.size W W'):PS w l0 r q Cb gb cap k ver next u v l nv nn nx W':=
 ⟨h.below.trans (o.mono h.below.size),h.res.below o h.res.lt,h.man.below o h.man.lt,Dk.qN h.row (λg y=>o.block g (h.row.lt g y).2),h.map.later o,λx A=>(h.blocks x A).imp id (λz=>Dk.qN z (λg y=>o.block g (World.ownsRow.lt z g y).2)),Dk.qN h.names (λg y=>o.block g (h.names.lt g y).2),h.gq,h.gr,h.gC,h.gg,h.ne⟩
theorem PS.tF(h:PS w l0 r q Cb gb cap k ver next u v l nv nn nx W)(o:Upon (λg=>v.ownBlock=some g) W W')(G:W'.ownsRow w.heap.size 113 4 v' l'.length (ay l'))(hb:∀x∈l',x∈l\/x∈l0\/iP w.heap.size W x):PS w l0 r q Cb gb cap k ver next u v' l' nv nn nx W':=by
 have D:∀x,iP w.heap.size W x->iP w.heap.size W' x:=λx E=>fC E o (λg z e=>vP h.row E (by decide) e z)
 obtain⟨A,hc,_⟩:=h.map.words
 have F:Holds Cb gb cap k W':=by
  obtain⟨A,hc,hb⟩:=h.map.words;exact⟨h.map.small,h.map.map.upon o (aV h.row h.map.map (by decide)),A,hc.upon o (aV h.row hc (by decide)),hb⟩
 exact⟨h.below.trans (o.below h.below.size (λg z=>(h.row.lt g z).1)),h.res.upon o (aV h.row h.res (by decide)),h.man.upon o (aV h.row h.man (by decide)),G,F,λx I=>by
  rcases hb x I with y|y|y
  ·exact(h.blocks x y).imp id (D x)
  ·exact .inl y
  ·exact .inr (D x y),fC h.names o (λg z e=>vP h.row h.names (by decide) e z),h.gq,h.gr,h.gC,h.gg,h.ne⟩
theorem PS.far(h:PS w l0 r q Cb gb cap k ver next u v l nv nn nx W)(i:Nat)(z:Value):
  Below w.heap.size w (W.setCell ⟨q,i,none⟩ z)/\Blk (W.setCell ⟨q,i,none⟩ z) r 108 #[.int .u64 0,.int .u32 0,.slice none 0 0]/\(W.setCell ⟨q,i,none⟩ z).ownsRow w.heap.size 113 4 v l.length (ay l)/\Holds Cb gb cap k (W.setCell ⟨q,i,none⟩ z)/\(∀x∈l,x∈l0\/iP w.heap.size (W.setCell ⟨q,i,none⟩ z) x)/\(W.setCell ⟨q,i,none⟩ z).ownsRow w.heap.size 9 1 nv nn nx:=by
 obtain⟨y,hc,hb⟩:=h.map.words;exact⟨h.below.setCell h.gq z,h.res.far (gL h.ne) z,dU h.row (aV h.row h.man (by decide)) z,⟨h.map.small,h.map.map.far (h.map.map.ne h.man (by decide)) z,y,hc.far (hc.ne h.man (by decide)) z,hb⟩,λx A=>(h.blocks x A).imp id (λo=>dU o (aV o h.man (by decide)) z),dU h.names (aV h.names h.man (by decide)) z⟩
theorem PS.set(h:PS w l0 r q Cb gb cap k ver next u v l nv nn nx W):PS w l0 r q Cb gb cap k ver next v v l nv nn nx (W.setCell ⟨q,2,none⟩ v):=by
 obtain⟨o,y,z,A,D,E⟩:=h.far 2 v;exact⟨o,y,h.man.set 2 v,z,A,D,E,h.gq,h.gr,h.gC,h.gg,h.ne⟩
theorem PS.nexts(h:PS w l0 r q Cb gb cap k ver next u v l nv nn nx W)(n:Nat):PS w l0 r q Cb gb cap k ver n u v l nv nn nx (W.setCell ⟨q,1,none⟩ (.int .u32 (n:Int))):=by
 obtain⟨o,y,z,A,D,E⟩:=h.far 1 (.int .u32 (n:Int));exact⟨o,y,h.man.set 1 _,z,A,D,E,h.gq,h.gr,h.gC,h.gg,h.ne⟩
theorem PS.took(h:PS w l0 r q Cb gb cap k ver next u v l nv nn nx W)(D:Only [Cb,gb] W W')(y:Holds Cb gb cap k' W'):PS w l0 r q Cb gb cap k' ver next u v l nv nn nx W':=by
 obtain⟨L,hc,_⟩:=h.map.words
 have E:∀{t:TypeId} {s n:Nat} {z:Value} {xs:List Value},W.ownsRow w.heap.size t s z n xs->t≠231->t≠47->W'.ownsRow w.heap.size t s z n xs:=λo G I=>yB o D (λg A y=>by
  simp at y
  rcases y with rfl|rfl
  ·exact aV o h.map.map G A
  ·exact aV o hc I A)
 have hb:∀{g:Nat} {F:Array Value},Blk W g 108 F->g∉[Cb,gb]:=λo y=>by
  simp at y
  rcases y with rfl|rfl
  ·exact o.ne h.map.map (by decide) rfl
  ·exact o.ne hc (by decide) rfl
 exact⟨h.below.trans (D.below h.below.size (λg A=>by
  simp at A
  rcases A with rfl|rfl
  ·exact h.gC
  ·exact h.gg)),h.res.only D (hb h.res),h.man.only D (hb h.man),E h.row (by decide) (by decide),y,λx J=>(h.blocks x J).imp id (λo=>E o (by decide) (by decide)),E h.names (by decide) (by decide),h.gq,h.gr,h.gC,h.gg,h.ne⟩
variable {a0:Option Addr}
theorem PS.files(h:PS w l0 r q Cb gb cap k ver next u v l nv nn nx W)(hF:bV w a0 l0):∃a c,v=.slice a l.length c/\bV W a l/\(∀b,Mem.blk a=some b->w.heap.size<=b)/\∀x∈l,x∈l0\/∀b,Mem.blk x.a=some b->w.heap.size<=b:=by
 obtain⟨a,c,rfl,_,D,E,_⟩:=own_shape h.row;refine⟨a,c,rfl,⟨D,λx y=>?_⟩,λb hb=>(E b hb).1,λx y=>(h.blocks x y).imp id (λG b hb=>?_)⟩
 ·rcases h.blocks x y with o|o
  ·exact⟨(hF.blocks x o).1.later h.below,(hF.blocks x o).2⟩
  ·obtain⟨A,c2,e,hc,z,_,_⟩:=own_shape o;cases e;exact⟨z,hc⟩
 ·obtain⟨A,c2,e,hc,z,F,_⟩:=own_shape G;cases e;exact(F b hb).1
structure PF(w:World)(l0 l:List FR)(v:Value)(r:Nat)(W:World):Prop where
 below:Below w.heap.size w W
 row:W.ownsRow w.heap.size 113 4 v l.length (ay l)
 blocks:∀x∈l,x∈l0\/iP w.heap.size W x
 res:∃cs,Blk W r 108 cs
 gr:w.heap.size<=r
theorem PF.tH(h:PF w l0 l v r W)(z:Value)(i:Nat):PF w l0 l v r (W.setCell ⟨r,i,none⟩ z):=by
 obtain⟨A,hc⟩:=h.res;exact⟨h.below.setCell h.gr z,dU h.row (aV h.row hc (by decide)) z,λx y=>(h.blocks x y).imp id (λo=>dU o (aV o hc (by decide)) z),⟨_,hc.set i z⟩,h.gr⟩
theorem PS.tH{nv:Value}{nn:Nat}{nx:List Value}(h:PS w l0 r q Cb gb cap k ver next u v l nv nn nx W)(z:Value)(i:Nat):PF w l0 l v r (W.setCell ⟨r,i,none⟩ z):=
 PF.tH ⟨h.below,h.row,h.blocks,⟨_,h.res⟩,h.gr⟩ z i
theorem PF.NS(h:PF w l0 l v r W)(hF:bV w a0 l0):∃a c,v=.slice a l.length c/\bV W a l/\(∀b,Mem.blk a=some b->w.heap.size<=b/\b<W.heap.size)/\∀x∈l,x∈l0\/∀b,Mem.blk x.a=some b->w.heap.size<=b/\b<W.heap.size:=by
 obtain⟨a,c,rfl,_,D,E,_⟩:=own_shape h.row;refine⟨a,c,rfl,⟨D,λx y=>?_⟩,λb hb=>E b hb,λx y=>(h.blocks x y).imp id (λG b hb=>?_)⟩
 ·rcases h.blocks x y with o|o
  ·exact⟨(hF.blocks x o).1.later h.below,(hF.blocks x o).2⟩
  ·obtain⟨A,c2,e,hc,z,_,_⟩:=own_shape o;cases e;exact⟨z,hc⟩
 ·obtain⟨A,c2,e,hc,z,F,_⟩:=own_shape G;cases e;exact F b hb
theorem PS.named{y:Value}{o:Nat}{z:List Value}(h:PS w l0 r q Cb gb cap k ver next u v l nv nn nx W)(A:W.ownsRow w.heap.size 9 1 y o z):PS w l0 r q Cb gb cap k ver next u v l y o z W:=
 ⟨h.below,h.res,h.man,h.row,h.map,h.blocks,A,h.gq,h.gr,h.gC,h.gg,h.ne⟩
end Full
namespace Full
open Go.RowKit Go.Deep Mem Go.Maps
open Store (qR)
theorem DW{D:DataW Value}{fm:Lit->Option Value}(hd:iE D fm)(G:∀x,fm x≠none->∃nm,x=.string nm)(hD:∃o,D=.map o/\o.Pairwise (λp q=>p.1≠q.1)/\∀p∈o,WideAt.IsKeyLit p.1): (strKeys D).Nodup:=by
 obtain⟨o,rfl,z,F⟩:=hD
 have E:∀p∈o,∃nm,p.1=.string nm:=λp z=>by
  have A:Maps.has (.map o) p.1=true:=jm.2 ⟨p,z,WideAt.sameKey_self (F p z)⟩;rw[(hd p.1).1]at A;exact G p.1 (λh=>by rw[h]at A;cases A)
 clear hd F G;show(List.map _ o).Nodup;refine kJ.2 ?_
 induction o with
 |nil=>exact List.Pairwise.nil
 |cons a r O=>
  obtain⟨A,M⟩:=eF.1 z;refine eF.2 ⟨λb hb e=>?_,O M (λp z=>E p (eD _ z))⟩;obtain⟨x,I⟩:=E a (by simp);obtain⟨y,J⟩:=E b (eD _ hb);rw[I,J]at e;have L:x=y:=e;exact A b hb (by rw[I,J,L])
theorem zD{ss keys:List (List UInt8)}(G:ss.Perm keys)(F:keys.Nodup): (ss.mergeSort (λx y=>decide (x<=y))).Pairwise (·< ·):=by
 have o: (ss.mergeSort (λx y=>decide (x<=y))).Pairwise (λx y=>decide (x<=y)=true):=List.pairwise_mergeSort (le:=λx y=>decide (x<=y)) (λa b c o z=>by
  simp only[decide_eq_true_eq]at o z⊢;exact mE o z) (λa b=>by
  rw[Bool.or_eq_true,decide_eq_true_eq,decide_eq_true_eq];exact List.le_total a b) ss
 have z: (ss.mergeSort (λx y=>decide (x<=y))).Nodup:=((vv ss _).trans G).nodup_iff.2 F;refine(o.and z).imp (fun{a b} h=>?_);obtain⟨D,E⟩:=h;simp only[decide_eq_true_eq]at D;rcases oJ.1 D with A|A
 ·exact A
 ·exact absurd A E
open aA in
theorem wh{b c:List UInt8}{y z:ByteArray}(hb:sv b=.string y)(hc:sv c=.string z):cZ y z<0↔b<c:=by
 unfold sv at hb hc;injection hb with hb;injection hc with hc;subst hb hc;unfold cZ;rw[Lib.toList_data,Lib.toList_data,bytesLess_eq]
 by_cases h:b<c
 ·have e:decide (b.toArray.toList<c.toArray.toList)=true:=jd h;rw[if_pos e];exact⟨λ_=>h,λ_=>by decide⟩
 ·have e:¬decide (b.toArray.toList<c.toArray.toList)=true:=by simpa using h
  rw[if_neg e];refine⟨λo=>?_,λo=>absurd o h⟩
  split at o <;> simp at o
variable {W:World}{r:Nat}
theorem lN{x y z:Value}(h:Blk W r 108 #[x,y,z])(A B D:Value):
  (((W.setCell ⟨r,0,none⟩ A).setCell ⟨r,1,none⟩ B).setCell ⟨r,2,none⟩ D).cell? ⟨r,0,none⟩=some A/\(((W.setCell ⟨r,0,none⟩ A).setCell ⟨r,1,none⟩ B).setCell ⟨r,2,none⟩ D).cell? ⟨r,1,none⟩=some B/\(((W.setCell ⟨r,0,none⟩ A).setCell ⟨r,1,none⟩ B).setCell ⟨r,2,none⟩ D).cell? ⟨r,2,none⟩=some D:=by
 have o:=((h.set 0 A).set 1 B).set 2 D;exact⟨o.cell 0,o.cell 1,o.cell 2⟩
theorem kU{B:Nat}{a:World}(h:Below B a W)(o:B<=r)(x y z:Value):Below B a (((W.setCell ⟨r,0,none⟩ x).setCell ⟨r,1,none⟩ y).setCell ⟨r,2,none⟩ z):=((h.setCell o x).setCell o y).setCell o z
open aA in
theorem NT{k:List Bool}{N:Int}: ((Ext.bX k N).map Int.toNat).map iv=(Ext.bX k N).map (Value.int .i64):=by
 rw[List.map_map];refine qI (λx h=>?_);obtain⟨i,rfl,_⟩:=zy h
 rfl
open Crc Dk aA
open Store (au fV bT none' nv iQ bU kV tJ)
open Ext (Holds Tab)
def NU(w:World)(O:Nat->Prop):Option (Option (List UInt8))->Option Addr->Nat->Nat->Bool->Prop
 |none,a,n,cp,gn=>a=none/\n=0/\cp=0/\gn=false
 |some none,a,n,cp,gn=>a=none/\n=0/\cp=0/\gn=true
 |some (some b),a,n,cp,gn=>n=b.length/\gn=false/\b.length<=cp/\Lies w a (b.map bv)/\∀k,Mem.blk a=some k->O k
theorem Fu.look{w:World}{Q:Nat->Prop}{s d g cm:Nat}{wv:Value}{m:DM}{ver next:Nat}{a:Option Addr}{c:Nat}{l:List FR}{bad:Bool}{C:au}(h:Fu w Q s d g cm wv m ver next a c l bad C)(nm:List UInt8)(I:nm.length<=1000000):
  ∃z n1 A D,NU w (Own Q s d g cm wv) (C nm) z n1 A D/\∀w':World,w'.heap[cm]? =w.heap[cm]?->
   (Instr.lookup 117 (.map (some cm)) (nv nm) true).run prog w'=.ok (.tuple #[.agg #[.slice z n1 A,.bool D],.bool (C nm).isSome]) w'/\
   (Instr.lookup 117 (.map (some cm)) (nv nm) false).run prog w'=.ok (.agg #[.slice z n1 A,.bool D]) w':=by
 obtain⟨f,G,R,P⟩:=h.map;have o:∀w':World,w'.heap[cm]? =w.heap[cm]?->_:=λw' F=>And.intro ((G.keep F).look_ok bU underlying117 kV (iQ I)) ((G.keep F).look bU underlying117 kV (iQ I))
 have y:=P nm;unfold bT at y
 cases hc:C nm with
 |none=>
  rw[hc]at y;rw[y]at o;exact⟨none,0,0,false,⟨rfl,rfl,rfl,rfl⟩,o⟩
 |some c=>
  rw[hc]at y;obtain⟨v,J,E⟩:=y;rw[J]at o
  cases c with
  |none=>
   rw[show v=_ from E]at o;exact⟨none,0,0,true,⟨rfl,rfl,rfl,rfl⟩,o⟩
  |some b=>
   obtain⟨a,cp,rfl,L,M,O⟩:=E;exact⟨a,b.length,cp,false,⟨rfl,rfl,L,M,O⟩,o⟩
def keepR(C:au)(l:List FR):List FR:=l.filter (λx=>(C x.f.name).isNone)
theorem NV(C:au)(l:List FR): (keepR C l).map FR.f=nT C (l.map FR.f):=by
 unfold keepR nT;rw[List.filter_map]
 rfl
variable {l:List FR}
theorem DX(C:au){j:Nat}{x:FR}(h:l[j]? =some x):keepR C (l.take (j+1))=keepR C (l.take j)++(if(C x.f.name).isNone then [x]else []):=by
 unfold keepR;rw[bF,h,oK]
 congr 1
 cases hc: (C x.f.name).isNone <;> simp[hc]
attribute [local go_sem] Oper.semAt_some
theorem NW{w:World}{Q:Nat->Prop}{s d g cm:Nat}{wv:Value}{m:DM}{ver next:Nat}{a:Option Addr}{c:Nat}{bad:Bool}{C:au}(h:Fu w Q s d g cm wv m ver next a c l bad C)(hT:Tab w)(L:List (List UInt8))(hL:∀x,C x≠none->x∈L)(H0:L.length<=9000)(m3:∀x∈L,x.length<=32)(l4:∀nm b,C nm=some (some b)->b.length<=1048576)(hv:ver<18446744073709551616)(hn:next<4294967296)(hr:rises (l.map FR.f))(hl:∀x∈l,x.f.name.length<=32/\x.f.fits/\∀i∈x.f.blocks,i<65536)(u3:l.length<=2100)(m6: (aI (l.map FR.f)).length<=2100):
  Calls prog 57 #[.pointer (some ⟨s,0,none⟩)] w λe w'=>∃mv room,e=.returned (.tuple #[mv,.bool room])/\(∃(x y:Int) (a0:Option Addr) (k0 c0:Nat),mv=.agg #[.int .u64 x,.int .u32 y,.slice a0 k0 c0])/\Below w.heap.size w w'/\((room=false/\ver=18446744073709551615)\/(ver<18446744073709551615/\∃ss:List (List UInt8),ss.Pairwise (·< ·)/\(∀nm,nm∈ss↔C nm≠none)/\
   ((room=false/\(dN C ss (kS C m.bl.length next (l.map FR.f))=none\/∃p,dN C ss (kS C m.bl.length next (l.map FR.f))=some p/\dw (ver+1) p.next p.fs=false))\/
    (room=true/\∃p a' c' l',dN C ss (kS C m.bl.length next (l.map FR.f))=some p/\dw (ver+1) p.next p.fs=true/\mv=.agg #[.int .u64 ((ver+1:Nat):Int),.int .u32 (p.next:Int),.slice a' l'.length c']/\l'.map FR.f=p.fs/\bV w' a' l'/\(∀b,Mem.blk a'=some b->w.heap.size<=b/\b<w'.heap.size)/\∀x∈l',x∈l\/∀b,Mem.blk x.a=some b->w.heap.size<=b/\b<w'.heap.size)))):=by
 obtain⟨c0,c1,c2,c3,c4,c5⟩:=h.cells;have d8:=h.store.lt;obtain⟨n,j0⟩:=jl l.length;rw[<-j0]at c3 u3
 have g5:∀x∈l,x.f.blocks.length<=100000:=λx U=>by
  have:=vZ (List.mem_map.2 ⟨x,U,rfl⟩:x.f∈l.map FR.f)
  omega
 have H:=jq h;have HT:=jq hT;have HL:=jq hL;have C2:=jq m3;have j8:=jq l4;have HR:=jq hr;have q6:=jq hl;have e6:=jq j0;have B1:=jq g5;have B0:=jq m6;obtain⟨i0,E9,F1,i3,i4⟩:=info_parts sJ
 by_cases A2:ver=18446744073709551615
 ·subst A2;clear h hT hL m3 l4 hr hl j0 g5 m6
  go_enter func57,ntmps57
  go_wp2_with fail
  go_region
  have A3:IntKind.u64.wrap 18446744073709551616=0:=by rw[IntKind.wrap_u64];rfl
  obtain⟨W1,O⟩:=jl (((w.alloc (.cells #[.int .u64 0,.int .u32 0,.slice none 0 0] 108)).alloc (.cells #[.int .u64 (IntKind.u64.wrap 18446744073709551616),.int .u32 (next:Int),.slice none 0 0] 108)).drew);rw[<-O];rw[A3]at O;have c6:Below w.heap.size w W1:=by rw[O];exact(((Below.refl _ w).alloc jn _).alloc (by simp) _).drew
  obtain⟨r,hr⟩:=jl w.heap.size;obtain⟨q,hq⟩:=jl (w.heap.size+1);have x3:Blk W1 r 108 #[.int .u64 0,.int .u32 0,.slice none 0 0]:=by rw[O,hr];exact(Blk.new w _ _).alloc _
  have z5:Blk W1 q 108 #[.int .u64 0,.int .u32 (next:Int),.slice none 0 0]:=by
   rw[O,hq];have:=Blk.new (w.alloc (.cells #[.int .u64 0,.int .u32 0,.slice none 0 0] 108)) 108 #[.int .u64 0,.int .u32 (next:Int),.slice none 0 0];rw[World.size_alloc]at this;exact this
  rw[A3,<-hq,<-hr];have o4:w.heap.size<=r:=by omega
  have m0:=z5.cell 0;have V:=z5.cell 1;have m2:=z5.cell 2;have r0:=x3.cell 0;have r1:=x3.cell 1;have r2:=x3.cell 2;have z0:=x3.frozen 0;have z1:=x3.frozen 1;have z2:=x3.frozen 2
  simp at m0 V m2 r0 r1 r2
  clear O hq hr
  go_wp2_with fail
  have hf:=((x3.set 0 (.int .u64 0)).set 1 (.int .u32 (next:Int))).set 2 (.slice none 0 0);have y0:=hf.cell 0;have y1:=hf.cell 1;have y2:=hf.cell 2;have y4:Below w.heap.size w (((W1.setCell ⟨r,0,none⟩ (.int .u64 0)).setCell ⟨r,1,none⟩ (.int .u32 (next:Int))).setCell ⟨r,2,none⟩ (.slice none 0 0)):=((c6.setCell o4 _).setCell o4 _).setCell o4 _;obtain⟨Wf,b4⟩:=jl ((((W1.setCell ⟨r,0,none⟩ (.int .u64 0)).setCell ⟨r,1,none⟩ (.int .u32 (next:Int))).setCell ⟨r,2,none⟩ (.slice none 0 0)));rw[<-b4]at y0 y1 y2 y4⊢
  simp at y0 y1 y2
  refine bodyPost_ret (v:=.tuple #[.agg #[.int .u64 0,.int .u32 (next:Int),.slice none 0 0],.bool false]) (by simp[results,Tryz.f57,go_sem,y0,y1,y2]) rfl ?_;exact⟨_,_,rfl,⟨_,_,_,_,_,rfl⟩,y4,by first|exact .inl ⟨rfl,rfl⟩|exact .inl ⟨rfl,trivial⟩⟩
 ·have A1:ver<18446744073709551615:=by omega
  clear h hT hL m3 l4 hr hl j0 g5 m6 A2
  go_enter func57,ntmps57
  go_wp2_with fail
  go_region
  obtain⟨W1,O⟩:=jl (((w.alloc (.cells #[.int .u64 0,.int .u32 0,.slice none 0 0] 108)).alloc (.cells #[.int .u64 ((ver:Int)+1),.int .u32 (next:Int),.slice none 0 0] 108)).drew);obtain⟨r,hr⟩:=jl w.heap.size;obtain⟨q,hq⟩:=jl (w.heap.size+1);have c6:Below w.heap.size w W1:=by rw[O];exact(((Below.refl _ w).alloc jn _).alloc (by simp) _).drew
  have x3:Blk W1 r 108 #[.int .u64 0,.int .u32 0,.slice none 0 0]:=by rw[O,hr];exact(Blk.new w _ _).alloc _
  have z5:Blk W1 q 108 #[.int .u64 ((ver+1:Nat):Int),.int .u32 (next:Int),.slice none 0 0]:=by
   rw[O,hq];have:=Blk.new (w.alloc (.cells #[.int .u64 0,.int .u32 0,.slice none 0 0] 108)) 108 #[.int .u64 ((ver:Int)+1),.int .u32 (next:Int),.slice none 0 0];rw[World.size_alloc]at this;exact this
  rw[<-O,<-hq,<-hr];have p9:=jq (zn (H.out.later c6) (by rw[<-e6.out];omega) B1.out);have x0:W1.cell? ⟨q,0,none⟩=some (.int .u64 ((ver:Int)+1)):=z5.cell 0;have E7:=And.intro (show w.heap.size<=q by omega) (And.intro (show w.heap.size<=r by omega) (show q≠r by omega));have p1:=jq c6;have l0:=jq x3;have k2:=jq z5;clear O hr hq c6 x3 z5;obtain⟨E8,b5,i9⟩:=E7
  go_wp2_with fail
  refine p9.out.mono ?_;rintro e w2 ⟨Cb,gb,cap,rfl,hH,hC,hg,f8⟩;have A6:=p1.out.size
  have f9:PS w l r q Cb gb cap (kR m.bl.length (l.map FR.f)) (ver+1) next (.slice none 0 0) (.slice none 0 0) (keepR C (l.take 0)) (.slice none 0 0) 0 [] w2:=by
   rw[List.take_zero];exact⟨p1.out.trans (f8.mono A6),l0.out.below f8 l0.out.lt,k2.out.below f8 k2.out.lt,World.ownsRow_nil _ _ _ _,hH,λx U=>(by cases U),World.ownsRow_nil _ _ _ _,E8,b5,by omega,by omega,i9⟩
  obtain⟨K0,l9⟩:=jl (kR m.bl.length (l.map FR.f));rw[<-l9]at f9;have s3:Below w.heap.size w w2:=f9.below;have d3:=(s3.cell (p:=⟨s,3,none⟩) d8).trans c3;have f4:=jq f9;have C0:=jq l9;clear f9 l9 hH hC hg f8 A6 x0 p9 l0 k2 s3
  go_wp2_with fail
  clear d3
  go_loopw[41] (λi wr=>∃(j:Nat) (v:Value),j<=n/\i=.int .i64 j/\Hid (PS w l r q Cb gb cap K0 (ver+1) next v v (keepR C (l.take j)) (.slice none 0 0) 0 [] wr)) (λi _=>n-(intOf i).toNat)
  case atStart=>exact⟨0,_,aC _,rfl,f4⟩
  case round=>
   obtain⟨j,v,hj,rfl,S⟩:=hrel
   by_cases hlt:j<n
   ·have F2:decide ((j:Int) <(n:Int))=true:=jd (by omega);obtain⟨x,U⟩:∃x,l[j]? =some x:=⟨l[j]'(by rw[<-e6.out];exact hlt),jg _⟩;have A5:=jM U;have P:=S.out.below;have l6:=H.out.later P;obtain⟨ga,oa,rfl,f0,f1,f2,f3⟩:=l6.files.cells U;obtain⟨sb,Z⟩:∃sb:ByteArray,sv x.f.name=.string sb:=⟨_,rfl⟩;have v2:nv x.f.name=.string sb:=Z;obtain⟨sz,o7⟩:=jl x.f.size;obtain⟨id,hid⟩:=jl x.f.id;obtain⟨bn,m7⟩:=jl x.f.blocks.length;obtain⟨ch,n2⟩:=jl ((C x.f.name).isSome);unfold iv at f2;rw[Z]at f0;rw[<-hid]at f1;rw[<-o7]at f2;rw[<-m7]at f3;obtain⟨W5,g3⟩:=jl (wr.alloc (.cells #[.string sb,.int .u32 (id:Int),.int .i64 (sz:Int),.slice x.a bn x.c] 113));have h0:Below wr.heap.size wr W5:=by rw[g3];exact(Below.refl _ wr).alloc jn _
    have h6:Blk W5 wr.heap.size 113 #[.string sb,.int .u32 (id:Int),.int .i64 (sz:Int),.slice x.a bn x.c]:=by rw[g3];exact Blk.new wr _ _
    obtain⟨bx,m8⟩:=jl wr.heap.size;rw[<-m8]at h6;obtain⟨W6,x7⟩:=jl ((W5.alloc (.cells #[.slice none 0 0,.bool false] 140)).drew);have h4:Below wr.heap.size wr W6:=by rw[x7];exact(h0.alloc h0.size _).drew
    have g8:cm<wr.heap.size:=aD (H.out.lt cm H.out.qm) P.size;obtain⟨a1,n1,b9,gn,_,z4⟩:=l6.look x.f.name (by have:=(q6.out x A5).1;omega);have u6:=(z4 W5.drew (h0.drew.block cm g8)).1;have n6:=(z4 W6 (h4.block cm g8)).1;rw[v2,<-n2]at u6 n6;have k6:=((P.trans (h4.mono P.size)).cell (p:=⟨s,4,none⟩) d8).trans c4
    have b6:W6.cell? ⟨bx,0,none⟩=some (.string sb):=by
     rw[x7];exact(h6.alloc _).cell 0
    rw[x7]at n6 k6 b6;have k4:=((P.trans (h0.mono P.size)).cell (p:=⟨s,4,none⟩) d8).trans c4;have b0:=h6.cell 0
    simp at b0
    have D3:=jq g3;have B3:=jq m8;have HX:=jq U;have r4:=jq Z;have C9:=jq o7;have B7:=jq hid;have B2:=jq m7;have p6:=jq n2;have j7:=jq h0;have HP:=jq S.out;have p2:=jq h6;clear x7 h4 z4 g8 l6 P A5 U Z v2 o7 hid m7 n2 h0 h6 S
    go_wp2_with fail
    rw[<-D3.out,<-B3.out];clear g3 m8
    go_wp2_with fail
    go_region
    all_goals
     obtain⟨W7,m5⟩:=jl ((W5.alloc (.cells #[.slice a1 n1 b9,.bool gn] 140)).drew);have l3:Below W5.heap.size W5 W7:=by rw[m5];exact((Below.refl _ W5).alloc jn _).drew
     rw[<-m5];have T:=HP.out.later (j7.out.trans (l3.mono j7.out.size));have d1:=p2.out.below l3 p2.out.lt;have z9:=jq T;have b0:=d1.cell 0;have b1:=d1.cell 1;have b2:=d1.cell 2;have b3:=d1.cell 3;have q2:=T.man.cell 2
     simp at b0 b1 b2 b3 q2
     clear m5 l3 T d1 u6 n6 k4 k6 b6;cases ch
     ·have d4:keepR C (l.take (j+1))=keepR C (l.take j)++ [x]:=by
       rw[DX C HX.out];have:=p6.out
       cases hc:C x.f.name with
       |none=>rfl
       |some c=>rw[hc]at this;cases this
      have z8:x.vs= [.string sb,.int .u32 (id:Int),.int .i64 (sz:Int),.slice x.a bn x.c]:=by
       unfold FR.vs iv;rw[r4.out,<-B7.out,<-C9.out,<-B2.out]
      have e4:=jq d4;have f7:=jq z8;have F4: (keepR C (l.take j)).length<=2100:=ax (rX _ _) (by rw[jT];omega);have H2:=z9.out.below.size;obtain⟨W8,g4⟩:=jl (W7.alloc (.cells #[.string sb,.int .u32 (id:Int),.int .i64 (sz:Int),.slice x.a bn x.c] 113));have s2:Below W7.heap.size W7 W8:=by rw[g4];exact(Below.refl _ W7).alloc jn _
      have a6:=z9.out.later s2;have t2:Blk W8 W7.heap.size 113 x.vs.toArray:=by rw[g4,z8];exact Blk.new W7 _ _
      have p5:=jq (vK t2);have k3:=jq a6;have D5:=jq g4;rw[z8]at p5;clear d4 z8 s2 a6 t2 g4
      go_wp2_with (first|(at_builtin;rw[<-D5.out];refine wpList_append_own _ rfl _ _ 106 rfl w.heap.size 113 i0 (.agg #[.string ⟨#[]⟩,.int .u32 0,.int .i64 0,.slice none 0 0]) 4 56 underlying106 E9 F1 i3 i4 rfl (by decide) _ _ _ rfl k3.out.row ⟨W7.heap.size,0,none⟩ 1 1 _ rfl rfl p5.out (by rw[<-f7.out];exact sK x) ?c1 ?c2 ?c3 ?_))
      case c1=>unfold maxLen;omega
      case c2=>omega
      case c3=>exact k3.out.below.size
      intro v' w9 z6 b5 _;obtain⟨E,F,rfl,_,_,_,_⟩:=own_shape z6
      have x9:w9.ownsRow w.heap.size 113 4 (.slice E ((keepR C (l.take j)).length+1) F) (keepR C (l.take (j+1))).length (ay (keepR C (l.take (j+1)))):=by
       rw[e4.out,oV,vJ,f7.out,jL]
       simpa[ay]using z6
      have y8:=k3.out.tF (l':=keepR C (l.take (j+1))) (Upon.of_grown b5 (λg hg=>.inl hg)) x9 (λy R=>by
       rw[e4.out]at R;rcases List.mem_append.1 R with I|I
       ·exact .inl I
       ·exact .inr (.inl (by rw[jE.1 I];exact jM HX.out)))
      have y9:=y8.set;have q3:=y8.man.cell 2;have z3:=y8.man.frozen 2
      simp at q3
      have k5:=jq y9;clear z6 x9 b5 y8 y9
      go_wp2_with fail
      exact⟨⟨j+1,_,by omega,by simp,k5⟩,by simp[intOf];omega⟩
     ·have d4:keepR C (l.take (j+1))=keepR C (l.take j):=by
       rw[DX C HX.out];have:=p6.out
       cases hc:C x.f.name with
       |none=>rw[hc]at this;cases this
       |some c=>simp
      have e4:=jq d4;clear d4
      go_wp2_with fail
      exact⟨⟨j+1,v,by omega,by simp,by rw[e4.out];exact z9⟩,by simp[intOf];omega⟩
   ·obtain rfl:j=n:=by omega
    have F2:decide ((j:Int) <(j:Int))=false:=jf (by omega);have x5:l.take j=l:=jW (by rw[e6.out];exact aj _);have a4:=S.out;rw[x5]at a4;have P:=a4.below;have k4:=(P.cell (p:=⟨s,4,none⟩) d8).trans c4;have HP:=jq a4;have p3:=jq P;clear x5 a4 P S;obtain⟨f,⟨D,nD,z6,hd⟩,Y,hf⟩:=(H.out.later p3.out).map
    have E0:∀x∈strKeys D,x∈L:=λx U=>HL.out x (λhc=>by
     have I:=(qR hd Y (z6.entries bU) x).1 U;have J:=hf x;unfold bT at J;rw[hc]at J;exact I J)
    have w8:∀x,f x≠none->x∈L.map Lit.string:=λx U=>by
     obtain⟨nm,rfl⟩:=Y x U;refine List.mem_map.2 ⟨nm,HL.out nm (λhc=>U ?_),rfl⟩;have J:=hf nm;unfold bT at J;rw[hc]at J;exact J
    obtain⟨D2,x9,n3⟩:=aY.bounded ⟨D,nD,z6,hd⟩ bU (L.map Lit.string) w8;have u4:=x9.size_le;rw[jP]at u4;have v3:=DW n3 Y (x9.entries bU)
    have u7:∀nm,nm∈strKeys D2↔C nm≠none:=λnm=>by
     rw[qR n3 Y (x9.entries bU) nm];have J:=hf nm;unfold bT at J
     cases hc:C nm with
     |none=>rw[hc]at J;rw[J];simp
     |some c=>
      rw[hc]at J;obtain⟨v,h3,_⟩:=J;rw[h3]
      simp
    have u1: (strKeys D2).length<=9000:=by rw[tJ (x9.entries bU)];omega
    have s4:=callsIn_wide.1 (Tryz.maps_Keys_94 (some cm) wr);have s8:=callsIn_wide.1 (Tryz.slices_Sorted_keys_86_94 cm _ D2 jH wr x9 (by unfold maxLen;omega) (by omega));have q5:=jq s4;have s0:=jq s8;have r5:=jq v3;have q8:=jq u7;have q4:=jq u1;clear z6 hd Y hf E0 w8 x9 n3 u4 v3 u7 u1 s4 s8
    go_wp2_with fail
    refine q5.out.mono ?_;rintro e w6 ⟨rfl,rfl⟩
    go_wp2_with fail
    refine s0.out.mono ?_;rintro e w7 ⟨vn,zF,rfl,j4,z7,_,s1⟩;obtain⟨ss,j6⟩:=jl (zF.mergeSort (λx y=>decide (x<=y)));have o6:ss.Perm zF:=by rw[j6];exact vv _ _
    have o5:ss.length=zF.length:=o6.length_eq;have w1:ss.Pairwise (·< ·):=by rw[j6];exact zD j4 r5.out
    have w0:∀nm,nm∈ss↔C nm≠none:=λnm=>by rw[o6.mem_iff,j4.mem_iff,q8.out nm]
    have F9:ss.length<=9000:=by rw[o5,j4.length_eq];exact q4.out
    rw[<-j6,<-o5]at z7;have T:=(HP.out.later (((Below.refl _ wr).alloc jn _).trans (s1.mono (by simp)))).named (bH z7 (by have:=p3.out.size;simp;omega));obtain⟨an,cn,rfl,E4,D9,_,_⟩:=own_shape z7;obtain⟨N,hN⟩:=jl ss.length;rw[<-hN]at T E4 F9⊢;have z9:=jq T;have l2:=jq w1;have l1:=jq w0;have HN:=jq hN
    have v6:=DK (C:=C) (n:=m.bl.length) (next:=next) (fs:=l.map FR.f) H.out.disk.small hn HR.out (λf hf=>by
     obtain⟨x,U,rfl⟩:=List.mem_map.1 hf;exact q6.out x U) (by rw[jP,<-e6.out];exact u3) B0.out
    have k7:=jq v6;clear j6 o6 o5 w1 w0 j4 z7 s1 T D9 hN v6 q5 s0 r5 q8 q4 HP;obtain⟨p0,b7⟩:=jl (kS C m.bl.length next (l.map FR.f));rw[<-b7]at k7;have i5:p0.k=K0:=by rw[b7,C0.out];rfl
    have d5:p0.next=next:=by rw[b7];rfl
    have t5: (keepR C l).map FR.f=p0.fs:=by rw[NV,b7];rfl
    have a6:=z9.out;rw[<-i5]at a6;have y8:PS w l r q Cb gb cap p0.k (ver+1) p0.next v v (keepR C l) (.slice an N cn) N (ss.map encStr) w7:=by rw[d5];exact a6
    have r6:=jq y8;have p8:=jq t5;have f4:=jq b7;have v8:dN C (ss.take 0) p0=some p0:=rfl;have r7:=jq v8;clear i5 d5 t5 a6 y8 b7 v8 z9
    go_wp2_with fail
    go_loopw[71] (λi wr=>∃(t:Nat) (v:Value) (p:PL) (l':List FR),t<=N/\i=.int .i64 t/\Hid (dN C (ss.take t) p0=some p)/\Hid (l'.map FR.f=p.fs)/\Hid (mR C m.bl.length 2100 70000 (ss.take t) p)/\Hid (PS w l r q Cb gb cap p.k (ver+1) p.next v v l' (.slice an N cn) N (ss.map encStr) wr)) (λi _=>N-(intOf i).toNat)
    case atStart=>exact⟨0,_,p0,_,aC _,rfl,r7,p8,k7,r6⟩
    case round=>
     clear r7 p8 k7 r6;obtain⟨t,v,p,l',ht,rfl,d6,x8,y3,S⟩:=hrel
     by_cases hlt:t<N
     ·have G0:decide ((t:Int) <(N:Int))=true:=jd (by omega);obtain⟨nm,Z⟩:∃nm,ss[t]? =some nm:=⟨ss[t]'(by rw[<-HN.out];exact hlt),jg _⟩;have o0:=jM Z;have d2:=(l1.out nm).1 o0;have v5:nm.length<=32:=C2.out nm (HL.out nm d2);obtain⟨a8,c8,e8,_,o3⟩:=Ext.zx S.out.names;obtain⟨G9,e9,_,_,m9⟩:=o3 (by omega);cases e8;subst e9;obtain⟨sb,j5⟩:∃sb:ByteArray,encStr nm=.string sb:=⟨_,rfl⟩;have n0:=m9 t (.string sb) (by rw[List.getElem?_map,Z,<-j5];rfl);have j1:nv nm=.string sb:=j5;have P:=S.out.below;have g8:cm<w.heap.size:=H.out.lt cm H.out.qm;obtain⟨a1,n1,b9,gn,i7,z4⟩:=(H.out.later P).look nm (by omega);have n5:=(z4 wr rfl).2;rw[j1]at n5;have k4:=(P.cell (p:=⟨s,4,none⟩) d8).trans c4;have d9:=NF C Z p0;rw[d6.out]at d9
      have g9:nm∉ss.take t:=λhm=>by
       obtain⟨i,hi⟩:=List.mem_iff_getElem?.1 hm;rw[jh]at hi
       split at hi
       ·have F5:i<t:=by assumption
        obtain⟨i1,ei⟩:=jS.1 hi;obtain⟨t1,et⟩:=jS.1 Z;have:=qJ.1 l2.out i t i1 t1 F5;rw[ei,et]at this;exact absurd this (List.lt_irrefl nm)
       ·cases hi
      have x5:ss.take (t+1)=ss.take t++ [nm]:=by rw[bF,Z];rfl
      cases hcc:C nm with
      |none=>exact absurd hcc d2
      |some cc=>
       cases cc with
       |none=>
        rw[hcc]at i7;obtain⟨rfl,rfl,rfl,rfl⟩:=i7;have x4:dx C nm p=some p:=by unfold dx;rw[hcc]
        have y5:=y3.out.step H.out.disk.small g9 d2 v5 (λb hb=>j8.out nm b hb) x4;rw[<-x5]at y5;have x2:dN C (ss.take (t+1)) p0=some p:=by rw[d9];exact x4
        have k8:=jq y5;have k9:=jq x2;have a4:=jq (S.out.later ((Below.refl _ wr).alloc jn (.cells #[.slice none 0 0,.bool true] 140)));clear x4 y5 x2 d9 x5 g9 d2 o0 Z z4 m9 j5 j1 o3 P hcc d6 y3 S
        go_wp2_with fail
        exact⟨⟨t+1,v,p,l',by omega,by simp,k9,x8,k8,a4⟩,by simp[intOf];omega⟩
       |some b=>
        rw[hcc]at i7;obtain⟨rfl,rfl,E5,s6,_⟩:=i7;have g5:=j8.out nm b hcc;have E2:=HT.out.lt;obtain⟨W1,O⟩:=jl (wr.alloc (.cells #[.slice a1 b.length b9,.bool false] 140));have a2:=S.out.later (show Below wr.heap.size wr W1 by rw[O];exact(Below.refl _ wr).alloc jn _);have b8:=jq (yE b.length (by omega) W1);have f6:=jq (Ext.Nv Cb gb cap p.k ((many b.length:Nat):Int) W1 a2.map (HT.out.below a2.below E2) (by have:=a2.gC;omega) (by have:=a2.gg;omega));obtain⟨M,hM⟩:=jl (many b.length);rw[<-hM]at b8 f6;obtain⟨B,X⟩:=jl b.length;rw[<-X]at b8 E5 O n5;have HB:=jq X;have HM:=jq hM;have D1:=jq O;have f5:=jq a2;have j9:=jq hcc;have r9:=jq d9;have D0:=jq x5;have B4:=jq g9;have r4:=jq Z;have r8:=jq j1;have G7:=jq s6;clear hcc d9 x5 g9 Z j1 j5 d2 o0 z4 m9 o3 P d6 S a2 hM X s6
        go_wp2_with fail
        rw[<-O];clear O n5 k4 n0;refine b8.out.mono ?_;rintro e w3 ⟨rfl,rfl⟩
        go_wp2_with fail
        refine f6.out.mono ?_;rintro e w4 ⟨⟨a3,c3,rfl,j3⟩,l8,j2⟩;have o:=f5.out.took j2 l8;have g6:Blk w3 wr.heap.size 140 #[.slice a1 B b9,.bool false]:=by rw[D1.out];exact Blk.new wr _ _
        have t4:Blk w4 wr.heap.size 140 #[.slice a1 B b9,.bool false]:=g6.only j2 (λhm=>by
         obtain⟨cs,hc,_⟩:=f5.out.map.words
         simp at hm
         rcases hm with e|e
         ·exact g6.ne f5.out.map.map (by decide) e
         ·exact g6.ne hc (by decide) e)
        have p4:=jq t4;clear g6 t4
        by_cases t7:Ext.bP p.k<M
        ·have hE:Ext.kQ p.k (M:Int)=7:=by unfold Ext.kQ;rw[if_neg (by omega),if_pos (by omega)]
         rw[hE];have x4:dx C nm p=none:=by unfold dx;rw[j9.out];exact if_pos (by rw[<-HM.out];exact t7)
         have v4:dN C ss p0=none:=NG C (j:=t+1) (by rw[r9.out];exact x4);have C5:=jq v4;obtain⟨E,F,e5,_,_,_,_⟩:=own_shape o.row;rw[e5]at o;obtain⟨G,h5⟩:=jl l'.length;obtain⟨T3,s9⟩:=jl ((Ext.bX p.k (M:Int)).length);rw[<-s9];have m0:=o.man.cell 0;have V:=o.man.cell 1;have m2:=o.man.cell 2;have r0:=o.res.cell 0;have r1:=o.res.cell 1;have r2:=o.res.cell 2;have z0:=o.res.frozen 0;have z1:=o.res.frozen 1;have z2:=o.res.frozen 2
         simp at m0 V m2 r0 r1 r2
         rw[<-h5]at m2;have x1:=jq o;obtain⟨nx,h7⟩:=jl p.next;rw[<-h7]at V;clear hE x4 v4 o j3 l8 j2 h5 s9 e5 h7 f6 b8
         go_wp2_with fail
         obtain⟨y0,y1,y2⟩:=lN x1.out.res (.int .u64 ((ver:Int)+1)) (.int .u32 (nx:Int)) (.slice E G F);have y4:=kU x1.out.below b5 (.int .u64 ((ver:Int)+1)) (.int .u32 (nx:Int)) (.slice E G F);obtain⟨Wf,b4⟩:=jl ((((w4.setCell ⟨r,0,none⟩ (.int .u64 ((ver:Int)+1))).setCell ⟨r,1,none⟩ (.int .u32 (nx:Int))).setCell ⟨r,2,none⟩ (.slice E G F)));rw[<-b4]at y0 y1 y2 y4⊢;refine bodyPost_ret (v:=.tuple #[.agg #[.int .u64 ((ver:Int)+1),.int .u32 (nx:Int),.slice E G F],.bool false]) (by simp[results,Tryz.f57,go_sem,y0,y1,y2]) rfl ?_;have d5:=C5.out;rw[f4.out]at d5;exact⟨_,_,rfl,⟨_,_,_,_,_,rfl⟩,y4,.inr ⟨A1,ss,l2.out,l1.out,.inl ⟨rfl,.inl d5⟩⟩⟩
        ·have m4:M<=Ext.bP p.k:=by omega
         have hE:Ext.kQ p.k (M:Int)=0:=by unfold Ext.kQ;rw[if_neg (by omega),if_neg (by omega)]
         have g0: (Ext.bX p.k (M:Int)).length=M:=zA m4;rw[hE,g0];rw[g0]at j3;obtain⟨x,e0⟩:∃x:FR,x=⟨newF nm b p,a3,c3⟩:=⟨_,rfl⟩;have o8:x.f.blocks=(Ext.bX p.k (M:Int)).map Int.toNat:=by rw[e0,HM.out];rfl
         have o9:x.f.blocks.length=M:=by rw[o8,jP,g0]
         have v0:iP w.heap.size w4 x:=by
          unfold iP;rw[o9,o8,NT,e0];exact bH j3 f5.out.below.size
         have z8:x.vs= [.string sb,.int .u32 (p.next:Int),.int .i64 (B:Int),.slice a3 M c3]:=by
          have e1:sv nm=.string sb:=r8.out;unfold FR.vs iv;rw[o9,e0,HB.out];show [sv nm,_,_,_]=_;rw[e1]
          rfl
         obtain⟨E,F,e5,d0,_,_⟩:=o.files H.out.files;rw[e5]at o
         have F4:l'.length<=11100:=by
          have I:=y3.out.count;rw[<-x8.out,jP]at I;have J: (ss.take t).length<=N:=by rw[jT,HN.out];omega
          omega
         obtain⟨nb,u9⟩:∃nb:Nat->ByteArray,nb=λk=>⟨((l'[k]?.map (λy=>y.f.name)).getD []).toArray⟩:=⟨_,rfl⟩
         have n8:∀(k:Nat) (y:FR),l'[k]? =some y->sv y.f.name=.string (nb k):=λk y R=>by rw[u9];simp[R,sv]
         have g7:∀(k:Nat) (y:FR),l'[k]? =some y->(cZ (nb k) sb<0↔y.f.name<nm):=λk y R=>wh (n8 k y R) r8.out
         have v9:∀(k k':Nat) (y y':FR),k<k'->l'[k]? =some y->l'[k']? =some y'->y.f.name<y'.f.name:=λk k' y y' Y R G2=>by
          have I:=y3.out.rise;unfold rises at I;rw[<-x8.out]at I;have J:=kJ.1 I;obtain⟨i1,e1⟩:=jS.1 R;obtain⟨i2,e2⟩:=jS.1 G2;have:=qJ.1 J k k' i1 i2 Y
          rwa [e1,e2]at this
         have u8:∀k k',k<=k'->k'<l'.length->cZ (nb k') sb<0->cZ (nb k) sb<0:=λk k' Y F3 hc=>by
          rcases Nat.lt_or_eq_of_le Y with I|I
          ·have g1:=rY (l:=l') (i:=k) (by omega);have g2:=rY (l:=l') (i:=k') F3;exact(g7 k _ g1).2 (mD (v9 k k' _ _ I g1 g2) ((g7 k' _ g2).1 hc))
          ·rw[I];exact hc
         have e3:=jq (nM (ver+1) p.next l' nb E F sb w4 d0 (by omega) n8 u8);obtain⟨G,h5⟩:=jl l'.length;have m0:=o.man.cell 0;have V:=o.man.cell 1;have m2:=o.man.cell 2
         simp at m0 V m2
         rw[<-h5]at m2 e3;obtain⟨nx,h7⟩:=jl p.next;rw[<-h7]at V e3;have x1:=jq o;have r3:=jq v0;have f7:=jq z8;have D6:=jq e0;have h9:=jq h5;have y7:=jq h7;have p7:=jq g7;have C4:=jq m4;clear hE g0 o j3 l8 j2 h5 h7 f6 b8 d0 u9 n8 g7 v9 u8 v0 z8 o8 o9 e0 m4 t7 e5
         go_wp2_with fail
         refine e3.out.mono ?_;rintro e w5 ⟨i,hi,i3,i4,rfl,h0⟩
         have t9:fM nm p.fs=i:=by
          rw[<-x8.out];refine Dv nm _ i (by rw[jP];rw[h9.out]at hi;exact hi) (λk y Y R=>?_) (λk y Y R=>?_)
          ·obtain⟨z,hz,rfl⟩:=Option.map_eq_some_iff.1 (by rw[<-List.getElem?_map];exact R);exact(p7.out k z hz).1 (i3 k Y)
          ·obtain⟨z,hz,rfl⟩:=Option.map_eq_some_iff.1 (by rw[<-List.getElem?_map];exact R);have i6:=(jS.1 hz).1;have:=i4 k Y (by rw[h9.out];exact i6)
           exact λJ=>by
            have:=(p7.out k z hz).2 J
            omega
         have a5:=x1.out.later h0;have h6:=p4.out.below h0 p4.out.lt;have n9:iP w.heap.size w5 x:=Dk.qN r3.out (λg hg=>h0.block g (World.ownsRow.lt r3.out g hg).2);obtain⟨W6,x7⟩:=jl (w5.alloc (.cells #[.string sb,.int .u32 (nx:Int),.int .i64 (B:Int),.slice a3 M c3] 113));have h4:Below w5.heap.size w5 W6:=by rw[x7];exact(Below.refl _ w5).alloc jn _
         have x6:=a5.later h4;have v1:iP w.heap.size W6 x:=Dk.qN n9 (λg hg=>h4.block g (World.ownsRow.lt n9 g hg).2);have A4:Blk W6 w5.heap.size 113 x.vs.toArray:=by rw[x7,f7.out,<-y7.out];exact Blk.new w5 _ _
         rw[<-h9.out]at x6
         have B9:=jq (Ms l' i x (.slice E G F) w5.heap.size W6 x6.row x6.below.size (by rw[<-h9.out];exact hi) A4 (λe=>by
          have:=(a5.row.lt _ (by rw[<-h9.out];exact e)).2;exact qK _ this) (by omega))
         obtain⟨b6,t0⟩:=jl w5.heap.size;have m0:=a5.man.cell 0;have V:=a5.man.cell 1;have m2:=a5.man.cell 2;have b0:=h6.cell 0
         simp at m0 V m2 b0
         rw[<-h9.out]at m2;rw[<-y7.out]at V;have F6:=x6.man;have C6:=jq x6;have C3:=jq v1;have D4:=jq x7;have B8:=jq t9;clear i3 i4 t9 a5 h6 n9 x7 h4 x6 v1 A4 h0 F6 e3 t0
         go_wp2_with fail
         rw[<-D4.out];refine B9.out.mono ?_;rintro e w7 ⟨v7,rfl,z7,A0⟩;have F0:i<=l'.length:=by rw[<-h9.out];exact hi
         have u5: (l'.take i++x ::l'.drop i).length=l'.length+1:=by
          rw[jL,List.length_cons,jT,List.length_drop]
          omega
         have o1:w7.ownsRow w.heap.size 113 4 v7 (l'.take i++x ::l'.drop i).length (ay (l'.take i++x ::l'.drop i)):=by rw[u5];exact z7
         have T:=C6.out.tF (l':=l'.take i++x ::l'.drop i) A0 o1 (λy R=>by
          rcases List.mem_append.1 R with I|I
          ·exact .inl (rW I)
          ·rcases List.mem_cons.1 I with rfl|I
           ·exact .inr (.inr C3.out)
           ·exact .inl (List.mem_of_mem_drop I))
         obtain⟨a7,c7,e7,_,_,_,_⟩:=own_shape o1;obtain⟨L7,s5⟩:=jl ((l'.take i++x ::l'.drop i).length);rw[<-s5]at e7;subst e7;have y9:=T.set.nexts ((nx+1)%4294967296)
         have n4: (l'.take i++x ::l'.drop i).map FR.f=iD (newF nm b p) p.fs:=by
          have e1:x.f=newF nm b p:=by rw[D6.out]
          unfold iD;rw[show(newF nm b p).name=nm from rfl,B8.out,<-x8.out,<-e1,aZ,List.map_cons,fA,jV]
         have x4:dx C nm p=some ⟨Ext.fU p.k (M:Int),(nx+1)%4294967296,iD (newF nm b p) p.fs⟩:=by
          unfold dx;rw[j9.out,y7.out,HM.out];exact if_neg (by rw[<-HM.out];have:=C4.out;omega)
         have y5:=y3.out.step H.out.disk.small B4.out (λe=>by rw[j9.out]at e;cases e) v5 (λb hb=>j8.out nm b hb) x4;rw[<-D0.out]at y5;have x2:dN C (ss.take (t+1)) p0=some ⟨Ext.fU p.k (M:Int),(nx+1)%4294967296,iD (newF nm b p) p.fs⟩:=by rw[r9.out];exact x4
         have q0:=T.man.cell 0;have q1:=T.man.cell 1;have q2:=T.man.cell 2;have z1:=T.man.frozen 1;have z2:=T.man.frozen 2;simp only[jt,ja,jb]at q0 q1 q2;rw[<-y7.out]at q1;have G1:IntKind.u32.wrap ((nx:Int)+1)=(((nx+1)%4294967296:Nat):Int):=by rw[IntKind.wrap_u32];omega
         obtain⟨NX,s7⟩:=jl ((nx+1)%4294967296);obtain⟨l7,u2⟩:=jl (l'.take i++x ::l'.drop i);rw[<-s7]at y9 y5 x2 G1;rw[<-u2]at y9 n4;have k5:=jq y9;have k8:=jq y5;have k9:=jq x2;have B6:=jq n4;clear z7 o1 A0 T y9 n4 x4 y5 x2 u5 F0 s5 s7 u2 m0 V m2 b0
         go_wp2_with fail
         exact⟨⟨t+1,_,_,_,by omega,by simp,k9,B6,k8,k5⟩,by simp[intOf];omega⟩
     ·obtain rfl:t=N:=by omega
      have G0:decide ((t:Int) <(t:Int))=false:=jf (by omega);have x5:ss.take t=ss:=jW (by rw[HN.out];exact aj _);rw[x5]at d6 y3;obtain⟨E,F,e5,d0,t8,h6⟩:=S.out.files H.out.files;have o:=S.out;rw[e5]at o;have t6:∀y∈l',y.f.fits:=λy R=>(y3.out.fit y.f (by rw[<-x8.out];exact List.mem_map.2 ⟨y,R,rfl⟩)).1
      have i8:∀W',Below wr.heap.size wr W'\/(∃A B D,Below wr.heap.size (((wr.setCell ⟨r,0,none⟩ A).setCell ⟨r,1,none⟩ B).setCell ⟨r,2,none⟩ D) W')->True:=λ_ _=>trivial
      clear i8;have t3:=y3.out.may (ver:=ver+1) (by rw[<-HN.out];omega) (by omega)
      have i8:∀W',bV W' E l'->Calls prog 99 #[.agg #[.int .u64 ((ver+1:Nat):Int),.int .u32 (p.next:Int),.slice E l'.length F]] W' λe w'=>e=.returned (.bool (dw (ver+1) p.next p.fs))/\Below W'.heap.size W' w':=λW' hW=>by
       have:=mH (ver+1) p.next E F l' W' hW (by omega) y3.out.next t6 (by rw[x8.out];exact t3);rw[x8.out]at this;exact this
      have q9:=jq i8;have m0:=o.man.cell 0;have V:=o.man.cell 1;have m2:=o.man.cell 2;have r0:=o.res.cell 0;have r1:=o.res.cell 1;have r2:=o.res.cell 2;have z0:=o.res.frozen 0;have z1:=o.res.frozen 1;have z2:=o.res.frozen 2;simp only[jt,ja,jb]at m0 V m2 r0 r1 r2;obtain⟨nx,h7⟩:=jl p.next;obtain⟨G,h5⟩:=jl l'.length;obtain⟨mb,n7⟩:=jl (dw (ver+1) p.next p.fs);rw[<-n7,<-h7,<-h5]at q9;rw[<-h7]at V;rw[<-h5]at m2;have x1:=jq o;have B5:=jq d0;have G6:=jq t8;have j7:=jq h6;have y7:=jq h7;have h9:=jq h5;have q7:=jq n7;have C7:=jq d6.out;have F7:=o.man.lt;have F8:=o.res.lt;clear o d0 t8 h6 h7 h5 n7 i8 t6 t3 e5 x5 S;have i5: (λw':World=>w'.cell? ⟨q,0,none⟩=some (.int .u64 ((ver:Int)+1))/\w'.cell? ⟨q,1,none⟩=some (.int .u32 (nx:Int))/\w'.cell? ⟨q,2,none⟩=some (.slice E G F)) wr.drew:=⟨m0,V,m2⟩
      have C1:=jq (show∀w6:World,Below wr.drew.heap.size wr.drew w6->(λw':World=>w'.cell? ⟨q,0,none⟩=some (.int .u64 ((ver:Int)+1))/\w'.cell? ⟨q,1,none⟩=some (.int .u32 (nx:Int))/\w'.cell? ⟨q,2,none⟩=some (.slice E G F)) w6/\(λw':World=>w'.cell? ⟨q,0,none⟩=some (.int .u64 ((ver:Int)+1))/\w'.cell? ⟨q,1,none⟩=some (.int .u32 (nx:Int))/\w'.cell? ⟨q,2,none⟩=some (.slice E G F)) (((w6.setCell ⟨r,0,none⟩ (.int .u64 ((ver:Int)+1))).setCell ⟨r,1,none⟩ (.int .u32 (nx:Int))).setCell ⟨r,2,none⟩ (.slice E G F))/\Blk w6 r 108 #[.int .u64 0,.int .u32 0,.slice none 0 0]from λw6 X=>by
       have d7:Blk w6 q 108 #[.int .u64 ((ver+1:Nat):Int),.int .u32 (p.next:Int),.slice E l'.length F]:=x1.out.man.below (w':=w6) ⟨X.os,X.tape,X.output,X.size,X.block⟩ F7;rw[<-y7.out,<-h9.out]at d7;have o2:=((d7.far (p:=⟨r,0,none⟩) i9 (.int .u64 ((ver:Int)+1))).far (p:=⟨r,1,none⟩) i9 (.int .u32 (nx:Int))).far (p:=⟨r,2,none⟩) i9 (.slice E G F);exact⟨⟨d7.cell 0,d7.cell 1,d7.cell 2⟩,⟨o2.cell 0,o2.cell 1,o2.cell 2⟩,x1.out.res.below (w':=w6) ⟨X.os,X.tape,X.output,X.size,X.block⟩ F8⟩)
      go_wp2_with fail
      go_region_held3 (λw'=>w'.cell? ⟨q,0,none⟩=some (.int .u64 ((ver:Int)+1))/\w'.cell? ⟨q,1,none⟩=some (.int .u32 (nx:Int))/\w'.cell? ⟨q,2,none⟩=some (.slice E G F)) (first|exact i5|exact u0|exact i6) ((first|(go_at_call 99;refine(q9.out _ (B5.out.later (Below.refl _ wr).drew)).mono ?_;rintro e w6 ⟨rfl,h4⟩;obtain⟨u0,i6,y6⟩:=C1.out w6 h4;have A7:=y6.cell 0;have A8:=y6.cell 1;have A9:=y6.cell 2;have G3:=y6.frozen 0;have G4:=y6.frozen 1;have G5:=y6.frozen 2;simp only[jt,ja,jb]at A7 A8 A9;have h8:=jq h4;have C8:=jq y6;clear h4 y6;dsimp only)))
      obtain⟨y0,y1,y2⟩:=lN C8.out (.int .u64 ((ver:Int)+1)) (.int .u32 (nx:Int)) (.slice E G F);have D7:Below w.heap.size w w6:=x1.out.below.trans ((show Below wr.heap.size wr w6 from⟨h8.out.os,h8.out.tape,h8.out.output,h8.out.size,h8.out.block⟩).mono x1.out.below.size);have y4:=kU D7 b5 (.int .u64 ((ver:Int)+1)) (.int .u32 (nx:Int)) (.slice E G F)
      have l5:bV (((w6.setCell ⟨r,0,none⟩ (.int .u64 ((ver:Int)+1))).setCell ⟨r,1,none⟩ (.int .u32 (nx:Int))).setCell ⟨r,2,none⟩ (.slice E G F)) E l'/\(∀b,Mem.blk E=some b->w.heap.size<=b/\b<(((w6.setCell ⟨r,0,none⟩ (.int .u64 ((ver:Int)+1))).setCell ⟨r,1,none⟩ (.int .u32 (nx:Int))).setCell ⟨r,2,none⟩ (.slice E G F)).heap.size)/\∀x∈l',x∈l\/∀b,Mem.blk x.a=some b->w.heap.size<=b/\b<(((w6.setCell ⟨r,0,none⟩ (.int .u64 ((ver:Int)+1))).setCell ⟨r,1,none⟩ (.int .u32 (nx:Int))).setCell ⟨r,2,none⟩ (.slice E G F)).heap.size:=by
       have x6:=x1.out.later (show Below wr.heap.size wr w6 from⟨h8.out.os,h8.out.tape,h8.out.output,h8.out.size,h8.out.block⟩);obtain⟨G8,H1,t0⟩:=x6.map.words;have E1:=((x6.tH (.int .u64 ((ver:Int)+1)) 0).tH (.int .u32 (nx:Int)) 1).tH (.slice E G F) 2;obtain⟨a9,c9,e9,D8,E6,E3⟩:=E1.NS H.out.files;cases e9;exact⟨D8,E6,E3⟩
      obtain⟨Wf,b4⟩:=jl ((((w6.setCell ⟨r,0,none⟩ (.int .u64 ((ver:Int)+1))).setCell ⟨r,1,none⟩ (.int .u32 (nx:Int))).setCell ⟨r,2,none⟩ (.slice E G F)));rw[<-b4]at y0 y1 y2 y4 l5⊢;have k1:=jq l5;clear l5 u0 i6 A7 A8 A9 G3 G4 G5 b4
      go_wp2_with fail
      refine bodyPost_ret (v:=.tuple #[.agg #[.int .u64 ((ver:Int)+1),.int .u32 (nx:Int),.slice E G F],.bool mb]) (by simp[results,Tryz.f57,go_sem,y0,y1,y2]) rfl ?_;have x2:=C7.out;rw[f4.out]at x2;refine⟨_,_,rfl,⟨_,_,_,_,_,rfl⟩,y4,.inr ⟨A1,ss,l2.out,l1.out,?_⟩⟩;cases mb
      ·exact .inl ⟨rfl,.inr ⟨p,x2,q7.out.symm⟩⟩
      ·refine .inr ⟨rfl,p,E,F,l',x2,q7.out.symm,?_,x8.out,k1.out.1,k1.out.2.1,k1.out.2.2⟩;rw[<-y7.out,<-h9.out]
       rfl
end Full
namespace Full
open Go.RowKit Go.Deep Mem Crc Go.Maps Dk aA
open Store (au fV bT none' nv iQ bU kV)
structure WS(w:World)(d g:Nat)(wv:Value)(m:DM)(wv':Value)(W:World):Prop where
 disk:Dk W d g wv' m
 upon:Upon (Has d g wv) w W
 own:∀k,wv'.ownBlock=some k->wv.ownBlock=some k\/w.heap.size<=k
theorem WS.later{w W W':World}{d g:Nat}{wv wv':Value}{m:DM}(h:WS w d g wv m wv' W)(o:Below W.heap.size W W'):WS w d g wv m wv' W':=
 ⟨h.disk.later o,h.upon.trans (Upon.of_below (P:=λ_=>False) o) (λ_ y=>y.elim),h.own⟩
variable {w W:World}{d g:Nat}{wv wv':Value}{m:DM}{a:Option Addr}{l:List FR}
theorem WS.step{W':World}{wv2:Value}{m2:DM}(h:WS w d g wv m wv' W)(hd:Dk W' d g wv2 m2)(A:Upon (Has d g wv') W W')(z:∀k,wv2.ownBlock=some k->wv'.ownBlock=some k\/W.heap.size<=k):WS w d g wv m2 wv2 W':=
 ⟨hd,h.upon.trans A (λk y=>by
  rcases y with rfl|rfl|y
  ·exact .inl (.inl rfl)
  ·exact .inl (.inr (.inl rfl))
  ·rcases h.own k y with o|o
   ·exact .inl (.inr (.inr o))
   ·exact .inr o),λk y=>by
  rcases z k y with o|o
  ·exact h.own k o
  ·exact .inr (ax h.upon.size o)⟩
theorem WS.cell(h:WS w d g wv m wv' W){p:Addr}(y:p.block<w.heap.size)(o:¬Has d g wv p.block):W.cell? p=w.cell? p:=World.cell?_of_block (h.upon.block p.block y o)
theorem WS.lies(h:WS w d g wv m wv' W){xs:List Value}(o:Lies w a xs)(y:∀k,Mem.blk a=some k->¬Has d g wv k):Lies W a xs:=o.upon h.upon y
theorem WS.files(h:WS w d g wv m wv' W)(hF:bV w a l)(y:∀k,Mem.blk a=some k->¬Has d g wv k)(z:∀x∈l,∀k,Mem.blk x.a=some k->¬Has d g wv k):bV W a l:=
 ⟨h.lies hF.row y,λx o=>⟨h.lies (hF.blocks x o).1 (z x o),(hF.blocks x o).2⟩⟩
theorem WS.base{y:World}(h:WS y d g wv m wv' W)(z:Below w.heap.size w y):WS w d g wv m wv' W:=
 ⟨h.disk,(Upon.of_below (P:=Has d g wv) z).trans h.upon (λ_ o=>.inl o),λk o=>(h.own k o).imp id (λA=>ax z.size A)⟩
theorem Fu.away{Q:Nat->Prop}{s cm:Nat}{ver next:Nat}{c:Nat}{bad:Bool}{C:au}(h:Fu w Q s d g cm wv m ver next a c l bad C):¬Has d g wv s/\¬Has d g wv cm:=by
 obtain⟨f,⟨D,n,⟨A,z,hb,_⟩,_⟩,_⟩:=h.map;refine⟨λo=>?_,λo=>?_⟩
 ·rcases o with e|e|e
  ·exact h.store.ne h.disk.disk (by decide) e
  ·exact h.store.ne h.disk.row (by decide) e
  ·exact aV h.disk.wt h.store (by decide) e
 ·rcases o with e|e|e
  ·have:=h.disk.disk;unfold Blk at this;rw[<-e,hb]at this;cases this
  ·have:=h.disk.row;unfold Blk at this;rw[<-e,hb]at this;cases this
  ·obtain⟨_,_,y⟩:=sQ h.disk.wt e;rw[hb]at y;cases y
end Full
namespace Full
open Go.RowKit Go.Deep Mem Crc Go.Maps Dk aA nP
theorem NY{W:World}{d g s:Nat}{wv:Value}{m:DM}{F:Array Value}(hd:Dk W d g wv m)(h3:m.off=false)(h6:m.wt.length<=900000)(hs:Blk W s 119 F)(hcs:F[0]? =some (.pointer (some ⟨d,0,none⟩)))(D:ByteArray)(id E:Nat)(b:List UInt8)(bl:List Nat)(o z:Option Addr)(y xc:Nat)(M:Lies W o (b.map bv))(S:∀k,Mem.blk o=some k->¬Has d g wv k)(V:b.length<=y)(hb:b.length<=1048576)(O:Lies W z (bl.map iv))(h4:∀k,Mem.blk z=some k->¬Has d g wv k)(h:bl.length=aA.many b.length)(T:∀i∈bl,i<m.bl.length)(hid:id<4294967296):
  Calls prog 100 #[.pointer (some ⟨s,0,none⟩),.agg #[.string D,.int .u32 (id:Int),.int .i64 (E:Int),.slice z bl.length xc],.slice o b.length y] W λe w'=>e=.returned (.int .i64 (m.writes (cK id bl b)).2)/\∃wv',Dk w' d g wv' (m.writes (cK id bl b)).1/\Upon (Has d g wv) W w'/\∀k,wv'.ownBlock=some k->wv.ownBlock=some k\/W.heap.size<=k:=by
 by_cases A:b= []
 ·subst A;have U:bl= []:=iw (by rw[h];rfl);subst U;refine(ML s D id E y (.slice z 0 xc) o W).mono ?_;rintro e w' ⟨rfl,L⟩;exact⟨rfl,wv,hd.later L,Upon.of_below L,λk X=>.inl X⟩
 ·have Y:b.length≠0:=λe=>A (iw e)
  have Z:bl≠[]:=λe=>by
   rw[e]at h;exact Y (NR h.symm)
  obtain⟨G,R,rfl,_,_⟩:=(M.resolve_left (λe=>A (dM.1 e)));obtain⟨ba,P,rfl,_,_⟩:=(O.resolve_left (λe=>Z (dM.1 e)));obtain⟨I,J⟩:=zC (n:=b.length);rw[<-h]at I J
  have h5:bl.length<=10000:=by
   rw[h];unfold aA.many
   split <;> omega
  exact MJ D id E G R y ba P xc b bl W hd h3 (by omega) hs hcs M (S G rfl) V (by omega) O (h4 ba rfl) T I J hid (by omega)
end Full
namespace Full
open Go.RowKit Go.Deep Mem Crc Go.Maps Dk aA
open Store (au fV bT none' nv iQ bU kV)
attribute [local go_sem] Oper.semAt_some
theorem NZ{w:World}{Q:Nat->Prop}{s d g cm:Nat}{wv:Value}{m:DM}{ver next:Nat}{a:Option Addr}{c:Nat}{l:List FR}{bad:Bool}{C:au}(h:Fu w Q s d g cm wv m ver next a c l bad C)(a8:m.off=false)(g2:m.wt.length<=100000)(j6:33<=m.bl.length)(y nx:Nat)(a':Option Addr)(c':Nat)(l':List FR)(hF:bV w a' l')(ha:∀k,Mem.blk a'=some k->¬Has d g wv k)(L:∀x∈l',∀k,Mem.blk x.a=some k->¬Has d g wv k)(g3:∀x∈l',∀k,Mem.blk x.a=some k->k<w.heap.size)(e7:∀x∈l',C x.f.name=none\/∃b,C x.f.name=some (some b)/\mU m.bl.length b x.f)(hl:∀x∈l',x.f.name.length<=32/\x.f.fits)(j9:l'.length<=11100)(d6: (aI (l'.map FR.f)).length<=70000)(c8:∀nm b,C nm=some (some b)->b.length<=1048576)(hv:y<18446744073709551616)(hn:nx<4294967296)(e6:dw y nx (l'.map FR.f)=true):
  Calls prog 58 #[.pointer (some ⟨s,0,none⟩),.agg #[.int .u64 (y:Int),.int .u32 (nx:Int),.slice a' l'.length c']] w λe w'=>e=.returned (.int .i64 (di m C (l'.map FR.f) y (bI y nx (l'.map FR.f))).2)/\∃wv',WS w d g wv (di m C (l'.map FR.f) y (bI y nx (l'.map FR.f))).1 wv' w':=by
 obtain⟨has,d3⟩:=h.away;obtain⟨n,a7⟩:=jl l'.length;rw[<-a7]at j9⊢;obtain⟨W0,x6⟩:=jl (w.alloc (.cells #[.int .u64 (y:Int),.int .u32 (nx:Int),.slice a' n c'] 108));obtain⟨b3,O⟩:=jl w.heap.size;have x5:Below w.heap.size w W0:=by rw[x6];exact(Below.refl _ w).alloc jn _
 have z7:Blk W0 b3 108 #[.int .u64 (y:Int),.int .u32 (nx:Int),.slice a' n c']:=by rw[x6,O];exact Blk.new w _ _
 have S:=h.later x5;have c9:=hF.later x5;have d5:¬Has d g wv b3:=λo=>by have:=h.disk.lt b3 o;omega
 obtain⟨c0,_,_,_,c4,_⟩:=S.cells;have y3:=S.store.lt;have d9:=S.lt cm S.qm;have H:=jq S;have y6:=jq c9;have HA:=jq ha;have Y:=jq L;have j5:=jq g3;have i6:=jq e7;have y7:=jq hl;have i3:=jq c8;have i5:=jq e6;have y8:=jq a7;have c2:=jq d6;have x2:=jq has;have g6:=jq d3;have g8:=jq d5;have i0:=jq z7;have x3:=jq x5;have A:WS W0 d g wv (m.writes (bG C ((l'.map FR.f).take 0))).1 wv W0:=⟨S.disk,Upon.refl _ _,λk o=>.inl o⟩;have G: (m.writes (bG C ((l'.map FR.f).take 0))).2=0:=rfl;have j2:=jq A;have i7:=jq G;have j0:=jq x6;have d4:b3=w.heap.size:=O;have g9:=jq d4;have m2:=z7.cell 2
 simp at m2
 clear h S hF c9 ha L g3 e7 hl c8 e6 a7 d6 has d3 A G O d4 d5 z7 x5 x6
 go_enter func58,ntmps58
 go_wp2_with fail
 rw[<-j0.out,<-g9.out]
 go_wp2_with fail
 go_loopw[14] (λi wr=>∃(j:Nat) (wv':Value),j<=n/\i=.int .i64 j/\Hid ((m.writes (bG C ((l'.map FR.f).take j))).2=0)/\Hid (WS W0 d g wv (m.writes (bG C ((l'.map FR.f).take j))).1 wv' wr)) (λi _=>n-(intOf i).toNat)
 case atStart=>exact⟨0,wv,aC _,rfl,i7,j2⟩
 case round=>
  obtain⟨j,wv',hj,rfl,G,A⟩:=hrel
  by_cases hlt:j<n
  ·have j8:decide ((j:Int) <(n:Int))=true:=jd (by omega);obtain⟨x,L⟩:∃x,l'[j]? =some x:=⟨l'[j]'(by rw[<-y8.out];exact hlt),jg _⟩;have F:=jM L;have d1:=A.out.files y6.out HA.out Y.out;obtain⟨ga,oa,rfl,f0,f1,f2,f3⟩:=d1.cells L;obtain⟨sb,y1⟩:∃sb:ByteArray,sv x.f.name=.string sb:=⟨_,rfl⟩;have e8:nv x.f.name=.string sb:=y1;obtain⟨sz,b7⟩:=jl x.f.size;obtain⟨id,hid⟩:=jl x.f.id;obtain⟨bn,z8⟩:=jl x.f.blocks.length;obtain⟨ch,a0⟩:=jl ((C x.f.name).isSome);unfold iv at f2;rw[y1]at f0;rw[<-hid]at f1;rw[<-b7]at f2;rw[<-z8]at f3;obtain⟨W5,x7⟩:=jl (wr.alloc (.cells #[.string sb,.int .u32 (id:Int),.int .i64 (sz:Int),.slice x.a bn x.c] 113));have Z:Below wr.heap.size wr W5:=by rw[x7];exact(Below.refl _ wr).alloc jn _
   have h8:Blk W5 wr.heap.size 113 #[.string sb,.int .u32 (id:Int),.int .i64 (sz:Int),.slice x.a bn x.c]:=by rw[x7];exact Blk.new wr _ _
   obtain⟨bx,z9⟩:=jl wr.heap.size;rw[<-z9]at h8;obtain⟨W6,x8⟩:=jl ((W5.alloc (.cells #[.slice none 0 0,.bool false] 140)).drew);have z5:Below wr.heap.size wr W6:=by rw[x8];exact(Z.alloc Z.size _).drew
   have a2:wr.heap[cm]? =W0.heap[cm]?:=A.out.upon.block cm d9 g6.out;have a3:cm<wr.heap.size:=aD d9 A.out.upon.size;obtain⟨a1,n1,z3,gn,x0,a5⟩:=H.out.look x.f.name (by have:=(y7.out x F).1;omega);have e5:=(a5 W5.drew ((Z.drew.block cm a3).trans a2)).1;have a6:=(a5 W6 ((z5.block cm a3).trans a2)).1;rw[e8,<-a0]at e5 a6;have b5:s<wr.heap.size:=aD y3 A.out.upon.size;have k0:=(A.out.cell (p:=⟨s,4,none⟩) y3 x2.out).trans c4;have k6:=(z5.cell (p:=⟨s,4,none⟩) b5).trans k0;have k4:=(Z.cell (p:=⟨s,4,none⟩) b5).trans k0
   have b6:W6.cell? ⟨bx,0,none⟩=some (.string sb):=by
    rw[x8];exact(h8.alloc _).cell 0
   rw[x8]at a6 k6 b6;have b0:=h8.cell 0
   simp at b0
   have j1:=jq x7;have i2:=jq z9;have z2:=jq L;have k5:=jq y1;have i9:=jq b7;have c6:=jq hid;have i1:=jq z8;have c5:=jq a0;have c1:=jq Z;have c3:=jq h8;have i4:=jq x0;clear x8 z5 a5 a3 b5 a2 d1 F L y1 e8 b7 hid z8 a0 Z h8 x0 k0
   go_wp2_with fail
   rw[<-j1.out,<-i2.out];clear x7 z9
   go_wp2_with fail
   go_region
   all_goals
    obtain⟨W7,x9⟩:=jl ((W5.alloc (.cells #[.slice a1 n1 z3,.bool gn] 140)).drew);have z4:Below W5.heap.size W5 W7:=by rw[x9];exact((Below.refl _ W5).alloc jn _).drew
    rw[<-x9];have g0:=A.out.later (c1.out.trans (z4.mono c1.out.size));have h9:=c3.out.below z4 c3.out.lt;have d8:Blk W7 W5.heap.size 140 #[.slice a1 n1 z3,.bool gn]:=by rw[x9];exact Blk.new W5 _ _
    have M:=jq g0;have b0:=h9.cell 0;have b1:=h9.cell 1;have b2:=h9.cell 2;have b3:=h9.cell 3;have d0:=d8.cell 0
    simp at b0 b1 b2 b3 d0
    clear x9 z4 g0 h9 d8 e5 a6 k4 k6 b6;cases ch
    ·have e0:C x.f.name=none:=by
      have:=c5.out
      cases hc:C x.f.name with
      |none=>rfl
      |some c=>rw[hc]at this;cases this
     have e4:bG C ((l'.map FR.f).take (j+1))=bG C ((l'.map FR.f).take j):=by
      rw[DR C (f:=x.f) (by rw[List.getElem?_map,z2.out];rfl)];unfold kT;rw[e0]
      simp
     have h5:=G.out;have b9:=M.out;rw[<-e4]at h5 b9;have y9:=jq h5;have j3:=jq b9;clear e4 e0 h5 b9
     go_wp2_with fail
     exact⟨⟨j+1,wv',by omega,by simp,y9,j3⟩,by simp[intOf];omega⟩
    ·have F:=jM z2.out
     obtain⟨b,y0,a4⟩:∃b,C x.f.name=some (some b)/\mU m.bl.length b x.f:=by
      rcases i6.out x F with J|J
      ·have:=c5.out;rw[J]at this;cases this
      ·exact J
     have x0:=i4.out;rw[y0]at x0;obtain⟨rfl,rfl,e1,d2,h4⟩:=x0;obtain⟨x1,h6,y2⟩:=DV G.out c2.out g2;have f5:=H.out.store.upon M.out.upon x2.out;have e3:kT C x.f=nP.cK x.f.id x.f.blocks b:=by unfold kT;rw[y0]
     have a9:=NY M.out.disk (by rw[h6];exact a8) (by omega) f5 rfl sb x.f.id x.f.size b x.f.blocks a1 x.a z3 x.c (M.out.lies d2 (λk o=>(h4 k o).2.2.2)) (λk o hh=>by
      rcases hh with e|e|e
      ·exact(h4 k o).2.2.2 (.inl e)
      ·exact(h4 k o).2.2.2 (.inr (.inl e))
      ·rcases M.out.own k e with J|J
       ·exact(h4 k o).2.2.2 (.inr (.inr J))
       ·have:=H.out.lt k (h4 k o).1;omega) e1 (i3.out _ b y0) (M.out.lies (y6.out.blocks x F).1 (Y.out x F)) (λk o hh=>by
      rcases hh with e|e|e
      ·exact Y.out x F k o (.inl e)
      ·exact Y.out x F k o (.inr (.inl e))
      ·rcases M.out.own k e with J|J
       ·exact Y.out x F k o (.inr (.inr J))
       ·have h2:=j5.out x F k o;have h3:=x3.out.size
        omega) a4.many (λi hi=>by rw[x1];exact a4.pG i hi) (y7.out x F).2.id
     rw[<-c6.out,<-i9.out,<-i1.out]at a9;have b4:=DR C (fs:=l'.map FR.f) (j:=j) (f:=x.f) (by rw[List.getElem?_map,z2.out];rfl);rw[e3]at b4;have z6:=DT _ (nP.cK x.f.id x.f.blocks b) m G.out;rw[<-b4,<-c6.out]at z6;have z0:=jq a9;have g7:=jq z6;clear a9 z6 b4 e3 f5 x1 h6 y2 y0 a4 e1 d2 h4 F
     go_wp2_with fail
     refine z0.out.mono ?_;rintro e w8 ⟨rfl,wv2,T,V,U⟩;have D:=M.out.step T V U;rw[<-g7.out]at D⊢;obtain⟨E,z⟩:=jl ((m.writes (bG C ((l'.map FR.f).take (j+1)))).2);rw[<-z];have x4:=jq D
     by_cases I:E=0
     ·have h5: (m.writes (bG C ((l'.map FR.f).take (j+1)))).2=0:=by rw[<-z];exact I
      have y9:=jq h5;subst I;clear z h5 D T V U z0
      go_wp2_with fail
      exact⟨⟨j+1,wv2,by omega,by simp,y9,x4⟩,by simp[intOf];omega⟩
     ·have j7: (E==0)=false:=by simpa using I
      have f6:=NN (C:=C) (fs:=l'.map FR.f) (j:=j+1) (m:=m) (by rw[<-z];exact I)
      have P:di m C (l'.map FR.f) y (bI y nx (l'.map FR.f))=m.writes (bG C ((l'.map FR.f).take (j+1))):=by
       unfold di;rw[f6,if_neg (by rw[<-z];exact I)]
      have h7:=jq P;have HE:=jq z;clear z f6 P D T V U z0
      go_wp2_with fail
      go_ret
      rw[h7.out];exact⟨by rw[<-HE.out];rfl,wv2,x4.out.base x3.out⟩
  ·obtain rfl:j=n:=by omega
   have j8:decide ((j:Int) <(j:Int))=false:=jf (by omega);have y4: (l'.map FR.f).take j=l'.map FR.f:=jW (by rw[jP,y8.out];exact aj _);rw[y4]at G A;obtain⟨x1,h6,y2⟩:=DV (C:=C) (fs:=l'.map FR.f) (j:=j) (m:=m) (by rw[y4];exact G.out) c2.out g2;rw[y4]at x1 h6 y2;have k0:=(A.out.cell (p:=⟨s,0,none⟩) y3 x2.out).trans c0;have i8:=jq (yR A.out.disk (by rw[h6];exact a8) (by omega));clear y4 x1 h6 y2
   go_wp2_with fail
   refine i8.out.mono ?_;rintro e w8 ⟨rfl,wv2,T,V,U⟩;have D:=A.out.step T (V.mono (λk o=>o.elim .inl (λh=>.inr (.inl h)))) (λk o=>.inl (U k o));obtain⟨X,R⟩:=jl ((m.writes (bG C (l'.map FR.f))).1);rw[<-R]at D⊢;obtain⟨E,z⟩:=jl X.sync.2;rw[<-z];have x4:=jq D
   by_cases I:E=0
   ·have P:di m C (l'.map FR.f) y (bI y nx (l'.map FR.f))=X.sync.1.dR y (bI y nx (l'.map FR.f)):=by
     unfold di;rw[if_pos G.out,<-R,if_pos (by rw[<-z];exact I)]
    have h7:=jq P;subst I;have HE:=jq z;have k3:=jq R;have k7:=(D.cell (p:=⟨s,0,none⟩) y3 x2.out).trans c0;have O:=i0.out.upon D.upon g8.out;have b0:=O.cell 0;have b1:=O.cell 1;have b2:=O.cell 2
    simp at b0 b1 b2
    obtain⟨o1,o2,o3⟩:=sS z.symm;obtain⟨g4,g5,k1⟩:=lH G.out;have f4:X.sync.1.off=false:=by rw[o1,R,g5];exact a8
    have d7:33<=X.sync.1.bl.length:=by rw[o2,mM,R,g4];exact j6
    have f9:X.sync.1.wt.length<=900000:=by rw[o3];exact aC _
    have y5:WS W0 d g wv X.sync.1 wv2 w8.drew:=D.later (Below.refl _ w8).drew;have b8:=vQ y nx a' c' l' w8.drew y5.disk f4 d7 f9 (y5.files y6.out HA.out Y.out) hv hn (λx L=>(y7.out x L).2) i5.out;rw[<-y8.out]at b8;have z1:=jq b8;have c7:=jq y5;clear z R P D T V U O k0 o1 o2 o3 g4 g5 k1 f4 d7 f9 y5 b8
    go_wp2_with fail
    go_still_tail 5,(by kernel_rfl)
    change wpList _ _ _ _ _ w8.drew
    obtain⟨w9,f8⟩:=jl w8.drew;rw[<-f8]at z1 c7⊢;clear f8
    go_wp2_with fail
    refine z1.out.mono ?_;rintro e wA ⟨rfl,k2,e2,f7,e9⟩;have g1:=(c7.out.step e2 f7 e9).base x3.out;have j4:=jq g1;clear g1 e2 f7 e9 z1
    go_wp2_with fail
    go_ret
    rw[h7.out];exact⟨rfl,k2,j4.out⟩
   ·have j7: (E==0)=false:=by simpa using I
    have P:di m C (l'.map FR.f) y (bI y nx (l'.map FR.f))=X.sync:=by
     unfold di;rw[if_pos G.out,<-R,if_neg (by rw[<-z];exact I)]
    have h7:=jq P;have HE:=jq z;clear z R P D T V U
    go_wp2_with fail
    go_ret
    rw[h7.out];exact⟨by rw[<-HE.out];rfl,wv2,x4.out.base x3.out⟩
end Full
namespace Full
open Go.RowKit aA Varint
theorem DY:∀{l aJ:List Nat},kL aJ l=true->l.Nodup/\∀i∈l,i∉aJ/\32<=i/\i<65536
 | [],_,_=>⟨oM,λi M=>by cases M⟩
 |i ::r,aJ,h=>by
  unfold aA.kL at h;simp only[Bool.and_eq_true,Bool.not_eq_true',decide_eq_true_eq]at h;obtain⟨⟨⟨z,E⟩,F⟩,G⟩:=h;obtain⟨I,A⟩:=DY G
  have D:i∉aJ:=λo=>by
   rw[List.contains_iff_mem.2 o]at z;cases z
  refine⟨oL.2 ⟨λo=>(A i o).1 (by simp),I⟩,λj y=>?_⟩;rcases List.mem_cons.1 y with rfl|y
  ·exact⟨D,E,F⟩
  ·obtain⟨J,L⟩:=A j y;exact⟨λo=>J (by simp[o]),L⟩
structure N7(next:Nat)(f:af):Prop where
 n1:1<=f.name.length
 n2:f.name.length<=32
 id:f.id<next
 many:many f.size=f.blocks.length
 blocks:∀i∈f.blocks,32<=i/\i<65536
structure zG(next:Nat)(prev:Option (List UInt8))(ids aJ:List Nat)(fs:List af):Prop where
 rise:rises fs
 prev:∀p,prev=some p->∀f∈fs,p<f.name
 each:∀f∈fs,N7 next f
 ids: (fs.map af.id).Nodup/\∀f∈fs,f.id∉ids
 aJ: (aI fs).Nodup/\∀i∈aI fs,i∉aJ
theorem N8{f:af}{next:Nat}(h:sw f next=true):1<=f.name.length/\f.name.length<=32/\f.id<next/\aA.many f.size=f.blocks.length:=by
 unfold aA.sw at h;simp only[Bool.and_eq_true,decide_eq_true_eq]at h;exact⟨h.1.1.1,h.1.1.2,h.1.2,h.2⟩
theorem DZ{next:Nat}:∀{fs:List af} {prev:Option (List UInt8)} {ids aJ:List Nat},lF next prev ids aJ fs=true->zG next prev ids aJ fs
 | [],_,_,_,_=>⟨List.Pairwise.nil,λ_ _ f A=>(by cases A),λf A=>(by cases A),⟨oM,λf A=>(by cases A)⟩,⟨oM,λf A=>(by cases A)⟩⟩
 |f ::r,prev,ids,aJ,h=>by
  unfold aA.lF aA.iO at h;simp only[Bool.and_eq_true,Bool.not_eq_true']at h;obtain⟨⟨O,⟨P,F⟩,S⟩,T⟩:=h;have y:=DZ T;obtain⟨J,L,g3,M⟩:=N8 P;obtain⟨I,E⟩:=DY S
  have R:f.id∉ids:=λD=>by
   rw[List.contains_iff_mem.2 D]at F;cases F
  refine⟨eF.2 ⟨λx o=>y.prev f.name rfl x o,y.rise⟩,?_,?_,⟨?_,?_⟩,⟨?_,?_⟩⟩
  ·rintro p rfl x o;have G:p<f.name:=by simpa using O
   rcases List.mem_cons.1 o with rfl|o
   ·exact G
   ·exact mD G (y.prev f.name rfl x o)
  ·intro x o;rcases List.mem_cons.1 o with rfl|o
   ·exact⟨J,L,g3,M,λi z=>(E i z).2⟩
   ·exact y.each x o
  ·rw[List.map_cons];refine oL.2 ⟨λD=>?_,y.ids.1⟩;obtain⟨x,o,e⟩:=List.mem_map.1 D;exact y.ids.2 x o (by rw[e];simp)
  ·intro x o;rcases List.mem_cons.1 o with rfl|o
   ·exact R
   ·exact λD=>y.ids.2 x o (by simp[D])
  ·have e:aI (f ::r)=f.blocks++aI r:=by unfold aI;rw[jC]
   rw[e];refine List.nodup_append.2 ⟨I,y.aJ.1,λa ha b hb=>?_⟩;rintro rfl;exact y.aJ.2 a hb (by simp[ha])
  ·intro i z;have e:aI (f ::r)=f.blocks++aI r:=by unfold aI;rw[jC]
   rw[e]at z;rcases List.mem_append.1 z with z|z
   ·exact(E i z).1
   ·exact λD=>y.aJ.2 i z (by simp[D])
variable {ver n:Nat}{fs:List af}{C:Store.au}
theorem Ea{next:Nat}(h:dw ver next fs=true):zG next none [] [] fs/\(aI fs).length+fs.length<=2035:=by
 have o:=vE h;unfold aA.dw at h;rw[Bool.and_eq_true]at h;refine⟨DZ h.1,?_⟩;have y:=yH fs;unfold aA.bN at o;simp only[jL]at o
 omega
structure dO(n ver next:Nat)(fs:List af):Prop where
 may:dw ver next fs=true
 ver:ver<18446744073709551616
 next:next<4294967296
 pG:∀f∈fs,∀i∈f.blocks,i<n
theorem zH{k:Nat}(h:aA.many n=k):n<=k*112:=by
 unfold aA.many at h
 split at h <;> omega
theorem dO.ok{next:Nat}(h:dO n ver next fs):zG next none [] [] fs:=(Ea h.may).1
theorem dO.few{next:Nat}(h:dO n ver next fs): (aI fs).length+fs.length<=2035:=(Ea h.may).2
theorem dO.fit{next:Nat}(h:dO n ver next fs)(f:af)(z:f∈fs):f.name.length<=32/\f.fits/\∀i∈f.blocks,i<65536:=by
 have o:=h.ok.each f z;have A:=zH o.many;have D:=vZ z;have E:=h.few;have F:=h.next;have G:=o.id;exact⟨o.n2,⟨by omega,by omega,λi y=>by have:=(o.blocks i y).2;omega⟩,λi y=>(o.blocks i y).2⟩
theorem dO.size{n ver next:Nat}{fs:List af}(h:dO n ver next fs)(f:af)(o:f∈fs):f.size<=227920/\f.blocks.length<=2035:=by
 have y:=h.ok.each f o;have z:=zH y.many;have A:=vZ o;have D:=h.few
 omega
theorem N9(n:Nat):dO n 0 0 []:=⟨by
 have e:aT 0= [UInt8.ofNat 0]:=qM (by decide);unfold aA.dw aA.bN;rw[List.length_nil,List.flatMap_nil,e]
 rfl,by decide,by decide,λf h=>by cases h⟩
def jI(C:Store.au)(ss:List (List UInt8))(n ver next:Nat)(fs:List af):Option (Nat×List af):=
 if ver=18446744073709551615 then none else
 match dN C ss (kS C n next fs)with
 |none=>none
 |some p=>if dw (ver+1) p.next p.fs=true then some (p.next,p.fs)else none
structure Keys(C:Store.au)(ss:List (List UInt8)):Prop where
 rise:ss.Pairwise (·< ·)
 mem:∀nm,nm∈ss↔C nm≠none
theorem Eb:∀{a b:List (List UInt8)},a.Pairwise (·< ·)->b.Pairwise (·< ·)->(∀x,x∈a↔x∈b)->a=b
 | [],[],_,_,_=>rfl
 | [],y ::s,_,_,h=>by have:=(h y).2 (by simp);cases this
 |x ::r,[],_,_,h=>by have:=(h x).1 (by simp);cases this
 |x ::r,y ::s,ha,hb,h=>by
  obtain⟨D,F⟩:=eF.1 ha;obtain⟨E,G⟩:=eF.1 hb
  have I:x=y:=by
   rcases List.mem_cons.1 ((h x).1 (by simp))with e|e
   ·exact e
   ·rcases List.mem_cons.1 ((h y).2 (by simp))with A|A
    ·exact A.symm
    ·exact absurd (mD (E x e) (D y A)) (List.lt_irrefl y)
  subst I;rw[Eb F G (λz=>⟨λo=>?_,λo=>?_⟩)]
  ·rcases List.mem_cons.1 ((h z).1 (by simp[o]))with e|e
   ·exact absurd (D z o) (by rw[e];exact List.lt_irrefl x)
   ·exact e
  ·rcases List.mem_cons.1 ((h z).2 (by simp[o]))with e|e
   ·exact absurd (E z o) (by rw[e];exact List.lt_irrefl x)
   ·exact e
theorem Keys.same{a b:List (List UInt8)}(ha:Keys C a)(hb:Keys C b):a=b:=Eb ha.rise hb.rise (λx=>(ha.mem x).trans (hb.mem x).symm)
theorem zI{ss:List (List UInt8)}{next nx:Nat}{fs':List af}(h:dO n ver next fs)(P:n<=65536)(X:∀nm b,C nm=some (some b)->b.length<=1048576)(hK:Keys C ss)(hs:∀nm∈ss,nm.length<=32)(z:jI C ss n ver next fs=some (nx,fs')):dO n (ver+1) nx fs'/\∀f∈fs',C f.name=none\/∃b,C f.name=some (some b)/\mU n b f:=by
 unfold jI at z
 by_cases T:ver=18446744073709551615
 ·rw[if_pos T]at z;cases z
 ·rw[if_neg T]at z;cases hF:dN C ss (kS C n next fs)with
  |none=>rw[hF]at z;cases z
  |some p=>
   rw[hF]at z;dsimp only at z
   by_cases J:dw (ver+1) p.next p.fs=true
   ·rw[if_pos J]at z;have z:=Option.some.inj z;have U:p.next=nx:=congrArg Prod.fst z;have V:p.fs=fs':=congrArg Prod.snd z;subst U V;have R:=DL ss (DN (C:=C) (n:=n) (next:=next) (fs:=fs)).1 (DN).2 hF;have h6:=h.ver
    have h3:∀(l:List (List UInt8)) (done:List (List UInt8)) (q q':PL),mR C n 2100 70000 done q->(done++l).Pairwise (·< ·)->(∀nm∈l,C nm≠none/\nm.length<=32)->dN C l q=some q'->mR C n 2100 70000 (done++l) q':=by
     intro l
     induction l with
     |nil=>
      intro done q q' hq _ _ o;have o:some q=some q':=o;cases o;rw[List.append_nil];exact hq
     |cons x r L=>
      intro done q q' hq S hl o;unfold dN at o;rw[List.foldl_cons]at o
      cases y:dx C x q with
      |none=>
       rw[show(some q:Option PL).bind (dx C x)=none from y,pF]at o;cases o
      |some E=>
       rw[show(some q:Option PL).bind (dx C x)=some E from y]at o
       have h4:x∉done:=λh0=>by
        have:=(gM.1 S).2.2 x h0 x (by simp);exact List.lt_irrefl x this
       have G:=hq.step P h4 (hl x (by simp)).1 (hl x (by simp)).2 (X x) y;have F:=L (done++ [x]) E q' G (by rw[List.append_assoc];exact S) (λnm D=>hl nm (by simp[D])) o;rw[List.append_assoc]at F;exact F
    have hl:∀f∈fs,f.name.length<=32/\f.fits/\∀i∈f.blocks,i<65536:=h.fit;have h5:=h.few;have Y:=h3 ss [] _ p (DK P h.next h.ok.rise hl (by omega) (by omega)) (by simpa using hK.rise) (λnm D=>⟨(hK.mem nm).1 D,hs nm D⟩) hF;refine⟨⟨J,by omega,Y.next,λf A i M=>?_⟩,R⟩;rcases R f A with G|⟨b,_,F⟩
    ·
     have Z:∀(l:List (List UInt8)) (q q':PL),(∀f∈q.fs,C f.name=none->f∈fs)->(∀nm∈l,C nm≠none)->dN C l q=some q'->∀f∈q'.fs,C f.name=none->f∈fs:=by
      intro l
      induction l with
      |nil=>
       intro q q' hq _ o;have o:some q=some q':=o;cases o;exact hq
      |cons x r L=>
       intro q q' hq O o;unfold dN at o;rw[List.foldl_cons]at o
       cases y:dx C x q with
       |none=>
        rw[show(some q:Option PL).bind (dx C x)=none from y,pF]at o;cases o
       |some E=>
        rw[show(some q:Option PL).bind (dx C x)=some E from y]at o;refine L E q' (λf A I=>?_) (λnm D=>O nm (by simp[D])) o;unfold dx at y
        split at y
        ·split at y
         ·cases y
         ·have y:=Option.some.inj y;subst y;rcases mQ.1 A with rfl|A
          ·exact absurd I (O x (by simp))
          ·exact hq f A I
        ·have y:=Option.some.inj y;subst y;exact hq f A I
     have:=Z ss _ p (λf A _=>(iA.1 A).1) (λnm D=>(hK.mem nm).1 D) hF f A G;exact h.pG f this i M
    ·exact F.pG i M
   ·rw[if_neg J]at z;cases z
end Full
namespace Mem
open Go.RowKit Go.Deep Go.MapKept Go.ChangeMaps
open Go.Maps (Keyed)
variable {w:World}{k t e:TypeId}{b:Nat}{f:Lit->Option Value}
theorem aY.count(h:aY w k b f)(K:Keyed prog k)(I:prog.underlying t=some (.map k e)):∃n:Nat,(∀o,(Builtin.len_ #[t] o #[.map (some b)]).run prog w=.ok (.int .i64 (n:Int)) w)/\(n=0↔∀x,f x=none):=by
 obtain⟨D,n,h,hd⟩:=h;refine⟨Maps.size D,λo=>h.len I o,?_⟩;obtain⟨A,rfl,J,F⟩:=h.entries K
 cases A with
 |nil=>
  refine⟨λ_ x=>?_,λ_=>rfl⟩;have y:=(hd x).1
  cases hf:f x with
  |none=>rfl
  |some v=>rw[hf]at y;cases y
 |cons p r=>
  refine⟨λE=>?_,λG=>?_⟩
  ·simp[Maps.size]at E
  ·have z:Maps.has (.map (p ::r)) p.1=true:=jm.2 ⟨p,by simp,WideAt.sameKey_self (F p (by simp))⟩;rw[(hd p.1).1,G p.1]at z;cases z
theorem aY.clear(h:aY w k b f)(y:prog.underlying t=some (.map k e))(z:TypeId):∃w',(Builtin.clear_ #[t] z #[.map (some b)]).run prog w=.ok (.tuple #[]) w'/\aY w' k b (λ_=>none)/\w.grownBy w' (some b)/\w'.heap.size=w.heap.size:=by
 obtain⟨D,n,⟨A,clock,hb,hF,_⟩,hd⟩:=h;refine⟨setBlock w b (.map #[] clock),by simp[Builtin.clear_,run_underlying y,MapKept.run_getObj_map hb,MapKept.run_setObj_map _ hb,Result.andThen,setBlock],?_,?_,?_⟩
 ·exact⟨.map [],0,⟨#[],clock,heap_setBlock_same hb _,⟨by simp,stamped_empty clock,by simp⟩,aj _,rfl⟩,zJ⟩
 ·exact⟨rfl,rfl,rfl,by simp[setBlock],λi _ o=>heap_setBlock_other hb _ (λe=>o (by rw[e]))⟩
 ·simp[setBlock]
end Mem
namespace Full
open Go.RowKit Go.Deep Mem Crc Go.Maps Dk aA
open Store (au fV bT none' nv iQ bU kV)
variable {w:World}{Q:Nat->Prop}{s d g cm:Nat}{wv:Value}{m:DM}{ver next:Nat}{a:Option Addr}{c:Nat}{l:List FR}{bad:Bool}{C:au}
theorem Fu.count(h:Fu w Q s d g cm wv m ver next a c l bad C):∃n:Nat,(∀I,(Builtin.len_ #[117] I #[.map (some cm)]).run prog w=.ok (.int .i64 (n:Int)) w)/\(n=0↔∀nm,C nm=none):=by
 obtain⟨f,G,F,z⟩:=h.map;obtain⟨n,D,E⟩:=G.count bU underlying117;refine⟨n,D,E.trans ⟨λo nm=>?_,λo x=>?_⟩⟩
 ·have:=z nm;unfold bT at this
  cases hc:C nm with
  |none=>rfl
  |some y=>
   rw[hc]at this;obtain⟨v,A,_⟩:=this;rw[o]at A;cases A
 ·cases hfx:f x with
  |none=>rfl
  |some v=>
   obtain⟨nm,rfl⟩:=F x (by rw[hfx];exact λh=>by cases h);have:=z nm;unfold bT at this;rw[o nm]at this;rw[hfx]at this;cases this
theorem Fu.zK(h:Fu w Q s d g cm wv m ver next a c l bad C){b:Nat}{t:TypeId}{o:Array Value}(hb:Blk w b t o):b≠cm:=λe=>by
 obtain⟨f,⟨D,n,⟨A,z,y,_⟩,_⟩,_⟩:=h.map;unfold Blk at hb;rw[e,y]at hb;cases hb
theorem Fu.clear(h:Fu w Q s d g cm wv m ver next a c l bad C):∃w',(∀F,(Builtin.clear_ #[117] F #[.map (some cm)]).run prog w=.ok (.tuple #[]) w')/\Fu w' Q s d g cm wv m ver next a c l bad none'/\w'.heap.size=w.heap.size/\Only [cm] w w':=by
 obtain⟨f,P,A,T⟩:=h.map;obtain⟨D,n,⟨G,clock,hb,hF,_⟩,hd⟩:=P;have R:aY w 9 cm f:=⟨D,n,⟨G,clock,hb,hF,by assumption⟩,hd⟩;obtain⟨w',I,J,L,z⟩:=R.clear underlying117 0;have y:Only [cm] w w':=Only.of_grown L (λg O=>by cases O;exact .inl (by simp));have o:∀k,k<w.heap.size->k≠cm->w'.heap[k]? =w.heap[k]?:=λk A S=>y.block k A (by simpa using S)
 have M:=h.away;refine⟨w',λF=>I,⟨(o s h.store.lt (h.zK h.store)).trans h.store,h.disk.keep y.size (λk hq=>o k (h.disk.lt k hq) (λe=>M.2 (e▸hq))),h.files.keep y.size (λk e=>o k (h.lt k (h.fr k e).1) (h.fr k e).2.1) (λx E k e=>o k (h.lt k (h.br x E k e).1) (h.br x E k e).2.1),h.fr,h.br,⟨_,J,λx h=>absurd rfl h,λnm=>rfl⟩,h.qs,h.qm,h.qd,λk hq=>by rw[z];exact h.lt k hq⟩,z,y⟩
variable {w':World}
theorem Fu.wrote{wv':Value}{I:DM}(h:Fu w Q s d g cm wv m ver next a c l bad C)(y:WS w d g wv I wv' w'):Fu w' (λk=>Q k\/(w.heap.size<=k/\k<w'.heap.size)) s d g cm wv' I ver next a c l bad C:=by
 have G:=h.away;have D:∀k,Own Q s d g cm wv k->w'.heap[k]? =w.heap[k]?:=λk o=>y.upon.block k (h.lt k o.1) o.2.2.2
 have E:∀k,Own Q s d g cm wv k->Own (λk=>Q k\/(w.heap.size<=k/\k<w'.heap.size)) s d g cm wv' k:=λk o=>⟨.inl o.1,o.2.1,o.2.2.1,λe=>by
  rcases e with e|e|e
  ·exact o.2.2.2 (.inl e)
  ·exact o.2.2.2 (.inr (.inl e))
  ·rcases y.own k e with z|z
   ·exact o.2.2.2 (.inr (.inr z))
   ·have:=h.lt k o.1;omega⟩
 obtain⟨f,z,J,L⟩:=h.map;refine⟨(y.upon.block s h.store.lt G.1).trans h.store,y.disk,h.files.keep y.upon.size (λk e=>D k (h.fr k e)) (λx F k e=>D k (h.br x F k e)),λk e=>E k (h.fr k e),λx F k e=>E k (h.br x F k e),⟨f,z.keep (y.upon.block cm (h.lt cm h.qm) G.2),J,λnm=>(L nm).keep y.upon.size D E⟩,.inl h.qs,.inl h.qm,λk o=>?_,λk o=>?_⟩
 ·rcases o with e|e|e
  ·exact .inl (h.qd k (.inl e))
  ·exact .inl (h.qd k (.inr (.inl e)))
  ·rcases y.own k e with A|A
   ·exact .inl (h.qd k (.inr (.inr A)))
   ·exact .inr ⟨A,y.disk.lt k (.inr (.inr e))⟩
 ·rcases o with o|o
  ·exact aD (h.lt k o) y.upon.size
  ·exact o.2
theorem Fu.set{pI next':Nat}{a':Option Addr}{c':Nat}{l':List FR}{bad':Bool}{Q':Nat->Prop}(h:Fu w Q s d g cm wv m ver next a c l bad C)(z:∀k,Q k->Q' k)(L:w'.heap.size=w.heap.size)(G:∀k,Q' k->k<w.heap.size)(y:∀k,k≠s->w'.heap[k]? =w.heap[k]?)(hb:Blk w' s 119 #[.pointer (some ⟨d,0,none⟩),.int .u64 (pI:Int),.int .u32 (next':Int),.slice a' l'.length c',.map (some cm),.bool bad'])(hF:bV w a' l')(ha:∀k,Mem.blk a'=some k->Own Q' s d g cm wv k)(A:∀x∈l',∀k,Mem.blk x.a=some k->Own Q' s d g cm wv k):Fu w' Q' s d g cm wv m pI next' a' c' l' bad' C:=by
 have I:=h.away;have J:∀k,Own Q s d g cm wv k->Own Q' s d g cm wv k:=λk o=>⟨z k o.1,o.2⟩
 obtain⟨f,D,E,F⟩:=h.map;exact⟨hb,h.disk.keep (by omega) (λk o=>y k (λe=>I.1 (e▸o))),hF.keep (by omega) (λk e=>y k (ha k e).2.2.1) (λx M k e=>y k (A x M k e).2.2.1),ha,A,⟨f,D.keep (y cm (gL (h.zK h.store))),E,λnm=>(F nm).keep (by omega) (λk o=>y k o.2.2.1) J⟩,z s h.qs,z cm h.qm,λk o=>z k (h.qd k o),λk o=>by rw[L];exact G k o⟩
open Ext (Tab)
def Oa(w:World)(l:List FR)(ver:Nat)(o:Option (Nat×List af))(e:Ending)(w':World):Prop:=
 match o with
 |none=>∃(x y:Int) (a0:Option Addr) (k0 c0:Nat),e=.returned (.tuple #[.agg #[.int .u64 x,.int .u32 y,.slice a0 k0 c0],.bool false])
 |some p=>∃a' c' l',e=.returned (.tuple #[.agg #[.int .u64 ((ver+1:Nat):Int),.int .u32 (p.1:Int),.slice a' (l':List FR).length c'],.bool true])/\l'.map FR.f=p.2/\bV w' a' l'/\(∀b,Mem.blk a'=some b->w.heap.size<=b/\b<w'.heap.size)/\∀x∈l',x∈l\/∀b,Mem.blk x.a=some b->w.heap.size<=b/\b<w'.heap.size
variable {ss:List (List UInt8)}
theorem Ob(h:Fu w Q s d g cm wv m ver next a c l bad C)(T:Tab w)(L:List (List UInt8))(P:∀x,C x≠none->x∈L)(R:L.length<=9000)(S:∀x∈L,x.length<=32)(O:∀nm b,C nm=some (some b)->b.length<=1048576)(o:dO m.bl.length ver next (l.map FR.f))(hK:Keys C ss):
  Calls prog 57 #[.pointer (some ⟨s,0,none⟩)] w λe w'=>Below w.heap.size w w'/\Oa w l ver (jI C ss m.bl.length ver next (l.map FR.f)) e w':=by
 have X:=o.few;rw[jP]at X;refine(NW h T L P R S O o.ver o.next o.ok.rise (λx hx=>o.fit x.f (List.mem_map.2 ⟨x,hx,rfl⟩)) (by omega) (by omega)).mono ?_;rintro e w' ⟨mv,room,rfl,⟨x,y,a0,F,z,rfl⟩,M,E⟩;refine⟨M,?_⟩;rcases E with⟨rfl,G⟩|⟨G,ss',I,J,E⟩
 ·unfold jI;rw[if_pos G];exact⟨x,y,a0,F,z,rfl⟩
 ·obtain rfl:ss'=ss:=Keys.same ⟨I,J⟩ hK;unfold jI;rw[if_neg (by omega)];rcases E with⟨rfl,Z|⟨p,D,A⟩⟩|⟨rfl,p,a',c',l',D,A,U,V,hF,Y,hb⟩
  ·rw[Z];exact⟨x,y,a0,F,z,rfl⟩
  ·rw[D];dsimp only;rw[if_neg (by rw[A];decide)];exact⟨x,y,a0,F,z,rfl⟩
  ·rw[D];dsimp only;rw[if_pos A];exact⟨a',c',l',by rw[U],V,hF,Y,hb⟩
theorem tK(h:Fu w Q s d g cm wv m ver next a c l bad C)(hb: (bad||m.off)=false):Calls prog 56 #[.pointer (some ⟨s,0,none⟩)] w λe w'=>e=.returned (.bool false)/\w'=w:=by
 have:=lK h
 rwa [hb]at this
theorem Oc(h:Fu w Q s d g cm wv m ver next a c l bad C)(hb: (bad||m.off)=false)(z:∀nm,C nm=none):Calls prog 22 #[.pointer (some ⟨s,0,none⟩)] w λe w'=>e=.returned (.int .i64 0)/\w'=w:=by
 have y:=jq (tK h hb);obtain⟨n,D,o⟩:=h.count;obtain rfl:n=0:=o.2 z;obtain⟨_,_,_,_,A,_⟩:=h.cells;clear h hb o
 go_enter func22,ntmps22
 go_wp2_with fail
 refine y.out.mono ?_;rintro e w1 ⟨rfl,rfl⟩
 go_wp2_with fail
 go_ret
 exact⟨rfl,rfl⟩
def Od(w:World)(Q:Nat->Prop)(s d g cm:Nat)(m:DM)(ver next:Nat)(a:Option Addr)(c:Nat)(l:List FR)(C:au)(o:Option (Nat×List af))(e:Ending)(w':World):Prop:=
 match o with
 |none=>e=.returned (.int .i64 7)/\Below w.heap.size w w'
 |some p=>e=.returned (.int .i64 (di m C p.2 (ver+1) (bI (ver+1) p.1 p.2)).2)/\Upon Q w w'/\∃Q' wv',(∀k,Q' k->Q k\/w.heap.size<=k)/\
  if(di m C p.2 (ver+1) (bI (ver+1) p.1 p.2)).2=0 then∃a' c' l',l'.map FR.f=p.2/\Fu w' Q' s d g cm wv' (di m C p.2 (ver+1) (bI (ver+1) p.1 p.2)).1 (ver+1) p.1 a' c' l' false none' else Fu w' Q' s d g cm wv' (di m C p.2 (ver+1) (bI (ver+1) p.1 p.2)).1 ver next a c l true C
attribute [local go_sem] Oper.semAt_some
theorem Oe(h:Fu w Q s d g cm wv m ver next a c l false C)(hT:Tab w)(L:List (List UInt8))(hL:∀x,C x≠none->x∈L)(b8:L.length<=9000)(x4:∀x∈L,x.length<=32)(h9:∀nm b,C nm=some (some b)->b.length<=1048576)(x8:dO m.bl.length ver next (l.map FR.f))(hK:Keys C ss)(z7:m.off=false)(c6:m.wt.length<=100000)(b7:33<=m.bl.length)(z5:¬∀nm,C nm=none):
  Calls prog 22 #[.pointer (some ⟨s,0,none⟩)] w (Od w Q s d g cm m ver next a c l C (jI C ss m.bl.length ver next (l.map FR.f))):=by
 have HD:=jq (tK h (by rw[z7];rfl));obtain⟨n,d0,z4⟩:=h.count
 have d1: ((n:Int)==0)=false:=by
  have:n≠0:=λe=>z5 (z4.1 e)
  simp
  omega
 obtain⟨_,_,_,_,c4,_⟩:=h.cells;have HP:=jq (Ob h hT L hL b8 x4 h9 x8 hK);have c5:=h.disk.small;have z9:∀p,jI C ss m.bl.length ver next (l.map FR.f)=some p->dO m.bl.length (ver+1) p.1 p.2/\∀f∈p.2,C f.name=none\/∃b,C f.name=some (some b)/\mU m.bl.length b f:=λp hp=>zI x8 c5 h9 hK (λnm c2=>x4 nm (hL nm ((hK.mem nm).1 c2))) hp
 have h6:=jq z9;have H:=jq h;have a7:=jq h9;clear h z4 x8 hK hT hL x4 h9 z5 z9;obtain⟨o,ho⟩:=jl (jI C ss m.bl.length ver next (l.map FR.f));rw[<-ho]at HP h6⊢;clear ho
 go_enter func22,ntmps22
 go_wp2_with fail
 refine HD.out.mono ?_;rintro e w1 ⟨rfl,rfl⟩
 go_wp2_with fail
 refine HP.out.mono ?_;rintro e w2 ⟨Y,z8⟩
 cases o with
 |none=>
  obtain⟨x,y,a0,k0,c0,rfl⟩:=z8;have y4:=jq Y;clear Y HP h6
  go_wp2_with fail
  go_ret
  exact⟨rfl,y4.out.alloc y4.out.size _⟩
 |some p=>
  obtain⟨a',c',l',rfl,hf,hF,hg,hb⟩:=z8;obtain⟨S,x6⟩:=h6.out p rfl;obtain⟨nx,fs⟩:=p;dsimp only at hf S x6⊢;have c7:=Y.size;have hlt:=H.out.disk.lt;obtain⟨W3,J⟩:=jl (w2.alloc (.cells #[.int .u64 ((ver+1:Nat):Int),.int .u32 (nx:Int),.slice a' l'.length c'] 108));obtain⟨b3,h0⟩:=jl w2.heap.size;have x2:Below w1.heap.size w1 W3:=by rw[J];exact Y.alloc c7 _
  have h2:Blk W3 b3 108 #[.int .u64 ((ver+1:Nat):Int),.int .u32 (nx:Int),.slice a' l'.length c']:=by rw[J,h0];exact Blk.new w2 _ _
  have h3:=H.out.later x2;have x3:bV W3 a' l':=by rw[J];exact hF.later ((Below.refl _ w2).alloc jn _)
  have d2:W3.heap.size=w2.heap.size+1:=by rw[J];simp
  subst hf;have z3:=S.few;rw[jP]at z3
  have y9:=NZ h3 z7 c6 b7 (ver+1) nx a' c' l' x3 (λk e z=>by have:=(hg k e).1;have:=hlt k z;omega) (λx D k e z=>by
   rcases hb x D with A|A
   ·exact(H.out.br x A k e).2.2.2 z
   ·have:=(A k e).1;have:=hlt k z;omega) (λx D k e=>by
   rcases hb x D with A|A
   ·have:=H.out.lt k (H.out.br x A k e).1;omega
   ·have:=(A k e).2;omega) (λx D=>x6 x.f (List.mem_map.2 ⟨x,D,rfl⟩)) (λx D=>by
   have:=S.fit x.f (List.mem_map.2 ⟨x,D,rfl⟩);exact⟨this.1,this.2.1⟩) (by omega) (by omega) a7.out S.ver S.next S.may
  have m0:=h2.cell 0;have m1:=h2.cell 1;have m2:=h2.cell 2
  simp at m0 m1 m2
  have h8:=jq y9;have H3:=jq h3;have x1:=jq h2;have a6:=jq x2;have a8:=jq x3;have HG:=jq hg;have HB:=jq hb;obtain⟨N,Z⟩:=jl l'.length;rw[<-Z]at h8 x1 m2;rw[<-Z];clear y9 h3 h2 x2 x3 hg hb x6 S z3 h6 HP hF Y;rw[<-Z]at J;rw[h0]at m0 m1 m2;rw[J]at m0 m1 m2;have HN:=jq Z;clear Z
  go_wp2_with fail
  rw[J]at h8;refine h8.out.mono ?_;rw[<-J,<-h0];rintro e w4 ⟨rfl,wv',F⟩;have U:s<W3.heap.size:=H3.out.store.lt;have T:=H3.out.away.1;have c1:¬Has d g wv b3:=λz=>by have:=hlt b3 z;omega
  have hcell:=H3.out.cells;have k0:=(F.cell (p:=⟨s,0,none⟩) U T).trans hcell.1;have k1:=(F.cell (p:=⟨s,1,none⟩) U T).trans hcell.2.1;have k2:=(F.cell (p:=⟨s,2,none⟩) U T).trans hcell.2.2.1;have k3:=(F.cell (p:=⟨s,3,none⟩) U T).trans hcell.2.2.2.1;have k4:=(F.cell (p:=⟨s,4,none⟩) U T).trans hcell.2.2.2.2.1;have k5:=(F.cell (p:=⟨s,5,none⟩) U T).trans hcell.2.2.2.2.2;have z0:=(F.upon.block s U T);have x0:=x1.out.upon F.upon c1;have b0:=x0.cell 0;have b1:=x0.cell 1;have b2:=x0.cell 2
  simp at b0 b1 b2
  have x5:=H3.out.wrote F;have G:=x5.store;have y1:=G.frozen 1;have y2:=G.frozen 2;have y3:=G.frozen 3;have y5:=G.frozen 5;have V:=jq F;have I:=jq x5;obtain⟨M,hM⟩:=jl ((di m C (l'.map FR.f) (ver+1) (bI (ver+1) nx (l'.map FR.f))).1);obtain⟨E,hE⟩:=jl ((di m C (l'.map FR.f) (ver+1) (bI (ver+1) nx (l'.map FR.f))).2);rw[<-hM]at V I;rw[<-hE];have HM:=jq hM;have HE:=jq hE;have c8:=jq h0;clear F x5 G x0 z0 hM hE h8 hcell J m0 m1 m2 x1 h0;have d3:W3.heap.size<=w4.heap.size:=V.out.upon.size;have a1:∀k,(Q k\/(w1.heap.size<=k/\k<w4.heap.size))->k<w4.heap.size:=λk z=>z.elim (λh=>by have:=H.out.lt k h;omega) (λh=>h.2)
  have a2:∀k,(Q k\/(W3.heap.size<=k/\k<w4.heap.size))->Q k\/(w1.heap.size<=k/\k<w4.heap.size):=λk z=>z.imp id (λh=>⟨by omega,h.2⟩)
  have y6:=jq a1;have h7:=jq a2;clear a1 a2;have y0:Upon Q w1 w4:=(Upon.of_below (P:=Q) a6.out).trans (V.out.upon.mono (λk z=>H.out.qd k z)) (λk z=>.inl z);have y7:=jq y0;have G:=I.out.store
  by_cases hz:E=0
  ·subst hz;obtain⟨W5,O⟩:=jl (((w4.setCell ⟨s,1,none⟩ (.int .u64 ((ver:Int)+1))).setCell ⟨s,2,none⟩ (.int .u32 (nx:Int))).setCell ⟨s,3,none⟩ (.slice a' N c'));have a3:W5.heap.size=w4.heap.size:=by rw[O];simp[World.setCell]
   have x7:∀k,k≠s->W5.heap[k]? =w4.heap[k]?:=λk z=>by
    rw[O];exact(Below.heap_setCell _ _ _ k z).trans ((Below.heap_setCell _ _ _ k z).trans (Below.heap_setCell _ _ _ k z))
   have z1:Blk W5 s 119 #[.pointer (some ⟨d,0,none⟩),.int .u64 ((ver+1:Nat):Int),.int .u32 (nx:Int),.slice a' l'.length c',.map (some cm),.bool false]:=by
    rw[O,<-HN.out];exact((G.set 1 (.int .u64 ((ver:Int)+1))).set 2 (.int .u32 (nx:Int))).set 3 (.slice a' N c')
   have x9:∀k,(w1.heap.size<=k/\k<w2.heap.size)->Own (λk=>Q k\/(w1.heap.size<=k/\k<w4.heap.size)) s d g cm wv' k:=λk z=>⟨.inr ⟨z.1,by omega⟩,λe=>by have:=H.out.lt cm H.out.qm;omega,λe=>by have:=H.out.lt s H.out.qs;omega,λe=>by
    rcases e with e|e|e
    ·have:=hlt k (.inl e);omega
    ·have:=hlt k (.inr (.inl e));omega
    ·rcases V.out.own k e with X|X
     ·have:=hlt k (.inr (.inr X));omega
     ·omega⟩
   have y8:bV w4 a' l':=V.out.files a8.out (λk e z=>by have:=HG.out k e;have:=hlt k z;omega) (λx D k e z=>by
    rcases HB.out x D with A|A
    ·exact(H.out.br x A k e).2.2.2 z
    ·have:=A k e;have:=hlt k z;omega)
   have h4:=I.out.set (w':=W5) (Q':=λk=>Q k\/(w1.heap.size<=k/\k<w4.heap.size)) h7.out a3 y6.out x7 z1 y8 (λk e=>x9 k (HG.out k e)) (λx D k e=>by
    rcases HB.out x D with A|A
    ·obtain⟨o1,o2,o3,o4⟩:=H.out.br x A k e;refine⟨.inl o1,o2,o3,λR=>?_⟩;rcases R with R|R|R
     ·exact o4 (.inl R)
     ·exact o4 (.inr (.inl R))
     ·rcases V.out.own k R with X|X
      ·exact o4 (.inr (.inr X))
      ·have:=H.out.lt k o1;omega
    ·exact x9 k (A k e))
   obtain⟨W6,b9,z2,c3,z6⟩:=h4.clear
   have a5:Upon Q w1 W6:=by
    refine Upon.trans (Q:=Q) (Upon.trans (Q:=Q) y7.out ⟨by rw[O];rfl,by rw[O];rfl,by rw[O];rfl,by omega,λk z hn=>x7 k (λe=>hn (e▸H.out.qs))⟩ (λk z=>.inl z)) (Upon.fB z6 (λk z=>.inl (by rw[jE.1 z];exact H.out.qm))) (λk z=>.inl z)
   have b4:=jq z2;have b6:=jq a5;rw[O]at b9;clear z2 a5 c3 z6 h4 y8 x9 z1 x7 a3 O G y0
   go_wp2_with fail
   go_ret
   refine⟨by rw[<-HE.out];rfl,b6.out,(λk=>Q k\/(w1.heap.size<=k/\k<w4.heap.size)),wv',λk z=>z.imp id And.left,?_⟩;rw[<-HE.out,if_pos rfl];rw[<-HM.out];exact⟨a',c',l',rfl,b4.out⟩
  ·have c9: (E==0)=false:=by simpa using hz
   have h4:=I.out.set (w':=w4.setCell ⟨s,5,none⟩ (.bool true)) (Q':=λk=>Q k\/(w1.heap.size<=k/\k<w4.heap.size)) (pI:=ver) (next':=next) (a':=a) (c':=c) (l':=l) (bad':=true) h7.out (by simp[World.setCell]) y6.out (λk z=>Below.heap_setCell _ _ _ k z) (G.set 5 (.bool true)) I.out.files (λk e=>⟨h7.out k (I.out.fr k e).1,(I.out.fr k e).2⟩) (λx D k e=>⟨h7.out k (I.out.br x D k e).1,(I.out.br x D k e).2⟩);have a4:Upon Q w1 (w4.setCell ⟨s,5,none⟩ (.bool true)):=y7.out.set (.inl H.out.qs) _;have a9:=jq h4;have b5:=jq a4;clear h4 a4 G y0
   go_wp2_with fail
   go_ret
   refine⟨by rw[<-HE.out];rfl,b5.out,(λk=>Q k\/(w1.heap.size<=k/\k<w4.heap.size)),wv',λk z=>z.imp id And.left,?_⟩;rw[<-HE.out,if_neg hz];rw[<-HM.out];exact a9.out
end Full
namespace Full
open Go.RowKit Go.Deep Mem Crc Go.Maps Dk aA
open kP (dh dX jw kW zL)
def pJ(bl:List (List UInt8))(id size:Nat):Nat->List UInt8->List Nat->List UInt8×Int
 |_,out,[]=>(out,0)
 |n,out,i ::r=>if jw (bl.getD i []) id n=0/\((dX (bl.getD i [])).length:Int)=min 112 ((size:Int)-out.length)then pJ bl id size (n+1) (out++dX (bl.getD i [])) r else([],5)
def pK(bl:List (List UInt8))(f:af):List UInt8×Int:=pJ bl f.id f.size 0 [] f.blocks
theorem Og(b:List UInt8):kW b<=112:=by unfold kP.kW;omega
theorem Oh{w:World}{d g s:Nat}{wv:Value}{m:DM}(hs:s<w.heap.size)(z9:w.cell? ⟨s,0,none⟩=some (.pointer (some ⟨d,0,none⟩)))(hd:Dk w d g wv m)(b9:m.off=false)(c3:m.wt= [])(sb:ByteArray)(f:af)(a:Option Addr)(c:Nat)(hid:f.id<4294967296)(c1:f.size<=90000000)(hL:Lies w a (f.blocks.map iv))(x4:∀i∈f.blocks,i<m.bl.length)(hn:f.blocks.length<=70000):
  Calls prog 151 #[.pointer (some ⟨s,0,none⟩),.agg #[.string sb,.int .u32 (f.id:Int),.int .i64 (f.size:Int),.slice a f.blocks.length c]] w λe w'=>∃v,e=.returned (.tuple #[v,.int .i64 (pK m.bl f).2])/\ak w' w.heap.size v (pK m.bl f).1/\Below w.heap.size w w':=by
 have c4:=hd.nil c3;subst c4;obtain⟨n,h3⟩:=jl f.blocks.length;obtain⟨id,x2⟩:=jl f.id;obtain⟨sz,x6⟩:=jl f.size;obtain⟨aJ,h8⟩:=jl f.blocks;obtain⟨res,x5⟩:=jl (pK m.bl f);have z8:pJ m.bl id sz 0 [] (aJ.drop 0)=res:=by rw[x5,x2,x6,h8];rfl
 rw[<-h3]at hn⊢;rw[<-x2]at hid⊢;rw[<-x6]at c1⊢;rw[<-h8]at hL x4 h3;rw[<-x5];clear x2 x6 h8 x5;obtain⟨W,M⟩:=jl (w.alloc (.cells #[.string sb,.int .u32 (id:Int),.int .i64 (sz:Int),.slice a n c] 113));obtain⟨bx,U⟩:=jl w.heap.size;have S:Below w.heap.size w W:=by rw[M];exact(Below.refl _ w).alloc jn _
 have h9:Blk W bx 113 #[.string sb,.int .u32 (id:Int),.int .i64 (sz:Int),.slice a n c]:=by rw[M,U];exact Blk.new w _ _
 have z0:W.heap.size=w.heap.size+1:=by rw[M];simp
 have z1:=hd.later S;have y6:=hL.later S;have x3:=h9.cell 3
 simp at x3
 have b3:=jq ((S.cell (p:=⟨s,0,none⟩) hs).trans z9);have b2:Hid (s<W.heap.size):=jq (by omega);have y1:=jq z1;have a7:=jq y6;have y0:=jq h9;have a5:=jq x4;have y2:=jq h3;have b0:=jq z8;have F:=jq S;have c7:=jq z0;have c5:=jq U;clear hd z9 hL x4 h3 z8 S z0 z1 y6 h9
 go_enter func151,ntmps151
 rw[U,M]at x3
 go_wp2_with fail
 rw[<-M,<-U];clear M x3 U
 go_loopw[6,15] (λo i wr=>∃(j:Nat) (v:Value) (out:List UInt8),j<=n/\i=.int .i64 j/\v=o/\out.length<=sz/\Hid (ak wr W.heap.size v out)/\Hid (Below W.heap.size W wr)/\Hid (pJ m.bl id sz j out (aJ.drop j)=res)) (λ_ i _=>n-(intOf i).toNat)
 case atStart=>exact⟨0,_,[],aC _,rfl,rfl,aC _,jq (World.ownsRow_nil _ _ _ _),jq (Below.refl _ _),b0⟩
 case round=>
  obtain⟨j,v,out,hj,rfl,rfl,c0,Z,y,Y⟩:=hrel
  by_cases hlt:j<n
  ·have b7:decide ((j:Int) <(n:Int))=true:=jd (by omega);obtain⟨i,V⟩:∃i,aJ[j]? =some i:=⟨aJ[j]'(by rw[<-y2.out];exact hlt),jg _⟩;have z5:=a5.out i (jM V);obtain⟨blk,h0⟩:∃b,m.bl[i]? =some b:=⟨m.bl[i],jg z5⟩;have y4:blk.length=128:=y1.out.len blk (jM h0);have z4:m.bl.getD i []=blk:=by rw[List.getD_eq_getElem?_getD,h0];rfl
   obtain⟨ga,oa,rfl,b6⟩:=iB (a7.out.later y.out) (k:=j) (u:=iv i) (by rw[List.getElem?_map,V];rfl);unfold iv at b6;have z2:=y1.out.later y.out;have y9:=CX i z2 b9 h0;have s0:=(y.out.cell (p:=⟨s,0,none⟩) b2.out).trans b3.out;have x0:=y0.out.below y.out y0.out.lt;have f3:=x0.cell 3
   simp at f3
   have a0:aJ.drop j=i ::aJ.drop (j+1):=by
    rw[uX (jS.1 V).1,(jS.1 V).2]
   have z:=Y.out;rw[a0]at z;unfold pJ at z;rw[z4]at z;have G:=jq z;have b1:=jq y9;have x8:=jq x0;have x7:=jq y4;have c9:IntKind.u32.wrap (j:Int)=(j:Int):=by rw[IntKind.wrap_u32];omega
   clear y9 x0 z a0 z4 h0 y4 z2 V z5
   go_wp2_with fail
   refine b1.out.mono ?_;rintro e w1 ⟨ab,rfl,y7,h5⟩;have h1:=x8.out.below h5 x8.out.lt;have f1:=h1.cell 1;have f2:=h1.cell 2
   simp at f1 f2
   have h6:=kP.tL id j hid (by omega) ab 128 blk w1 y7 x7.out jn;obtain⟨E,hE⟩:=jl (jw blk id j);rw[<-hE]at h6 G;have a4:=jq h6;have h4:=jq h5;have x9:=jq h1;clear h6 h5 h1 y7 hE
   go_wp2_with fail
   refine a4.out.mono ?_;rintro e w2 ⟨v2,rfl,L,J⟩;have h2:=x9.out.below J x9.out.lt;have b4:=h2.cell 2
   simp at b4
   have R:Below W.heap.size W w2:=(y.out.trans (h4.out.mono y.out.size)).trans (J.mono (ax y.out.size h4.out.size));have T:ak w2 W.heap.size v out:=own_later (own_later Z.out h4.out) J
   by_cases hz:E=0
   ·subst hz;rw[if_pos rfl]at L;obtain⟨pb,X⟩:=jl (dX blk);rw[<-X]at L G;obtain⟨a2,c2,rfl,b5,h7,z,_⟩:=own_shape L;obtain⟨oa,oc,rfl,b8,d3,d4,_⟩:=own_shape T;obtain⟨k,P⟩:=jl pb.length;obtain⟨q,hq⟩:=jl out.length;have d0:k<=112:=by rw[P,X,zL x7.out];exact Og _
    rw[<-P]at b5 G;rw[<-hq]at b8 c0 G;rw[<-P,<-hq];have y3:=jq T;have a6:=jq h7;have c6:=jq X;have HK:=jq P;have HQ:=jq hq;have I:=jq R
    by_cases O: (k:Int)=min 112 ((sz:Int)-(q:Int))
    ·have d1:min (112:Int) ((sz:Int)-(q:Int))=(k:Int):=O.symm;have x1:=G.out;rw[if_pos ⟨rfl,O⟩]at x1;have z6:q+k<=sz:=by omega
     have a3:=jq x1;obtain⟨v3,w3,z7,y8,z3⟩:=lQ w2 84 _ out y3.out a2 c2 pb a6.out (by rw[<-HQ.out,<-HK.out];omega) I.out.size;rw[<-HK.out,<-HQ.out]at z7;have y5:Below W.heap.size W w3:=I.out.grown z3 I.out.size (λg hg=>(y3.out.lt g hg).1);have a8:=jq y8;have a1:=jq y5;have a9:=jq z6;clear L h7 T R J h2 X P hq Y Z y O x1 y5 y8 z3 z6
     go_wp2_with (first|(at_builtin;refine Lib.wpList_append_run _ rfl _ _ _ _ rfl _ _ rfl rfl _ _ z7 ?_))
     exact⟨⟨j+1,_,out++pb,by omega,by simp,rfl,by rw[jL,<-HQ.out,<-HK.out];exact a9.out,a8,a1,a3⟩,by simp[intOf];omega⟩
    ·have d2: ((k:Int)==min (112:Int) ((sz:Int)-(q:Int)))=false:=by simpa using O
     have D:res=([],5):=by
      have:=G.out;rw[if_neg (λh=>O h.2)]at this;exact this.symm
     have A:=jq D;clear L h7 T R J h2 X P hq Y Z y O D
     go_wp2_with fail
     go_ret2
     refine⟨_,by rw[A.out];rfl,?_,F.out.trans (I.out.mono F.out.size)⟩;rw[A.out];exact World.ownsRow_nil _ _ _ _
   ·have c8: (E==0)=false:=by simpa using hz
    have D:res=([],5):=by
     have:=G.out;rw[if_neg (λh=>hz h.1)]at this;exact this.symm
    have A:=jq D;have I:=jq R;clear L J h2 T R D
    go_wp2_with fail
    go_ret2
    refine⟨_,by rw[A.out];rfl,?_,F.out.trans (I.out.mono F.out.size)⟩;rw[A.out];exact World.ownsRow_nil _ _ _ _
  ·obtain rfl:j=n:=by omega
   have b7:decide ((j:Int) <(j:Int))=false:=jf (by omega);have z:=Y.out;rw[rQ (by rw[<-y2.out];exact aj _)]at z;have D:res=(out,0):=z.symm;have A:=jq D;clear z D
   go_wp2_with fail
   go_ret2
   refine⟨_,by rw[A.out];rfl,?_,F.out.trans (y.out.mono F.out.size)⟩;rw[A.out];exact bH Z.out F.out.size
end Full
namespace Full
open Go.RowKit Go.Deep Mem Crc Go.Maps Dk aA
open Store (nv)
theorem cmp_eq{b c:List UInt8}{o sc:ByteArray}(hb:sv b=.string o)(hc:sv c=.string sc):cZ o sc=0↔b=c:=by
 have E:=wh hb hc;have J:=wh hc hb;have A:o=⟨b.toArray⟩:=by unfold sv at hb;injection hb with h;exact h.symm
 have D:sc=⟨c.toArray⟩:=by unfold sv at hc;injection hc with h;exact h.symm
 constructor
 ·intro y;have z:¬b<c:=λh=>by have:=E.2 h;omega
  unfold aA.cZ at y
  split at y
  ·omega
  ·split at y
   ·omega
   ·rename_i _ G
    have I: (o.toList==sc.toList)=true:=by simpa using G
    have F:o.toList=sc.toList:=by simpa using I
    rw[Lib.toList_data,Lib.toList_data,A,D]at F;exact F
 ·rintro rfl;have e:o=sc:=by rw[A,D]
  subst e;have z:¬cZ o o<0:=λh=>List.lt_irrefl b (E.1 h)
  unfold aA.cZ at z⊢
  split at z
  ·omega
  ·rw[if_neg (by assumption),if_neg (by simp)]
theorem Oi{w:World}(ver next:Nat){a:Option Addr}(c:Nat){l:List FR}(h:bV w a l)(hn:l.length<=100000)(hr:rises (l.map FR.f))(nm:List UInt8):
  Calls prog 97 #[.agg #[.int .u64 (ver:Int),.int .u32 (next:Int),.slice a l.length c],nv nm] w λe w'=>Below w.heap.size w w'/\((∃(i:Nat) (x:FR),l[i]? =some x/\x.f.name=nm/\e=.returned (.tuple #[.int .i64 (i:Int),.bool true]))\/((∀x∈l,x.f.name≠nm)/\∃i:Nat,e=.returned (.tuple #[.int .i64 (i:Int),.bool false]))):=by
 obtain⟨A,h9⟩:∃A:Nat->ByteArray,A=λk=>⟨((l[k]?.map (λy=>y.f.name)).getD []).toArray⟩:=⟨_,rfl⟩
 have E:∀(k:Nat) (y:FR),l[k]? =some y->sv y.f.name=.string (A k):=λk y F=>by rw[h9];simp[F,sv]
 have G:sv nm=.string ⟨nm.toArray⟩:=rfl;have L:∀(k:Nat) (y:FR),l[k]? =some y->(cZ (A k) ⟨nm.toArray⟩ <0↔y.f.name<nm):=λk y F=>wh (E k y F) G
 have U:∀(k k':Nat) (y P:FR),k<k'->l[k]? =some y->l[k']? =some P->y.f.name<P.f.name:=λk k' y P o F x0=>by
  have Z:=kJ.1 hr;obtain⟨i1,V⟩:=jS.1 F;obtain⟨i2,X⟩:=jS.1 x0;have:=qJ.1 Z k k' i1 i2 o
  rwa [V,X]at this
 have h8:∀k k',k<=k'->k'<l.length->cZ (A k') ⟨nm.toArray⟩ <0->cZ (A k) ⟨nm.toArray⟩ <0:=λk k' o h6 hc=>by
  rcases Nat.lt_or_eq_of_le o with z|z
  ·have D:=rY (l:=l) (i:=k) (by omega);have R:=rY (l:=l) (i:=k') h6;exact(L k _ D).2 (mD (U k k' _ _ z D R) ((L k' _ R).1 hc))
  ·rw[z];exact hc
 refine(nM ver next l A a c ⟨nm.toArray⟩ w h hn E h8).mono ?_;rintro e w' ⟨i,hi,T,h5,rfl,hB⟩;refine⟨hB,?_⟩
 by_cases hlt:i<l.length
 ·have D:=rY (l:=l) (i:=i) hlt;have Y:=cmp_eq (E i _ D) G
  by_cases J:cZ (A i) ⟨nm.toArray⟩=0
  ·refine .inl ⟨i,_,D,Y.1 J,?_⟩
   simp[hlt,J]
  ·refine .inr ⟨λx O I=>?_,i,by simp[J]⟩;obtain⟨k,o⟩:=qF O;have h7:=(jS.1 o).1;have M:=(cmp_eq (E k _ o) G).2 I;rcases Nat.lt_trichotomy k i with z|z|z
   ·have:=T k z;omega
   ·rw[z]at M;exact J M
   ·have S:=U i k _ _ z D o;rw[I]at S;have h4:=(L i _ D).2 S;have:=h5 i jn hlt
    omega
 ·refine .inr ⟨λx O I=>?_,i,by simp[hlt]⟩;obtain⟨k,o⟩:=qF O;have h7:=(jS.1 o).1;have M:=(cmp_eq (E k _ o) G).2 I;have:=T k (by omega)
  omega
open Store (au fV bT none' iQ bU kV)
variable {w:World}{Q:Nat->Prop}{s d g cm:Nat}{wv:Value}{m:DM}{ver next:Nat}{a:Option Addr}{c:Nat}{l:List FR}{bad:Bool}{C:au}
def nU(bl:List (List UInt8))(fs:List af)(nm:List UInt8):List UInt8×Int:=
 match fs.find? (λf=>f.name==nm)with
 |some f=>pK bl f
 |none=>([],8)
def kX(bl:List (List UInt8))(C:au)(fs:List af)(nm:List UInt8):List UInt8×Int:=
 match C nm with
 |some (some b)=>(b,0)
 |some none=>([],8)
 |none=>nU bl fs nm
variable {fs:List af}
theorem Ec(z:rises fs){f:af}(h:f∈fs):fs.find? (λx=>x.name==f.name)=some f:=by
 induction fs with
 |nil=>cases h
 |cons x r A=>
  obtain⟨o,y⟩:=eF.1 z;rcases List.mem_cons.1 h with rfl|h
  ·rw[List.find?_cons_of_pos (by simp)]
  ·have hlt:=o f h
   rw[List.find?_cons_of_neg (by
    simp only[beq_iff_eq];intro e;rw[e]at hlt;exact List.lt_irrefl _ hlt)]
   exact A y h
theorem Ed{nm:List UInt8}(h:∀f∈fs,f.name≠nm):fs.find? (λx=>x.name==nm)=none:=List.find?_eq_none.2 (λx o=>by simpa using h x o)
attribute [local go_sem] Oper.semAt_some
theorem Oj(h:Fu w Q s d g cm wv m ver next a c l bad C)(G:dO m.bl.length ver next (l.map FR.f))(h2: (bad||m.off)=false)(y0:m.wt= [])(nm:List UInt8)(hn:nm.length<=1000000)(hb:∀b,C nm=some (some b)->b.length<=4000000):
  Calls prog 108 #[.pointer (some ⟨s,0,none⟩),nv nm] w λe w'=>∃v,e=.returned (.tuple #[v,.int .i64 (kX m.bl C (l.map FR.f) nm).2])/\ak w' w.heap.size v (kX m.bl C (l.map FR.f) nm).1/\Below w.heap.size w w':=by
 have HD:=jq (tK h h2);obtain⟨c0,c1,c2,c3,c4,_⟩:=h.cells
 have x8:m.off=false:=by cases hm:m.off with
  |false=>rfl
  |true=>rw[hm]at h2;simp at h2
 obtain⟨a1,n1,h5,gn,M,Z⟩:=h.look nm hn;have S:=(Z w rfl).1;have y2:=h.lt cm h.qm;have H:=jq h;have X:=jq G;obtain⟨x,o⟩:=jl (nv nm);obtain⟨N,E⟩:=jl l.length;have F:=(Below.refl w.heap.size w).alloc jn (.cells #[.slice a1 n1 h5,.bool gn] 140);have HA:=jq F
 cases hC:C nm with
 |some y=>
  rw[hC]at S M
  cases y with
  |none=>
   obtain⟨rfl,rfl,rfl,rfl⟩:=M;have z:kX m.bl C (l.map FR.f) nm=([],8):=by unfold kX;rw[hC]
   rw[z,<-o];rw[<-o]at S;clear h hb G hC z Z o E F c3
   go_enter func108,ntmps108
   go_wp2_with fail
   refine HD.out.mono ?_;rintro e w1 ⟨rfl,rfl⟩
   go_wp2_with fail
   go_ret2
   exact⟨_,rfl,World.ownsRow_nil _ _ _ _,HA.out⟩
  |some b=>
   obtain⟨rfl,rfl,y3,hL,_⟩:=M;have z:kX m.bl C (l.map FR.f) nm=(b,0):=by unfold kX;rw[hC]
   rw[z,<-o];rw[<-o]at S;have HC:=jq (lS a1 h5 b _ (hL.later F) (by have:=hb b hC;omega));clear h hb G hC z Z o E F c3 hL
   go_enter func108,ntmps108
   go_wp2_with fail
   refine HD.out.mono ?_;rintro e w1 ⟨rfl,rfl⟩
   go_wp2_with fail
   refine HC.out.mono ?_;rintro e w2 ⟨v,rfl,O,D⟩;have V:=jq (bH O (show w1.heap.size<=_ by simp));have x3:=jq (HA.out.trans (D.mono (by simp)));clear O D
   go_wp2_with fail
   go_ret2
   exact⟨_,rfl,V.out,x3.out⟩
 |none=>
  rw[hC]at S M;obtain⟨rfl,rfl,rfl,rfl⟩:=M;have z:kX m.bl C (l.map FR.f) nm=nU m.bl (l.map FR.f) nm:=by unfold kX;rw[hC]
  rw[z];obtain⟨R,hR⟩:=jl (nU m.bl (l.map FR.f) nm);rw[<-hR];have HR:=jq hR;have x5:=G.few;rw[jP]at x5;have h3:=Oi ver next c (h.files.later F) (by omega) G.ok.rise nm;rw[<-o,<-E]at h3;rw[<-o];rw[<-o]at S;have L:=h.store.alloc (.cells #[.slice none 0 0,.bool false] 140);have k0:=L.cell 0;have k1:=L.cell 1;have k2:=L.cell 2;have k3:=L.cell 3
  simp at k0 k1 k2 k3
  rw[<-E]at k3;have h1:=jq h3;have HN:=jq E;have y1:=jq hC;clear h hb G z Z o F c3 L h3 hC E hR
  go_enter func108,ntmps108
  go_wp2_with fail
  refine HD.out.mono ?_;rintro e w1 ⟨rfl,rfl⟩
  go_wp2_with fail
  refine h1.out.mono ?_;rintro e w2 ⟨D,hr⟩;have Y:=HA.out.trans (D.mono (by simp));have A:=H.out.later Y;have T:=jq Y;obtain⟨d0,d1,d2,d3,d4,d5⟩:=A.cells;rw[<-HN.out]at d3;rcases hr with⟨i,y,I,x2,rfl⟩|⟨x7,i,rfl⟩
  ·have x1:y∈l:=jM I;have h0:y.f∈l.map FR.f:=List.mem_map.2 ⟨y,x1,rfl⟩;obtain⟨ga,oa,rfl,f0,f1,f2,f3⟩:=A.files.cells I;have x6:=(jS.1 I).1;rw[<-HN.out]at x6
   have J:nU m.bl (l.map FR.f) nm=pK m.bl y.f:=by
    unfold nU;rw[<-x2,Ec X.out.ok.rise h0]
   have x9:=X.out.size y.f h0;have h8:=X.out.fit y.f h0;obtain⟨sb,h9⟩:∃sb:ByteArray,sv y.f.name=.string sb:=⟨_,rfl⟩;have P:=Oh A.store.lt d0 A.disk x8 y0 sb y.f y.a y.c h8.2.1.id (by omega) (A.files.blocks y x1).1 (X.out.pG y.f h0) (by omega);rw[h9]at f0;obtain⟨id,hid⟩:=jl y.f.id;obtain⟨sz,x0⟩:=jl y.f.size;obtain⟨bn,h7⟩:=jl y.f.blocks.length;unfold iv at f2;rw[<-hid]at f1 P;rw[<-x0]at f2 P;rw[<-h7]at f3 P;have U:=jq (HR.out.trans J);have h4:=jq P;clear A D Y P hid x0 h7 h9 x2 I J x9 h8 h1
   go_wp2_with fail
   refine h4.out.mono ?_;rintro e w3 ⟨v,rfl,O,h6⟩;have V:=jq (bH O T.out.size);have x4:=jq (T.out.trans (h6.mono T.out.size));rw[<-U.out]at V⊢;clear O h6 h4
   go_wp2_with fail
   go_ret2
   exact⟨_,rfl,V.out,x4.out⟩
  ·have J:nU m.bl (l.map FR.f) nm=([],8):=by
    unfold nU
    rw[Ed (λf hf=>by
     obtain⟨y,I,rfl⟩:=List.mem_map.1 hf;exact x7 y I)]
   have U:=jq (HR.out.trans J);clear A D Y J h1
   go_wp2_with fail
   go_ret2
   refine⟨_,by rw[U.out];rfl,?_,T.out⟩;rw[U.out];exact World.ownsRow_nil _ _ _ _
end Full
namespace Full
open Go.RowKit Go.Deep Mem Crc Go.Maps Dk aA
open Store (au fV bT none' nv iQ bU kV dV lT jJ qU)
open Ext (Holds bP)
variable {w:World}{Q:Nat->Prop}{s d g cm:Nat}{wv:Value}{m:DM}{ver next:Nat}{a:Option Addr}{c:Nat}{l:List FR}{bad:Bool}{C:au}
theorem Fu.changed{w1:World}(h:Fu w Q s d g cm wv m ver next a c l bad C)(I:Below w.heap.size w w1)(L:List (List UInt8))(S:∀x,C x≠none->x∈L)(hn:L.length<=1000000)(nm:List UInt8)(h0:nm.length<=1000000)(o:Option (List UInt8))(v:Value)(hv:fV w1 (λk=>w.heap.size<=k/\k<w1.heap.size) o v):
  ∃w2,(Instr.mapUpdate 117 (.map (some cm)) (nv nm) v).run prog w1=.ok () w2/\Fu w2 (λk=>Q k\/(w.heap.size<=k/\k<w1.heap.size)) s d g cm wv m ver next a c l bad (dV C nm (some o))/\Only [cm] w w2/\w2.heap.size=w1.heap.size:=by
 have z:=h.later I;obtain⟨f,X,A,O⟩:=z.map
 obtain⟨w2,h2,Y,J,P⟩:=X.update bU underlying117 (L.map Lit.string) (λx D=>by
  obtain⟨y,rfl⟩:=A x D;refine List.mem_map.2 ⟨y,S y (λhc=>?_),rfl⟩;have:=O y;unfold bT at this;rw[hc]at this;exact D this) (by rw[jP];unfold maxLen;omega) (iQ h0) v
 have F:Only [cm] w1 w2:=Only.of_grown J (λg J=>by cases J;exact .inl (by simp));have T:=z.away;have h5:=z.zK z.store;have h6:=h.lt cm h.qm;have h7:=h.lt s h.qs;have U:=h.disk.lt;have h8:=I.size;have E:∀k,k<w1.heap.size->k≠cm->w2.heap[k]? =w1.heap[k]?:=λk A Z=>F.block k A (by simpa using Z)
 have M:∀k,Own Q s d g cm wv k->Own (λk=>Q k\/(w.heap.size<=k/\k<w1.heap.size)) s d g cm wv k:=λk A=>⟨.inl A.1,A.2⟩
 refine⟨w2,h2,⟨(E s z.store.lt h5).trans z.store,z.disk.keep F.size (λk A=>E k (z.disk.lt k A) (λe=>T.2 (e▸A))),z.files.keep F.size (λk e=>E k (z.lt k (z.fr k e).1) (z.fr k e).2.1) (λx D k e=>E k (z.lt k (z.br x D k e).1) (z.br x D k e).2.1),λk e=>M k (z.fr k e),λx D k e=>M k (z.br x D k e),⟨_,Y,λx D=>?_,λx=>?_⟩,.inl h.qs,.inl h.qm,λk A=>.inl (h.qd k A),λk hq=>?_⟩,(Only.of_below (bs:=[cm]) I).trans F,P⟩
 ·by_cases e:x=.string nm
  ·exact⟨nm,e⟩
  ·rw[fQ _ e]at D;exact A x D
 ·by_cases e:x=nm
  ·subst e;unfold bT;rw[lT,kK];exact⟨v,rfl,hv.keep F.size (λk hq=>E k hq.2 (by omega)) (λk hq=>⟨.inr hq,by omega,by omega,λV=>by have:=U k V;omega⟩)⟩
  ·have G:=O x;unfold bT at G⊢;rw[jJ _ e,fQ _ (λh=>e (by injection h))]
   cases hc:C x with
   |none=>rw[hc]at G;exact G
   |some c'=>
    rw[hc]at G;obtain⟨u,hu,R⟩:=G;exact⟨u,hu,R.keep F.size (λk hq=>E k (z.lt k hq.1) hq.2.1) M⟩
 ·rw[P];rcases hq with hq|hq
  ·exact z.lt k hq
  ·exact hq.2
theorem Ol(h:Fu w Q s d g cm wv m ver next a c l bad C)(U: (bad||m.off)=false)(L:List (List UInt8))(S:∀x,C x≠none->x∈L)(Z:L.length<=1000000)(nm:List UInt8)(h9:1<=nm.length)(x0:nm.length<=32)(y:Option Addr)(cp:Nat)(b:List UInt8)(hb:Lies w y (b.map bv))(h8:b.length<=1048576):
  Calls prog 30 #[.pointer (some ⟨s,0,none⟩),nv nm,.slice y b.length cp] w λe w'=>e=.returned (.int .i64 0)/\∃Q',Fu w' Q' s d g cm wv m ver next a c l bad (dV C nm (some (some b)))/\(∀k,Q' k->Q k\/w.heap.size<=k)/\(∀k,Q k->Q' k)/\Only [cm] w w':=by
 have I:=jq (tK h U);have G:=jq (lS y cp b w.drew hb (by omega));have H:=jq h;obtain⟨_,_,_,_,D,_⟩:=h.cells;have M:=jq h.store.lt;have J:=jq ((Below.refl w.heap.size w).drew);clear h hb
 have P: ((nm.length:Int)==0)=false:=by
  have:¬(nm.length:Int)=0:=by omega
  simpa using this
 have R:decide (32<(nm.length:Int))=false:=by
  have:¬32<(nm.length:Int):=by omega
  simpa using this
 have h2:decide (1048576<(b.length:Int))=false:=by
  have:¬1048576<(b.length:Int):=by omega
  simpa using this
 have Y:=qU nm;obtain⟨x,o⟩:=jl (nv nm);obtain⟨ln,A⟩:=jl nm.length;rw[<-o,<-A]at Y;rw[<-A]at P R;rw[<-o];have O:=jq o;clear o A
 go_enter func30,ntmps30
 go_wp2_with fail
 refine I.out.mono ?_;rintro e w1 ⟨rfl,rfl⟩
 go_wp2_with fail
 go_region_held3 (λw'=>w'.cell? ⟨s,4,none⟩=some (.map (some cm))) (first|exact D|exact V|exact X) ((go_at_call 64;refine G.out.mono ?_;rintro e w2 ⟨v,rfl,T,E⟩;obtain⟨va,vc,rfl,h6,h7,h5,_⟩:=own_shape T;obtain⟨w3,h4,F,h3,x1⟩:=H.out.changed (w1:=w2) (J.out.trans E) L S Z nm (by omega) (some b) (.agg #[.slice va b.length vc,.bool false]) ⟨va,vc,rfl,h6,h7,h5⟩;rw[<-O.out]at h4;have V:=(E.cell (p:=⟨s,4,none⟩) M.out).trans D;have X:=F.cells.2.2.2.2.1;dsimp only))
 go_wp2_with fail
 go_ret
 exact⟨rfl,_,F,λk z=>z.imp id And.left,λk z=>.inl z,h3⟩
end Full
namespace Full
open Go.RowKit Go.Deep Mem Crc Go.Maps Dk aA
open Store (au fV bT none' nv iQ bU kV gN fD zM met qR tJ zN)
variable {w:World}{Q:Nat->Prop}{s d g cm:Nat}{wv:Value}{m:DM}{ver next:Nat}{a:Option Addr}{c:Nat}{l:List FR}{bad:Bool}{C:au}
def qV(base:List (List UInt8))(C:au)(left:Lit->Bool)(fm:Lit->Option Value):Prop:=(∀x,fm x≠none->∃nm,x=.string nm)/\∀nm,fm (.string nm)=if(!left (.string nm)&&(C nm).isSome)=true then(if fD C nm=true then some gN else none)else(if nm∈base then some gN else none)
variable {fm:Lit->Option Value}
theorem Om{base:List (List UInt8)}{left:Lit->Bool}(h:qV base C left fm)(nm:List UInt8)(hc: (C nm).isSome=true)(u:Option Value)(y:u=if fD C nm=true then some gN else none):qV base C (λz=>left z&& !z.sameKey (.string nm)) (iR fm (.string nm) u):=by
 refine⟨λx o=>?_,λx=>?_⟩
 ·by_cases e:x=.string nm
  ·exact⟨nm,e⟩
  ·rw[fQ _ e]at o;exact h.1 x o
 ·by_cases e:x=nm
  ·subst e;rw[kK,y];have: (Lit.string x).sameKey (.string x)=true:=WideAt.sameKey_self trivial
   simp[this,hc]
  ·rw[fQ _ (λh=>e (by injection h)),h.2 x];have: (Lit.string x).sameKey (.string nm)=false:=Maps.sameKey_ne (λh=>e (by injection h))
   simp[this]
theorem Oo{Q':Nat->Prop}{base:List (List UInt8)}{D:DataW Value}{f:Lit->Option Value}(hd:iE D f)(z:∀nm,bT w Q' f C nm)(h:∀x,fm x≠none->∃nm,x=.string nm)(o:∀nm,fm (.string nm)=if nm∈base then some gN else none):qV base C (Maps.has D) fm:=⟨h,λnm=>by
 have:=z nm;unfold bT at this;rw[o nm]
 cases hC:C nm with
 |none=>simp
 |some y=>
  rw[hC]at this;obtain⟨v,A,_⟩:=this;have e:Maps.has D (.string nm)=true:=by rw[(hd _).1,A];rfl
  simp[e]⟩
theorem Ee{base L:List (List UInt8)}{left:Lit->Bool}(z:∀x,C x≠none->x∈L)(h:qV base C left fm):∀x,fm x≠none->x∈(base++L).map Lit.string:=λx o=>by
 obtain⟨nm,rfl⟩:=h.1 x o;refine List.mem_map.2 ⟨nm,?_,rfl⟩;rw[h.2 nm]at o
 by_cases hb: (!left (.string nm)&&(C nm).isSome)=true
 ·refine List.mem_append.2 (.inr (z nm (λe=>?_)));rw[e]at hb
  simp at hb
 ·rw[if_neg hb]at o
  by_cases y:nm∈base
  ·exact List.mem_append.2 (.inl y)
  ·rw[if_neg y]at o;exact absurd rfl o
def qW(C:au)(fs:List af)(nm:List UInt8):Prop:=
 match C nm with
 |some (some _)=>True
 |some none=>False
 |none=>nm∈fs.map af.name
theorem Oq{fs:List af}{left:Lit->Bool}(h:qV (fs.map af.name) C left fm)(hl:∀z,left z=false)(nm:List UInt8):fm (.string nm)≠none↔qW C fs nm:=by
 rw[h.2 nm,hl];unfold qW Store.fD
 cases hC:C nm with
 |none=>by_cases o:nm∈fs.map af.name <;> simp[o]
 |some y=>cases y <;> simp
structure qX(base:List (List UInt8))(fm:Lit->Option Value):Prop where
 str:∀x,fm x≠none->∃nm,x=.string nm
 mem:∀nm,fm (.string nm)=if nm∈base then some gN else none
theorem qX.step{base:List (List UInt8)}(h:qX base fm)(nm:List UInt8):qX (base++ [nm]) (iR fm (.string nm) (some gN)):=by
 refine⟨λx o=>?_,λx=>?_⟩
 ·by_cases e:x=.string nm
  ·exact⟨nm,e⟩
  ·rw[fQ _ e]at o;exact h.str x o
 ·by_cases e:x=nm
  ·subst e;rw[kK]
   simp
  ·rw[fQ _ (λh=>e (by injection h)),h.mem x]
   simp[e]
theorem qX.support{base:List (List UInt8)}(h:qX base fm):∀x,fm x≠none->x∈base.map Lit.string:=λx o=>by
 obtain⟨nm,rfl⟩:=h.str x o;refine List.mem_map.2 ⟨nm,?_,rfl⟩;rw[h.mem nm]at o
 by_cases y:nm∈base
 ·exact y
 ·rw[if_neg y]at o;exact absurd rfl o
attribute [local go_sem] Oper.semAt_some
theorem Ef(h:Fu w Q s d g cm wv m ver next a c l bad C)(L:List (List UInt8))(hL:∀x,C x≠none->x∈L)(hn:L.length<=100000)(z9:∀x∈L,x.length<=1000000)(hl:l.length<=100000)(b6:∀x∈l,x.f.name.length<=32):
  Calls prog 48 #[.pointer (some ⟨s,0,none⟩)] w λe w'=>∃(v:Value) (ss:List (List UInt8)),e=.returned v/\w'.ownsRow w.heap.size 9 1 v ss.length (ss.map encStr)/\(∀nm,nm∈ss↔qW C (l.map FR.f) nm)/\ss.Pairwise (·< ·)/\ss.length<=l.length+L.length/\Below w.heap.size w w':=by
 obtain⟨_,_,_,c3,c4,_⟩:=h.cells;have H:=jq h;have d6:=jq b6;have e7:=run_makeMap (P:=prog) 167 w;obtain⟨N,hN⟩:=jl l.length;rw[<-hN]at c3;have ha:=h.store.alloc (.map #[] 0);have k3:=ha.cell 3;have k4:=ha.cell 4
 simp at k3 k4
 rw[<-hN]at k3 hl⊢;have HN:=jq hN;have Z:=jq hL;have y8:=jq z9;clear h ha hN b6 hL z9
 go_enter func48,ntmps48
 go_wp2_with fail
 obtain⟨W,hW⟩:=jl (w.alloc (.map #[] 0));obtain⟨o,h9⟩:=jl w.heap.size;have a1:aY W 9 o (λ_=>none):=by rw[hW,h9];exact aY.made w _
 have z6:Below w.heap.size w W:=by rw[hW];exact(Below.refl _ w).alloc jn _
 rw[<-hW]at k3 k4⊢;rw[<-h9];have d7:=jq a1;have d2:=jq z6;have h1:=jq h9;clear a1 z6 hW e7 c3 c4 h9
 go_loopw[17] (λi wr=>∃(j:Nat) (fm:Lit->Option Value),j<=N/\i=.int .i64 j/\Hid (aY wr 9 o fm)/\Hid (qX ((l.take j).map (λx=>x.f.name)) fm)/\Hid (Below w.heap.size w wr)) (λi _=>N-(intOf i).toNat)
 case atStart=>exact⟨0,_,aC _,rfl,d7,jq ⟨λx E=>absurd rfl E,λnm=>by simp⟩,d2⟩
 case round=>
  obtain⟨j,Ot,hj,rfl,A,h3,z⟩:=hrel
  by_cases hlt:j<N
  ·have e4:decide ((j:Int) <(N:Int))=true:=jd (by omega);obtain⟨x,E⟩:∃x,l[j]? =some x:=⟨l[j]'(by rw[<-HN.out];exact hlt),jg _⟩;have c8:=jM E;have z7:=H.out.later z.out;obtain⟨ga,oa,rfl,f0,f1,f2,f3⟩:=z7.files.cells E;obtain⟨sb,y3⟩:∃sb:ByteArray,sv x.f.name=.string sb:=⟨_,rfl⟩;have c1:nv x.f.name=.string sb:=y3;obtain⟨sz,V⟩:=jl x.f.size;obtain⟨id,hid⟩:=jl x.f.id;obtain⟨bn,a9⟩:=jl x.f.blocks.length;unfold iv at f2;rw[y3]at f0;rw[<-hid]at f1;rw[<-V]at f2;rw[<-a9]at f3;obtain⟨W5,y1⟩:=jl (wr.alloc (.cells #[.string sb,.int .u32 (id:Int),.int .i64 (sz:Int),.slice x.a bn x.c] 113));have F:Below wr.heap.size wr W5:=by rw[y1];exact(Below.refl _ wr).alloc jn _
   have O:aY W5 9 o Ot:=A.out.keep (F.block o A.out.lt);obtain⟨W6,I,R,S,y5⟩:=O.update bU underlying167 (((l.take j).map (λx=>x.f.name)).map Lit.string) h3.out.support (by rw[jP,jP,jT];unfold maxLen;omega) (iQ (nm:=x.f.name) (by have:=d6.out x c8;omega)) gN;have x6:=h3.out.step x.f.name;have X: (l.take j).map (λx=>x.f.name)++ [x.f.name]=(l.take (j+1)).map (λx=>x.f.name):=by rw[bF,E];simp
   rw[X]at x6;have U:Below w.heap.size w W6:=(z.out.trans (F.mono z.out.size)).grown S (ax z.out.size F.size) (λq e=>by cases e;rw[h1.out];exact aj _);rw[c1]at I;unfold gN at I;rw[y1]at I;have x3:=jq R;have d1:=jq x6;have x2:=jq U;clear O R S y5 x6 U F y1 z7 y3 c1 V hid a9 E c8 X A h3 z
   go_wp2_with fail
   exact⟨⟨j+1,_,by omega,by simp,x3,d1,x2⟩,by simp[intOf];omega⟩
  ·obtain rfl:j=N:=by omega
   have e4:decide ((j:Int) <(j:Int))=false:=jf (by omega);have X: (l.take j).map (λx=>x.f.name)=(l.map FR.f).map af.name:=by rw[jW (by rw[HN.out];exact aj _),List.map_map];rfl
   have h6:=h3.out;rw[X]at h6;have b5: ((l.map FR.f).map af.name).length=j:=by rw[jP,jP,HN.out]
   obtain⟨f,⟨D,n,c2,hd⟩,hk,hf⟩:=(H.out.later z.out).map;obtain⟨W2,x1,c7,T,V⟩:=c2.range bU underlying117;have f8:=H.out.lt cm H.out.qm;have h4:Below wr.heap.size wr W2:=⟨T.os,T.tape,T.output,T.size,λk hk=>T.block k hk (by simp)⟩;have r4:=(z.out.cell (p:=⟨s,4,none⟩) H.out.store.lt).trans H.out.cells.2.2.2.2.1;have HR:=jq c7;have f6:=jq h4;have HF:=jq hf;have HD:=jq hd;have HK:=jq hk;have b8:=A.out.lt;have a2:=A.out.keep (h4.block o b8);have d8:=jq a2;have HS:=jq (Oo hd hf h6.str h6.mem);have d3:=jq (z.out.trans (h4.mono z.out.size));have y7:=jq b5;have g0:o≠wr.heap.size:=by omega
   clear c7 T h4 hf hd hk a2 c2 k3 k4 h6 X b5
   go_wp2_with fail
   obtain⟨r,hr⟩:=jl wr.heap.size;rw[<-hr]at HR⊢;have g1:o<r:=by rw[hr];exact b8
   have f5:=jq hr;clear hr x1
   go_loopw[] (λY=>∃left cnt fm,Hid (Y.ranges prog 9 jH cm r n D left cnt)/\Hid (aY Y 9 o fm)/\Hid (qV ((l.map FR.f).map af.name) C left fm)/\Hid (Below w.heap.size w Y)) (λY=>Y.rangeLeft cm r)
   case atStart=>exact⟨_,_,_,HR,d8,HS,d3⟩
   case round=>
    obtain⟨left,cnt,fm,hR,A,G,z⟩:=hrel;have b9:=h1.out;have V:=z.out.size;rcases hR.out.next bU 0 with⟨h0,hl,x1⟩|⟨key,v,kl,y,w5,z3,h8,e6,hv,a7,x1,a4,hlt,y2,f4,e3⟩
    ·have d5:=jq hl;clear hl h0;obtain⟨D2,x0,b2⟩:=A.out.bounded bU _ (Ee Z.out G.out);have e5:=x0.size_le;rw[jP,jL,y7.out]at e5;have z8:=callsIn_wide.1 (Tryz.maps_Keys_87 (some o) wr);have a6:=callsIn_wide.1 (Tryz.slices_Sorted_keys_86_87 o _ D2 jH wr x0 (by unfold maxLen;omega) (by omega));have d4:=jq z8;have e1:=jq a6;have y6:=jq b2;have x4:=jq x0;clear x0 b2 z8 a6 b9
     go_wp2_with fail
     refine d4.out.mono ?_;rintro e w6 ⟨rfl,rfl⟩
     go_wp2_with fail
     refine e1.out.mono ?_;rintro e w7 ⟨v,ss,rfl,c6,c5,_,z5⟩;have e0:=jq c5;have d0:=jq z5;have HP:=jq c6;clear c5 z5 c6
     go_wp2_with fail
     go_ret
     refine⟨v,ss.mergeSort (λx y=>decide (x<=y)),rfl,?_,λnm=>?_,zD HP.out (DW y6.out G.out.1 (x4.out.entries bU)),?_,?_⟩
     ·rw[vw];exact bH e0.out (by have:=h1.out;simp;omega)
     ·rw[List.mem_mergeSort,HP.out.mem_iff,qR y6.out G.out.1 (x4.out.entries bU)];exact Oq G.out d5.out nm
     ·rw[vw,HP.out.length_eq,tJ (x4.out.entries bU)]
      omega
     ·exact(z.out.alloc V _).trans (d0.out.mono (by have:=h1.out;simp;omega))
    ·obtain⟨nm,cc,rfl,rfl,hc,b0⟩:=met HD.out HF.out HK.out (λnm h=>y8.out nm (Z.out nm h)) h8 hv a7;obtain⟨a0,n0,h2,M,rfl,b4⟩:=zM hc b0;have f9:nm.length<=1000000:=y8.out nm (Z.out nm (by rw[hc];exact λh=>by cases h));have y4:o≠r:=by omega
     have c0:o≠cm:=by omega
     have O:=A.out.keep (y2.block o A.out.lt (λe=>y4 (by injection e)));obtain⟨W3,J⟩:=jl (w5.alloc (.cells #[.slice a0 n0 h2,.bool M] 140));have a3:aY W3 9 o fm:=by rw[J];exact O.keep (Below.heap_alloc _ _ _ O.lt)
     have x8:=a4.alloc (.cells #[.slice a0 n0 h2,.bool M] 140);have h5:=Blk.new w5 140 #[.slice a0 n0 h2,.bool M];have F:Below w.heap.size w w5:=z.out.grown y2 (by omega) (λq e=>by cases e;omega);have z4:Below w.heap.size w W3:=by rw[J];exact F.alloc (by omega) _
     rw[<-J]at x8 h5;have e8:W3.heap.size=w5.heap.size+1:=by rw[J];simp
     obtain⟨W4,I,x7,h7,e9⟩:=a3.update bU underlying167 _ (Ee Z.out G.out) (by rw[jP,jL,y7.out];unfold maxLen;omega) h8 gN;have x5:Below w.heap.size w W4:=z4.grown h7 (by omega) (λq e=>by cases e;omega);have x9:=x8.kept h7 (λe=>c0 (by injection e with e;exact e.symm)) (λe=>y4 (by injection e with e;exact e.symm));have a8:Blk W4 w5.heap.size 140 #[.slice a0 n0 h2,.bool M]:=(h7.block w5.heap.size h5.lt (λe=>by injection e with e;have:=A.out.lt;omega)).trans h5;obtain⟨W6,e2,R,S,y5⟩:=x7.drop bU underlying167 h8 0;have U:Below w.heap.size w W6:=x5.grown S (by omega) (λq e=>by cases e;omega);have a5:=x9.kept S (λe=>c0 (by injection e with e;exact e.symm)) (λe=>y4 (by injection e with e;exact e.symm));rw[zN]at R;have b1:=a8.cell 1
     simp at b1
     have b3:fD C nm= !M:=b4;have y0:=Om G.out nm (by rw[hc];rfl) (if fD C nm=true then some gN else none) rfl;rw[b3]at y0;obtain⟨x,E⟩:=jl (nv nm);have b7:wr.rangeLeft cm r=cnt:=hR.out.left_eq;rw[<-E]at x1 e3 I e2;have f7:=jq J;have z0:=jq x9;have z1:=jq a5;have d9:=jq x7;have x3:=jq R;have z2:=jq y0;have c9:=jq x5;have x2:=jq U;have y9:=jq b7;rw[J]at I;unfold gN at I;clear x9 a5 x7 R y0 x5 U O a3 x8 h5 z4 F a8 h7 y2 S a4 b0 a7 hv h8 E G A hR b7 J e8 e9 f4 y5 e6 hc b3 b4 b9;cases M
     ·go_wp2_with fail
      exact⟨⟨_,z3,_,z0,d9,jq (by have:=z2.out;simpa using this),c9⟩,by rw[z0.out.left_eq,y9.out];exact hlt⟩
     ·go_wp2_with fail
      exact⟨⟨_,z3,_,z1,x3,jq (by have:=z2.out;simpa using this),x2⟩,by rw[z1.out.left_eq,y9.out];exact hlt⟩
end Full
namespace Full
open Go.RowKit Go.Deep Mem Crc Go.Maps Dk aA
open Store (au fV bT none' nv iQ bU kV dV lT jJ)
variable {w:World}{Q:Nat->Prop}{s d g cm:Nat}{wv:Value}{m:DM}{ver next:Nat}{a:Option Addr}{c:Nat}{l:List FR}{bad:Bool}{C:au}
theorem tq(v:Value)(B:Nat)(ss:List (List UInt8))(nm:List UInt8)(w:World)(h:w.ownsRow B 9 1 v ss.length (ss.map encStr))(G:ss.length<=1000000):
  Calls prog 49 #[v,nv nm] w λe w'=>e=.returned (.bool (decide (nm∈ss)))/\w'=w:=by
 obtain⟨a,cap,rfl,hc,A,_,_⟩:=own_shape h;rcases A with E|⟨g,off,rfl,_,hcs⟩
 ·have y:ss= []:=dM.1 E;subst y;exact Tryz.slices_Contains_string_empty a cap ⟨nm.toArray⟩ w
 ·have:=Tryz.slices_Contains_string g off ss.length cap (ss.map λl=>(⟨l.toArray⟩:ByteArray)) ⟨nm.toArray⟩ w (by simp) (by omega) (λj o=>by
   rw[jP]at o;have:=hcs j (encStr ss[j]) (by simp[o]);rw[this]
   simp[o])
  have D:Lib.containsS ((ss.map λl=>(⟨l.toArray⟩:ByteArray)).take ss.length) ⟨nm.toArray⟩=decide (nm∈ss):=by
   refine Bool.eq_iff_iff.2 ?_;rw[Lib.containsS_iff,jW (by simp),decide_eq_true_eq]
   constructor
   ·intro h;obtain⟨x,F,e⟩:=List.mem_map.1 h;injection e with e
    have z:x=nm:=by
     have:=congrArg Array.toList e
     simpa using this
    exact z▸F
   ·exact λh=>List.mem_map.2 ⟨nm,h,rfl⟩
  rw[D]at this;exact this
theorem Ou(h:Fu w Q s d g cm wv m ver next a c l bad C)(h0: (bad||m.off)=false)(L:List (List UInt8))(z:∀x,C x≠none->x∈L)(hn:L.length<=100000)(A:∀x∈L,x.length<=1000000)(hl:l.length<=100000)(J:∀x∈l,x.f.name.length<=32)(nm:List UInt8)(h1:nm.length<=1000000)(I:qW C (l.map FR.f) nm):
  Calls prog 101 #[.pointer (some ⟨s,0,none⟩),nv nm] w λe w'=>e=.returned (.int .i64 0)/\∃Q',Fu w' Q' s d g cm wv m ver next a c l bad (dV C nm (some none))/\(∀k,Q' k->Q k\/w.heap.size<=k)/\(∀k,Q k->Q' k)/\Only [cm] w w':=by
 have S:=jq (tK h h0);have V:=jq (Ef h L z hn A hl J);have H:=jq h;have U:=jq h.store.lt;have X:=jq I;have T:=jq z;have h4:=jq A;clear h J z A I;obtain⟨x,E⟩:=jl (nv nm);rw[<-E];have F:=jq E;clear E
 go_enter func101,ntmps101
 go_wp2_with fail
 refine S.out.mono ?_;rintro e w1 ⟨rfl,rfl⟩
 go_wp2_with fail
 refine V.out.mono ?_;rintro e w2 ⟨v,ss,rfl,G,M,_,h5,o⟩;have y:=tq v _ ss nm w2 G (by omega);rw[jd ((M nm).2 X.out),<-F.out]at y;have R:=jq y;obtain⟨w3,h2,P,O,h3⟩:=H.out.changed (w1:=w2) o L T.out (by omega) nm h1 none (.agg #[.slice none 0 0,.bool true]) rfl;rw[<-F.out]at h2;have c4:=(o.cell (p:=⟨s,4,none⟩) U.out).trans H.out.cells.2.2.2.2.1;have Z:=jq P;have Y:=jq O;clear G M o P O h3 y
 go_wp2_with fail
 refine R.out.mono ?_;rintro e w4 ⟨rfl,rfl⟩
 go_wp2_with fail
 go_ret
 exact⟨rfl,_,Z.out,λk D=>D.imp id And.left,λk D=>.inl D,Y.out⟩
end Full
namespace Full
open Go.RowKit aA Dk Mem Crc
open Store (au Files)
open kP (dh dX jw kW pq)
open nP (cK)
theorem Eg(file place:Nat)(b:List UInt8):∃r,dh file place b=four file++(four place++(four b.length++(b++r))):=by
 refine⟨List.replicate (112-b.length) 0++four (ko (four file++(four place++(four b.length++(b++List.replicate (112-b.length) 0))))),?_⟩;unfold kP.dh Crc.marked;simp only[List.append_assoc]
variable {b:List UInt8}{bl:List (List UInt8)}{i ver:Nat}{m:DM}{C:au}{fs:List af}{H:Files}
theorem Ov(file place:Nat)(h:b.length<=112):kW (dh file place b)=b.length:=by
 obtain⟨r,o⟩:=Eg file place b;have e: (dh file place b).getD 8 0=UInt8.ofNat b.length:=by rw[o];rfl
 unfold kP.kW;rw[e];have: (UInt8.ofNat b.length).toNat=b.length:=by simp;omega
 omega
theorem Eh(file place:Nat)(h:b.length<=112):dX (dh file place b)=b:=by
 obtain⟨r,o⟩:=Eg file place b;unfold kP.dX;rw[Ov file place h];have e: (dh file place b).drop 12=b++r:=by rw[o];rfl
 rw[e];exact kH
theorem Ow(file place:Nat)(h:b.length<=112):jw (dh file place b) file place=0:=by
 unfold kP.jw;rw[Eh file place h,if_pos rfl]
structure tN(bl:List (List UInt8))(f:af)(b:List UInt8):Prop where
 size:f.size=b.length
 many:aA.many b.length=f.blocks.length
 at_:∀k i,f.blocks[k]? =some i->bl[i]? =some (dh f.id k ((b.drop (k*112)).take 112))
theorem Ei(bl:List (List UInt8))(id:Nat)(b:List UInt8):∀(rest:List Nat) (n:Nat),(∀k i,rest[k]? =some i->bl[i]? =some (dh id (n+k) ((b.drop ((n+k)*112)).take 112)))->n+rest.length=aA.many b.length->pJ bl id b.length n (b.take (n*112)) rest=(b,0)
 | [],n,_,hn=>by
  have h:=(zC (n:=b.length)).1;rw[List.length_nil,Nat.add_zero]at hn;rw[<-hn]at h;show(b.take (n*112),(0:Int))=_;rw[jW h]
 |i ::r,n,h,hn=>by
  have o:=h 0 i rfl;rw[Nat.add_zero]at o;have hlt:n*112<b.length:=(zC (n:=b.length)).2 n (by rw[<-hn,List.length_cons];omega);have y:bl.getD i []=dh id n ((b.drop (n*112)).take 112):=by rw[List.getD_eq_getElem?_getD,o];rfl
  have hl: ((b.drop (n*112)).take 112).length<=112:=by rw[jT];omega
  unfold pJ
  rw[y,Ow id n hl,Eh id n hl,if_pos ⟨rfl,by
   rw[jT,List.length_drop,jT]
   omega⟩]
  have e:b.take (n*112)++(b.drop (n*112)).take 112=b.take ((n+1)*112):=by
   rw[eY,List.take_add]
  rw[e]
  exact Ei bl id b r (n+1) (λk j z=>by
   have:=h (k+1) j (by simpa using z);rw[show n+1+k=n+(k+1)by omega];exact this) (by rw[List.length_cons]at hn;omega)
theorem Ox{f:af}(h:tN bl f b):pK bl f=(b,0):=by
 unfold pK;rw[h.size];have:=Ei bl f.id b f.blocks 0 (λk i o=>by rw[Nat.zero_add];exact h.at_ k i o) (by rw[h.many,Nat.zero_add])
 rwa [Nat.zero_mul,List.take_zero]at this
theorem nV:∀(o:List (Nat×List UInt8)) (bl:List (List UInt8)) (i:Nat),i∉o.map Prod.fst->(puts bl o)[i]? =bl[i]?
 | [],_,_,_=>rfl
 |x ::r,bl,i,h=>by
  rw[List.map_cons,List.mem_cons]at h;have y:=nV r (bl.set x.1 x.2) i (λz=>h (.inr z));show(puts (bl.set x.1 x.2) r)[i]? =_;rw[y,List.getElem?_set_ne (λe=>h (.inl e.symm))]
theorem wm:∀(o:List (Nat×List UInt8)) (bl:List (List UInt8)) (i:Nat) (x:List UInt8),(o.map Prod.fst).Nodup->(i,x)∈o->i<bl.length->(puts bl o)[i]? =some x
 |y ::r,bl,i,x,hn,h,hi=>by
  rw[List.map_cons]at hn;obtain⟨z,A⟩:=oL.1 hn;show(puts (bl.set y.1 y.2) r)[i]? =_;rcases List.mem_cons.1 h with rfl|h
  ·rw[nV r _ i z,List.getElem?_set_self hi]
  ·exact wm r _ i x A h (by rw[List.length_set];exact hi)
theorem Oy(id:Nat)(bl:List Nat)(b:List UInt8): (cK id bl b).map Prod.fst=bl:=by
 unfold nP.cK;rw[List.map_map];refine List.ext_getElem (by simp) (λk o h=>?_)
 simp
 rw[jg (by simpa using h)]
 rfl
theorem Ej(C:au)(f:af): ((kT C f).map Prod.fst).Sublist f.blocks:=by
 unfold kT
 split
 ·rw[Oy];exact List.Sublist.refl _
 ·exact List.nil_sublist _
theorem Em(C:au):∀fs:List af,((bG C fs).map Prod.fst).Sublist (aI fs)
 | []=>List.Sublist.refl _
 |f ::r=>by
  have o:=Ej C f;have h:=Em C r;unfold bG aI at h⊢;rw[jC,jC,aZ];exact o.append h
theorem En:∀{fs:List af},(aI fs).Nodup->∀{f g:af},f∈fs->g∈fs->∀{i:Nat},i∈f.blocks->i∈g.blocks->f=g
 |x ::r,hn,f,g,hf,hg,i,h1,h2=>by
  unfold aI at hn;rw[jC]at hn;obtain⟨n1,n2,A⟩:=List.nodup_append.1 hn;have z:∀{y:af},y∈r->i∈y.blocks->i∈r.flatMap af.blocks:=λE D=>rR.2 ⟨_,E,D⟩
  rcases List.mem_cons.1 hf with rfl|o
  ·rcases List.mem_cons.1 hg with rfl|h
   ·rfl
   ·exact absurd rfl (A i h1 i (z h h2))
  ·rcases List.mem_cons.1 hg with rfl|h
   ·exact absurd rfl (A i h2 i (z o h1))
   ·exact En n2 o h h1 h2
theorem wu{at_:Nat}(h:i∈(aP at_ b).map Prod.fst):at_<=i/\i<at_+16:=by
 unfold Dk.aP at h;rw[List.map_map]at h;obtain⟨k,o,rfl⟩:=List.mem_map.1 h;have:=List.mem_range.1 o;show at_<=at_+k/\at_+k<at_+16
 omega
theorem Eo{at_:Nat}(y:m.wt= [])(h: (m.slot at_ b).2=0): (m.slot at_ b).1.bl=puts m.bl (aP at_ b)/\(m.slot at_ b).1.off=m.off/\(m.slot at_ b).1.wt= []:=by
 unfold DM.slot at h⊢
 by_cases o: (m.writes (aP at_ b)).2=0
 ·rw[if_pos o]at h⊢;obtain⟨w1,w2,A⟩:=lH o;obtain⟨s1,s2,z⟩:=sS h;refine⟨?_,s1.trans w2,z⟩;rw[s2,w1,A,y,List.nil_append]
 ·rw[if_neg o]at h;exact absurd h o
theorem Ep(G:m.wt= [])(h: (m.dR ver b).2=0): (m.dR ver b).1.bl=puts (puts m.bl (aP (ver%2*16) b)) (aP ((ver+1)%2*16) b)/\(m.dR ver b).1.off=m.off/\(m.dR ver b).1.wt= []:=by
 unfold DM.dR at h⊢
 by_cases o: (m.slot (ver%2*16) b).2=0
 ·rw[if_pos o]at h⊢;obtain⟨y,z,A⟩:=Eo G o;obtain⟨D,E,F⟩:=Eo A h;exact⟨by rw[D,y],E.trans z,F⟩
 ·rw[if_neg o]at h;exact absurd h o
theorem wz(E:m.wt= [])(h: (di m C fs ver b).2=0): (di m C fs ver b).1.bl=puts (puts (puts m.bl (bG C fs)) (aP (ver%2*16) b)) (aP ((ver+1)%2*16) b)/\(di m C fs ver b).1.off=m.off/\(di m C fs ver b).1.wt= []:=by
 unfold di at h⊢
 by_cases o: (m.writes (bG C fs)).2=0
 ·rw[if_pos o]at h⊢
  by_cases y: (m.writes (bG C fs)).1.sync.2=0
  ·rw[if_pos y]at h⊢;obtain⟨w1,w2,G⟩:=lH o;obtain⟨s1,s2,F⟩:=sS y;obtain⟨z,A,D⟩:=Ep F h;refine⟨?_,A.trans (s1.trans w2),D⟩;rw[z,s2,w1,G,E,List.nil_append]
  ·rw[if_neg y]at h;exact absurd h y
 ·rw[if_neg o]at h;exact absurd h o
theorem Er(o:m.wt= [])(h: (di m C fs ver b).2=0): (di m C fs ver b).1.bl.length=m.bl.length:=by
 rw[(wz o h).1,mM,mM,mM]
theorem Es(y:m.wt= [])(h: (di m C fs ver b).2=0)(z:32<=i): (di m C fs ver b).1.bl[i]? =(puts m.bl (bG C fs))[i]?:=by
 rw[(wz y h).1]
 have hlt:∀v,i∉(aP (v%2*16) b).map Prod.fst:=λv o=>by
  have:=wu o;have:=fJ v (show 0<2 by decide)
  omega
 rw[nV _ _ _ (hlt _),nV _ _ _ (hlt _)]
structure lU(bl:List (List UInt8))(fs:List af)(H:Files):Prop where
 there:∀f∈fs,∃b,H f.name=some b/\tN bl f b
 none_:∀nm,nm∉fs.map af.name->H nm=none
def cO(C:au)(H:Files):Files:=λnm=>
 match C nm with
 |some o=>o
 |none=>H nm
theorem Et(C:au):∀(ss:List (List UInt8)) (p p':PL),dN C ss p=some p'->∀nm,nm∈p'.fs.map af.name↔nm∈p.fs.map af.name\/(nm∈ss/\∃b,C nm=some (some b))
 | [],p,p',h,nm=>by
  have h:some p=some p':=h;cases h
  simp
 |x ::r,p,p',h,nm=>by
  unfold dN at h;rw[List.foldl_cons]at h
  cases y:dx C x p with
  |none=>
   rw[show(some p:Option PL).bind (dx C x)=none from y,pF]at h;cases h
  |some q=>
   rw[show(some p:Option PL).bind (dx C x)=some q from y]at h;rw[Et C r q p' h nm]
   have hq:nm∈q.fs.map af.name↔nm∈p.fs.map af.name\/(nm=x/\∃b,C nm=some (some b)):=by
    unfold dx at y
    cases hC:C x with
    |none=>
     rw[hC]at y;have y:=Option.some.inj y;subst y;refine⟨.inl,λh=>h.elim id ?_⟩;rintro⟨rfl,b,hb⟩;rw[hC]at hb;cases hb
    |some o=>
     rw[hC]at y
     cases o with
     |none=>
      have y:=Option.some.inj y;subst y;refine⟨.inl,λh=>h.elim id ?_⟩;rintro⟨rfl,b,hb⟩;rw[hC]at hb;cases hb
     |some b=>
      dsimp only at y
      split at y
      ·cases y
      ·have y:=Option.some.inj y;subst y
       constructor
       ·intro h;obtain⟨f,A,rfl⟩:=List.mem_map.1 h;rcases mQ.1 A with rfl|A
        ·exact .inr ⟨rfl,b,hC⟩
        ·exact .inl (List.mem_map.2 ⟨f,A,rfl⟩)
       ·rintro(h|⟨rfl,_⟩)
        ·obtain⟨f,A,rfl⟩:=List.mem_map.1 h;exact List.mem_map.2 ⟨f,mQ.2 (.inr A),rfl⟩
        ·exact List.mem_map.2 ⟨newF nm b p,mQ.2 (.inl rfl),rfl⟩
   rw[hq]
   constructor
   ·rintro((h|⟨rfl,h⟩)|⟨z,D⟩)
    ·exact .inl h
    ·exact .inr ⟨by simp,h⟩
    ·exact .inr ⟨by simp[z],D⟩
   ·rintro(h|⟨z,D⟩)
    ·exact .inl (.inl h)
    ·rcases List.mem_cons.1 z with rfl|z
     ·exact .inl (.inr ⟨rfl,D⟩)
     ·exact .inr ⟨z,D⟩
theorem Eu(C:au):∀(ss:List (List UInt8)) (p p':PL),(∀nm∈ss,C nm≠none)->dN C ss p=some p'->∀f∈p'.fs,C f.name=none->f∈p.fs
 | [],p,p',_,h,f,hf,_=>by
  have h:some p=some p':=h;cases h;exact hf
 |x ::r,p,p',hss,h,f,hf,hc=>by
  unfold dN at h;rw[List.foldl_cons]at h
  cases o:dx C x p with
  |none=>
   rw[show(some p:Option PL).bind (dx C x)=none from o,pF]at h;cases h
  |some q=>
   rw[show(some p:Option PL).bind (dx C x)=some q from o]at h;have y:=Eu C r q p' (λnm z=>hss nm (by simp[z])) h f hf hc;unfold dx at o
   split at o
   ·split at o
    ·cases o
    ·have o:=Option.some.inj o;subst o;rcases mQ.1 y with rfl|y
     ·exact absurd hc (hss x (by simp))
     ·exact y
   ·have o:=Option.some.inj o;subst o;exact y
theorem Oz{ss:List (List UInt8)}{n next nx:Nat}{fs':List af}(hn:n=m.bl.length)(h9:n<=65536)(h:lU m.bl fs H)(x1:dO n ver next fs)(Y:∀nm b,C nm=some (some b)->b.length<=1048576)(hK:Keys C ss)(hs:∀nm∈ss,nm.length<=32)(y:jI C ss n ver next fs=some (nx,fs'))(S:m.wt= [])(b:List UInt8)(T: (di m C fs' (ver+1) b).2=0):lU (di m C fs' (ver+1) b).1.bl fs' (cO C H):=by
 obtain⟨P,x0⟩:=zI x1 h9 Y hK hs y;unfold jI at y
 by_cases R:ver=18446744073709551615
 ·rw[if_pos R]at y;cases y
 rw[if_neg R]at y;cases hF:dN C ss (kS C n next fs)with
 |none=>rw[hF]at y;cases y
 |some p=>
  rw[hF]at y;dsimp only at y
  by_cases O:dw (ver+1) p.next p.fs=true
  ·rw[if_pos O]at y;have y:=Option.some.inj y;have U:p.fs=fs':=congrArg Prod.snd y;subst U;have M:=(P.ok.aJ).1;have h5: ((bG C p.fs).map Prod.fst).Nodup:=(Em C p.fs).nodup M;refine⟨λf z=>?_,λnm F=>?_⟩
   ·have L:=P.ok.each f z;rcases x0 f z with hc|⟨D,hc,I⟩
    ·have h3:f∈fs:=(iA.1 (Eu C ss _ p (λnm F=>(hK.mem nm).1 F) hF f z hc)).1;obtain⟨D,Z,J⟩:=h.there f h3;refine⟨D,by unfold cO;rw[hc];exact Z,J.size,J.many,λk i A=>?_⟩;have E:=jM A;rw[Es S T (L.blocks i E).1,nV,J.at_ k i A];intro h8;obtain⟨w,x2,rfl⟩:=List.mem_map.1 h8;obtain⟨f',h0,G⟩:=rR.1 x2;have h4:w.1∈f'.blocks:=(Ej C f').subset (List.mem_map.2 ⟨w,G,rfl⟩);have e:f=f':=En M z h0 E h4;subst e;unfold kT at G;rw[hc]at G;cases G
    ·refine⟨D,by unfold cO;rw[hc],I.size,I.many.symm,λk i A=>?_⟩;have E:=jM A;have h6:=(jS.1 A).1;rw[Es S T (L.blocks i E).1];refine wm _ _ _ _ h5 ?_ (by rw[<-hn];exact I.pG i E);refine rR.2 ⟨f,z,?_⟩;unfold kT;rw[hc];refine List.mem_map.2 ⟨k,List.mem_range.2 h6,?_⟩;rw[List.getD_eq_getElem?_getD,A]
     rfl
   ·rw[Et C ss _ p hF nm]at F;have V:nm∉(kS C n next fs).fs.map af.name:=λh=>F (.inl h)
    have X:¬∃b,C nm=some (some b):=λh=>F (.inr ⟨(hK.mem nm).2 (by obtain⟨b,hb⟩:=h;rw[hb];exact λh=>by cases h),h⟩)
    unfold cO
    cases hc:C nm with
    |none=>
     refine h.none_ nm (λh7=>V ?_);obtain⟨f,z,rfl⟩:=List.mem_map.1 h7;exact List.mem_map.2 ⟨f,iA.2 ⟨z,by rw[hc];rfl⟩,rfl⟩
    |some o=>
     cases o with
     |none=>rfl
     |some D=>exact absurd ⟨D,hc⟩ X
  ·rw[if_neg O]at y;cases y
theorem OA(h:lU bl fs H)(D:rises fs)(nm:List UInt8):kX bl C fs nm=match cO C H nm with
 |some b=>(b,0)
 |none=>([],8):=by
 unfold kX cO
 cases hc:C nm with
 |some o=>cases o <;> rfl
 |none=>
  dsimp only;unfold nU
  by_cases z:nm∈fs.map af.name
  ·obtain⟨f,y,rfl⟩:=List.mem_map.1 z;obtain⟨b,hb,A⟩:=h.there f y;rw[Ec D y,hb];exact Ox A
  ·rw[Ed (λf y e=>z (List.mem_map.2 ⟨f,y,e⟩)),h.none_ nm z]
theorem Ev(h:lU bl fs H)(nm:List UInt8):qW C fs nm↔cO C H nm≠none:=by
 unfold qW cO
 cases hc:C nm with
 |some o=>cases o <;> simp
 |none=>
  dsimp only
  constructor
  ·intro y;obtain⟨f,z,rfl⟩:=List.mem_map.1 y;obtain⟨b,hb,_⟩:=h.there f z;rw[hb];exact λh=>by cases h
  ·intro A;exact rZ λy=>A (h.none_ nm y)
theorem Ew(h:m.aM<0):m.deed=(m,0):=by
 unfold DM.deed;rw[if_neg (by omega),if_neg (by omega)]
theorem OB(h:m.aM<0)(i:Nat)(b:List UInt8): (m.write i b).2=0/\(m.write i b).1.aM=m.aM:=by
 unfold DM.write;rw[if_neg (by omega),Ew h];exact⟨rfl,rfl⟩
theorem zO:∀(l:List (Nat×List UInt8)) {m:DM},m.aM<0->(m.writes l).2=0/\(m.writes l).1.aM=m.aM
 | [],_,_=>⟨rfl,rfl⟩
 |x ::r,m,h=>by
  obtain⟨o,y⟩:=OB h x.1 x.2;obtain⟨z,A⟩:=zO r (m:=(m.write x.1 x.2).1) (by omega);unfold DM.writes;rw[if_pos o];exact⟨z,A.trans y⟩
theorem Ey(h:m.aM<0):m.sync.2=0/\m.sync.1.aM=m.aM:=by
 unfold DM.sync;rw[if_neg (by omega),Ew h];exact⟨rfl,rfl⟩
theorem wB(h:m.aM<0)(at_:Nat)(b:List UInt8): (m.slot at_ b).2=0/\(m.slot at_ b).1.aM=m.aM:=by
 obtain⟨o,y⟩:=zO (aP at_ b) h;obtain⟨z,A⟩:=Ey (m:=(m.writes (aP at_ b)).1) (by omega);unfold DM.slot;rw[if_pos o];exact⟨z,A.trans y⟩
theorem wC(h:m.aM<0)(C:au)(fs:List af)(ver:Nat)(b:List UInt8): (di m C fs ver b).2=0/\(di m C fs ver b).1.aM=m.aM:=by
 obtain⟨o,D⟩:=zO (bG C fs) h;obtain⟨y,E⟩:=Ey (m:=(m.writes (bG C fs)).1) (by omega);obtain⟨z,F⟩:=wB (m:=(m.writes (bG C fs)).1.sync.1) (by omega) (ver%2*16) b;obtain⟨A,G⟩:=wB (m:=((m.writes (bG C fs)).1.sync.1.slot (ver%2*16) b).1) (by omega) ((ver+1)%2*16) b;unfold di;rw[if_pos o,if_pos y];unfold DM.dR;rw[if_pos z];exact⟨A,by omega⟩
end Full
namespace Full
open Go.RowKit aA Dk
open Store (au)
open Ext (bX fU bP nS frees flips bS pz fits outs fK dI vW)
end Full
namespace Full
open Go.RowKit Go.Deep Mem Crc Go.Maps Dk aA
open Store (au fV bT none' nv Files St)
open jZ (Blank zs)
open kP (dh)
def D0(N:Nat):DM:=⟨List.replicate N (List.replicate 128 0),[],false,-1⟩
theorem OC(N:Nat):lG (List.replicate N (List.replicate 128 0))=List.replicate (N*128) (.int .u8 0):=by
 induction N with
 |zero=>rfl
 |succ n h=>
  unfold Dk.lG at h⊢;rw[List.replicate_succ,jC,h,List.map_replicate,eY,Nat.add_comm,<-List.replicate_append_replicate]
  rfl
variable {w:World}{d g N:Nat}
theorem OD(h:Blank w d g N false)(o:N<=65536):Dk w d g (.slice none 0 0) (D0 N):=by
 refine⟨?_,?_,World.ownsRow_nil _ _ _ _,?_,?_,(by show(-9223372036854775808:Int)<= -1;decide),(by show(-1:Int)<=9223372036854775807;decide),?_,λ_=>rfl⟩
 ·have e: (D0 N).bl.length=N:=by unfold D0;exact List.length_replicate
  rw[e];exact h.disk
 ·have e: (lG (D0 N).bl).toArray=zs (N*128):=by
   unfold D0;rw[OC];unfold jZ.zs
   simp
  rw[e];exact h.row
 ·intro b hb;have:=List.eq_of_mem_replicate hb;rw[this];exact List.length_replicate
 ·intro x y;cases y
 ·unfold D0;rw[List.length_replicate];exact o
theorem _root_.Go.Proofs.YtndkohocgfmamaaGreatDoor.Store.St.full{Q:Nat->Prop}{s cm:Nat}(h:St w Q s d g N cm false none')(D:N<=65536):Fu w Q s d g cm (.slice none 0 0) (D0 N) 0 0 none 0 [] false none':=by
 obtain⟨f,y,z,A⟩:=h.map;refine⟨h.store,OD h.disk D,⟨.inl rfl,λx o=>(by cases o)⟩,λk e=>(by cases e),λx o=>(by cases o),⟨f,y,z,λnm=>A nm⟩,h.qs,h.qm,λk E=>?_,h.lt⟩;rcases E with rfl|rfl|e
 ·exact h.qd
 ·exact h.qg
 ·cases e
theorem OE(N:Nat):lU (D0 N).bl [] (λ_=>none):=⟨λf h=>(by cases h),λ_ _=>rfl⟩
theorem zP(N:Nat): (D0 N).bl.length=N:=by unfold D0;exact List.length_replicate
end Full
namespace Full
open Go.RowKit aA Dk Varint
open Store (au none' dV lT jJ Files)
open Ext (bX fU bP)
end Full
namespace Full
open Go.RowKit Go.Deep Mem Crc Go.Maps Dk aA
open Store (au fV bT none' nv Files dV lT jJ)
open Ext (Tab bP)
def pM(C:au)(n:Nat):Prop:=∃L:List (List UInt8),(∀x,C x≠none->x∈L)/\L.length<=n/\(∀x∈L,x.length<=32)/\∀nm b,C nm=some (some b)->b.length<=1048576
theorem wD(n:Nat):pM none' n:=⟨[],λx h=>absurd rfl h,aC _,λx o=>(by cases o),λnm b h=>by cases h⟩
variable {C:au}{n:Nat}
theorem pM.set(h:pM C n)(nm:List UInt8)(E:nm.length<=32)(o:Option (List UInt8))(F:∀b,o=some b->b.length<=1048576):pM (dV C nm (some o)) (n+1):=by
 obtain⟨L,z,G,A,D⟩:=h;refine⟨nm ::L,λx y=>?_,by simp;omega,λx y=>?_,λx b y=>?_⟩
 ·by_cases e:x=nm
  ·rw[e];simp
  ·rw[jJ _ e]at y;exact eD _ (z x y)
 ·rcases List.mem_cons.1 y with rfl|y
  ·exact E
  ·exact A x y
 ·by_cases e:x=nm
  ·subst e;rw[lT]at y;exact F b (Option.some.inj y)
  ·rw[jJ _ e]at y;exact D x b y
theorem OG(p:List UInt8->Prop):∀L:List (List UInt8),(∀x,p x->x∈L)->∃K:List (List UInt8),K.Nodup/\∀x,x∈K↔p x:=by
 intro L G
 have h:∀M:List (List UInt8),∃K:List (List UInt8),K.Nodup/\∀x,x∈K↔x∈M/\p x:=by
  intro M
  induction M with
  |nil=>exact⟨[],oM,λx=>by simp⟩
  |cons a r I=>
   obtain⟨K,z,y⟩:=I;rcases Classical.em (a∈K\/¬p a)with o|o
   ·refine⟨K,z,λx=>?_⟩;rw[y x,List.mem_cons]
    constructor
    ·exact λh=>⟨.inr h.1,h.2⟩
    ·rintro⟨rfl|D,A⟩
     ·rcases o with o|o
      ·exact(y x).1 o
      ·exact absurd A o
     ·exact⟨D,A⟩
   ·have D:a∉K:=λh=>o (.inl h)
    have A:p a:=rZ λh=>o (.inr h)
    refine⟨a ::K,oL.2 ⟨D,z⟩,λx=>?_⟩;rw[List.mem_cons,y x,List.mem_cons]
    constructor
    ·rintro(rfl|h)
     ·exact⟨.inl rfl,A⟩
     ·exact⟨.inr h.1,h.2⟩
    ·rintro⟨rfl|E,F⟩
     ·exact .inl rfl
     ·exact .inr ⟨E,F⟩
 obtain⟨K,z,y⟩:=h L;exact⟨K,z,λx=>(y x).trans ⟨λh=>h.2,λh=>⟨G x h,h⟩⟩⟩
theorem OH(h:pM C n):∃ss,Keys C ss:=by
 obtain⟨L,o,_⟩:=h;obtain⟨K,y,z⟩:=OG (λx=>C x≠none) L o;exact⟨_,zD (oN K) y,λnm=>by rw[List.mem_mergeSort];exact z nm⟩
structure On(B s d g cm:Nat)(w:World)(Q:Nat->Prop)(m:DM)(ver next:Nat)(fs:List af)(C:au)(H:Files)(n:Nat):Prop where
 fu:∃wv a c l,Fu w Q s d g cm wv m ver next a c l false C/\l.map FR.f=fs
 off:m.off=false
 wt:m.wt= []
 big:33<=m.bl.length
 on:lU m.bl fs H
 ok:dO m.bl.length ver next fs
 few:pM C n
 base:∀k,Q k->B<=k
 tab:Tab w
 pos:0<B
 low:B<=w.heap.size
variable {B s d g cm:Nat}{w:World}{Q:Nat->Prop}{m:DM}{ver next:Nat}{fs:List af}{C:au}{H:Files}{n:Nat}
theorem On.small(h:On B s d g cm w Q m ver next fs C H n):m.bl.length<=65536:=by
 obtain⟨wv,a,c,l,o,_⟩:=h.fu;exact o.disk.small
theorem On.lt(h:On B s d g cm w Q m ver next fs C H n):∀k,Q k->k<w.heap.size:=by
 obtain⟨wv,a,c,l,o,_⟩:=h.fu;exact o.lt
variable {w':World}
theorem On.keep{X:Nat->Prop}(h:On B s d g cm w Q m ver next fs C H n)(o:Upon X w w')(y:∀k,X k->¬Q k/\k≠0):On B s d g cm w' Q m ver next fs C H n:=by
 obtain⟨wv,a,c,l,z,hl⟩:=h.fu;exact⟨⟨wv,a,c,l,z.upon o (λk D=>(y k D).1),hl⟩,h.off,h.wt,h.big,h.on,h.ok,h.few,h.base,λj A=>(World.cell?_of_block (o.block 0 h.tab.lt (λe=>(y 0 e).2 rfl))).trans (h.tab j A),h.pos,ax h.low o.size⟩
theorem On.up(h:On B s d g cm w Q m ver next fs C H n)(o:Upon Q w w'):Below B w w':=o.below h.low h.base
theorem On.then{Q':Nat->Prop}{o:DM}{pI next':Nat}{y:List af}{z:au}{A:Files}{n':Nat}(h:On B s d g cm w Q m ver next fs C H n)(D:Upon Q w w')(hq:∀k,Q' k->Q k\/w.heap.size<=k)(O:∃wv a c l,Fu w' Q' s d g cm wv o pI next' a c l false z/\l.map FR.f=y)(E:o.off=false)(F:o.wt= [])(G:33<=o.bl.length)(I:lU o.bl y A)(J:dO o.bl.length pI next' y)(L:pM z n'):On B s d g cm w' Q' o pI next' y z A n':=
 ⟨O,E,F,G,I,J,L,λk P=>(hq k P).elim (h.base k) (λM=>ax h.low M),h.tab.below (h.up D) h.pos,h.pos,ax h.low D.size⟩
theorem OI(h:On B s d g cm w Q m ver next fs C H n)(O:n<=100000)(nm:List UInt8)(E:1<=nm.length)(y:nm.length<=32)(o:Option Addr)(cp:Nat)(b:List UInt8)(hb:Lies w o (b.map bv))(z:b.length<=1048576):
  Calls prog 30 #[.pointer (some ⟨s,0,none⟩),nv nm,.slice o b.length cp] w λe w'=>e=.returned (.int .i64 0)/\∃Q',On B s d g cm w' Q' m ver next fs (dV C nm (some (some b))) H (n+1)/\(∀k,Q' k->Q k\/w.heap.size<=k)/\Upon Q w w':=by
 obtain⟨wv,a,c,l,A,hl⟩:=h.fu;obtain⟨L,J,P,R,S⟩:=h.few;refine(Ol A (by rw[h.off];rfl) L J (by omega) nm E y o cp b hb z).mono ?_;rintro e w' ⟨rfl,Q',F,hq,_,I⟩;have D:Upon Q w w':=Upon.fB I (λk G=>.inl (by rw[jE.1 G];exact A.qm));exact⟨rfl,Q',h.then D hq ⟨wv,a,c,l,F,hl⟩ h.off h.wt h.big h.on h.ok (h.few.set nm y (some b) (λM e=>by cases e;exact z)),hq,D⟩
theorem OJ(h:On B s d g cm w Q m ver next fs C H n)(M:n<=90000):
  Calls prog 48 #[.pointer (some ⟨s,0,none⟩)] w λe w'=>∃(v:Value) (ss:List (List UInt8)),e=.returned v/\w'.ownsRow w.heap.size 9 1 v ss.length (ss.map encStr)/\(∀nm,nm∈ss↔cO C H nm≠none)/\ss.Pairwise (·< ·)/\ss.length<=2035+n/\Below w.heap.size w w':=by
 obtain⟨wv,a,c,l,E,hl⟩:=h.fu;obtain⟨L,G,O,I,P⟩:=h.few;have F:=h.ok.few;rw[<-hl,jP]at F;refine(Ef E L G (by omega) (λx o=>by have:=I x o;omega) (by omega) (λx o=>(h.ok.ok.each x.f (by rw[<-hl];exact List.mem_map.2 ⟨x,o,rfl⟩)).n2)).mono ?_;rintro e w' ⟨v,ss,rfl,y,z,A,J,D⟩;refine⟨v,ss,rfl,y,λnm=>?_,A,by omega,D⟩;rw[z nm,hl];exact Ev h.on nm
def wE(o:Option (List UInt8)):List UInt8×Int:=
 match o with
 |some b=>(b,0)
 |none=>([],8)
theorem Ez(h:On B s d g cm w Q m ver next fs C H n)(nm:List UInt8)(y:nm.length<=1000000):
  Calls prog 108 #[.pointer (some ⟨s,0,none⟩),nv nm] w λe w'=>∃v,e=.returned (.tuple #[v,.int .i64 (wE (cO C H nm)).2])/\ak w' w.heap.size v (wE (cO C H nm)).1/\Below w.heap.size w w':=by
 obtain⟨wv,a,c,l,o,hl⟩:=h.fu;obtain⟨L,D,E,F,A⟩:=h.few;have z:kX m.bl C fs nm=wE (cO C H nm):=OA h.on h.ok.ok.rise nm;have:=Oj o (by rw[hl];exact h.ok) (by rw[h.off];rfl) h.wt nm y (λb hb=>by have:=A nm b hb;omega);rw[hl,z]at this;exact this
theorem OL(h:On B s d g cm w Q m ver next fs C H n)(P:n<=90000)(nm:List UInt8)(G:nm.length<=32)(A:cO C H nm≠none):
  Calls prog 101 #[.pointer (some ⟨s,0,none⟩),nv nm] w λe w'=>e=.returned (.int .i64 0)/\∃Q',On B s d g cm w' Q' m ver next fs (dV C nm (some none)) H (n+1)/\(∀k,Q' k->Q k\/w.heap.size<=k)/\Upon Q w w':=by
 obtain⟨wv,a,c,l,y,hl⟩:=h.fu;obtain⟨L,J,R,M,S⟩:=h.few;have E:=h.ok.few;rw[<-hl,jP]at E;refine(Ou y (by rw[h.off];rfl) L J (by omega) (λx o=>by have:=M x o;omega) (by omega) (λx o=>(h.ok.ok.each x.f (by rw[<-hl];exact List.mem_map.2 ⟨x,o,rfl⟩)).n2) nm (by omega) (by rw[hl];exact(Ev h.on nm).2 A)).mono ?_;rintro e w' ⟨rfl,Q',D,hq,_,I⟩;have z:Upon Q w w':=Upon.fB I (λk F=>.inl (by rw[jE.1 F];exact y.qm));exact⟨rfl,Q',h.then z hq ⟨wv,a,c,l,D,hl⟩ h.off h.wt h.big h.on h.ok (h.few.set nm G none (λO e=>by cases e)),hq,z⟩
theorem OM(h:On B s d g cm w Q m ver next fs C H n)(o:∀nm,C nm=none):
  Calls prog 22 #[.pointer (some ⟨s,0,none⟩)] w λe w'=>e=.returned (.int .i64 0)/\w'=w:=by
 obtain⟨wv,a,c,l,y,hl⟩:=h.fu;exact Oc y (by rw[h.off];rfl) o
def wF(m:DM)(C:au)(ver:Nat)(p:Nat×List af):DM:=(di m C p.2 (ver+1) (bI (ver+1) p.1 p.2)).1
theorem OO{m:DM}(o:m.aM<0)(C:au)(ver:Nat)(p:Nat×List af): (wF m C ver p).aM<0:=by
 have h:=(wC o C p.2 (ver+1) (bI (ver+1) p.1 p.2)).2;unfold wF;rw[h];exact o
theorem OP(h:On B s d g cm w Q m ver next fs C H n)(X:m.aM<0)(Z:n<=9000){ss:List (List UInt8)}(hK:Keys C ss)(M:¬∀nm,C nm=none):
  Calls prog 22 #[.pointer (some ⟨s,0,none⟩)] w λe w'=>
   match jI C ss m.bl.length ver next fs with
   |none=>e=.returned (.int .i64 7)/\Below w.heap.size w w'
   |some p=>e=.returned (.int .i64 0)/\∃Q',On B s d g cm w' Q' (wF m C ver p) (ver+1) p.1 p.2 none' (cO C H) 0/\(∀k,Q' k->Q k\/w.heap.size<=k)/\Upon Q w w':=by
 obtain⟨wv,a,c,l,R,hl⟩:=h.fu;obtain⟨L,G,l2,I,z⟩:=h.few;have E:∀nm∈ss,nm.length<=32:=λnm T=>I nm (G nm ((hK.mem nm).1 T))
 refine(Oe R h.tab L G (by omega) I z (by rw[hl];exact h.ok) hK h.off (by rw[h.wt];exact aC _) h.big M).mono ?_;intro e w' hc;rw[hl]at hc
 cases hp:jI C ss m.bl.length ver next fs with
 |none=>rw[hp]at hc;exact hc
 |some p=>
  rw[hp]at hc;obtain⟨O,F,Q',wv',hq,D⟩:=hc;obtain⟨y,z2⟩:=wC X C p.2 (ver+1) (bI (ver+1) p.1 p.2);rw[if_pos y]at D;obtain⟨a',c',l',S,P⟩:=D;obtain⟨nx,o⟩:=p;obtain⟨Y,J,g3⟩:=wz h.wt y;have A:=Er h.wt y;have U:=(zI h.ok h.small z hK E hp).1;have V:=Oz rfl h.small h.on h.ok z hK E hp h.wt _ y;refine⟨by rw[O,y],Q',h.then F hq ⟨wv',a',c',l',P,S⟩ (J.trans h.off) g3 ?_ V ?_ (wD 0),hq,F⟩
  ·show 33<=(di m C o (ver+1) (bI (ver+1) nx o)).1.bl.length;rw[A];exact h.big
  ·show dO (di m C o (ver+1) (bI (ver+1) nx o)).1.bl.length (ver+1) nx o;rw[A];exact U
end Full
namespace bQ
open Go.RowKit Go.Deep Mem Crc
open Store (nv)
abbrev FF:=List UInt8×List UInt8
def FF.vs(x:FF):List Value:=[nv x.1,nv x.2]
def aU(l:List FF):List Value:=l.flatMap FF.vs
theorem EA:∀l:List FF,(aU l).length=l.length*2
 | []=>rfl
 |x ::r=>by
  unfold aU;rw[jC,jL,List.length_cons];have:=EA r;unfold aU at this;rw[this];show 2+_=_
  omega
theorem zQ:∀{l:List FF} {k:Nat} {x:FF},l[k]? =some x->∀{j:Nat} {u:Value},(FF.vs x)[j]? =some u->(aU l)[k*2+j]? =some u
 | [],k,x,hx,_,_,_=>by simp at hx
 |y ::r,0,x,hx,j,u,hu=>by
  simp at hx
  subst hx;unfold aU;rw[jC,iK (by have:=(jS.1 hu).1;omega)]
  simpa using hu
 |y ::r,k+1,x,hx,j,u,hu=>by
  have:=zQ (l:=r) (k:=k) (x:=x) (by simpa using hx) hu;have e: (FF.vs y).length=2:=rfl;unfold aU at this⊢;rw[jC,iL (by rw[e];omega),<-this]
  congr 1
  rw[e]
  omega
variable {l:List FF}{k:Nat}{x:FF}{nm:List UInt8}
theorem tO{w:World}{a:Option Addr}(h:Lies w a (aU l))(y:l[k]? =some x):∃g o,a=some ⟨g,o,none⟩/\w.cell? ⟨g,o+k*2,none⟩=some (nv x.1)/\w.cell? ⟨g,o+k*2+1,none⟩=some (nv x.2):=by
 rcases h with h|⟨g,o,rfl,_,hc⟩
 ·have:=congrArg List.length h;rw[EA]at this;have z:=(jS.1 y).1
  simp at this
  omega
 ·exact⟨g,o,rfl,hc _ _ (zQ y (j:=0) rfl),by rw[Nat.add_assoc];exact hc _ _ (zQ y (j:=1) rfl)⟩
theorem tQ{x y:List UInt8}{z A:ByteArray}(h:nv x=.string z)(o:nv y=.string A): (z.toList==A.toList)=(x==y):=by
 unfold Store.nv at h o;injection h with h;injection o with o;subst h o;rw[Lib.toList_data,Lib.toList_data]
def fE(l:List FF)(nm:List UInt8):Nat:=l.findIdx (λx=>x.1==nm)
theorem EB(D:l[k]? =some x)(h:x.1=nm)(A:∀j,j<k->∀y,l[j]? =some y->y.1≠nm):fE l nm=k:=by
 obtain⟨z,E⟩:=jS.1 D;unfold fE;rw[List.findIdx_eq z];refine⟨by rw[E];simpa using h,λj o=>?_⟩;have:=A j o _ (jg (by omega))
 simpa using this
theorem EC(o:∀j,j<l.length->∀y,l[j]? =some y->y.1≠nm):fE l nm=l.length:=by
 unfold fE;rw[List.findIdx_eq_length];intro x z;obtain⟨j,h⟩:=List.mem_iff_getElem?.1 z;have:=o j (jS.1 h).1 x h
 simpa using this
theorem zR(t:TypeId)(a b:ByteArray):binOp .eql t (.string a) (.string b)=pure (.bool (a.toList==b.toList)):=by simp[binOp,Op.stringOp]
attribute [local go_sem] zR
attribute [local go_sem] Oper.semAt_some
theorem nM(a:Option Addr)(cp:Nat)(l:List FF)(nm:List UInt8)(w:World)(h:Lies w a (aU l))(hn:l.length<=1000000):
  Calls prog 51 #[.slice a l.length cp,nv nm] w λe w'=>e=.returned (.tuple #[.int .i64 (if fE l nm<l.length then(fE l nm:Int)else 0),.bool (decide (fE l nm<l.length))])/\w'=w:=by
 obtain⟨rv,J⟩:=jl (Value.tuple #[.int .i64 (if fE l nm<l.length then(fE l nm:Int)else 0),.bool (decide (fE l nm<l.length))]);rw[<-J];have S:=jq J;clear J;obtain⟨n,G⟩:=jl l.length;obtain⟨sn,L⟩:∃b:ByteArray,nv nm=.string b:=⟨_,rfl⟩;rw[<-G]at hn⊢;rw[L];have H:=jq h;have E:=jq G;have T:=jq L;clear h G L
 go_enter func51,ntmps51
 go_wp2_with fail
 go_loopw[9] (λi wr=>∃k:Nat,k<=n/\i=.int .i64 (k:Int)/\wr=w/\Hid (∀j,j<k->∀x,l[j]? =some x->x.1≠nm)) (λi _=>n-(intOf i).toNat)
 case atStart=>exact⟨0,aC _,rfl,rfl,jq (λj A=>absurd A (je _))⟩
 case round=>
  obtain⟨k,hk,rfl,rfl,I⟩:=hrel
  by_cases F:k<n
  ·have h0:decide ((k:Int) <(n:Int))=true:=jd (by omega);obtain⟨x,O⟩:∃x,l[k]? =some x:=⟨l[k]'(by rw[<-E.out];exact F),jg _⟩;obtain⟨g,o,rfl,Z,_⟩:=tO H.out O;obtain⟨sx,M⟩:∃b:ByteArray,nv x.1=.string b:=⟨_,rfl⟩;rw[M]at Z;obtain⟨q,hq⟩:∃b:Bool,(sx.toList==sn.toList)=b:=⟨_,rfl⟩;have V:=jq O;have U:=jq M;have R:=jq hq;clear O M;cases q
   ·go_wp2_with fail
    have h3:x.1≠nm:=λe=>by
     have z:=R.out;rw[tQ U.out T.out,e]at z
     simp at z
    exact⟨⟨k+1,F,by simp,by first|rfl|trivial,jq (λj A y P=>by
     rcases Nat.lt_or_eq_of_le (Nat.le_of_lt_succ A)with z|z
     ·exact I.out j z y P
     ·subst z;rw[V.out]at P;cases P;exact h3)⟩,by simp[intOf];omega⟩
   ·go_wp2_with fail
    go_ret2
    have he:x.1=nm:=by
     have z:=R.out;rw[tQ U.out T.out]at z
     simpa using z
    have D:=EB V.out he I.out;refine⟨?_,rfl⟩;have X:k<l.length:=by rw[<-E.out];exact F
    rw[S.out,D,if_pos X,jd X]
    rfl
  ·obtain rfl:n=k:=by omega
   have h0:decide ((n:Int) <(n:Int))=false:=jf (by omega);have D:fE l nm=l.length:=EC (λj A=>I.out j (by rw[E.out];exact A));have Y:=jq D;clear D
   go_wp2_with fail
   go_ret2
   refine⟨?_,rfl⟩;rw[S.out,Y.out,if_neg (qK _),jf (qK _)]
   rfl
end bQ
end Go.Proofs.YtndkohocgfmamaaGreatDoor
