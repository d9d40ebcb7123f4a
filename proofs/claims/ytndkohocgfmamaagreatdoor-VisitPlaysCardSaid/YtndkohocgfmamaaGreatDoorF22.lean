/- Part. -/
import Derived.Test.YtndkohocgfmamaaGreatDoorF21
import Derived.StillTailTactics
set_option maxHeartbeats 4000000
namespace Go.Proofs.YtndkohocgfmamaaGreatDoor
open Go.Proofs.Tryz
namespace Ext
open Go.RowKit Go.Shelf Mem
set_option maxRecDepth 100000
def turned(x i:Int):Int:=bits .xor .u64 x (IntKind.u64.wrap (2^(i%64).toNat))
def tu(x i:Int):Bool:=bits .and .u64 (turned x i/2^(i%64).toNat) 1==1
def next:Bool->Int->Int
 |true,t=>t+1
 |false,t=>t-1
theorem MS(C g m cap:Nat)(count taken i:Int)(c:Array Value)(x:Int)(w:World)(h:Blk w C 231 #[.slice (some ⟨g,0,none⟩) m cap,.int .i64 count,.int .i64 taken])(d:Blk w g 47 c)(hc:0<=count/\count<=65536)(P:0<=taken/\taken<=65536)(n:0<=i)(F:i<count)(G: (i/64).toNat<m)(y:c[(i/64).toNat]? =some (.int .u64 x)):
  Calls prog 197 #[.pointer (some ⟨C,0,none⟩),.int .i64 i] w λe w'=>e=.returned (.tuple #[])/\Blk w' C 231 #[.slice (some ⟨g,0,none⟩) m cap,.int .i64 count,.int .i64 (next (tu x i) taken)]/\Blk w' g 47 (c.setIfInBounds (i/64).toNat (.int .u64 (turned x i)))/\Only [C,g] w w':=by
 have A:=h.cell 0;have c2:=h.cell 2
 simp at A c2
 have Q:=(d.cell (i/64).toNat).trans y;have O:=d.frozen (i/64).toNat;have R:i.tdiv 64=i/64:=uZ n;have S:i.tmod 64=i%64:=qD n;have W:IntKind.i64.wrap (i/64)=i/64:=IntWalk.i64_in _ (by omega);have u1:IntKind.i64.wrap (i%64)=i%64:=IntWalk.i64_in _ (by omega);have T: (0:Int)<=i%64:=by omega
 have U:i%64<64:=by omega
 have V:¬i%64<0:=by omega
 have M: (0:Int)<=i/64:=by omega
 have N:i/64<(m:Int):=by omega
 obtain⟨a,z⟩:∃a,a=bits .xor .u64 x (IntKind.u64.wrap (2^(i%64).toNat)):=⟨_,rfl⟩;have p:C≠g:=h.ne d (by decide);have b:Blk (w.drew.setCell ⟨g,(i/64).toNat,none⟩ (.int .u64 a)) C 231 #[.slice (some ⟨g,0,none⟩) m cap,.int .i64 count,.int .i64 taken]:=h.drew.far p _;have o:=d.drew.set (i/64).toNat (.int .u64 a);have H: (i/64).toNat<c.size:=(dG.1 y).1;have J:=(o.cell (i/64).toNat).trans (by simp[H]:_=some (.int .u64 a));have r:=jq (CY C g m cap count taken i a _ b hc n F G J);have q:=b.cell 2
 simp at q
 have B:=b.frozen 2;have D: (w.setCell ⟨g,(i/64).toNat,none⟩ (.int .u64 a)).frozen? ⟨C,2,none⟩=false:=b.frozen 2;have E:=b.drew.frozen 2;have L: (w.setCell ⟨g,(i/64).toNat,none⟩ (.int .u64 a)).cell? ⟨C,2,none⟩=some (.int .i64 taken):=q;rw[z]at r q B D E L;have X:IntKind.i64.wrap (taken+1)=taken+1:=IntWalk.i64_in _ (by omega);have Y:IntKind.i64.wrap (taken-1)=taken-1:=IntWalk.i64_in _ (by omega)
 go_enter func197,ntmps197
 go_wp2_with fail
 go_still_tail 13,(by kernel_rfl)
 change wpList _ _ _ _ _ w.drew
 go_wp2_with fail
 refine r.out.mono ?_;rintro e w1 ⟨rfl,rfl⟩;generalize t: (bits .and .u64 (bits .xor .u64 x (IntKind.u64.wrap (2^(i%64).toNat))/2^(i%64).toNat) 1==1)=ans;have v:tu x i=ans:=t;have s:=jq v;clear v t;have u:Only [C,g] w (w.drew.setCell ⟨g,(i/64).toNat,none⟩ (.int .u64 a)):=((Only.refl [C,g] w).drew).set (.inl (by simp)) _;have I:a=turned x i:=z;have j:=jq u;have l:=jq b;have f:=jq o;clear u b o;rw[I]at j l f;cases ans
 ·go_wp2_with fail
  go_end0
  refine⟨rfl,by rw[s.out];exact l.out.set 2 _,f.out.far (λe=>p e.symm) _,j.out.set (.inl (by simp)) _⟩
 ·go_wp2_with fail
  go_end0
  refine⟨rfl,by rw[s.out];exact l.out.set 2 _,f.out.far (λe=>p e.symm) _,j.out.set (.inl (by simp)) _⟩
end Ext
namespace Ext
open Go.RowKit Go.Shelf Mem
set_option maxRecDepth 100000
theorem and_one(n:Nat)(h:n<2^64): (bits .and .u64 (n:Int) 1==1)=n.testBit 0:=by
 have e:=u64_and_nat n 1 h (by decide);rw[nat_mask1]at e;have a: ((1:Nat):Int)=1:=rfl;rw[a]at e;rw[e,Nat.testBit_zero];rcases ve n with h|h <;> simp[h]
theorem div_pow(x j:Nat): (x:Int)/2^j=((x/2^j:Nat):Int):=by simp
theorem Da(x:Nat)(a:x<2^64)(i:Int): (bits .and .u64 ((x:Int)/2^(i%64).toNat) 1==1)=x.testBit (i%64).toNat:=by
 rw[div_pow,and_one _ (Nat.lt_of_le_of_lt (Nat.div_le_self _ _) a),Nat.testBit_zero,Nat.testBit_eq_decide_div_mod_eq]
theorem Db(j:Nat)(h:j<64):IntKind.u64.wrap (2^j)=((2^j:Nat):Int):=by
 have e:IntKind.u64.wrap (2^j)=(2^j:Int)%18446744073709551616:=by simp[IntKind.wrap,IntKind.bits,IntKind.signed]
 have b:2^j<2^64:=rU (by decide) h;have a: (2^j:Int)=((2^j:Nat):Int):=by simp
 rw[e,a];generalize 2^j=n at b
 omega
theorem Dc(x:Nat)(b:x<2^64)(i:Int)(_:0<=i):turned x i=((x ^^^ 2^(i%64).toNat:Nat):Int):=by
 unfold turned;have a: (i%64).toNat<64:=by omega
 rw[Db _ a];exact u64_xor_nat x _ b (rU (by decide) a:2^(i%64).toNat<2^64)
theorem Df(x j:Nat)(b:x<2^64)(a:j<64):x ^^^ 2^j<2^64:=rV b (rU (by decide) a)
theorem Dh(x j b:Nat): (x ^^^ 2^j).testBit b=(x.testBit b ^^ decide (j=b)):=by rw[Nat.testBit_xor,Nat.testBit_two_pow]
theorem MU(x:Nat)(a:x<2^64)(i:Int)(b:0<=i):tu x i= !x.testBit (i%64).toNat:=by
 unfold tu;rw[Dc x a i b,Da _ (Df x _ a (by omega)),Dh]
 simp
def bS(k:List Bool)(i:Nat):List Bool:=k.set i (!k.getD i false)
def flips(k:List Bool)(l:List Int):List Bool:=l.foldl (λk i=>bS k i.toNat) k
theorem nQ(k:List Bool)(i:Nat): (bS k i).length=k.length:=by unfold bS;simp
theorem pz(k:List Bool)(i j:Nat): (bS k i)[j]? =if i=j then k[j]?.map not else k[j]?:=by
 unfold bS;rw[List.getElem?_set]
 by_cases e:i=j
 ·subst e
  by_cases h:i<k.length
  ·simp[h]
  ·simp[h]
 ·simp[e]
theorem MV(k:List Bool)(a b:Nat):bS (bS k a) b=bS (bS k b) a:=by
 apply List.ext_getElem?
 intro j;simp only[pz]
 split <;> split <;> rfl
theorem MX(k:List Bool)(a:Nat):bS (bS k a) a=k:=by
 apply List.ext_getElem?
 intro j;simp only[pz]
 split
 ·cases k[j]? <;> simp
 ·rfl
theorem nR(l:List Int):∀k,(flips k l).length=k.length:=by
 induction l with
 |nil=>intro k;rfl
 |cons i r a=>intro k;show(flips (bS k i.toNat) r).length=_;rw[a,nQ]
theorem zq(l:List Int):∀k a,flips (bS k a) l=bS (flips k l) a:=by
 induction l with
 |nil=>intro k a;rfl
 |cons i r b=>intro k a;show flips (bS (bS k a) i.toNat) r=bS (flips (bS k i.toNat) r) a;rw[MV,b]
theorem MZ(l:List Int):∀k,flips (flips k l) l=k:=by
 induction l with
 |nil=>intro k;rfl
 |cons i r a=>
  intro k;show flips (bS (flips (bS k i.toNat) r) i.toNat) r=k;rw[zq,zq,zq,MX,a]
theorem Di(k:List Bool)(l:List Int)(n:Nat)(i:Int)(h:l[n]? =some i):flips k (l.take (n+1))=bS (flips k (l.take n)) i.toNat:=by
 rw[bF,h];unfold flips;rw[kG]
 rfl
def fits(taken:Bool):List Bool->List Int->Bool
 |_,[]=>true
 |k,i ::r=>(k.getD i.toNat false==taken)&&fits taken (bS k i.toNat) r
def lJ(k:List Bool)(l:List Int)(taken:Bool):Int:=if l.any (outs k.length)then 9 else if fits taken k l then 0 else 13
def fK(k:List Bool)(l:List Int)(taken:Bool):List Bool:=if l.any (outs k.length)then k else if fits taken k l then flips k l else k
theorem M0(taken:Bool)(l:List Int):∀(k:List Bool) (n:Nat) (i:Int),fits taken k (l.take n)=true->l[n]? =some i->fits taken k (l.take (n+1))=((flips k (l.take n)).getD i.toNat false==taken):=by
 induction l with
 |nil=>intro k n i _ h;simp at h
 |cons a r c=>
  intro k n i h b
  cases n with
  |zero=>simp at b;subst b;simp[fits,flips]
  |succ n=>
   simp only[List.take_succ_cons,fits,Bool.and_eq_true]at h;rw[List.take_succ_cons,fits,h.1,Bool.true_and,c _ n i h.2 (by simpa using b)]
   rfl
theorem M4(taken:Bool)(l:List Int):∀(k:List Bool) (n:Nat),fits taken k (l.take n)=false->fits taken k l=false:=by
 induction l with
 |nil=>intro k n h;simp[fits]at h
 |cons a r b=>
  intro k n h
  cases n with
  |zero=>simp[fits]at h
  |succ n=>
   rw[List.take_succ_cons,fits]at h;rw[fits];cases hb: (k.getD a.toNat false==taken)
   ·simp
   ·rw[hb,Bool.true_and]at h;rw[b _ n h]
    rfl
def dI(k:List Bool):Nat:=k.count true
theorem pE(k:List Bool):dI k<=k.length:=List.count_le_length
theorem zu:∀(k:List Bool) (i:Nat),i<k.length->(dI (bS k i):Int)=next (!k.getD i false) (dI k):=by
 intro k
 induction k with
 |nil=>intro i h;simp at h
 |cons a r d=>
  intro i h
  cases i with
  |zero=>cases a <;> simp[bS,dI,next]
  |succ i=>
   have c:i<r.length:=by simpa using h
   have:=d i c;have e:bS (a ::r) (i+1)=a ::bS r i:=by simp[bS]
   rw[e];have b: (a ::r).getD (i+1) false=r.getD i false:=by simp
   rw[b];unfold dI at this⊢;rw[List.count_cons,List.count_cons];cases hb:r.getD i false <;> rw[hb]at this <;> simp only[next,Bool.not_true,Bool.not_false]at this⊢<;> omega
end Ext
namespace Ext
open Go.RowKit Go.Shelf Mem
set_option maxRecDepth 100000
def nw(k:List Bool):Nat:=(k.length+63)/64
structure Holds(C g cap:Nat)(k:List Bool)(w:World):Prop where
 small:k.length<=65536
 map:Blk w C 231 #[.slice (some ⟨g,0,none⟩) (nw k) cap,.int .i64 k.length,.int .i64 (dI k)]
 words:∃cs,Blk w g 47 cs/\∀j,j<nw k->∃x:Nat,x<2^64/\cs[j]? =some (.int .u64 x)/\∀b,b<64->j*64+b<k.length->k[j*64+b]? =some (x.testBit b)
theorem Holds.below{C g cap:Nat}{k:List Bool}{w w':World}{B:Nat}(h:Holds C g cap k w)(a:Below B w w')(c:C<B)(d:g<B):Holds C g cap k w':=by
 obtain⟨b,hc,hb⟩:=h.words;exact⟨h.small,h.map.below a c,b,hc.below a d,hb⟩
theorem Holds.lt{C g cap:Nat}{k:List Bool}{w:World}(h:Holds C g cap k w):C<w.heap.size/\g<w.heap.size:=⟨h.map.lt,by obtain⟨a,hc,_⟩:=h.words;exact hc.lt⟩
variable {C g cap:Nat}{k:List Bool}{w:World}{i:Int}
theorem Holds.later{w':World}(h:Holds C g cap k w)(a:Below w.heap.size w w'):Holds C g cap k w':=h.below a h.lt.1 h.lt.2
theorem Holds.drewN{C g cap:Nat}{k:List Bool}{w:World}(h:Holds C g cap k w)(n:Nat):Holds C g cap k (w.drewN n):=⟨h.small,h.map,h.words⟩
theorem Holds.only{C g cap:Nat}{k:List Bool}{w w':World}{bs:List Nat}(h:Holds C g cap k w)(a:Only bs w w')(c:C∉bs)(d:g∉bs):Holds C g cap k w':=by
 obtain⟨b,hc,hb⟩:=h.words;exact⟨h.small,h.map.only a c,b,hc.only a d,hb⟩
theorem Holds.ne{C g cap:Nat}{k:List Bool}{w:World}(h:Holds C g cap k w):C≠g:=by
 obtain⟨a,hc,_⟩:=h.words;exact h.map.ne hc (by decide)
theorem tC(a:0<=i): (i/64).toNat*64+(i%64).toNat=i.toNat:=by omega
theorem vS(a:0<=i)(b:i<k.length): (i/64).toNat<nw k:=by unfold nw;omega
def isK(k:List Bool)(i:Int):Bool:=decide (0<=i)&&k.getD i.toNat false
theorem Dj(h:Holds C g cap k w):
  Calls prog 138 #[.pointer (some ⟨C,0,none⟩)] w λe w'=>e=.returned (.int .i64 ((k.length:Int)-dI k))/\∃n,w'=w.drewN n:=by
 have a:=h.small;have b:=pE k;exact zn C _ k.length (dI k) w h.map (by omega) (by omega)
theorem M5(h:Holds C g cap k w)(i:Int)(a:i<0\/(k.length:Int)<=i):
  Calls prog 196 #[.pointer (some ⟨C,0,none⟩),.int .i64 i] w λe w'=>e=.returned (.bool false)/\w=w':=by
 have c1:=h.map.cell 1
 simp at c1
 rcases a with a|a
 ·have b:decide (0<=i)=false:=by simpa using a
  go_enter func196,ntmps196
  go_wp2_with fail
  go_ret
  exact⟨rfl,rfl⟩
 ·have b:decide (0<=i)=true:=by simp;omega
  have c:decide (i<(k.length:Int))=false:=by simpa using a
  go_enter func196,ntmps196
  go_wp2_with fail
  go_ret
  exact⟨rfl,rfl⟩
theorem M6(h:Holds C g cap k w)(i:Int):
  Calls prog 196 #[.pointer (some ⟨C,0,none⟩),.int .i64 i] w λe w'=>e=.returned (.bool (isK k i))/\w=w':=by
 by_cases a:0<=i/\i<k.length
 ·obtain⟨a,b⟩:=a;obtain⟨j,hc,hb⟩:=h.words;obtain⟨x,f,d,c⟩:=hb _ (vS a b);have c:=c (i%64).toNat (by omega) (by rw[tC a];omega);rw[tC a]at c;have:=CY C g (nw k) cap k.length (dI k) i x w h.map (by have:=h.small;omega) a b (vS a b) ((hc.cell _).trans d);rw[Da x f]at this
  have e:isK k i=x.testBit (i%64).toNat:=by
   unfold isK;rw[List.getD_eq_getElem?_getD,c]
   simp[a]
  rw[e];exact this
 ·have e:isK k i=false:=by
   unfold isK
   by_cases b:0<=i
   ·rw[List.getD_eq_getElem?_getD,vg (by omega)]
    simp
   ·simp[b]
  rw[e];exact M5 h i (by omega)
theorem Dl(h:Holds C g cap k w)(i:Int)(a:0<=i)(f:i<k.length):
  Calls prog 197 #[.pointer (some ⟨C,0,none⟩),.int .i64 i] w λe w'=>e=.returned (.tuple #[])/\Holds C g cap (bS k i.toNat) w'/\Only [C,g] w w':=by
 obtain⟨q,hc,hb⟩:=h.words;obtain⟨x,G,n,v⟩:=hb _ (vS a f);have s:=v (i%64).toNat (by omega) (by rw[tC a];omega);rw[tC a]at s;have E:=h.small;have H:=pE k;refine(MS C g (nw k) cap k.length (dI k) i q x w h.map hc (by omega) (by omega) a f (vS a f) n).mono λe w' ⟨z,A,F,D⟩=>⟨z,⟨by rw[nQ];exact E,?_,?_⟩,D⟩
 ·have c:nw (bS k i.toNat)=nw k:=by unfold nw;rw[nQ]
  have d: (dI (bS k i.toNat):Int)=next (tu x i) (dI k):=by
   rw[zu k i.toNat (by omega),MU x G i a,List.getD_eq_getElem?_getD,s]
   rfl
  rw[c,d,nQ];exact A
 ·refine⟨_,F,λj u=>?_⟩;have c:nw (bS k i.toNat)=nw k:=by unfold nw;rw[nQ]
  rw[c]at u;rw[nQ];obtain⟨y,p,o,t⟩:=hb j u
  by_cases e: (i/64).toNat=j
  ·subst e
   have:y=x:=by
    rw[n]at o;have d:=o.symm;simp at d;omega
   subst this;refine⟨y ^^^ 2^(i%64).toNat,Df y _ p (by omega),?_,λb l m=>?_⟩
   ·have hlt: (i/64).toNat<q.size:=(dG.1 n).1;rw[kI,if_pos rfl,if_pos hlt,Dc y p i a]
   ·rw[pz,Dh,t b l m]
    by_cases r: (i%64).toNat=b
    ·subst r;rw[if_pos (tC a).symm]
     simp
    ·have B:¬i.toNat=(i/64).toNat*64+b:=by omega
     rw[if_neg B]
     simp[r]
  ·refine⟨y,p,?_,λb l m=>?_⟩
   ·rw[kI,if_neg e];exact o
   ·rw[pz,if_neg (by omega)];exact t b l m
end Ext
namespace Ext
open Go.RowKit Go.Shelf Mem
set_option maxRecDepth 100000
variable {bs:List Nat}{w w':World}
theorem Dp(h:Only bs w w'){p:Addr}(b:p.block<w.heap.size)(a:p.block∉bs):w'.cell? p=w.cell? p:=by
 have e:=h.block p.block b a;unfold World.cell?;rw[e]
theorem Ints.only{b off:Nat}{l:List Int}(h:Ints w b off l)(a:Only bs w w')(hb:b<w.heap.size)(c:b∉bs):Ints w' b off l:=λi x d=>(Dp a (p:=⟨b,off+i,none⟩) hb c).trans (h i x d)
theorem M7(C g cap b off cp:Nat)(k:List Bool)(l:List Int)(taken:Bool)(w:World)(h:Holds C g cap k w)(hl:Ints w b off l)(hb:b<w.heap.size)(R:b≠C)(S:b≠g)(h0:l.length<=100000)(h6:l.length<=cp):
  Calls prog 171 #[.pointer (some ⟨C,0,none⟩),.slice (some ⟨b,off,none⟩) l.length cp,.bool taken] w λe w'=>e=.returned (.int .i64 (lJ k l taken))/\Holds C g cap (fK k l taken) w'/\Only [C,g] w w':=by
 have c1:=h.map.cell 1
 simp at c1
 have u:Below w.heap.size w (w.alloc (.cells #[.int .i64 k.length] 3)):=(Below.refl _ w).alloc jn _;have q:=jq (tq w.heap.size b off cp k.length l (w.alloc (.cells #[.int .i64 k.length] 3)) ((Blk.new w _ _).cell 0) (hl.below u hb) h0);have O:=jq (h.later u);have M:=jq u;have P:=jq hl;have h5:=h.lt.1;clear u hl;rcases hany:l.any (outs k.length)with _|_
 ·rw[hany]at q;have o:=jq hany;clear hany
  go_enter func171,ntmps171
  go_wp2_with (go_at_call 44;refine q.out.mono ?_;rintro e w1 ⟨rfl,rfl⟩)
  go_loopw[23] (λi wr=>∃n:Nat,n<=l.length/\i=.int .i64 n/\Hid (fits taken k (l.take n)=true)/\Hid (Holds C g cap (flips k (l.take n)) wr)/\Hid (Only [C,g] w wr)) (λi _=>l.length-(intOf i).toNat)
  case atStart=>exact⟨0,aC _,rfl,jq rfl,O.out,Only.of_below M.out⟩
  case round=>
   obtain⟨n,hn,rfl,r,a,c⟩:=hrel
   by_cases hlt:n<l.length
   ·obtain⟨x,p⟩:∃x,l[n]? =some x:=⟨_,jg hlt⟩;have f1:=(P.out.only c.out hb (by simp[R,S])) n x p
    have I:0<=x/\x<k.length:=by
     have:=List.any_eq_false.1 o.out x (jM p);unfold outs at this
     simp at this
     omega
    obtain⟨L,h1⟩:=I;have W:=jq p;have N:=jq (M0 taken l k n x r.out p);have E:=jq (M6 a.out x);obtain⟨F,G⟩:=jl (isK (flips k (l.take n)) x);rw[<-G]at E;have Q:=jq G;clear G p
    by_cases hq:F=taken
    ·subst hq;have B:=jq (Dl a.out x L (by rw[nR];exact h1))
     go_wp2_with (first|(go_at_call 196;refine E.out.mono ?_;rintro e w1 ⟨rfl,rfl⟩)|(go_at_call 197;refine B.out.mono ?_;rintro e w1 ⟨rfl,H,J⟩))
     have Y:fits F k (l.take (n+1))=true:=by
      rw[N.out];have:=Q.out;unfold isK at this;rw[this]
      simp[L]
     refine⟨⟨n+1,by omega,by simp,jq Y,?_,jq (c.out.trans J)⟩,?_⟩
     ·rw[Di k l n x W.out];exact H
     ·simp[intOf];omega
    ·have ht: (F==taken)=false:=by simpa using hq
     have t:fits taken k l=false:=M4 taken l k (n+1) (by
      rw[N.out];have:=Q.out;unfold isK at this
      simp[L]at this
      simp
      rw[<-this];exact hq)
     have d:lJ k l taken=13:=by unfold lJ;rw[o.out,t];rfl
     have f:fK k l taken=k:=by unfold fK;rw[o.out,t];rfl
     have z:=jq d;have A:=jq f;have h7:n<=cp:=by omega
     have V:=jq c.out;have U:=jq a.out;have h4:=jq t;clear t d f c a r hq
     go_wp2_with (go_at_call 196;refine E.out.mono ?_;rintro e w1 ⟨rfl,rfl⟩)
     go_loopw[37] (λi T=>∃j:Nat,j<=n/\i=.int .i64 j/\Hid (Holds C g cap (flips (flips k (l.take n)) ((l.take n).take j)) T)/\Hid (Only [C,g] w T)) (λi _=>n-(intOf i).toNat)
     case atStart=>exact⟨0,aC _,rfl,U.out,V.out⟩
     case round=>
      obtain⟨j,hj,rfl,a,c⟩:=hrel
      by_cases Z:j<n
      ·obtain⟨y,v⟩:∃y,l[j]? =some y:=⟨_,jg (by omega)⟩;have f1:=(P.out.only c.out hb (by simp[R,S])) j y v
       have I:0<=y/\y<k.length:=by
        have:=List.any_eq_false.1 o.out y (jM v);unfold outs at this
        simp at this
        omega
       obtain⟨h2,h3⟩:=I;have B:=jq (Dl a.out y h2 (by rw[nR,nR];exact h3));have X:=jq v;clear v
       go_wp2_with (go_at_call 197;refine B.out.mono ?_;rintro e w1 ⟨rfl,H,J⟩)
       refine⟨⟨j+1,by omega,by simp,?_,jq (c.out.trans J)⟩,?_⟩
       ·rw[Di _ (l.take n) j y (by rw[jh,if_pos Z];exact X.out)];exact H
       ·simp[intOf];omega
      ·obtain rfl:j=n:=by omega
       have m:=a.out;rw[show(l.take j).take j=l.take j by simp[List.take_take],MZ]at m;have D:=jq m;clear m a
       go_wp2_with fail
       go_ret
       exact⟨by rw[z.out];rfl,by rw[A.out];exact D.out,c.out⟩
   ·obtain rfl:n=l.length:=by omega
    have s:=r.out;have m:=a.out;rw[jW jn]at s m;have d:lJ k l taken=0:=by unfold lJ;rw[o.out,s];rfl
    have f:fK k l taken=flips k l:=by unfold fK;rw[o.out,s];rfl
    have z:=jq d;have A:=jq f;have D:=jq m;clear m a s r d f
    go_wp2_with fail
    go_ret
    exact⟨by rw[z.out];rfl,by rw[A.out];exact D.out,c.out⟩
 ·rw[hany]at q;have d:lJ k l taken=9:=by unfold lJ;rw[hany];rfl
  have f:fK k l taken=k:=by unfold fK;rw[hany];rfl
  rw[d,f];clear d f hany
  go_enter func171,ntmps171
  go_wp2_with (go_at_call 44;refine q.out.mono ?_;rintro e w1 ⟨rfl,rfl⟩)
  go_ret
  exact⟨rfl,O.out,Only.of_below M.out⟩
end Ext
end Go.Proofs.YtndkohocgfmamaaGreatDoor
