/- Part. -/
import Derived.Test.YtndkohocgfmamaaGreatDoorF22
import Derived.Shelf.Spec.TrailingZeros
import Derived.Deep.Slices
set_option maxHeartbeats 1000000
namespace Go.Proofs.YtndkohocgfmamaaGreatDoor
open Go.Proofs.Tryz
namespace Ext
open Go.RowKit Go.Shelf Mem
set_option maxRecDepth 100000
def Tab(w:World):Prop:=∀j,j<64->w.cell? ⟨0,j,none⟩=some (.int .u8 ((Lib.deBruijn64tab.getD j 0:Nat):Int))
variable {w w':World}
theorem Tab.below{B:Nat}(h:Tab w)(b:Below B w w')(a:0<B):Tab w':=λj c=>(b.cell (p:=⟨0,j,none⟩) a).trans (h j c)
theorem Tab.lt(h:Tab w):0<w.heap.size:=World.block_lt_of_cell? w _ (h 0 (by decide))
theorem Tab.only{bs:List Nat}(h:Tab w)(b:Only bs w w')(a:0∉bs):Tab w':=λj c=>(Dp b (p:=⟨0,j,none⟩) h.lt a).trans (h j c)
theorem M8(x k idx:Nat)(w:World)(c: ((x:Int)==0)=false)(key:IntKind.u64.wrap (bits BinOp.and IntKind.u64 (x:Int) (IntKind.u64.wrap (-(x:Int)))*285870213051353865)/288230376151711744=(idx:Int))(a:idx<64)(b:k<64)(hcell:w.cell? ⟨0,idx,none⟩=some (.int .u8 k)):
  Calls prog 139 #[.int .u64 x] w λe w'=>e=.returned (.int .i64 k)/\w=w':=by
 go_enter func139,ntmps139
 go_wp2_with (simp only[key])
 go_ret
 exact⟨rfl,rfl⟩
theorem M9(x:Nat)(c:x<18446744073709551616)(d:x≠0)(w:World)(f:Tab w):
  Calls prog 139 #[.int .u64 x] w λe w'=>e=.returned (.int .i64 (Lib.ctz 64 x))/\w=w':=by
 obtain⟨g,b⟩:=Lib.lowest_bit 64 x d c;obtain⟨a,h⟩:=Lib.deBruijn64_at _ b;have hcell:=f _ a;rw[h]at hcell;exact M8 x _ _ w (by simp;omega) (tz64_key x _ c d g) a b hcell
theorem Na(x:Nat)(f:x≠0)(h:x<2^64):Lib.ctz 64 x<64/\x.testBit (Lib.ctz 64 x)=true/\∀b,b<Lib.ctz 64 x->x.testBit b=false:=by
 have e:Lib.ctz 64 x=Lib.ctzFrom 64 x:=by simp[Lib.ctz,f]
 obtain⟨m,d,a⟩:=Lib.ctzFrom_spec 64 x (by omega) h;rw[e];generalize Lib.ctzFrom 64 x=c at d a;subst d;refine⟨a,?_,λb hb=>?_⟩
 ·rw[iy,Nat.testBit_mul_two_pow]
  simp[Nat.testBit_zero]
 ·rw[iy,Nat.testBit_mul_two_pow]
  simp
  omega
def low(x:Nat):Nat:=Lib.ctz 64 (2^64-1-x)
theorem Nb(x:Nat)(h:x<2^64)(f:x≠2^64-1):low x<64/\x.testBit (low x)=false/\∀b,b<low x->x.testBit b=true:=by
 obtain⟨a,c,d⟩:=Na (2^64-1-x) (by omega) (by omega)
 have hb:∀b,(2^64-1-x).testBit b=(decide (b<64)&& !x.testBit b):=λb=>by
  have:=yx (x:=x) (n:=64) h b;rw[show 2^64-(x+1)=2^64-1-x by omega]at this;exact this
 refine⟨a,?_,λb hlt=>?_⟩
 ·have:=c;rw[hb]at this;unfold low;generalize (x.testBit (Lib.ctz 64 (2^64-1-x)))=t at this⊢;cases t
  ·rfl
  ·simp at this
 ·have:=d b hlt;rw[hb]at this;have e:b<64:=Nat.lt_trans hlt a
  simpa[e]using this
def more(x j:Nat):Nat:=x ||| 2^j
theorem Nc(x j:Nat)(b:x<2^64)(a:j<64):more x j<2^64:=Nat.or_lt_two_pow b (rU (by decide) a)
theorem Nf(x j b:Nat): (more x j).testBit b=(x.testBit b||decide (j=b)):=by unfold more;rw[Nat.testBit_or,Nat.testBit_two_pow]
theorem Ng(x j:Nat)(b:x<2^64)(a:j<64):bits .or .u64 (x:Int) (IntKind.u64.wrap (2^j))=((more x j:Nat):Int):=by
 rw[Db j a];exact u64_or_nat x _ b (rU (by decide) a:2^j<2^64)
theorem Nh(x:Nat)(h:x<2^64)(a:x=2^64-1)(b:Nat)(hb:b<64):x.testBit b=true:=by
 subst a;rw[yA]
 simpa using hb
def frees(f:Nat->Bool)(m:Nat):List Int:=((List.range m).filter (λi=> !f i)).map (λi:Nat=>(i:Int))
theorem vT(f:Nat->Bool)(m:Nat):frees f (m+1)=frees f m++if f m then []else [(m:Int)]:=by
 unfold frees;rw[List.range_succ,oK,aZ];cases h:f m <;> simp[h]
theorem Dq(f:Nat->Bool)(m n:Nat)(h:∀i,m<=i->i<m+n->f i=true):frees f (m+n)=frees f m:=by
 induction n with
 |zero=>rfl
 |succ n b=>
  rw[<-Nat.add_assoc,vT,b (λi a c=>h i a (by omega)),h (m+n) (by omega) (by omega)]
  simp
theorem Ni(f:Nat->Bool)(m n:Nat):frees f m <+:frees f (m+n):=by
 induction n with
 |zero=>exact List.prefix_refl _
 |succ n a=>rw[<-Nat.add_assoc,vT];exact a.trans (List.prefix_append _ _)
theorem vU(f:Nat->Bool)(m n q:Nat)(h:q<=(frees f m).length): (frees f (m+n)).take q=(frees f m).take q:=by
 obtain⟨r,a⟩:=Ni f m n;rw[<-a,rT h]
theorem Nj(f g:Nat->Bool)(m:Nat)(h:∀i,i<m->f i=g i):frees f m=frees g m:=by
 unfold frees
 congr 1
 apply List.filter_congr
 intro i a;rw[h i (List.mem_range.1 a)]
theorem zw(f:Nat->Bool)(m:Nat)(x:Int):x∈frees f m↔∃i:Nat,x=i/\i<m/\f i=false:=by
 unfold frees;rw[List.mem_map]
 constructor
 ·rintro⟨i,a,rfl⟩;rw[iA,List.mem_range]at a;exact⟨i,rfl,a.1,by simpa using a.2⟩
 ·rintro⟨i,rfl,b,c⟩;exact⟨i,by rw[iA,List.mem_range];exact⟨b,by simpa using c⟩,rfl⟩
theorem Nk(f:Nat->Bool)(m:Nat): (frees f m).Nodup:=by
 unfold frees;rw[List.nodup_iff_pairwise_ne,kJ];have:=(List.nodup_range (n:=m)).filter (λi=> !f i);exact this.imp (λh e=>h (by omega))
theorem Nl:∀(l:List Int) (k:List Bool),l.Nodup->(∀x∈l,0<=x/\k.getD x.toNat false=false)->fits false k l=true:=by
 intro l
 induction l with
 |nil=>intro k _ _;rfl
 |cons a r g=>
  intro k c h;rw[oL]at c;unfold fits;rw[(h a (qG ..)).2];simp only[beq_self_eq_true,Bool.true_and];refine g _ c.2 (λx d=>?_);have b:=h x (eD _ d);refine⟨b.1,?_⟩
  have f:a.toNat≠x.toNat:=by
   intro e;have:a=x:=by have:=(h a (qG ..)).1;have:=b.1;omega
   subst this;exact c.1 d
  rw[List.getD_eq_getElem?_getD,pz,if_neg f,<-List.getD_eq_getElem?_getD];exact b.2
end Ext
namespace Ext
open Go.RowKit Go.Shelf Mem
set_option maxRecDepth 100000
structure Row(w:World)(bs:List Nat)(a:Option Addr)(cp:Nat)(l:List Int):Prop where
 cap:l.length<=cp
 len:l.length<=100000
 lies:l= []\/∃b off,a=some ⟨b,off,none⟩/\b<w.heap.size/\b∉bs/\Ints w b off l
theorem contains_empty(q:Nat)(a:Option Addr)(cp:Nat)(w:World):
  Calls prog 44 #[.slice a 0 cp,.func (.func 195) #[] #[.pointer (some ⟨q,0,none⟩)]] w λe w'=>e=.returned (.bool false)/\w=w':=by
 have b:∀w,Calls prog 81 #[.slice a 0 cp,.func (.func 195) #[] #[.pointer (some ⟨q,0,none⟩)]] w λe w'=>e=.returned (.int .i64 (-1))/\w=w':=by
  intro w
  go_enter func81,ntmps81
  go_wp2_with fail
  refine wp_loop_rounds 1 ?_;rw[rounds_succ]
  go_wp2
  go_ret
  exact⟨rfl,rfl⟩
 go_enter func44,ntmps44
 go_wp2_with (go_at_call 81;refine(b _).mono ?_;rintro e w1 ⟨rfl,rfl⟩)
 go_ret
 exact⟨rfl,rfl⟩
theorem Nn(C g cap cp:Nat)(a:Option Addr)(k:List Bool)(taken:Bool)(w:World)(h:Holds C g cap k w):
  Calls prog 171 #[.pointer (some ⟨C,0,none⟩),.slice a 0 cp,.bool taken] w λe w'=>e=.returned (.int .i64 0)/\Below w.heap.size w w':=by
 have c1:=h.map.cell 1
 simp at c1
 have b:=h.lt.1
 go_enter func171,ntmps171
 go_wp2_with (go_at_call 44;refine(contains_empty _ _ _ _).mono ?_;rintro e w1 ⟨rfl,rfl⟩)
 refine wp_loop_rounds 1 ?_;rw[rounds_succ]
 go_wp2
 go_ret
 exact⟨rfl,(Below.refl _ w).alloc jn _⟩
theorem Np(C g cap cp:Nat)(a:Option Addr)(k:List Bool)(l:List Int)(taken:Bool)(w:World)(h:Holds C g cap k w)(hl:Row w [C,g] a cp l):
  Calls prog 171 #[.pointer (some ⟨C,0,none⟩),.slice a l.length cp,.bool taken] w λe w'=>e=.returned (.int .i64 (lJ k l taken))/\Holds C g cap (fK k l taken) w'/\Only [C,g] w w':=by
 rcases hl.lies with rfl|⟨b,off,rfl,hb,c,i⟩
 ·refine(Nn C g cap cp a k taken w h).mono λe w' ⟨f,d⟩=>⟨f,h.later d,Only.of_below d⟩
 ·simp at c
  exact M7 C g cap b off cp k l taken w h i hb c.1 c.2 hl.len hl.cap
theorem vV(C g cap cp:Nat)(a:Option Addr)(k:List Bool)(l:List Int)(w:World)(h:Holds C g cap k w)(hl:Row w [C,g] a cp l):
  Calls prog 136 #[.pointer (some ⟨C,0,none⟩),.slice a l.length cp] w λe w'=>e=.returned (.int .i64 (lJ k l false))/\Holds C g cap (fK k l false) w'/\Only [C,g] w w':=by
 have b:=jq (Np C g cap cp a k l false w h hl);clear h hl
 go_enter func136,ntmps136
 go_wp2_with (go_at_call 171;refine b.out.mono ?_;rintro e w1 ⟨rfl,c,d⟩)
 go_ret
 exact⟨rfl,c,d⟩
def nS(k:List Bool):List Int:=frees (λi=>k.getD i true) k.length
def bP(k:List Bool):Nat:=k.length-dI k
def bX(k:List Bool)(n:Int):List Int:=if n<0\/(bP k:Int) <n then []else(nS k).take n.toNat
def fU(k:List Bool)(n:Int):List Bool:=flips k (bX k n)
def kQ(k:List Bool)(n:Int):Int:=if n<0 then 1 else if(bP k:Int) <n then 7 else 0
theorem vW:∀(k:List Bool),(nS k).length=bP k:=by
 intro k
 have h:∀m,m<=k.length->(frees (λi=>k.getD i true) m).length+dI (k.take m)=m:=by
  intro m
  induction m with
  |zero=>intro _;simp[frees,dI]
  |succ m b=>
   intro c;have:=b (by omega);generalize a:frees (λi=>k.getD i true) m=L at this;rw[vT,a,bF,jg (by omega),jL];unfold dI at this⊢;rw[List.count_append,List.getD_eq_getElem?_getD,jg (by omega)];cases k[m] <;> simp <;> omega
 have:=h k.length jn;rw[jW jn]at this;unfold nS bP
 omega
theorem vX(k:List Bool)(n:Int):fits false k (bX k n)=true/\(bX k n).any (outs k.length)=false:=by
 have e:∀x∈bX k n,x∈nS k:=λx a=>by
  unfold bX at a
  split at a
  ·simp at a
  ·exact rW a
 have f: (bX k n).Nodup:=by
  unfold bX
  split
  ·exact oM
  ·exact(Nk _ _).sublist (List.take_sublist _ _)
 have d:∀x∈bX k n,∃i:Nat,x=i/\i<k.length/\k.getD i true=false:=λx a=>(zw _ _ x).1 (e x a)
 constructor
 ·refine Nl _ k f (λx a=>?_);obtain⟨i,rfl,b,c⟩:=d x a;refine⟨by omega,?_⟩;rw[List.getD_eq_getElem?_getD,jg b]at c;rw[List.getD_eq_getElem?_getD,Int.toNat_natCast,jg b]
  simpa using c
 ·rw[List.any_eq_false];intro x a;obtain⟨i,rfl,b,_⟩:=d x a;unfold outs
  simp
  omega
theorem Nq(k:List Bool)(n:Int):fK k (bX k n) false=fU k n:=by
 obtain⟨a,b⟩:=vX k n;unfold fK;rw[b,a]
 rfl
end Ext
namespace Ext
open Go.RowKit Go.Shelf Go.Deep Mem
set_option maxRecDepth 100000
theorem Nr(y:Nat)(h:y<2^64):bits .xor .u64 18446744073709551615 (y:Int)=((2^64-1-y:Nat):Int):=by
 have:=u64_xor_nat 18446744073709551615 y (by decide) h;rw[show((18446744073709551615:Nat):Int)=18446744073709551615 from rfl]at this;rw[this]
 congr 1
 apply Nat.eq_of_testBit_eq
 intro i;have a:=yx (x:=y) (n:=64) h i;rw[show 2^64-(y+1)=2^64-1-y by omega]at a;rw[a,Nat.testBit_xor,show(18446744073709551615:Nat)=2^64-1 by decide,yA]
 by_cases b:i<64
 ·simp[b]
 ·simp[b]
  exact Nat.testBit_lt_two_pow (aD h (mq (by decide) (by omega)))
theorem Dr: (prog.info? 3).map (λi=>(i.zero,i.size,i.bytes))=some (some (.int .i64 0),1,8):=by kernel_rfl
def lenOf:Value->Nat
 |.slice _ n _=>n
 |_=>0
variable {w:World}
theorem zx{base:Nat}{e:TypeId}{size n:Nat}{v:Value}{xs:List Value}(h:w.ownsRow base e size v n xs):∃a cap,v=.slice a n cap/\n<=cap/\(0<n->∃g,a=some ⟨g,0,none⟩/\base<=g/\g<w.heap.size/\∀j u,xs[j]? =some u->w.cell? ⟨g,j,none⟩=some u):=by
 rcases h.2 with⟨rfl,rfl⟩|⟨g,cap,cur,rfl,r⟩
 ·exact⟨none,0,rfl,aj _,λh=>by omega⟩
 ·exact⟨some ⟨g,0,none⟩,cap,rfl,r.2.2.1,λ_=>⟨g,rfl,(h.lt g rfl).1,(h.lt g rfl).2,λj u b=>by
   have:=h.cells (g:=g) rfl j u b;have e: (⟨g,0,none⟩:Addr).add j=⟨g,j,none⟩:=by unfold Addr.add;split <;> simp_all
   rwa [e]at this⟩⟩
theorem Ns{base:Nat}{a:Option Addr}{cp:Nat}{l:List Int}{bs:List Nat}(h:w.ownsRow base 3 1 (.slice a l.length cp) l.length (l.map (Value.int .i64)))(hb:∀g∈bs,g<base)(hl:l.length<=100000):Row w bs a cp l:=by
 obtain⟨a',cap,e,hc,f⟩:=zx h;cases e;refine⟨hc,hl,?_⟩
 by_cases b:0<l.length
 ·obtain⟨g,rfl,m,c,d⟩:=f b;refine .inr ⟨g,0,rfl,c,λj=>by have:=hb g j;omega,λi x k=>?_⟩;rw[Nat.zero_add];exact d i _ (by simp[k])
 ·exact .inl (iw (by omega))
structure vY(C g cap:Nat)(k:List Bool)(n:Int)(w:World)(e:Ending)(w':World):Prop where
 out:∃a cp,e=.returned (.tuple #[.slice a (bX k n).length cp,.int .i64 (kQ k n)])/\w'.ownsRow w.heap.size 3 1 (.slice a (bX k n).length cp) (bX k n).length ((bX k n).map (Value.int .i64))
 map:Holds C g cap (fU k n) w'
 only:Only [C,g] w w'
theorem Nt(C g cap:Nat)(k:List Bool)(n:Int)(w:World)(h:Holds C g cap k w)(r:n<0\/(bP k:Int) <n):
  Calls prog 95 #[.pointer (some ⟨C,0,none⟩),.int .i64 n] w λe w'=>vY C g cap k n w e w':=by
 have b:bX k n= []:=by unfold bX;rw[if_pos r]
 have l:fU k n=k:=by unfold fU;rw[b];rfl
 have i:=pE k;have m: ((k.length:Int)-dI k)=bP k:=by unfold bP;omega
 have hF:=Dj h;rw[m]at hF
 have fin:∀w',Holds C g cap k w'->Only [C,g] w w'->∀e,e=.returned (.tuple #[.slice none 0 0,.int .i64 (kQ k n)])->vY C g cap k n w e w':=λw' f i e p=>by
  refine⟨⟨none,0,by rw[b];exact p,by rw[b];exact World.ownsRow_nil _ _ _ _⟩,by rw[l];exact f,i⟩
 have a:=jq fin;have o:=jq hF;have j:=jq h;clear fin h b l i m hF
 by_cases c:n<0
 ·have d:decide (n<0)=true:=by simpa using c
  have e:kQ k n=1:=if_pos c;rw[e]at a
  go_enter func95,ntmps95
  go_wp2_with fail
  go_ret2
  exact a.out _ j.out (Only.refl _ _) _ rfl
 ·have d:decide (n<0)=false:=by simpa using c
  have f: (bP k:Int) <n:=by omega
  have s:decide ((bP k:Int) <n)=true:=by simpa using f
  have e:kQ k n=7:=by unfold kQ;rw[if_neg c,if_pos f]
  rw[e]at a
  go_enter func95,ntmps95
  go_wp2_with (go_at_call 138;refine o.out.mono ?_;rintro e w' ⟨rfl,q,rfl⟩)
  go_ret2
  exact a.out _ (j.out.drewN _) ((Only.refl _ _).drewN _) _ rfl
theorem Nu(C g cap:Nat)(k:List Bool)(N:Nat)(w:World)(h:Holds C g cap k w)(hT:Tab w)(a7:0<C)(_:0<g)(hN:N<=bP k):
  Calls prog 95 #[.pointer (some ⟨C,0,none⟩),.int .i64 N] w λe w'=>vY C g cap k N w e w':=by
 obtain⟨i0,z9,a4,a5,a6⟩:=info_parts Dr;have I:=pE k;have b3:=h.small;have s: ((k.length:Int)-dI k)=bP k:=by unfold bP;omega
 have hF:=Dj h;rw[s]at hF;obtain⟨cs,hcs,y7⟩:=h.words;obtain⟨X,hX⟩:=choose_lt (α:=Nat) y7;obtain⟨f,hf⟩:∃f:Nat->Bool,f=λi=>(X (i/64)).testBit (i%64):=⟨_,rfl⟩
 have x7:∀i,i<k.length->f i=k.getD i true:=λi hi=>by
  have:=(hX (i/64) (by unfold nw;omega)).2.2 (i%64) (by omega) (by omega);rw[show i/64*64+i%64=i by omega]at this;rw[hf,List.getD_eq_getElem?_getD,this]
  rfl
 have P:frees f k.length=nS k:=Nj _ _ _ x7;have S:=vW k
 have v:bX k N=(frees f k.length).take N:=by
  unfold bX;rw[if_neg (by omega),P]
  rfl
 have e3:kQ k N=0:=by unfold kQ;rw[if_neg (by omega),if_neg (by omega)]
 have x6:∀m,((frees f m).take N).length=N->(frees f m).take N=bX k N:=λm hm=>by
  rw[v];rw[jT]at hm
  by_cases y2:m<=k.length
  ·obtain⟨d,hd⟩:=qH y2;rw[hd,vU f m d N (by omega)]
  ·obtain⟨d,hd⟩:=qH (Nat.le_of_not_le y2);rw[hd,vU f k.length d N (by rw[P,S];omega)]
 have y0:∀m,((frees f m).take N).length<N->m<k.length:=λm hm=>by
  apply Nat.lt_of_not_le
  intro a2;obtain⟨d,hd⟩:=qH a2;rw[hd,vU f k.length d N (by rw[P,S];omega),jT,P,S]at hm
  omega
 have HD:=jq x6;have z2:=jq y0;have HX:=jq hX;have U:=jq hf;have y9:=jq hcs;have HF:=jq hF;have HH:=jq h;have HT:=jq hT;have E3:=jq e3;have z5:=h.lt.1;have z8:=h.lt.2;have d:decide ((N:Int) <0)=false:=by simp
 have d2:decide (bP k<N)=false:=by simp;omega
 clear hF x6 y0 hX hf hcs y7 h v e3 I s x7 P S hT
 go_enter func95,ntmps95
 go_wp2_with (go_at_call 138;refine HF.out.mono ?_;rintro e w' ⟨rfl,q,rfl⟩)
 go_loopw[6,7] (λo t wr=>∃(at_:Nat) (a:Option Addr) (cp:Nat) (L:List Int),t=.int .i64 at_/\at_<=nw k/\o=.slice a L.length cp/\Hid (L=(frees f (at_*64)).take N)/\Hid (wr.ownsRow w.heap.size 3 1 (.slice a L.length cp) L.length (L.map (Value.int .i64)))/\Hid (Below w.heap.size w wr)) (λ_ t _=>nw k-(intOf t).toNat)
 case atStart=>exact⟨0,none,0,[],rfl,aC _,rfl,jq (by simp[frees]),jq (World.ownsRow_nil _ _ _ _),jq (below_drewN (Below.refl _ _) _)⟩
 case round=>
  obtain⟨at_,a,cp,L,rfl,b0,rfl,r,n,l⟩:=hrel;have J:L.length<=N:=by rw[r.out,jT];omega
  have a8:N<=65536:=by unfold bP at hN;omega
  by_cases hlt:L.length<N
  ·have a9:at_*64<k.length:=z2.out _ (by rw[<-r.out];exact hlt);have z7:at_<nw k:=by unfold nw;omega
   obtain⟨z6,x3,_⟩:=HX.out at_ z7;have c0:=(l.out.cell (p:=⟨C,0,none⟩) z5).trans ((HH.out.map.cell 0));have c1:=(l.out.cell (p:=⟨g,at_,none⟩) z8).trans ((y9.out.cell at_).trans x3)
   simp at c0
   have A:L=frees f (at_*64):=by
    have:=r.out;rw[this,jT]at hlt;rw[this,jW (by omega)]
   have z1:=jq A;have b2:nw k<=1024:=by unfold nw;omega
   clear x3 A
   go_wp2_with fail
   go_loopw[6,8] (λo x wq=>∃(y b:Nat) (a:Option Addr) (cp:Nat) (L:List Int),o=.slice a L.length cp/\x=.int .u64 y/\b<=64/\y<2^64/\L.length<=N/\Hid (L=frees f (at_*64+b))/\Hid (∀c,c<64->y.testBit c=(decide (c<b)||(X at_).testBit c))/\Hid (wq.ownsRow w.heap.size 3 1 (.slice a L.length cp) L.length (L.map (Value.int .i64)))/\Hid (Below w.heap.size w wq)) (λo _ _=>N-lenOf o)
   case atStart=>exact⟨X at_,0,a,cp,L,rfl,rfl,by omega,z6,J,z1,jq (λc _=>by simp),n,l⟩
   case round=>
    obtain⟨y,b,a,cp,L,rfl,rfl,hb,Q,J,r,D,n,l⟩:=hrel;have O:wr.ownsRow w.heap.size 3 1 (.slice a L.length cp) L.length (L.map (Value.int .i64)):=n.out
    by_cases hlt:L.length<N
    ·by_cases h5:y=2^64-1
     ·have y1: ((y:Int)==18446744073709551615)=true:=by simp;omega
      have A:L=(frees f ((at_+1)*64)).take N:=by
       have e:frees f ((at_+1)*64)=frees f (at_*64+b):=by
        obtain⟨d,hd⟩:=qH hb;rw[show(at_+1)*64=at_*64+b+d by omega];refine Dq f _ d (λi Z I=>?_);have s:=D.out (i%64) (by omega);rw[Nh y Q h5 _ (by omega)]at s;rw[U.out];have v:i/64=at_:=by omega
        have H:¬i%64<b:=by omega
        simp[H]at s
        show(X (i/64)).testBit (i%64)=true;rw[v];exact s
       rw[e,<-r.out,jW J]
      have E:=jq A;clear A O
      go_wp2_with fail
      go_roundw
      case rel=>
       first|exact⟨at_+1,a,cp,L,by simp,by omega,rfl,E,n,l⟩|((repeat apply Exists.intro);refine⟨?_,rfl⟩;exact⟨at_+1,a,cp,L,by simp,by omega,rfl,E,n,l⟩)
      case measure=>simp[intOf];omega
     ·have y1: ((y:Int)==18446744073709551615)=false:=by simp;omega
      obtain⟨z,hz⟩:∃z:Nat,z=2^64-1-y:=⟨_,rfl⟩;have b1:bits .xor .u64 IntKind.u64.max (y:Int)=(z:Int):=by rw[hz];exact Nr y Q
      obtain⟨F,l2,l3⟩:=Nb y Q h5;obtain⟨j,B⟩:=jl (low y);rw[<-B]at F l2 l3;have a3:=Ng y j Q F;obtain⟨G,h4⟩:∃G,G=more y j:=⟨_,rfl⟩;rw[<-h4]at a3;have V:=jq l2;have L3:=jq l3;have HY:=jq h4;clear l2 l3 h4;have x0:=jq (M9 z (by omega) (by omega) wr (HT.out.below l.out (by omega)));have b4:IntKind.i64.wrap ((at_:Int)*64)=(at_:Int)*64:=IntWalk.i64_in _ (by omega);have b5:IntKind.i64.wrap ((at_:Int)*64+(j:Int))=(at_:Int)*64+j:=IntWalk.i64_in _ (by omega);rw[show Lib.ctz 64 z=j by rw[hz,B];rfl]at x0;clear hz B;have x2:=l.out.size
      go_wp2_with fail
      refine x0.out.mono ?_;rintro e w' ⟨rfl,rfl⟩
      go_wp2_with (first|(at_builtin;refine wpList_append_own _ rfl _ _ 111 rfl w.heap.size 3 i0 (.int .i64 0) 1 8 underlying111 z9 a4 a5 a6 rfl (by decide) _ _ _ rfl (O.alloc _) ⟨wr.heap.size,0,none⟩ 1 1 [.int .i64 ((at_:Int)*64+j)] rfl rfl ?c1 ?c2 ?c3 ?c4 ?c5 ?_))
      case c1=>
       intro j u B
       match j,B with
       |0,B=>simp at B;subst B;simp[Addr.add]
      case c2=>intro u hu;simp at hu;subst hu;rfl
      case c3=>unfold maxLen;omega
      case c4=>omega
      case c5=>simp;omega
      intro v' w1 h0 x8 _;obtain⟨W,Y,rfl,_,_⟩:=zx h0;have x1:Below w.heap.size w w1:=(l.out.alloc x2 _).grown x8 (by simp;omega) (λq hq=>(O.lt q hq).1)
      have y6:L++ [(at_:Int)*64+j]=frees f (at_*64+(j+1)):=by
       have x5:b<=j:=by
        apply Nat.le_of_not_lt
        intro hlt;have:=D.out j F;rw[V.out]at this
        simp[hlt]at this
       obtain⟨d,hd⟩:=qH x5
       have v:frees f (at_*64+j)=L:=by
        rw[r.out,hd,<-Nat.add_assoc];refine Dq f _ d (λi Z I=>?_);have s:=D.out (i%64) (by omega);rw[L3.out _ (by omega)]at s;rw[U.out];have v:i/64=at_:=by omega
        have H:¬i%64<b:=by omega
        simp[H]at s
        show(X (i/64)).testBit (i%64)=true;rw[v];exact s
       rw[<-Nat.add_assoc,vT,v]
       have H:f (at_*64+j)=false:=by
        rw[U.out];show(X ((at_*64+j)/64)).testBit ((at_*64+j)%64)=false;rw[show(at_*64+j)/64=at_ by omega,show(at_*64+j)%64=j by omega];have:=D.out j F;rw[V.out]at this;cases hx: (X at_).testBit j
        ·rfl
        ·rw[hx]at this;simp at this
       rw[H]
       simp
      have y4:w1.ownsRow w.heap.size 3 1 (.slice W (L++ [(at_:Int)*64+j]).length Y) (L++ [(at_:Int)*64+j]).length ((L++ [(at_:Int)*64+j]).map (Value.int .i64)):=by
       rw[aZ,jL];exact h0
      have x4:∀c,c<64->G.testBit c=(decide (c<j+1)||(X at_).testBit c):=λc hc=>by
       rw[HY.out,Nf,D.out c hc]
       by_cases Z:c<j
       ·have:=D.out c hc;rw[L3.out c Z]at this;rw[<-this]
        simp[show c<j+1 by omega]
       ·by_cases I:c=j
        ·subst I;simp
        ·have x5:b<=j:=by
          apply Nat.le_of_not_lt
          intro hlt;have:=D.out j F;rw[V.out]at this
          simp[hlt]at this
         simp[show¬c<j+1 by omega,show¬j=c by omega,show¬c<b by omega]
      have y8:G<2^64:=by rw[HY.out];exact Nc y j Q F
      have h8:=jq y4;have h9:=jq y6;have h6:=jq x4;have h7:=jq x1;have x9: (L++ [(at_:Int)*64+j]).length=L.length+1:=by simp
      clear h0 x8 y4 y6 x4 x1 O n
      go_wp2_with fail
      go_roundw
      case rel=>
       first|exact⟨G,j+1,W,Y,L++ [(at_:Int)*64+j],by rw[x9],rfl,by omega,y8,by omega,h9,h6,h8,h7⟩|((repeat apply Exists.intro);refine⟨?_,rfl⟩;exact⟨G,j+1,W,Y,L++ [(at_:Int)*64+j],by rw[x9],rfl,by omega,y8,by omega,h9,h6,h8,h7⟩)
      case measure=>simp[lenOf];omega
    ·have a0:L.length=N:=by omega
     have A:L=(frees f ((at_+1)*64)).take N:=by
      obtain⟨d,hd⟩:=qH hb;rw[show(at_+1)*64=at_*64+b+d by omega,vU f _ d N (by rw[<-r.out];omega),<-r.out,jW J]
     have E:=jq A;have d3:decide (L.length<N)=false:=by simp;omega
     clear A O a0
     by_cases h5:y=2^64-1
     ·have y1: ((y:Int)==18446744073709551615)=true:=by simp;omega
      go_wp2_with fail
      go_roundw
      case rel=>
       first|exact⟨at_+1,a,cp,L,by simp,by omega,rfl,E,n,l⟩|((repeat apply Exists.intro);refine⟨?_,rfl⟩;exact⟨at_+1,a,cp,L,by simp,by omega,rfl,E,n,l⟩)
      case measure=>simp[intOf];omega
     ·have y1: ((y:Int)==18446744073709551615)=false:=by simp;omega
      go_wp2_with fail
      go_roundw
      case rel=>exact⟨at_+1,a,cp,L,by simp,by omega,rfl,E,n,l⟩
      case measure=>simp[intOf];omega
  ·have M:L=bX k N:=by
    have:=HD.out (at_*64) (by rw[<-r.out];omega);rw[<-r.out]at this;exact this
   have y5:Row wr [C,g] a cp L:=Ns n.out (by simp;omega) (by omega);have R:=HH.out.later l.out;have hH:=vV C g cap cp a k L wr R y5;rw[M,Nq]at hH;have T:=n.out;rw[M]at T;have z0:=jq hH;have z4:=jq T;have x2:=l.out.size
   have y3:∀q,(Value.slice a (bX k N).length cp).ownBlock=some q->q∉[C,g]:=λq hq=>by
    have:=(T.lt q hq).1
    simp
    omega
   have z3:=jq y3;have d3:¬(bX k N).length<N:=by rw[<-M];exact hlt
   rw[M];clear T hH R y5 y3 n r hlt J M
   go_wp2_with (go_at_call 136;refine z0.out.mono ?_;rintro e w1 ⟨rfl,R,ho⟩)
   go_ret2
   refine⟨⟨a,cp,by rw[E3.out];rfl,yB z4.out ho z3.out⟩,R,(Only.of_below l.out).trans ho⟩
theorem Nv(C g cap:Nat)(k:List Bool)(n:Int)(w:World)(h:Holds C g cap k w)(b:Tab w)(a:0<C)(c:0<g):
  Calls prog 95 #[.pointer (some ⟨C,0,none⟩),.int .i64 n] w λe w'=>vY C g cap k n w e w':=by
 by_cases d:n<0\/(bP k:Int) <n
 ·exact Nt C g cap k n w h d
 ·obtain⟨N,rfl⟩:∃N:Nat,n=N:=⟨n.toNat,by omega⟩;exact Nu C g cap k N w h b a c (by omega)
theorem Dt{n:Int}{w':World}(h:sW n w w'):Holds (w.heap.size+1) w.heap.size ((cnt n+63)/64).toNat (List.replicate (cnt n).toNat false) w':=by
 have hc:0<=cnt n/\cnt n<=65536:=by unfold cnt;omega
 have a: (List.replicate (cnt n).toNat false).length=(cnt n).toNat:=by simp
 have c:nw (List.replicate (cnt n).toNat false)=((cnt n+63)/64).toNat:=by unfold nw;rw[a];omega
 refine⟨by rw[a];omega,?_,_,h.words,λj e=>⟨0,by decide,?_,λb _ d=>?_⟩⟩
 ·rw[c,a];have f: (dI (List.replicate (cnt n).toNat false):Int)=0:=by unfold dI;rw[List.count_replicate];rfl
  rw[f,show(((cnt n).toNat:Nat):Int)=cnt n by omega];exact h.map
 ·rw[c]at e
  have: (madeCells #[Value.int .u64 0] ((cnt n+63)/64).toNat)[j]? =(List.replicate ((cnt n+63)/64).toNat (Value.int .u64 0))[j]?:=by
   rw[<-toList_madeCells_one,mo]
  rw[this,List.getElem?_replicate,if_pos e]
  rfl
 ·rw[a]at d;rw[List.getElem?_replicate,if_pos d,Nat.zero_testBit]
end Ext
end Go.Proofs.YtndkohocgfmamaaGreatDoor
