/- Part. -/
import Derived.Test.YtfgjnpbffppocaaGreatDoorF0
import Derived.Test.YtfgjnpbffppocaaGreatDoorF0Q
import Derived.Test.YtfgjnpbffppocaaGreatDoorF33
import Derived.Test.YtfgjnpbffppocaaGreatDoorF34
import Derived.StillTailTactics
import Derived.Laws.BitsAllLaws
set_option maxHeartbeats 4000000
namespace Go.Proofs.YtfgjnpbffppocaaGreatDoor
namespace Ext
open Go.RowKit Go.Shelf Mem
set_option maxRecDepth 100000
def turned (x i:Int):Int:=bits .xor .u64 x (IntKind.u64.wrap (2^(i%64).toNat))
def setIn (x i:Int):Bool:=bits .and .u64 (turned x i/2^(i%64).toNat) 1==1
def next:Bool->Int->Int
 |true,t=>t+1
 |false,t=>t-1
theorem flip_any (C g m cap:Nat) (count taken i:Int) (cs:Array Value) (x:Int) (w:World) (h:Blk w C 205 #[.slice (some ⟨g,0,none⟩) m cap,.int .i64 count,.int .i64 taken]) (hg:Blk w g 98 cs) (hc:0<=count/\count<=65536) (ht:0<=taken/\taken<=65536)
  (h0:0<=i) (h1:i<count) (hm: (i/64).toNat<m) (hx:cs[(i/64).toNat]? =some (.int .u64 x)):
  Calls Tryz.prog 167 #[.pointer (some ⟨C,0,none⟩),.int .i64 i] w λe w'=>e=.returned (.tuple #[])/\Blk w' C 205 #[.slice (some ⟨g,0,none⟩) m cap,.int .i64 count,.int .i64 (next (setIn x i) taken)]/\Blk w' g 98 (cs.setIfInBounds (i/64).toNat (.int .u64 (turned x i)))/\Only [C,g] w w':=by
 have c0:=h.cell 0;have c2:=h.cell 2
 simp at c0 c2
 have hxc:=(hg.cell (i/64).toNat).trans hx;have fz:=hg.frozen (i/64).toNat;have t0:i.tdiv 64=i/64:=Int.tdiv_eq_ediv_of_nonneg h0;have t1:i.tmod 64=i%64:=Int.tmod_eq_emod_of_nonneg h0;have u0:IntKind.i64.wrap (i/64)=i/64:=IntWalk.i64_in _ (by omega);have u1:IntKind.i64.wrap (i%64)=i%64:=IntWalk.i64_in _ (by omega);have t2: (0:Int)<=i%64:=by omega
 have t3:i%64<64:=by omega
 have t4:¬i%64<0:=by omega
 have d0: (0:Int)<=i/64:=by omega
 have d1:i/64<(m:Int):=by omega
 obtain⟨x',hx'⟩:∃x',x'=bits .xor .u64 x (IntKind.u64.wrap (2^(i%64).toNat)):=⟨_,rfl⟩;have hne:C≠g:=h.ne hg (by decide);have hW:Blk (w.drew.setCell ⟨g,(i/64).toNat,none⟩ (.int .u64 x')) C 205 #[.slice (some ⟨g,0,none⟩) m cap,.int .i64 count,.int .i64 taken]:=h.drew.far hne _;have hG:=hg.drew.set (i/64).toNat (.int .u64 x');have hsz: (i/64).toNat<cs.size:=(Array.getElem?_eq_some_iff.1 hx).1;have hxn:=(hG.cell (i/64).toNat).trans (by simp[hsz]:_=some (.int .u64 x'));have HI:=jq (is_any C g m cap count taken i x' _ hW hc h0 h1 hm hxn);have k2:=hW.cell 2
 simp at k2
 have fz2:=hW.frozen 2;have fz3: (w.setCell ⟨g,(i/64).toNat,none⟩ (.int .u64 x')).frozen? ⟨C,2,none⟩=false:=hW.frozen 2;have fz4:=hW.drew.frozen 2;have k3: (w.setCell ⟨g,(i/64).toNat,none⟩ (.int .u64 x')).cell? ⟨C,2,none⟩=some (.int .i64 taken):=k2;rw[hx']at HI k2 fz2 fz3 fz4 k3;have w1':IntKind.i64.wrap (taken+1)=taken+1:=IntWalk.i64_in _ (by omega);have w2':IntKind.i64.wrap (taken-1)=taken-1:=IntWalk.i64_in _ (by omega)
 go_enter Tryz.func167,Tryz.ntmps167
 go_wp2_with fail
 go_still_tail 13,(by kernel_rfl)
 change wpList _ _ _ _ _ w.drew
 go_wp2_with fail
 refine HI.out.mono ?_;rintro e w1 ⟨rfl,rfl⟩;generalize hans: (bits .and .u64 (bits .xor .u64 x (IntKind.u64.wrap (2^(i%64).toNat))/2^(i%64).toNat) 1==1)=ans;have hset:setIn x i=ans:=hans;have HS:=jq hset;clear hset hans;have ho:Only [C,g] w (w.drew.setCell ⟨g,(i/64).toNat,none⟩ (.int .u64 x')):=((Only.refl [C,g] w).drew).set (.inl (by simp)) _;have hx2:x'=turned x i:=hx';have HO:=jq ho;have HW:=jq hW;have HGG:=jq hG;clear ho hW hG;rw[hx2]at HO HW HGG;cases ans
 ·go_wp2_with fail
  go_end0
  refine⟨rfl,by rw[HS.out];exact HW.out.set 2 _,HGG.out.far (λe=>hne e.symm) _,HO.out.set (.inl (by simp)) _⟩
 ·go_wp2_with fail
  go_end0
  refine⟨rfl,by rw[HS.out];exact HW.out.set 2 _,HGG.out.far (λe=>hne e.symm) _,HO.out.set (.inl (by simp)) _⟩
end Ext
namespace Ext
open Go.RowKit Go.Shelf Mem
set_option maxRecDepth 100000
theorem and_one (n:Nat) (h:n<2^64): (bits .and .u64 (n:Int) 1==1)=n.testBit 0:=by
 have e:=u64_and_nat n 1 h (by decide);rw[nat_mask1]at e;have e1: ((1:Nat):Int)=1:=rfl;rw[e1]at e;rw[e,Nat.testBit_zero];rcases Nat.mod_two_eq_zero_or_one n with h|h <;> simp[h]
theorem div_pow (x j:Nat): (x:Int)/2^j=((x/2^j:Nat):Int):=by simp
theorem bit_at (x:Nat) (hx:x<2^64) (i:Int): (bits .and .u64 ((x:Int)/2^(i%64).toNat) 1==1)=x.testBit (i%64).toNat:=by
 rw[div_pow,and_one _ (Nat.lt_of_le_of_lt (Nat.div_le_self _ _) hx),Nat.testBit_zero,Nat.testBit_eq_decide_div_mod_eq]
theorem pow_wrap (j:Nat) (h:j<64):IntKind.u64.wrap (2^j)=((2^j:Nat):Int):=by
 have e:IntKind.u64.wrap (2^j)=(2^j:Int)%18446744073709551616:=by simp[IntKind.wrap,IntKind.bits,IntKind.signed]
 have h2:2^j<2^64:=Nat.pow_lt_pow_right (by decide) h;have e2: (2^j:Int)=((2^j:Nat):Int):=by simp
 rw[e,e2];generalize 2^j=n at h2
 omega
theorem turned_nat (x:Nat) (hx:x<2^64) (i:Int) (_:0<=i):turned x i=((x ^^^ 2^(i%64).toNat:Nat):Int):=by
 unfold turned;have hj: (i%64).toNat<64:=by omega
 rw[pow_wrap _ hj];exact u64_xor_nat x _ hx (Nat.pow_lt_pow_right (by decide) hj:2^(i%64).toNat<2^64)
theorem xor_lt (x j:Nat) (hx:x<2^64) (hj:j<64):x ^^^ 2^j<2^64:=Nat.xor_lt_two_pow hx (Nat.pow_lt_pow_right (by decide) hj)
theorem xor_bit (x j b:Nat): (x ^^^ 2^j).testBit b=(x.testBit b ^^ decide (j=b)):=by rw[Nat.testBit_xor,Nat.testBit_two_pow]
theorem setIn_nat (x:Nat) (hx:x<2^64) (i:Int) (hi:0<=i):setIn x i= !x.testBit (i%64).toNat:=by
 unfold setIn;rw[turned_nat x hx i hi,bit_at _ (xor_lt x _ hx (by omega)),xor_bit]
 simp
def flipK (k:List Bool) (i:Nat):List Bool:=k.set i (!k.getD i false)
def flips (k:List Bool) (l:List Int):List Bool:=l.foldl (λk i=>flipK k i.toNat) k
theorem flipK_length (k:List Bool) (i:Nat): (flipK k i).length=k.length:=by unfold flipK;simp
theorem flipK_at (k:List Bool) (i j:Nat): (flipK k i)[j]? =if i=j then k[j]?.map not else k[j]?:=by
 unfold flipK;rw[List.getElem?_set]
 by_cases e:i=j
 ·subst e
  by_cases h:i<k.length
  ·simp[h]
  ·simp[h]
 ·simp[e]
theorem flipK_comm (k:List Bool) (a b:Nat):flipK (flipK k a) b=flipK (flipK k b) a:=by
 apply List.ext_getElem?
 intro j;simp only[flipK_at]
 split <;> split <;> rfl
theorem flipK_self (k:List Bool) (a:Nat):flipK (flipK k a) a=k:=by
 apply List.ext_getElem?
 intro j;simp only[flipK_at]
 split
 ·cases k[j]? <;> simp
 ·rfl
theorem flips_length (l:List Int):∀k,(flips k l).length=k.length:=by
 induction l with
 |nil=>intro k;rfl
 |cons i r ih=>intro k;show(flips (flipK k i.toNat) r).length=_;rw[ih,flipK_length]
theorem flips_flipK (l:List Int):∀k a,flips (flipK k a) l=flipK (flips k l) a:=by
 induction l with
 |nil=>intro k a;rfl
 |cons i r ih=>intro k a;show flips (flipK (flipK k a) i.toNat) r=flipK (flips (flipK k i.toNat) r) a;rw[flipK_comm,ih]
theorem flips_self (l:List Int):∀k,flips (flips k l) l=k:=by
 induction l with
 |nil=>intro k;rfl
 |cons i r ih=>
  intro k;show flips (flipK (flips (flipK k i.toNat) r) i.toNat) r=k;rw[flips_flipK,flips_flipK,flips_flipK,flipK_self,ih]
theorem flips_snoc (k:List Bool) (l:List Int) (n:Nat) (i:Int) (h:l[n]? =some i):flips k (l.take (n+1))=flipK (flips k (l.take n)) i.toNat:=by
 rw[List.take_add_one,h];unfold flips;rw[List.foldl_append]
 rfl
def fits (taken:Bool):List Bool->List Int->Bool
 |_,[]=>true
 |k,i ::r=>(k.getD i.toNat false==taken)&&fits taken (flipK k i.toNat) r
def turnE (k:List Bool) (l:List Int) (taken:Bool):Int:=if l.any (outs k.length)then 9 else if fits taken k l then 0 else 13
def turnK (k:List Bool) (l:List Int) (taken:Bool):List Bool:=if l.any (outs k.length)then k else if fits taken k l then flips k l else k
theorem fits_take (taken:Bool) (l:List Int):∀(k:List Bool) (n:Nat) (i:Int),fits taken k (l.take n)=true->l[n]? =some i->fits taken k (l.take (n+1))=((flips k (l.take n)).getD i.toNat false==taken):=by
 induction l with
 |nil=>intro k n i _ h;simp at h
 |cons a r ih=>
  intro k n i h hi
  cases n with
  |zero=>simp at hi;subst hi;simp[fits,flips]
  |succ n=>
   simp only[List.take_succ_cons,fits,Bool.and_eq_true]at h;rw[List.take_succ_cons,fits,h.1,Bool.true_and,ih _ n i h.2 (by simpa using hi)]
   rfl
theorem fits_no (taken:Bool) (l:List Int):∀(k:List Bool) (n:Nat),fits taken k (l.take n)=false->fits taken k l=false:=by
 induction l with
 |nil=>intro k n h;simp[fits]at h
 |cons a r ih=>
  intro k n h
  cases n with
  |zero=>simp[fits]at h
  |succ n=>
   rw[List.take_succ_cons,fits]at h;rw[fits];cases hb: (k.getD a.toNat false==taken)
   ·simp
   ·rw[hb,Bool.true_and]at h;rw[ih _ n h]
    rfl
def tak (k:List Bool):Nat:=k.count true
theorem tak_le (k:List Bool):tak k<=k.length:=List.count_le_length
theorem tak_flip:∀(k:List Bool) (i:Nat),i<k.length->(tak (flipK k i):Int)=next (!k.getD i false) (tak k):=by
 intro k
 induction k with
 |nil=>intro i h;simp at h
 |cons a r ih=>
  intro i h
  cases i with
  |zero=>cases a <;> simp[flipK,tak,next]
  |succ i=>
   have h2:i<r.length:=by simpa using h
   have:=ih i h2;have e:flipK (a ::r) (i+1)=a ::flipK r i:=by simp[flipK]
   rw[e];have e2: (a ::r).getD (i+1) false=r.getD i false:=by simp
   rw[e2];unfold tak at this⊢;rw[List.count_cons,List.count_cons];cases hb:r.getD i false <;> rw[hb]at this <;> simp only[next,Bool.not_true,Bool.not_false]at this⊢<;> omega
end Ext
namespace Ext
open Go.RowKit Go.Shelf Mem
set_option maxRecDepth 100000
def nw (k:List Bool):Nat:=(k.length+63)/64
structure Holds (C g cap:Nat) (k:List Bool) (w:World):Prop where
 small:k.length<=65536
 map:Blk w C 205 #[.slice (some ⟨g,0,none⟩) (nw k) cap,.int .i64 k.length,.int .i64 (tak k)]
 words:∃cs,Blk w g 98 cs/\∀j,j<nw k->∃x:Nat,x<2^64/\cs[j]? =some (.int .u64 x)/\∀b,b<64->j*64+b<k.length->k[j*64+b]? =some (x.testBit b)
theorem Holds.below {C g cap:Nat} {k:List Bool} {w w':World} {B:Nat} (h:Holds C g cap k w) (hB:Below B w w') (h1:C<B) (h2:g<B):Holds C g cap k w':=by
 obtain⟨cs,hc,hb⟩:=h.words;exact⟨h.small,h.map.below hB h1,cs,hc.below hB h2,hb⟩
theorem Holds.lt {C g cap:Nat} {k:List Bool} {w:World} (h:Holds C g cap k w):C<w.heap.size/\g<w.heap.size:=⟨h.map.lt,by obtain⟨cs,hc,_⟩:=h.words;exact hc.lt⟩
theorem Holds.later {C g cap:Nat} {k:List Bool} {w w':World} (h:Holds C g cap k w) (hB:Below w.heap.size w w'):Holds C g cap k w':=h.below hB h.lt.1 h.lt.2
theorem Holds.drewN {C g cap:Nat} {k:List Bool} {w:World} (h:Holds C g cap k w) (n:Nat):Holds C g cap k (w.drewN n):=⟨h.small,h.map,h.words⟩
theorem Holds.only {C g cap:Nat} {k:List Bool} {w w':World} {bs:List Nat} (h:Holds C g cap k w) (hB:Only bs w w') (h1:C∉bs) (h2:g∉bs):Holds C g cap k w':=by
 obtain⟨cs,hc,hb⟩:=h.words;exact⟨h.small,h.map.only hB h1,cs,hc.only hB h2,hb⟩
theorem Holds.ne {C g cap:Nat} {k:List Bool} {w:World} (h:Holds C g cap k w):C≠g:=by
 obtain⟨cs,hc,_⟩:=h.words;exact h.map.ne hc (by decide)
theorem i_word {i:Int} (h0:0<=i): (i/64).toNat*64+(i%64).toNat=i.toNat:=by omega
theorem nw_at {k:List Bool} {i:Int} (h0:0<=i) (h1:i<k.length): (i/64).toNat<nw k:=by unfold nw;omega
def isK (k:List Bool) (i:Int):Bool:=decide (0<=i)&&k.getD i.toNat false
theorem free_holds {C g cap:Nat} {k:List Bool} {w:World} (h:Holds C g cap k w):
  Calls Tryz.prog 124 #[.pointer (some ⟨C,0,none⟩)] w λe w'=>e=.returned (.int .i64 ((k.length:Int)-tak k))/\∃n,w'=w.drewN n:=by
 have h1:=h.small;have h2:=tak_le k;exact free_any C _ k.length (tak k) w h.map (by omega) (by omega)
theorem is_out {C g cap:Nat} {k:List Bool} {w:World} (h:Holds C g cap k w) (i:Int) (hi:i<0\/(k.length:Int)<=i):
  Calls Tryz.prog 166 #[.pointer (some ⟨C,0,none⟩),.int .i64 i] w λe w'=>e=.returned (.bool false)/\w=w':=by
 have c1:=h.map.cell 1
 simp at c1
 rcases hi with hi|hi
 ·have d0:decide (0<=i)=false:=by simpa using hi
  go_enter Tryz.func166,Tryz.ntmps166
  go_wp2_with fail
  go_ret
  exact⟨rfl,rfl⟩
 ·have d0:decide (0<=i)=true:=by simp;omega
  have d1:decide (i<(k.length:Int))=false:=by simpa using hi
  go_enter Tryz.func166,Tryz.ntmps166
  go_wp2_with fail
  go_ret
  exact⟨rfl,rfl⟩
theorem is_holds {C g cap:Nat} {k:List Bool} {w:World} (h:Holds C g cap k w) (i:Int):
  Calls Tryz.prog 166 #[.pointer (some ⟨C,0,none⟩),.int .i64 i] w λe w'=>e=.returned (.bool (isK k i))/\w=w':=by
 by_cases h0:0<=i/\i<k.length
 ·obtain⟨h0,h1⟩:=h0;obtain⟨cs,hc,hb⟩:=h.words;obtain⟨x,hx,hcx,hbit⟩:=hb _ (nw_at h0 h1);have hbit:=hbit (i%64).toNat (by omega) (by rw[i_word h0];omega);rw[i_word h0]at hbit;have:=is_any C g (nw k) cap k.length (tak k) i x w h.map (by have:=h.small;omega) h0 h1 (nw_at h0 h1) ((hc.cell _).trans hcx);rw[bit_at x hx]at this
  have e:isK k i=x.testBit (i%64).toNat:=by
   unfold isK;rw[List.getD_eq_getElem?_getD,hbit]
   simp[h0]
  rw[e];exact this
 ·have e:isK k i=false:=by
   unfold isK
   by_cases h1:0<=i
   ·rw[List.getD_eq_getElem?_getD,List.getElem?_eq_none (by omega)]
    simp
   ·simp[h1]
  rw[e];exact is_out h i (by omega)
theorem flip_holds {C g cap:Nat} {k:List Bool} {w:World} (h:Holds C g cap k w) (i:Int) (h0:0<=i) (h1:i<k.length):
  Calls Tryz.prog 167 #[.pointer (some ⟨C,0,none⟩),.int .i64 i] w λe w'=>e=.returned (.tuple #[])/\Holds C g cap (flipK k i.toNat) w'/\Only [C,g] w w':=by
 obtain⟨cs,hc,hb⟩:=h.words;obtain⟨x,hx,hcx,hbit⟩:=hb _ (nw_at h0 h1);have hbi:=hbit (i%64).toNat (by omega) (by rw[i_word h0];omega);rw[i_word h0]at hbi;have hs:=h.small;have ht:=tak_le k;refine(flip_any C g (nw k) cap k.length (tak k) i cs x w h.map hc (by omega) (by omega) h0 h1 (nw_at h0 h1) hcx).mono λe w' ⟨he,hm,hw,ho⟩=>⟨he,⟨by rw[flipK_length];exact hs,?_,?_⟩,ho⟩
 ·have e1:nw (flipK k i.toNat)=nw k:=by unfold nw;rw[flipK_length]
  have e2: (tak (flipK k i.toNat):Int)=next (setIn x i) (tak k):=by
   rw[tak_flip k i.toNat (by omega),setIn_nat x hx i h0,List.getD_eq_getElem?_getD,hbi]
   rfl
  rw[e1,e2,flipK_length];exact hm
 ·refine⟨_,hw,λj hj=>?_⟩;have e1:nw (flipK k i.toNat)=nw k:=by unfold nw;rw[flipK_length]
  rw[e1]at hj;rw[flipK_length];obtain⟨y,hy,hcy,hbity⟩:=hb j hj
  by_cases e: (i/64).toNat=j
  ·subst e
   have:y=x:=by
    rw[hcx]at hcy;have e2:=hcy.symm;simp at e2;omega
   subst this;refine⟨y ^^^ 2^(i%64).toNat,xor_lt y _ hy (by omega),?_,λb hb1 hb2=>?_⟩
   ·have hlt: (i/64).toNat<cs.size:=(Array.getElem?_eq_some_iff.1 hcx).1;rw[Array.getElem?_setIfInBounds,if_pos rfl,if_pos hlt,turned_nat y hy i h0]
   ·rw[flipK_at,xor_bit,hbity b hb1 hb2]
    by_cases hbb: (i%64).toNat=b
    ·subst hbb;rw[if_pos (i_word h0).symm]
     simp
    ·have hne:¬i.toNat=(i/64).toNat*64+b:=by omega
     rw[if_neg hne]
     simp[hbb]
  ·refine⟨y,hy,?_,λb hb1 hb2=>?_⟩
   ·rw[Array.getElem?_setIfInBounds,if_neg e];exact hcy
   ·rw[flipK_at,if_neg (by omega)];exact hbity b hb1 hb2
end Ext
namespace Ext
open Go.RowKit Go.Shelf Mem
set_option maxRecDepth 100000
theorem only_cell {bs:List Nat} {w w':World} (h:Only bs w w') {p:Addr} (hp:p.block<w.heap.size) (hn:p.block∉bs):w'.cell? p=w.cell? p:=by
 have e:=h.block p.block hp hn;unfold World.cell?;rw[e]
theorem Ints.only {w w':World} {bs:List Nat} {b off:Nat} {l:List Int} (h:Ints w b off l) (hB:Only bs w w') (hb:b<w.heap.size) (hn:b∉bs):Ints w' b off l:=λi x hx=>(only_cell hB (p:=⟨b,off+i,none⟩) hb hn).trans (h i x hx)
theorem turn_any (C g cap b off cp:Nat) (k:List Bool) (l:List Int) (taken:Bool) (w:World) (h:Holds C g cap k w) (hl:Ints w b off l) (hb:b<w.heap.size) (hbC:b≠C) (hbg:b≠g) (hlen:l.length<=100000) (hcp:l.length<=cp):
  Calls Tryz.prog 152 #[.pointer (some ⟨C,0,none⟩),.slice (some ⟨b,off,none⟩) l.length cp,.bool taken] w λe w'=>e=.returned (.int .i64 (turnE k l taken))/\Holds C g cap (turnK k l taken) w'/\Only [C,g] w w':=by
 have c1:=h.map.cell 1
 simp at c1
 have hw1:Below w.heap.size w (w.alloc (.cells #[.int .i64 k.length] 3)):=(Below.refl _ w).alloc jn _;have HC:=jq (contains_any w.heap.size b off cp k.length l (w.alloc (.cells #[.int .i64 k.length] 3)) ((Blk.new w _ _).cell 0) (hl.below hw1 hb) hlen);have HH:=jq (h.later hw1);have HB:=jq hw1;have HL:=jq hl;have hCw:=h.lt.1;clear hw1 hl;rcases hany:l.any (outs k.length)with _|_
 ·rw[hany]at HC;have HA:=jq hany;clear hany
  go_enter Tryz.func152,Tryz.ntmps152
  go_wp2_with (go_at_call 46;refine HC.out.mono ?_;rintro e w1 ⟨rfl,rfl⟩)
  go_loopw[23] (λi wr=>∃n:Nat,n<=l.length/\i=.int .i64 n/\Hid (fits taken k (l.take n)=true)/\Hid (Holds C g cap (flips k (l.take n)) wr)/\Hid (Only [C,g] w wr)) (λi _=>l.length-(intOf i).toNat)
  case atStart=>exact⟨0,Nat.zero_le _,rfl,jq rfl,HH.out,Only.of_below HB.out⟩
  case round=>
   obtain⟨n,hn,rfl,hfit,hh,ho⟩:=hrel
   by_cases hlt:n<l.length
   ·obtain⟨x,hx⟩:∃x,l[n]? =some x:=⟨_,jg hlt⟩;have f1:=(HL.out.only ho.out hb (by simp[hbC,hbg])) n x hx
    have hin:0<=x/\x<k.length:=by
     have:=List.any_eq_false.1 HA.out x (jM hx);unfold outs at this
     simp at this
     omega
    obtain⟨hx0,hx1⟩:=hin;have HX:=jq hx;have HF:=jq (fits_take taken l k n x hfit.out hx);have HI:=jq (is_holds hh.out x);obtain⟨ans,hans⟩:=jl (isK (flips k (l.take n)) x);rw[<-hans]at HI;have HN:=jq hans;clear hans hx
    by_cases hq:ans=taken
    ·subst hq;have HFL:=jq (flip_holds hh.out x hx0 (by rw[flips_length];exact hx1))
     go_wp2_with (first|(go_at_call 166;refine HI.out.mono ?_;rintro e w1 ⟨rfl,rfl⟩)|(go_at_call 167;refine HFL.out.mono ?_;rintro e w1 ⟨rfl,hh1,ho1⟩))
     have efit:fits ans k (l.take (n+1))=true:=by
      rw[HF.out];have:=HN.out;unfold isK at this;rw[this]
      simp[hx0]
     refine⟨⟨n+1,by omega,by simp,jq efit,?_,jq (ho.out.trans ho1)⟩,?_⟩
     ·rw[flips_snoc k l n x HX.out];exact hh1
     ·simp[intOf];omega
    ·have ht: (ans==taken)=false:=by simpa using hq
     have hno:fits taken k l=false:=fits_no taken l k (n+1) (by
      rw[HF.out];have:=HN.out;unfold isK at this
      simp[hx0]at this
      simp
      rw[<-this];exact hq)
     have e1:turnE k l taken=13:=by unfold turnE;rw[HA.out,hno];rfl
     have e2:turnK k l taken=k:=by unfold turnK;rw[HA.out,hno];rfl
     have E1:=jq e1;have E2:=jq e2;have hncp:n<=cp:=by omega
     have HO:=jq ho.out;have HK:=jq hh.out;have HNO:=jq hno;clear hno e1 e2 ho hh hfit hq
     go_wp2_with (go_at_call 166;refine HI.out.mono ?_;rintro e w1 ⟨rfl,rfl⟩)
     go_loopw[37] (λi wq=>∃j:Nat,j<=n/\i=.int .i64 j/\Hid (Holds C g cap (flips (flips k (l.take n)) ((l.take n).take j)) wq)/\Hid (Only [C,g] w wq)) (λi _=>n-(intOf i).toNat)
     case atStart=>exact⟨0,Nat.zero_le _,rfl,HK.out,HO.out⟩
     case round=>
      obtain⟨j,hj,rfl,hh,ho⟩:=hrel
      by_cases hjn:j<n
      ·obtain⟨y,hy⟩:∃y,l[j]? =some y:=⟨_,jg (by omega)⟩;have f1:=(HL.out.only ho.out hb (by simp[hbC,hbg])) j y hy
       have hin:0<=y/\y<k.length:=by
        have:=List.any_eq_false.1 HA.out y (jM hy);unfold outs at this
        simp at this
        omega
       obtain⟨hy0,hy1⟩:=hin;have HFL:=jq (flip_holds hh.out y hy0 (by rw[flips_length,flips_length];exact hy1));have HY:=jq hy;clear hy
       go_wp2_with (go_at_call 167;refine HFL.out.mono ?_;rintro e w1 ⟨rfl,hh1,ho1⟩)
       refine⟨⟨j+1,by omega,by simp,?_,jq (ho.out.trans ho1)⟩,?_⟩
       ·rw[flips_snoc _ (l.take n) j y (by rw[List.getElem?_take,if_pos hjn];exact HY.out)];exact hh1
       ·simp[intOf];omega
      ·obtain rfl:j=n:=by omega
       have hh2:=hh.out;rw[show(l.take j).take j=l.take j by simp[List.take_take],flips_self]at hh2;have HH2:=jq hh2;clear hh2 hh
       go_wp2_with fail
       go_ret
       exact⟨by rw[E1.out];rfl,by rw[E2.out];exact HH2.out,ho.out⟩
   ·obtain rfl:n=l.length:=by omega
    have hfit2:=hfit.out;have hh2:=hh.out;rw[jW jn]at hfit2 hh2;have e1:turnE k l taken=0:=by unfold turnE;rw[HA.out,hfit2];rfl
    have e2:turnK k l taken=flips k l:=by unfold turnK;rw[HA.out,hfit2];rfl
    have E1:=jq e1;have E2:=jq e2;have HH2:=jq hh2;clear hh2 hh hfit2 hfit e1 e2
    go_wp2_with fail
    go_ret
    exact⟨by rw[E1.out];rfl,by rw[E2.out];exact HH2.out,ho.out⟩
 ·rw[hany]at HC;have e1:turnE k l taken=9:=by unfold turnE;rw[hany];rfl
  have e2:turnK k l taken=k:=by unfold turnK;rw[hany];rfl
  rw[e1,e2];clear e1 e2 hany
  go_enter Tryz.func152,Tryz.ntmps152
  go_wp2_with (go_at_call 46;refine HC.out.mono ?_;rintro e w1 ⟨rfl,rfl⟩)
  go_ret
  exact⟨rfl,HH.out,Only.of_below HB.out⟩
end Ext
end Go.Proofs.YtfgjnpbffppocaaGreatDoor
