/- Part. -/
import Derived.Test.YtfgjnpbffppocaaGreatDoorF0
import Derived.Test.YtfgjnpbffppocaaGreatDoorF0Q
import Derived.Test.YtfgjnpbffppocaaGreatDoorF35
import Derived.Shelf.Spec.TrailingZeros
set_option maxHeartbeats 1000000
namespace Go.Proofs.YtfgjnpbffppocaaGreatDoor
namespace Ext
open Go.RowKit Go.Shelf Mem
set_option maxRecDepth 100000
def Tab (w:World):Prop:=∀j,j<64->w.cell? ⟨0,j,none⟩=some (.int .u8 ((Lib.deBruijn64tab.getD j 0:Nat):Int))
theorem Tab.below {w w':World} {B:Nat} (h:Tab w) (hB:Below B w w') (h0:0<B):Tab w':=λj hj=>(hB.cell (p:=⟨0,j,none⟩) h0).trans (h j hj)
theorem Tab.lt {w:World} (h:Tab w):0<w.heap.size:=World.block_lt_of_cell? w _ (h 0 (by decide))
theorem Tab.only {w w':World} {bs:List Nat} (h:Tab w) (hB:Only bs w w') (h0:0∉bs):Tab w':=λj hj=>(only_cell hB (p:=⟨0,j,none⟩) h.lt h0).trans (h j hj)
theorem tz_core (x k idx:Nat) (w:World) (hx0: ((x:Int)==0)=false)
  (key:IntKind.u64.wrap (bits BinOp.and IntKind.u64 (x:Int) (IntKind.u64.wrap (-(x:Int)))*285870213051353865)/288230376151711744=(idx:Int))
  (hi:idx<64) (hk:k<64) (hcell:w.cell? ⟨0,idx,none⟩=some (.int .u8 k)):
  Calls Tryz.prog 125 #[.int .u64 x] w λe w'=>e=.returned (.int .i64 k)/\w=w':=by
 go_enter Tryz.func125,Tryz.ntmps125
 go_wp2_with (simp only[key])
 go_ret
 exact⟨rfl,rfl⟩
theorem tz_any (x:Nat) (hx:x<18446744073709551616) (hx0:x≠0) (w:World) (hT:Tab w):
  Calls Tryz.prog 125 #[.int .u64 x] w λe w'=>e=.returned (.int .i64 (Lib.ctz 64 x))/\w=w':=by
 obtain⟨hlow,hk⟩:=Lib.lowest_bit 64 x hx0 hx;obtain⟨hi,htab⟩:=Lib.deBruijn64_at _ hk;have hcell:=hT _ hi;rw[htab]at hcell;exact tz_core x _ _ w (by simp;omega) (tz64_key x _ hx hx0 hlow) hi hk hcell
theorem ctz_bits (x:Nat) (h0:x≠0) (h:x<2^64):Lib.ctz 64 x<64/\x.testBit (Lib.ctz 64 x)=true/\∀b,b<Lib.ctz 64 x->x.testBit b=false:=by
 have e:Lib.ctz 64 x=Lib.ctzFrom 64 x:=by simp[Lib.ctz,h0]
 obtain⟨m,hm,hk⟩:=Lib.ctzFrom_spec 64 x (by omega) h;rw[e];generalize Lib.ctzFrom 64 x=c at hm hk;subst hm;refine⟨hk,?_,λb hb=>?_⟩
 ·rw[Nat.mul_comm,Nat.testBit_mul_two_pow]
  simp[Nat.testBit_zero]
 ·rw[Nat.mul_comm,Nat.testBit_mul_two_pow]
  simp
  omega
def low (x:Nat):Nat:=Lib.ctz 64 (2^64-1-x)
theorem low_bits (x:Nat) (h:x<2^64) (h0:x≠2^64-1):low x<64/\x.testBit (low x)=false/\∀b,b<low x->x.testBit b=true:=by
 obtain⟨h1,h2,h3⟩:=ctz_bits (2^64-1-x) (by omega) (by omega)
 have hb:∀b,(2^64-1-x).testBit b=(decide (b<64)&& !x.testBit b):=λb=>by
  have:=Nat.testBit_two_pow_sub_succ (x:=x) (n:=64) h b;rw[show 2^64-(x+1)=2^64-1-x by omega]at this;exact this
 refine⟨h1,?_,λb hlt=>?_⟩
 ·have:=h2;rw[hb]at this;unfold low;generalize (x.testBit (Lib.ctz 64 (2^64-1-x)))=t at this⊢;cases t
  ·rfl
  ·simp at this
 ·have:=h3 b hlt;rw[hb]at this;have hlt':b<64:=Nat.lt_trans hlt h1
  simpa[hlt']using this
def more (x j:Nat):Nat:=x ||| 2^j
theorem more_lt (x j:Nat) (hx:x<2^64) (hj:j<64):more x j<2^64:=Nat.or_lt_two_pow hx (Nat.pow_lt_pow_right (by decide) hj)
theorem more_bit (x j b:Nat): (more x j).testBit b=(x.testBit b||decide (j=b)):=by unfold more;rw[Nat.testBit_or,Nat.testBit_two_pow]
theorem more_int (x j:Nat) (hx:x<2^64) (hj:j<64):bits .or .u64 (x:Int) (IntKind.u64.wrap (2^j))=((more x j:Nat):Int):=by
 rw[pow_wrap j hj];exact u64_or_nat x _ hx (Nat.pow_lt_pow_right (by decide) hj:2^j<2^64)
theorem full_bits (x:Nat) (h:x<2^64) (h0:x=2^64-1) (b:Nat) (hb:b<64):x.testBit b=true:=by
 subst h0;rw[Nat.testBit_two_pow_sub_one]
 simpa using hb
def frees (f:Nat->Bool) (m:Nat):List Int:=((List.range m).filter (λi=> !f i)).map (λi:Nat=>(i:Int))
theorem frees_succ (f:Nat->Bool) (m:Nat):frees f (m+1)=frees f m++if f m then []else [(m:Int)]:=by
 unfold frees;rw[List.range_succ,List.filter_append,List.map_append];cases h:f m <;> simp[h]
theorem frees_skip (f:Nat->Bool) (m n:Nat) (h:∀i,m<=i->i<m+n->f i=true):frees f (m+n)=frees f m:=by
 induction n with
 |zero=>rfl
 |succ n ih=>
  rw[<-Nat.add_assoc,frees_succ,ih (λi h1 h2=>h i h1 (by omega)),h (m+n) (by omega) (by omega)]
  simp
theorem frees_prefix (f:Nat->Bool) (m n:Nat):frees f m <+:frees f (m+n):=by
 induction n with
 |zero=>exact List.prefix_refl _
 |succ n ih=>rw[<-Nat.add_assoc,frees_succ];exact ih.trans (List.prefix_append _ _)
theorem frees_take (f:Nat->Bool) (m n q:Nat) (h:q<=(frees f m).length): (frees f (m+n)).take q=(frees f m).take q:=by
 obtain⟨r,hr⟩:=frees_prefix f m n;rw[<-hr,List.take_append_of_le_length h]
theorem frees_congr (f g:Nat->Bool) (m:Nat) (h:∀i,i<m->f i=g i):frees f m=frees g m:=by
 unfold frees
 congr 1
 apply List.filter_congr
 intro i hi;rw[h i (List.mem_range.1 hi)]
theorem frees_mem (f:Nat->Bool) (m:Nat) (x:Int):x∈frees f m↔∃i:Nat,x=i/\i<m/\f i=false:=by
 unfold frees;rw[List.mem_map]
 constructor
 ·rintro⟨i,hi,rfl⟩;rw[List.mem_filter,List.mem_range]at hi;exact⟨i,rfl,hi.1,by simpa using hi.2⟩
 ·rintro⟨i,rfl,h1,h2⟩;exact⟨i,by rw[List.mem_filter,List.mem_range];exact⟨h1,by simpa using h2⟩,rfl⟩
theorem frees_nodup (f:Nat->Bool) (m:Nat): (frees f m).Nodup:=by
 unfold frees;rw[List.nodup_iff_pairwise_ne,List.pairwise_map];have:=(List.nodup_range (n:=m)).filter (λi=> !f i);exact this.imp (λh e=>h (by omega))
theorem fits_free:∀(l:List Int) (k:List Bool),l.Nodup->(∀x∈l,0<=x/\k.getD x.toNat false=false)->fits false k l=true:=by
 intro l
 induction l with
 |nil=>intro k _ _;rfl
 |cons a r ih=>
  intro k hn h;rw[List.nodup_cons]at hn;unfold fits;rw[(h a (List.mem_cons_self ..)).2];simp only[beq_self_eq_true,Bool.true_and];refine ih _ hn.2 (λx hx=>?_);have h1:=h x (List.mem_cons_of_mem _ hx);refine⟨h1.1,?_⟩
  have hne:a.toNat≠x.toNat:=by
   intro e;have:a=x:=by have:=(h a (List.mem_cons_self ..)).1;have:=h1.1;omega
   subst this;exact hn.1 hx
  rw[List.getD_eq_getElem?_getD,flipK_at,if_neg hne,<-List.getD_eq_getElem?_getD];exact h1.2
end Ext
namespace Ext
open Go.RowKit Go.Shelf Mem
set_option maxRecDepth 100000
structure Row (w:World) (bs:List Nat) (a:Option Addr) (cp:Nat) (l:List Int):Prop where
 cap:l.length<=cp
 len:l.length<=100000
 lies:l= []\/∃b off,a=some ⟨b,off,none⟩/\b<w.heap.size/\b∉bs/\Ints w b off l
theorem contains_empty (q:Nat) (a:Option Addr) (cp:Nat) (w:World):
  Calls Tryz.prog 46 #[.slice a 0 cp,.func (.func 165) #[] #[.pointer (some ⟨q,0,none⟩)]] w λe w'=>e=.returned (.bool false)/\w=w':=by
 have HI:∀w,Calls Tryz.prog 77 #[.slice a 0 cp,.func (.func 165) #[] #[.pointer (some ⟨q,0,none⟩)]] w λe w'=>e=.returned (.int .i64 (-1))/\w=w':=by
  intro w
  go_enter Tryz.func77,Tryz.ntmps77
  go_wp2_with fail
  refine wp_loop_rounds 1 ?_;rw[rounds_succ]
  go_wp2
  go_ret
  exact⟨rfl,rfl⟩
 go_enter Tryz.func46,Tryz.ntmps46
 go_wp2_with (go_at_call 77;refine(HI _).mono ?_;rintro e w1 ⟨rfl,rfl⟩)
 go_ret
 exact⟨rfl,rfl⟩
theorem turn_empty (C g cap cp:Nat) (a:Option Addr) (k:List Bool) (taken:Bool) (w:World) (h:Holds C g cap k w):
  Calls Tryz.prog 152 #[.pointer (some ⟨C,0,none⟩),.slice a 0 cp,.bool taken] w λe w'=>e=.returned (.int .i64 0)/\Below w.heap.size w w':=by
 have c1:=h.map.cell 1
 simp at c1
 have hCw:=h.lt.1
 go_enter Tryz.func152,Tryz.ntmps152
 go_wp2_with (go_at_call 46;refine(contains_empty _ _ _ _).mono ?_;rintro e w1 ⟨rfl,rfl⟩)
 refine wp_loop_rounds 1 ?_;rw[rounds_succ]
 go_wp2
 go_ret
 exact⟨rfl,(Below.refl _ w).alloc jn _⟩
theorem turn_row (C g cap cp:Nat) (a:Option Addr) (k:List Bool) (l:List Int) (taken:Bool) (w:World) (h:Holds C g cap k w) (hl:Row w [C,g] a cp l):
  Calls Tryz.prog 152 #[.pointer (some ⟨C,0,none⟩),.slice a l.length cp,.bool taken] w λe w'=>e=.returned (.int .i64 (turnE k l taken))/\Holds C g cap (turnK k l taken) w'/\Only [C,g] w w':=by
 rcases hl.lies with rfl|⟨b,off,rfl,hb,hn,hi⟩
 ·refine(turn_empty C g cap cp a k taken w h).mono λe w' ⟨he,hB⟩=>⟨he,h.later hB,Only.of_below hB⟩
 ·simp at hn
  exact turn_any C g cap b off cp k l taken w h hi hb hn.1 hn.2 hl.len hl.cap
theorem hold_any (C g cap cp:Nat) (a:Option Addr) (k:List Bool) (l:List Int) (w:World) (h:Holds C g cap k w) (hl:Row w [C,g] a cp l):
  Calls Tryz.prog 122 #[.pointer (some ⟨C,0,none⟩),.slice a l.length cp] w λe w'=>e=.returned (.int .i64 (turnE k l false))/\Holds C g cap (turnK k l false) w'/\Only [C,g] w w':=by
 have HT:=jq (turn_row C g cap cp a k l false w h hl);clear h hl
 go_enter Tryz.func122,Tryz.ntmps122
 go_wp2_with (go_at_call 152;refine HT.out.mono ?_;rintro e w1 ⟨rfl,hh,ho⟩)
 go_ret
 exact⟨rfl,hh,ho⟩
def freeL (k:List Bool):List Int:=frees (λi=>k.getD i true) k.length
def freeN (k:List Bool):Nat:=k.length-tak k
def takeL (k:List Bool) (n:Int):List Int:=if n<0\/(freeN k:Int) <n then []else(freeL k).take n.toNat
def takeK (k:List Bool) (n:Int):List Bool:=flips k (takeL k n)
def takeEr (k:List Bool) (n:Int):Int:=if n<0 then 1 else if(freeN k:Int) <n then 7 else 0
theorem freeL_length:∀(k:List Bool),(freeL k).length=freeN k:=by
 intro k
 have h:∀m,m<=k.length->(frees (λi=>k.getD i true) m).length+tak (k.take m)=m:=by
  intro m
  induction m with
  |zero=>intro _;simp[frees,tak]
  |succ m ih=>
   intro hm;have:=ih (by omega);generalize hL:frees (λi=>k.getD i true) m=L at this;rw[frees_succ,hL,List.take_add_one,jg (by omega),jL];unfold tak at this⊢;rw[List.count_append,List.getD_eq_getElem?_getD,jg (by omega)];cases k[m] <;> simp <;> omega
 have:=h k.length jn;rw[jW jn]at this;unfold freeL freeN
 omega
theorem takeL_fits (k:List Bool) (n:Int):fits false k (takeL k n)=true/\(takeL k n).any (outs k.length)=false:=by
 have hm:∀x∈takeL k n,x∈freeL k:=λx hx=>by
  unfold takeL at hx
  split at hx
  ·simp at hx
  ·exact List.mem_of_mem_take hx
 have hn: (takeL k n).Nodup:=by
  unfold takeL
  split
  ·exact List.nodup_nil
  ·exact(frees_nodup _ _).sublist (List.take_sublist _ _)
 have hg:∀x∈takeL k n,∃i:Nat,x=i/\i<k.length/\k.getD i true=false:=λx hx=>(frees_mem _ _ x).1 (hm x hx)
 constructor
 ·refine fits_free _ k hn (λx hx=>?_);obtain⟨i,rfl,h1,h2⟩:=hg x hx;refine⟨by omega,?_⟩;rw[List.getD_eq_getElem?_getD,jg h1]at h2;rw[List.getD_eq_getElem?_getD,Int.toNat_natCast,jg h1]
  simpa using h2
 ·rw[List.any_eq_false];intro x hx;obtain⟨i,rfl,h1,_⟩:=hg x hx;unfold outs
  simp
  omega
theorem takeL_turn (k:List Bool) (n:Int):turnK k (takeL k n) false=takeK k n:=by
 obtain⟨h1,h2⟩:=takeL_fits k n;unfold turnK;rw[h2,h1]
 rfl
end Ext
end Go.Proofs.YtfgjnpbffppocaaGreatDoor
