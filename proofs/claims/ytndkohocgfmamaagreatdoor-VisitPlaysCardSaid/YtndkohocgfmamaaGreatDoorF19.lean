/- Part. -/
import Derived.Test.YtndkohocgfmamaaGreatDoorF18
import Derived.Shelf.Abstract
set_option maxHeartbeats 4000000
set_option maxRecDepth 100000
namespace Go.Proofs.YtndkohocgfmamaaGreatDoor
open Go.Proofs.Tryz
namespace aA
open Go.RowKit Go.Deep Mem Crc Go.Proofs.YtndkohocgfmamaaGreatDoor.Dk oW Chunk
variable {w X Y:World}{e t:TypeId}{v:Value}{n k:Nat}{xs:List Value}{cs:Array Value}
theorem MF{b a:Nat}{size:Nat}(h:w.ownsRow b e size v n xs)(hb:a<=b):w.ownsRow a e size v n xs:=by
 refine⟨h.1,?_⟩;rcases h.2 with c|⟨g,cap,cur,rfl,f,r⟩
 ·exact .inl c
 ·exact .inr ⟨g,cap,cur,rfl,ax hb f,r⟩
def yX(w:World)(k:Nat):Prop:=∃(cs:Array Value) (t:TypeId) (fr:Nat×Nat),w.heap[k]? =some (.cells cs t fr)
theorem Blk.mO(h:Blk w k t cs):yX w k:=⟨_,_,_,h⟩
theorem sQ{base:Nat}{size:Nat}(h:w.ownsRow base e size v n xs)(a:v.ownBlock=some k):∃cs fr,w.heap[k]? =some (.cells cs e fr):=by
 rcases h.2 with⟨rfl,_⟩|⟨g,cap,cur,rfl,_,hb,_⟩
 ·cases a
 ·have c:g=k:=by simpa[Value.ownBlock]using a
  subst c;exact⟨_,_,hb⟩
theorem vP{l o:Nat}{c f:TypeId}{s1 s2 n1 n2:Nat}{i j:Value}{y:List Value}(h:w.ownsRow l c s1 i n1 xs)(k:w.ownsRow o f s2 j n2 y)(s:c≠f){q:Nat}(hq:i.ownBlock=some q):j.ownBlock≠some q:=λu=>by
 obtain⟨_,_,p⟩:=sQ h hq;obtain⟨_,_,a⟩:=sQ k u;rw[p]at a;injection a with a;injection a with _ a;exact s a
theorem Dk.mO{w:World}{d g:Nat}{wv:Value}{m:DM}(h:Dk w d g wv m){k:Nat}(c:Has d g wv k):yX w k:=by
 rcases c with rfl|rfl|e
 ·exact Blk.mO h.disk
 ·exact Blk.mO h.row
 ·obtain⟨_,_,a⟩:=sQ h.wt e;exact⟨_,_,_,a⟩
theorem Dk.not{d g:Nat}{wv:Value}{m:DM}(h:Dk w d g wv m)(hb:Blk w k t cs)(a:105≠t)(c:220≠t)(f:222≠t):¬Has d g wv k:=by
 rintro(rfl|rfl|e)
 ·exact h.disk.ne hb a rfl
 ·exact h.row.ne hb c rfl
 ·exact aV h.wt hb f e
abbrev dH(B:Nat)(X Y:World):Prop:=Upon (λk=>B<=k/\¬yX X k) X Y
theorem dH.blk{B:Nat}(h:dH B X Y)(hb:Blk X k t cs):Blk Y k t cs:=Blk.upon hb h (λa=>a.2 (Blk.mO hb))
theorem dH.of_grown{B:Nat}{X Y:World}{row:Option Nat}(f:X.grownBy Y row)(c:∀r,row=some r->B<=r/\∃o:Obj,X.heap[r]? =some o/\o.isCells=false):dH B X Y:=
 Upon.of_grown f (λq e=>.inl ⟨(c q e).1,fun⟨cs,t,fr,h⟩=>by
  obtain⟨o,a,hc⟩:=(c q e).2;rw[h]at a;cases a;cases hc⟩)
theorem dH.mine{B:Nat}(h:vN X Y):dH B X Y:=by
 obtain⟨q,rfl⟩:=h;exact(Upon.refl _ _).drewN q
structure MW(w:World)(d g:Nat)(wv:Value)(b0:Nat)(man:Array Value)(g1 c1:Nat)(mb:List UInt8)(r:Int)(m:DM)(wv':Value)(W:World):Prop where
 dk:Dk W d g wv' m
 up:Upon (Has d g wv) w W
 own:∀k,wv'.ownBlock=some k->wv.ownBlock=some k\/w.heap.size<=k
 bd:Blk W b0 24 #[.pointer (some ⟨d,0,none⟩)]
 bm:Blk W (b0+1) 108 man
 br:Blk W (b0+1+1) 29 #[.int .i64 r]
 row:ak W b0 (.slice (some ⟨g1,0,none⟩) 2048 c1) mb
section
variable {w W:World}{d g b0 g1 c1:Nat}{wv wv':Value}{man:Array Value}{mb:List UInt8}{r:Int}{m:DM}
theorem MW.far{B:Nat}{Y:World}(i:w.heap.size<=B)(h:MW w d g wv b0 man g1 c1 mb r m wv' W)(a:dH B W Y):MW w d g wv b0 man g1 c1 mb r m wv' Y:=
 ⟨h.dk.upon a (λk c j=>c.2 (Dk.mO h.dk j)),h.up.trans a (λk c=>.inr (ax i c.1)),h.own,a.blk h.bd,a.blk h.bm,a.blk h.br,
  fC h.row a (λq hq l=>by
   obtain⟨_,_,f⟩:=sQ h.row hq;exact l.2 ⟨_,_,_,f⟩)⟩
theorem MW.step{Y:World}{m2:DM}{wv2:Value}(h:MW w d g wv b0 man g1 c1 mb r m wv' W)(c:Upon (Has d g wv') W Y)(hd:Dk Y d g wv2 m2)(f:∀k,wv2.ownBlock=some k->wv'.ownBlock=some k\/W.heap.size<=k):MW w d g wv b0 man g1 c1 mb r m2 wv2 Y:=
 ⟨hd,h.up.trans c (λk a=>by
   rcases a with rfl|rfl|e
   ·exact .inl (.inl rfl)
   ·exact .inl (.inr (.inl rfl))
   ·exact(h.own k e).elim (λe=>.inl (.inr (.inr e))) .inr),
  λk a=>(f k a).elim (h.own k) (λa=>.inr (ax h.up.size a)),
  Blk.upon h.bd c (Dk.not h.dk h.bd (by decide) (by decide) (by decide)),Blk.upon h.bm c (Dk.not h.dk h.bm (by decide) (by decide) (by decide)),Blk.upon h.br c (Dk.not h.dk h.br (by decide) (by decide) (by decide)),
  fC h.row c (λq hq i=>by
   rcases i with rfl|rfl|e
   ·exact aV h.row h.dk.disk (by decide) hq
   ·exact aV h.row h.dk.row (by decide) hq
   ·exact vP h.row h.dk.wt (by decide) hq e)⟩
theorem MW.box{ab:Nat}{cs:Array Value}(h:MW w d g wv b0 man g1 c1 mb r m wv' W)(hb:Blk W ab 3 cs)(i:w.heap.size<=ab)(u:Value):MW w d g wv b0 man g1 c1 mb r m wv' (W.setCell ⟨ab,0,none⟩ u):=
 ⟨h.dk.upon ((Upon.refl (λk=>k=ab) W).set (.inl rfl) u) (λk c a=>by subst c;exact Dk.not h.dk hb (by decide) (by decide) (by decide) a),h.up.set (.inr i) u,h.own,
  h.bd.far (h.bd.ne hb (by decide)) u,h.bm.far (h.bm.ne hb (by decide)) u,h.br.far (h.br.ne hb (by decide)) u,
  fC h.row ((Upon.refl (λk=>k=ab) W).set (.inl rfl) u) (λq hq f=>by subst f;exact aV h.row hb (by decide) hq)⟩
theorem MW.say(h:MW w d g wv b0 man g1 c1 mb r m wv' W)(i:w.heap.size<=b0)(z:Int):MW w d g wv b0 man g1 c1 mb z m wv' (W.setCell ⟨b0+1+1,0,none⟩ (.int .i64 z)):=
 ⟨h.dk.upon ((Upon.refl (λk=>k=b0+1+1) W).set (.inl rfl) _) (λk c a=>by subst c;exact Dk.not h.dk h.br (by decide) (by decide) (by decide) a),h.up.set (.inr (by show w.heap.size<=b0+1+1;omega)) _,h.own,
  h.bd.far (by show b0≠b0+1+1;omega) _,h.bm.far (by show b0+1≠b0+1+1;omega) _,by have:=h.br.set 0 (.int .i64 z);simpa using this,
  fC h.row ((Upon.refl (λk=>k=b0+1+1) W).set (.inl rfl) _) (λq hq f=>by subst f;exact aV h.row h.br (by decide) hq)⟩
end
theorem yY(m:DM)(i:Nat)(b:List UInt8): (m.write i b).2=0\/(m.write i b).2=6:=by
 unfold DM.write
 split
 ·exact .inr rfl
 ·exact .inl rfl
theorem Cx(m:DM):m.sync.2=0\/m.sync.2=6:=by
 unfold DM.sync
 split
 ·exact .inr rfl
 ·exact .inl rfl
theorem sS{m:DM}(h:m.sync.2=0):m.sync.1.bl.length=m.bl.length/\m.sync.1.off=m.off/\m.sync.1.wt= []:=by
 unfold DM.sync at h⊢
 split at h
 ·cases h
 ·rename_i a
  rw[if_neg a];refine⟨mM _ _,?_,rfl⟩;show m.deed.1.off=m.off;unfold DM.deed;rw[if_neg a]
  split <;> rfl
theorem yZ(at_:Nat)(b:List UInt8): (aP at_ b).length=16:=by simp[aP]
theorem za(at_:Nat)(b:List UInt8){k:Nat}(a:k<16): (aP at_ b).take (k+1)=(aP at_ b).take k++ [(at_+k,(b.drop (k*128)).take 128)]:=by
 rw[bF]
 congr 1
 simp[aP,a]
def WI(w:World)(d g:Nat)(wv:Value)(b0:Nat)(man:Array Value)(g1 c1:Nat)(mb:List UInt8)(m:DM)(at_ ab:Nat)(k:Nat)(W:World):Prop:=
 ∃wv',MW w d g wv b0 man g1 c1 mb 0 (m.writes ((aP at_ mb).take k)).1 wv' W/\(m.writes ((aP at_ mb).take k)).2=0/\Blk W ab 3 #[.int .i64 ((at_+k:Nat):Int)]/\Blk W (ab+1) 84 #[.slice (some ⟨g1,0,none⟩) 2048 c1]/\Blk W (ab+1+1) 3 #[.int .i64 (128:Nat)]
def WX(w:World)(d g:Nat)(wv:Value)(b0:Nat)(man:Array Value)(g1 c1:Nat)(mb:List UInt8)(m:DM)(at_:Nat)(W:World):Prop:=
 ∃wv',MW w d g wv b0 man g1 c1 mb 6 (m.writes (aP at_ mb)).1 wv' W/\(m.writes (aP at_ mb)).2=6
section
variable {w W:World}{d g b0 g1 c1 at_ ab k:Nat}{wv:Value}{man:Array Value}{mb:List UInt8}{m:DM}
theorem WI.far{B:Nat}{Y:World}(o:w.heap.size<=B)(h:WI w d g wv b0 man g1 c1 mb m at_ ab k W)(a:dH B W Y):WI w d g wv b0 man g1 c1 mb m at_ ab k Y:=by
 obtain⟨wv',c,f,i,j,l⟩:=h;exact⟨wv',c.far o a,f,a.blk i,a.blk j,a.blk l⟩
theorem WX.far{B:Nat}{Y:World}(f:w.heap.size<=B)(h:WX w d g wv b0 man g1 c1 mb m at_ W)(i:dH B W Y):WX w d g wv b0 man g1 c1 mb m at_ Y:=by
 obtain⟨wv',a,c⟩:=h;exact⟨wv',a.far f i,c⟩
variable {wv' wv2:Value}{m':DM}
theorem ze{B:Nat}{Y Z:World}(hd:Dk W d g wv' m')(c:Upon (Has d g wv') W Y){q:Nat}{t:TypeId}{cs:Array Value}(hq:Blk W q t cs)(h:Y.grownBy Z (some q)):KeepsFrom B W Z:=
 ⟨ax c.size h.size,λk o _ a hc=>by
  have f:=(dG.1 a).1
  have i:Y.heap[k]? =some o:=(c.block k f (λl=>by
   obtain⟨_,_,_,j⟩:=Dk.mO hd l;rw[j]at a;cases a;cases hc)).trans a
  refine(h.block k (aD f c.size) (λe=>?_)).trans i;cases e;unfold Blk at hq;rw[hq]at a;cases a;cases hc⟩
theorem WI.done{B:Nat}{Y:World}(l:k<16)(y:w.heap.size<=ab)(c:MW w d g wv b0 man g1 c1 mb 0 (m.writes ((aP at_ mb).take k)).1 wv' W)(j: (m.writes ((aP at_ mb).take k)).2=0)(f:Blk W ab 3 #[.int .i64 ((at_+k:Nat):Int)])(h:Blk W (ab+1) 84 #[.slice (some ⟨g1,0,none⟩) 2048 c1])(i:Blk W (ab+1+1) 3 #[.int .i64 (128:Nat)])(a:Upon (Has d g wv') W Y)(hd:Dk Y d g wv2 (((m.writes ((aP at_ mb).take k)).1).write (at_+k) ((mb.drop (k*128)).take 128)).1)(u:∀k,wv2.ownBlock=some k->wv'.ownBlock=some k\/W.heap.size<=k)(z: (((m.writes ((aP at_ mb).take k)).1).write (at_+k) ((mb.drop (k*128)).take 128)).2=0):
  KeepsFrom B W (Y.setCell ⟨ab,0,none⟩ (.int .i64 ((at_+(k+1):Nat):Int)))/\sO (ab+1) (ab+1+1) W (Y.setCell ⟨ab,0,none⟩ (.int .i64 ((at_+(k+1):Nat):Int)))/\WI w d g wv b0 man g1 c1 mb m at_ ab (k+1) (Y.setCell ⟨ab,0,none⟩ (.int .i64 ((at_+(k+1):Nat):Int))):=by
 have o:=Blk.upon f a (Dk.not c.dk f (by decide) (by decide) (by decide));have A:=Blk.upon h a (Dk.not c.dk h (by decide) (by decide) (by decide));have C:=Blk.upon i a (Dk.not c.dk i (by decide) (by decide) (by decide));have q:=A.far (p:=⟨ab,0,none⟩) (by show ab+1≠ab;omega) (.int .i64 ((at_+(k+1):Nat):Int));have s:=C.far (p:=⟨ab,0,none⟩) (by show ab+1+1≠ab;omega) (.int .i64 ((at_+(k+1):Nat):Int));refine⟨ze c.dk a f (grownBy_setCell' Y ab _),⟨?_,q.trans h.symm,s.trans i.symm⟩,wv2,?_,?_,?_,q,s⟩
 ·exact ax a.size (grownBy_setCell' Y ab _).size
 ·rw[za _ _ l,sP _ _ _ j];exact(c.step a hd u).box o y _
 ·rw[za _ _ l,sP _ _ _ j];exact z
 ·have:=o.set 0 (.int .i64 ((at_+(k+1):Nat):Int))
  simpa using this
theorem WI.fail{B:Nat}{Y:World}(p:k<16)(s:w.heap.size<=b0)(a:MW w d g wv b0 man g1 c1 mb 0 (m.writes ((aP at_ mb).take k)).1 wv' W)(o: (m.writes ((aP at_ mb).take k)).2=0)(i:Upon (Has d g wv') W Y)(hd:Dk Y d g wv2 (((m.writes ((aP at_ mb).take k)).1).write (at_+k) ((mb.drop (k*128)).take 128)).1)(q:∀k,wv2.ownBlock=some k->wv'.ownBlock=some k\/W.heap.size<=k)(j: (((m.writes ((aP at_ mb).take k)).1).write (at_+k) ((mb.drop (k*128)).take 128)).2=6):
  KeepsFrom B W (Y.setCell ⟨b0+1+1,0,none⟩ (.int .i64 6))/\WX w d g wv b0 man g1 c1 mb m at_ (Y.setCell ⟨b0+1+1,0,none⟩ (.int .i64 6)):=by
 have h:m.writes (aP at_ mb)=((m.writes ((aP at_ mb).take k)).1).write (at_+k) ((mb.drop (k*128)).take 128):=by
  have c:m.writes ((aP at_ mb).take (k+1))=((m.writes ((aP at_ mb).take k)).1).write (at_+k) ((mb.drop (k*128)).take 128):=by rw[za _ _ p,sP _ _ _ o]
  have f:=vO (m:=m) (l:=(aP at_ mb).take (k+1)) (r:=(aP at_ mb).drop (k+1)) (by rw[c,j];decide);rw[iq]at f;exact f.trans c
 refine⟨ze a.dk i a.br (grownBy_setCell' Y (b0+1+1) _),wv2,?_,?_⟩
 ·rw[h];exact(a.step i hd q).say s 6
 ·rw[h];exact j
theorem Cy(h:ak W b0 (.slice (some ⟨g1,0,none⟩) 2048 c1) mb)(q:Nat):Lies W (some ⟨g1,q,none⟩) (((mb.drop q).take 128).map bv):=by
 obtain⟨a,c,e,_,hl,_,_⟩:=own_shape h;injection e with f i j;subst f;have:=(hl.drop q).take 128;rw[Nat.zero_add]at this
 rwa [fA,jV]
theorem Cz(a:k<16):piece g1 0 128 2048 k=(some ⟨g1,k*128,none⟩,128,128):=by
 unfold piece;rw[Nat.zero_add,show min 128 (2048-k*128)=128 by omega]
theorem WI.start(h:MW w d g wv b0 man g1 c1 mb 0 m wv' W)(a:Blk W ab 3 #[.int .i64 ((at_:Nat):Int)])(c:Blk W (ab+1) 84 #[.slice (some ⟨g1,0,none⟩) 2048 c1])(f:Blk W (ab+1+1) 3 #[.int .i64 (128:Nat)]):WI w d g wv b0 man g1 c1 mb m at_ ab 0 W:=⟨wv',h,rfl,a,c,f⟩
theorem MW.ret{B D:Nat}{r:Int}(c:w.heap.size<=B)(hD:B<=D)(h:MW w d g wv b0 man g1 c1 mb r m' wv' W)(hK:W.heap[D]? =some (.deferred (some []))):
  (W.putObj D (.deferred none)).cell? ⟨b0+1+1,0,none⟩=some (.int .i64 r)/\MW w d g wv b0 man g1 c1 mb r m' wv' (W.putObj D (.deferred none)):=by
 have a:=h.far c (dH.of_grown (B:=B) (grownBy_putObj' W D (.deferred none)) (λq e=>by cases e;exact⟨hD,_,hK,rfl⟩));exact⟨a.br.cell 0,a⟩
theorem WI.whole(h:WI w d g wv b0 man g1 c1 mb m at_ ab 16 W):∃wv',MW w d g wv b0 man g1 c1 mb 0 (m.writes (aP at_ mb)).1 wv' W/\(m.writes (aP at_ mb)).2=0:=by
 obtain⟨wv',a,c,_⟩:=h;rw[jW (by rw[yZ];exact aj _)]at a c;exact⟨wv',a,c⟩
end
variable {D ver:Nat}{ob:Obj}{m:DM}{b:List UInt8}
theorem CB{B:Nat}{X Y:World}{row:Option Nat}(hD:D<B)(h:X.heap[D]? =some ob)(a:X.grownBy Y row)(c:∀r,row=some r->B<=r/\∃o:Obj,X.heap[r]? =some o/\o.isCells=false):Y.heap[D]? =some ob:=
 (a.block D (dG.1 h).1 (λe=>by have:=(c D e.symm).1;omega)).trans h
theorem CF{X Y:World}(h:X.heap[D]? =some ob)(a:vN X Y):Y.heap[D]? =some ob:=by
 obtain⟨q,rfl⟩:=a;exact h
theorem CG{B:Nat}{X Y:World}(h:KeepsFrom 0 X Y):KeepsFrom B X Y:=⟨h.size,λk o _=>h.same k o (aC _)⟩
theorem CJ{d g:Nat}{wv:Value}{X Y:World}{a:Option (List Deferred)}(h:Dk X d g wv m)(i:Upon (Has d g wv) X Y)(hK:X.heap[D]? =some (.deferred a)):Y.heap[D]? =some (.deferred a):=
 (i.block D (dG.1 hK).1 (λf=>by
  obtain⟨_,_,_,c⟩:=Dk.mO h f;rw[hK]at c;cases c)).trans hK
theorem CK{at_:Nat}(h: (m.writes (aP at_ b)).2=6):m.slot at_ b=m.writes (aP at_ b):=by
 unfold DM.slot;rw[if_neg (by rw[h];decide)]
theorem CO{at_:Nat}(h: (m.writes (aP at_ b)).2=0):m.slot at_ b=(m.writes (aP at_ b)).1.sync:=by
 unfold DM.slot;rw[if_pos h]
theorem CP(h: (m.slot (ver%2*16) b).2=6):m.dR ver b=m.slot (ver%2*16) b:=by
 unfold DM.dR;rw[if_neg (by rw[h];decide)]
theorem MG(h: (m.slot (ver%2*16) b).2=0):m.dR ver b=(m.slot (ver%2*16) b).1.slot ((ver+1)%2*16) b:=by
 unfold DM.dR;rw[if_pos h]
open Varint
attribute [local go_sem] Oper.semAt_some
abbrev CQ(w:World)(b:Nat)(t:TypeId)(v:Value):Prop:=Blk w b t #[v]
theorem vQ{d g:Nat}{wv:Value}{m:DM}(ver next:Nat)(a:Option Addr)(c:Nat)(l:List FR)(w:World)(hd:Dk w d g wv m)(e9:m.off=false)(l6:33<=m.bl.length)(l8:m.wt.length<=900000)(h:bV w a l)(hv:ver<18446744073709551616)(hn:next<4294967296)(hf:∀x∈l,x.f.fits)(e5:dw ver next (l.map FR.f)=true):
  Calls prog 47 #[.pointer (some ⟨d,0,none⟩),.agg #[.int .u64 (ver:Int),.int .u32 (next:Int),.slice a l.length c]] w λe w'=>e=.returned (.int .i64 (m.dR ver (bI ver next (l.map FR.f))).2)/\∃wv',Dk w' d g wv' (m.dR ver (bI ver next (l.map FR.f))).1/\Upon (Has d g wv) w w'/\∀k,wv'.ownBlock=some k->wv.ownBlock=some k\/w.heap.size<=k:=by
 obtain⟨n,i9⟩:=jl l.length;obtain⟨b0,z0⟩:=jl w.heap.size;obtain⟨W,hW⟩:=jl (((w.alloc (.cells #[.pointer (some ⟨d,0,none⟩)] 24)).alloc (.cells #[.int .u64 (ver:Int),.int .u32 (next:Int),.slice a n c] 108)).alloc (.cells #[.int .i64 0] 29));have d9:Below w.heap.size w W:=by rw[hW];exact(((Below.refl _ w).alloc jn _).alloc (by simp) _).alloc (by simp;omega) _
 have i2:CQ W b0 24 (.pointer (some ⟨d,0,none⟩)):=by rw[hW,z0];exact((Blk.new w _ _).alloc _).alloc _
 have a9:Blk W (b0+1) 108 #[.int .u64 (ver:Int),.int .u32 (next:Int),.slice a n c]:=by
  have:=Blk.new (w.alloc (.cells #[.pointer (some ⟨d,0,none⟩)] 24)) 108 #[.int .u64 (ver:Int),.int .u32 (next:Int),.slice a n c];rw[World.size_alloc]at this;rw[hW,z0];exact this.alloc _
 have i5:CQ W (b0+2) 29 (.int .i64 0):=by
  have:=Blk.new ((w.alloc (.cells #[.pointer (some ⟨d,0,none⟩)] 24)).alloc (.cells #[.int .u64 (ver:Int),.int .u32 (next:Int),.slice a n c] 108)) 29 #[.int .i64 0];rw[World.size_alloc,World.size_alloc]at this;rw[hW,z0];exact this
 have c6:=Kc ver next a c l W (h.later d9) hv hn hf e5;have e6:=yK e5;obtain⟨mb,x9⟩:=jl (bI ver next (l.map FR.f));rw[<-i9]at c6⊢;rw[<-x9]at c6 e6⊢;have k0:=jq c6;have y8:=jq e6;have b8:=jq d9;have d0:=jq i2;have d2:=jq a9;have b7:=jq i5;have HD:=jq hd;have x0:W.cell? ⟨b0+1,0,none⟩=some (.int .u64 (ver:Int)):=a9.cell 0;have x1:W.cell? ⟨b0+1,1,none⟩=some (.int .u32 (next:Int)):=a9.cell 1;have x2:W.cell? ⟨b0+1,2,none⟩=some (.slice a n c):=a9.cell 2;have j4:=jq z0;clear c6 e6 d9 i2 a9 i5 hd h hf e5 x9 i9;refine(callsIn_wide (n:=5)).1 ?_;refine callsIn_of_wp_marks func47 rfl trivial ?_ rfl;simp only[ntmps47,List.size_toArray,List.length_cons,List.length_nil,Nat.reduceAdd,Nat.reduceSub,Array.replicate_succ,Array.replicate_zero,List.push_toArray,List.append_toArray,List.nil_append,List.cons_append];refine wpIn_wide.2 ?_
 go_wp2_with fail
 rw[<-hW,<-z0];clear hW z0
 go_wp2_with fail
 refine k0.out.mono ?_;rintro e w1 ⟨v1,rfl,c5,y9⟩;obtain⟨g1,c1,e1,e4,_,_⟩:=Go.Proofs.YtndkohocgfmamaaGreatDoor.Frame.mI c5 (by rw[y8.out];decide);rw[y8.out]at e1;subst e1;obtain⟨a1,R,e1,z1,l1,z2,z3⟩:=own_shape c5;clear z1 z2 z3;rw[y8.out]at e1;cases e1;clear x0 x1 x2;have i3:=d0.out.below y9 d0.out.lt;have e3:=d2.out.below y9 d2.out.lt;have i6:=b7.out.below y9 b7.out.lt;have f1:=jq (HD.out.later (b8.out.trans (y9.mono b8.out.size)));have y0:w1.cell? ⟨b0+1,0,none⟩=some (.int .u64 (ver:Int)):=e3.cell 0;have d1:=jq i3;have d3:=jq e3;have d4:=jq i6;have f9:=jq (MF c5 (show b0<=W.heap.size from by have:=b7.out.lt;omega));have c9:=jq (b8.out.trans (y9.mono b8.out.size));rw[y8.out]at e4;have f0:Hid (2048<=c1):=jq e4;clear i3 e3 i6 l1 y9 c5 e4 d0 d2 b7 HD
 go_wp2_with fail
 refine wp_loop_rounds 3 ?_;rw[rounds_succ]
 go_wp2_with fail
 obtain⟨L,i0⟩:∃L:Nat,L=ver%2*16:=⟨_,rfl⟩;have y4: (ver:Int)%2*16=((L:Nat):Int):=by omega
 have l2:L<=16:=by omega
 obtain⟨ab,a5⟩:=jl w1.heap.size;obtain⟨w2,b2⟩:=jl (w1.alloc (.cells #[.int .i64 ((ver:Int)%2*16)] 3));rw[<-a5,<-b2];refine(qQ (some ⟨g1,0,none⟩) 2048 c1 128 (by decide) w2).mono ?_;rintro e w3 ⟨rfl,b3⟩;have x3:w2.heap.size=ab+1:=by rw[b2,World.size_alloc,a5]
 rw[x3];have a8:Blk w2 ab 3 #[.int .i64 ((L:Nat):Int)]:=by rw[b2,a5,<-y4];exact Blk.new _ _ _
 have a7:Blk w3 ab 3 #[.int .i64 ((L:Nat):Int)]:=by rw[b3];exact(a8.alloc _).alloc _
 have h6:Blk w3 (ab+1) 84 #[.slice (some ⟨g1,0,none⟩) 2048 c1]:=by rw[b3,<-x3];exact(Blk.new _ _ _).alloc _
 have h0:Blk w3 (ab+1+1) 3 #[.int .i64 (128:Nat)]:=by
  have:=Blk.new (w2.alloc (.cells #[.slice (some ⟨g1,0,none⟩) 2048 c1] 84)) 3 #[.int .i64 (128:Nat)];rw[World.size_alloc,x3]at this;rw[b3];exact this
 have S:Below w1.heap.size w1 w3:=by rw[b3,b2];exact(((Below.refl _ w1).alloc jn _).alloc (by simp) _).alloc (by simp;omega) _
 have x5:MW w d g wv b0 #[.int .u64 (ver:Int),.int .u32 (next:Int),.slice a n c] g1 c1 mb 0 m wv w3:=
  ⟨f1.out.later S,Upon.of_below (c9.out.trans (S.mono c9.out.size)),λ_ h=>.inl h,d1.out.below S d1.out.lt,d3.out.below S d3.out.lt,d4.out.below S d4.out.lt,
   fC f9.out (Upon.of_below (P:=λ_=>False) S) (λ_ _ h=>h)⟩
 have j1:w.heap.size<=ab:=by rw[a5];exact c9.out.size
 have b4:w.heap.size<=w3.heap.size:=x5.up.size;have k8:=jq (WI.start (at_:=L) x5 a7 h6 h0);have j6:=jq (yV 4 (by omega) (ab+1) (ab+1+1) (w0:=w3) (g:=g1) (off:=0) (wd:=128) (M:=2048) (m:=16) (c:=c1) (by decide) (by decide) f0.out (by decide) (by decide) (λk T=>by omega) h6.lt h0.lt (h6.cell 0) (h0.cell 0));have k2:=jq h6.lt;have k3:=jq h0.lt;have k6:=jq j1;have h8:=jq b4;have z9:Hid (w.heap.size<=b0):=jq (Nat.le_of_eq j4.out.symm);have l5:=jq S;have l3:=jq y4;have y1:=jq i0;have g5:Hid (b0+1+1<w3.heap.size):=jq x5.br.lt;clear y4 b3 a8 a7 h6 h0 S x5 j1 b4 x3 b2 a5 i0 f1 d1 d3 d4 f9 y0
 go_wp2_with fail
 refine(wpIn_wide (n:=5)).1 ?_
 refine sM rfl (by omega) (gf:=128) (lb:=#[.pointer (some ⟨ab+1,0,none⟩),.pointer (some ⟨ab+1+1,0,none⟩)]) rfl trivial (enters_of func128 (by kernel_rfl) rfl) j6.out ?mine (λh k=>⟨ax h.1 k.1,k.2.1.trans h.2.1,k.2.2.trans h.2.2⟩) ?oZ (λ_ _ _ _ _ _ h _ _ _=>h) (Below.refl _ _) (λ_=>rfl)
  (λpre W=>WI w d g wv b0 #[.int .u64 (ver:Int),.int .u32 (next:Int),.slice a n c] g1 c1 mb m L ab pre.length W)
  (λcd _ W=>cd=.ret/\WX w d g wv b0 #[.int .u64 (ver:Int),.int .u32 (next:Int),.slice a n c] g1 c1 mb m L W)
  (λs X Y row h hg hr=>h.far h8.out (dH.of_grown hg hr)) (λcd s X Y row h hg hr=>⟨h.1,h.2.far h8.out (dH.of_grown hg hr)⟩) (λs X Y h z=>h.far h8.out (dH.mine z)) (λcd s X Y h z=>⟨h.1,h.2.far h8.out (dH.mine z)⟩) k8.out
  (λy=>{tmps:=#[.pointer (some ⟨d,0,none⟩),.agg #[.int .u64 ver,.int .u32 next,.slice a n c],.pointer (some ⟨b0,0,none⟩),.pointer (some ⟨b0+1,0,none⟩),.pointer (some ⟨b0+1+1,0,none⟩),.slice (some ⟨g1,0,none⟩) 2048 c1,.int .i64 0,.int .u64 0,.pointer (some ⟨ab,0,none⟩),sl y,undef,undef,.tuple #[.slice (some ⟨g1,0,none⟩) 2048 c1,.int .i64 0],.agg #[.int .u64 ver,.int .u32 next,.slice a n c],.tuple #[.slice (some ⟨g1,0,none⟩) 2048 c1,.int .i64 0],.slice (some ⟨g1,0,none⟩) 2048 c1,.int .i64 0,.int .i64 0,.bool false,undef,.int .u64 0,.bool true,.int .u64 0,.pointer (some ⟨b0+1,0,none⟩),.int .u64 ver,.int .u64 0,.int .u64 ver,.int .u64 ((ver:Int)%2),.int .i64 ((ver:Int)%2),.int .i64 ((ver:Int)%2*16),.slice (some ⟨g1,0,none⟩) 2048 c1,.func (.func 128) #[] #[.pointer (some ⟨ab+1,0,none⟩),.pointer (some ⟨ab+1+1,0,none⟩)],sl y,undef,undef,undef,undef,undef,undef,undef,undef,undef,undef,undef,undef,undef,undef,undef],defers:=[]})
  ?assign ?body ?done ?stop
 case mine=>
  rintro X Y ⟨q,rfl⟩;exact⟨aj _,λ_ _ _ ho _=>ho⟩
 case oZ=>
  intro W l o o' hl _ _ _;have i:=k2.out;have u:=k3.out;exact⟨by simp,World.putObj_heap_other (by omega),World.putObj_heap_other (by omega)⟩
 case assign=>
  intro l y W K hK;unfold sl at hK⊢
  gi_wp2
  exact hK
 case body=>
  rintro lv pre y W1 ⟨wv',i,u,h3,h4,h5⟩ hlt hy;obtain⟨A,x4⟩:=jl pre.length;rw[<-x4]at i u h3 hlt hy;have d6:Hid (∀x:SL,(pre++ [x]).length=A+1):=jq (λx=>by rw[jL,<-x4];rfl);rw[Cz hlt]at hy;subst hy;have j9:=jq x4;obtain⟨J,hJ⟩:=jl (L+A);obtain⟨q0,x6⟩:=jl (A*128);have H:=lH u;have x9: ((mb.drop (A*128)).take 128).length=128:=by rw[jT,List.length_drop,y8.out];omega
  have b5: (m.writes ((aP L mb).take A)).1.wt.length<=1000000:=by
   rw[H.2.2,jL,jT];have:=Nat.min_le_left A (aP L mb).length
   omega
  have a0:=jq (vG (L+A) (some ⟨g1,A*128,none⟩) 128 ((mb.drop (A*128)).take 128) i.dk (H.2.1.trans e9) (by rw[H.1];omega) x9 (Cy i.row (A*128)) b5);have R:=i.bd.cell 0;have h9:=h3.cell 0;simp only[jt,ja]at R h9;rw[<-hJ]at h9;have C:=jq i;have V:=jq u;have F:=jq h3;have H4:=jq h4;have H5:=jq h5;have l0:J<32:=by omega
  have Z:=jq hJ;have HQ:=jq x6;have z6:=jq hlt;unfold sl;dsimp only;rw[<-x6];rw[<-x6,<-hJ]at a0;clear i u h3 h4 h5 H x9 b5 hJ x6 x4 hlt
  gi_wp2
  refine⟨trivial,(CallsIn.inRound lv (callsIn_wide.2 a0.out)).mono ?_⟩;rintro e W2 ⟨rfl,wv2,O,U,y7⟩;have G:Upon (Has d g wv') W1 W2:=U.mono (λk T=>T.elim .inl (λh=>.inr (.inr h)));have q3:=Blk.upon F.out G (Dk.not C.out.dk F.out (by decide) (by decide) (by decide));have q6:=Blk.upon C.out.br G (Dk.not C.out.dk C.out.br (by decide) (by decide) (by decide));have f3:=q3.frozen 0;have f6:=q6.frozen 0;have a2:=q3.cell 0;have d8:=q6.cell 0;simp only[jt,ja]at a2 d8;rw[<-Z.out]at a2;rw[Z.out,HQ.out]at O;have z8:=jq G;have h7:=jq O;have g2:=jq y7;rcases yY (m.writes ((aP L mb).take A)).1 J ((mb.drop q0).take 128)with j|j
  ·rw[j];rw[Z.out,HQ.out]at j;have I:=jq j;have p:=jq (WI.done (B:=w3.heap.size) z6.out k6.out C.out V.out F.out H4.out H5.out z8.out h7.out g2.out I.out);rw[show((L+(A+1):Nat):Int)=(J:Int)+1 from by have:=Z.out;omega]at p;clear j R h9 U G q3 q6 O y7
   gi_wp2
   refine⟨p.out.1,p.out.2.1,?_⟩;dsimp only;rw[d6.out];exact p.out.2.2
  ·rw[j];rw[Z.out,HQ.out]at j;have I:=jq j;have p:=jq (WI.fail (B:=w3.heap.size) z6.out z9.out C.out V.out z8.out h7.out g2.out I.out);clear j R h9 U G q3 q6 O y7
   gi_wp2
   exact⟨p.out.1,rfl,p.out.2⟩
 case stop=>
  rintro D cd pre W1 hD _ ⟨rfl,wv',i,u⟩ hK;have hs:=CK u;rw[y1.out]at hs;have z:=CP (m:=m) (ver:=ver) (b:=mb) (by rw[hs,<-y1.out];exact u);rw[hs,<-y1.out]at z;have HM:=jq z;have V:=jq u;have p:=jq (i.ret h8.out hD hK);have HK:=jq hK;clear hs z i u hK;dsimp only
  gi_wp2
  have g0:=p.out.1;refine⟨by simp,.inl ⟨_,_,rfl,run_takeDeferred HK.out,?_⟩⟩;refine⟨.int .i64 6,by simp[results,Tryz.f47,go_sem,g0],?_⟩;rw[HM.out,V.out];exact⟨rfl,wv',p.out.2.dk,p.out.2.up,p.out.2.own⟩
 case done=>
  rintro D xs W1 hD hS hI hK;rw[hS,nO]at hI;obtain⟨wv',i,u⟩:=hI.whole;obtain⟨m1,i7⟩:=jl ((m.writes (aP L mb)).1);have H:=lH u;have y5:=CO u;rw[<-i7]at i H y5;have b1:m1.wt.length<=1000000:=by rw[H.2.2,jL,yZ];omega
  have c4:=jq (yR i.dk (H.2.1.trans e9) b1);have R:=i.bd.cell 0;simp only[jt,ja]at R;have C:=jq i;have V:=jq u;have HK:=jq hK;have z7:=jq y5;have d7:=jq H;have HD:=jq hD;clear i u hK y5 H b1 i7 hI hS hD;dsimp only
  gi_wp2
  go_wp2_with fail
  refine c4.out.mono ?_;rintro e W2 ⟨rfl,wv2,O,U,y7⟩;have G:Upon (Has d g wv') W1 W2:=U.mono (λk T=>T.elim .inl (λh=>.inr (.inl h)));have F:=jq (C.out.step G O (λk T=>.inl (y7 k T)))
  have g9:W2.heap[D]? =some (.deferred (some [])):=(G.block D (dG.1 HK.out).1 (λhh=>by
   obtain⟨_,_,_,h⟩:=Dk.mO C.out.dk hh;rw[HK.out]at h;cases h)).trans HK.out
  have c2:=jq g9;have f6:=F.out.br.frozen 0;have f5:=F.out.bd.cell 0;have f4:=F.out.bm.cell 0;have f3:=F.out.br.cell 0;simp only[jt,ja]at f3 f4 f5;clear R U G O y7 g9;rcases Cx m1 with j|j
  ·rw[j];have z: (m.slot (ver%2*16) mb).2=0:=by rw[<-y1.out,z7.out];exact j
   have HM:=jq (MG z);have I:=jq j;clear j z
   go_wp2_with fail
   rw[rounds_succ];obtain⟨o,ho⟩:∃o:Nat,o=(ver+1)%2:=⟨_,rfl⟩;have y7:o<2:=by omega
   have l7: (IntKind.u64.wrap ((ver:Int)+1)).tmod 2=(o:Int):=by
    rw[qD (wrap_u64_nonneg _),IntKind.wrap_u64,ho]
    omega
   have HO:=jq ho;clear ho;obtain⟨m2,z4⟩:=jl m1.sync.1;have c7:=sS I.out;have j0:m2.off=false:=by rw[z4,c7.2.1,d7.out.2.1,e9]
   have i4:m2.bl.length=m.bl.length:=by rw[z4,c7.1,d7.out.1]
   have j3:m2.wt.length=0:=by rw[z4,c7.2.2];rfl
   have e8:=F.out;rw[<-z4]at e8;have f8:Hid (m.dR ver mb=m2.slot (o*16) mb):=jq (by rw[HM.out,<-y1.out,z7.out,<-z4,HO.out]);have c3:=jq e8;have j5:=jq i4;have g6:=jq j3;have g4:=jq j0;clear z4 c7 j0 i4 j3 e8 HM z7 d7 I F c4 C V
   go_wp2_with fail
   obtain⟨N,i1⟩:∃N:Nat,N=o*16:=⟨_,rfl⟩;have y4: (o:Int)*16=((N:Nat):Int):=by omega
   have l2:N<=16:=by omega
   obtain⟨ac,a6⟩:=jl W2.heap.size;obtain⟨V2,a3⟩:=jl (W2.alloc (.cells #[.int .i64 ((o:Int)*16)] 3));rw[<-a6,<-a3];refine(qQ (some ⟨g1,0,none⟩) 2048 c1 128 (by decide) V2).mono ?_;rintro e V3 ⟨rfl,a4⟩;have x3:V2.heap.size=ac+1:=by rw[a3,World.size_alloc,a6]
   rw[x3];have a8:Blk V2 ac 3 #[.int .i64 ((N:Nat):Int)]:=by rw[a3,a6,<-y4];exact Blk.new _ _ _
   have a7:Blk V3 ac 3 #[.int .i64 ((N:Nat):Int)]:=by rw[a4];exact(a8.alloc _).alloc _
   have h6:Blk V3 (ac+1) 84 #[.slice (some ⟨g1,0,none⟩) 2048 c1]:=by rw[a4,<-x3];exact(Blk.new _ _ _).alloc _
   have h0:Blk V3 (ac+1+1) 3 #[.int .i64 (128:Nat)]:=by
    have:=Blk.new (V2.alloc (.cells #[.slice (some ⟨g1,0,none⟩) 2048 c1] 84)) 3 #[.int .i64 (128:Nat)];rw[World.size_alloc,x3]at this;rw[a4];exact this
   have S:Below W2.heap.size W2 V3:=by rw[a4,a3];exact(((Below.refl _ W2).alloc jn _).alloc (by simp) _).alloc (by simp;omega) _
   have e0:D<W2.heap.size:=(dG.1 c2.out).1;have x5:MW w d g wv b0 #[.int .u64 (ver:Int),.int .u32 (next:Int),.slice a n c] g1 c1 mb 0 m2 wv2 V3:=c3.out.far (B:=W2.heap.size) c3.out.up.size (Upon.of_below S);have j2:w.heap.size<=ac:=by rw[a6];exact c3.out.up.size
   have b4:w.heap.size<=V3.heap.size:=x5.up.size;have k9:=jq (WI.start (at_:=N) x5 a7 h6 h0);have j7:=jq (yV 4 (by omega) (ac+1) (ac+1+1) (w0:=V3) (g:=g1) (off:=0) (wd:=128) (M:=2048) (m:=16) (c:=c1) (by decide) (by decide) f0.out (by decide) (by decide) (λk T=>by omega) h6.lt h0.lt (h6.cell 0) (h0.cell 0));have k4:=jq h6.lt;have k5:=jq h0.lt;have k7:=jq j2;have y3:=jq b4;have l4:=jq y4;have c8:=jq i1;have k1:Hid (b0+1+1<V3.heap.size):=jq x5.br.lt;have b9:Hid (D<V3.heap.size):=jq (aD e0 S.size);have j8:Hid (V3.heap[D]? =some (.deferred (some []))):=jq ((S.block D e0).trans c2.out);clear y4 a4 a8 a7 h6 h0 S x5 j2 b4 x3 a3 a6 i1 c3 e0 f3 f4 f5 f6 c2
   go_wp2_with fail
   refine(wpIn_wide (n:=5)).1 ?_
   refine sM rfl (by omega) (gf:=128) (lb:=#[.pointer (some ⟨ac+1,0,none⟩),.pointer (some ⟨ac+1+1,0,none⟩)]) rfl trivial (enters_of func128 (by kernel_rfl) rfl) j7.out ?mine (λh k=>⟨ax h.1 k.1,k.2.1.trans h.2.1,k.2.2.trans h.2.2⟩) ?oZ (λ_ _ _ _ _ _ h _ _ _=>h) (Below.refl _ _) (λ_=>rfl)
    (λpre W=>WI w d g wv b0 #[.int .u64 (ver:Int),.int .u32 (next:Int),.slice a n c] g1 c1 mb m2 N ac pre.length W/\W.heap[D]? =some (.deferred (some [])))
    (λcd _ W=>cd=.ret/\WX w d g wv b0 #[.int .u64 (ver:Int),.int .u32 (next:Int),.slice a n c] g1 c1 mb m2 N W/\W.heap[D]? =some (.deferred (some [])))
    (λs X Y row h hg hr=>⟨h.1.far y3.out (dH.of_grown hg hr),CB b9.out h.2 hg hr⟩) (λcd s X Y row h hg hr=>⟨h.1,h.2.1.far y3.out (dH.of_grown hg hr),CB b9.out h.2.2 hg hr⟩) (λs X Y h z=>⟨h.1.far y3.out (dH.mine z),CF h.2 z⟩) (λcd s X Y h z=>⟨h.1,h.2.1.far y3.out (dH.mine z),CF h.2.2 z⟩) ⟨k9.out,j8.out⟩
    (λy=>{tmps:=#[.pointer (some ⟨d,0,none⟩),.agg #[.int .u64 ver,.int .u32 next,.slice a n c],.pointer (some ⟨b0,0,none⟩),.pointer (some ⟨b0+1,0,none⟩),.pointer (some ⟨b0+1+1,0,none⟩),.slice (some ⟨g1,0,none⟩) 2048 c1,.int .i64 0,.int .u64 1,.pointer (some ⟨ac,0,none⟩),sl y,undef,.int .i64 0,.tuple #[.slice (some ⟨g1,0,none⟩) 2048 c1,.int .i64 0],.agg #[.int .u64 ver,.int .u32 next,.slice a n c],.tuple #[.slice (some ⟨g1,0,none⟩) 2048 c1,.int .i64 0],.slice (some ⟨g1,0,none⟩) 2048 c1,.int .i64 0,.int .i64 0,.bool false,undef,.int .u64 1,.bool true,.int .u64 1,.pointer (some ⟨b0+1,0,none⟩),.int .u64 ver,.int .u64 1,.int .u64 (IntKind.u64.wrap ((ver:Int)+1)),.int .u64 (o:Int),.int .i64 (o:Int),.int .i64 ((o:Int)*16),.slice (some ⟨g1,0,none⟩) 2048 c1,.func (.func 128) #[] #[.pointer (some ⟨ac+1,0,none⟩),.pointer (some ⟨ac+1+1,0,none⟩)],sl y,undef,undef,undef,undef,undef,undef,undef,undef,undef,.pointer (some ⟨d,0,none⟩),.int .i64 0,.int .i64 0,.bool false,undef,.int .u64 1],defers:=[]})
    ?assign ?body ?done ?stop
   case mine=>
    rintro X Y ⟨q,rfl⟩;exact⟨aj _,λ_ _ _ ho _=>ho⟩
   case oZ=>
    intro W l o o' hl _ _ _;have i:=k4.out;have u:=k5.out;exact⟨by simp,World.putObj_heap_other (by omega),World.putObj_heap_other (by omega)⟩
   case assign=>
    intro l y W K hK;unfold sl at hK⊢
    gi_wp2
    exact hK
   case body=>
    rintro lv pre y X1 ⟨⟨wv',i,u,h3,h4,h5⟩,x8⟩ hlt hy;obtain⟨A,x4⟩:=jl pre.length;rw[<-x4]at i u h3 hlt hy;have d6:Hid (∀x:SL,(pre++ [x]).length=A+1):=jq (λx=>by rw[jL,<-x4];rfl);rw[Cz hlt]at hy;subst hy;have j9:=jq x4;obtain⟨J,hJ⟩:=jl (N+A);obtain⟨q0,x6⟩:=jl (A*128);have H:=lH u;have x9: ((mb.drop (A*128)).take 128).length=128:=by rw[jT,List.length_drop,y8.out];omega
    have b5: (m2.writes ((aP N mb).take A)).1.wt.length<=1000000:=by
     rw[H.2.2,jL,jT];have:=Nat.min_le_left A (aP N mb).length;rw[g6.out]
     omega
    have a0:=jq (vG (N+A) (some ⟨g1,A*128,none⟩) 128 ((mb.drop (A*128)).take 128) i.dk (H.2.1.trans g4.out) (by rw[H.1,j5.out];omega) x9 (Cy i.row (A*128)) b5);have R:=i.bd.cell 0;have h9:=h3.cell 0;simp only[jt,ja]at R h9;rw[<-hJ]at h9;have C:=jq i;have V:=jq u;have F:=jq h3;have H4:=jq h4;have H5:=jq h5;have c0:=jq x8;have l0:J<32:=by omega
    have Z:=jq hJ;have HQ:=jq x6;have z6:=jq hlt;unfold sl;dsimp only;rw[<-x6];rw[<-x6,<-hJ]at a0;clear i u h3 h4 h5 x8 H x9 b5 hJ x6 x4 hlt
    gi_wp2
    refine⟨trivial,(CallsIn.inRound lv (callsIn_wide.2 a0.out)).mono ?_⟩;rintro e X2 ⟨rfl,b6,O,U,z5⟩;have G:Upon (Has d g wv') X1 X2:=U.mono (λk T=>T.elim .inl (λh=>.inr (.inr h)));have q3:=Blk.upon F.out G (Dk.not C.out.dk F.out (by decide) (by decide) (by decide));have q6:=Blk.upon C.out.br G (Dk.not C.out.dk C.out.br (by decide) (by decide) (by decide));have f3:=q3.frozen 0;have f6:=q6.frozen 0;have a2:=q3.cell 0;have d8:=q6.cell 0;simp only[jt,ja]at a2 d8;rw[<-Z.out]at a2;rw[Z.out,HQ.out]at O;have z8:=jq G;have h7:=jq O;have g3:=jq z5;rcases yY (m2.writes ((aP N mb).take A)).1 J ((mb.drop q0).take 128)with j|j
    ·rw[j];rw[Z.out,HQ.out]at j;have I:=jq j;have p:=jq (WI.done (B:=0) z6.out k7.out C.out V.out F.out H4.out H5.out z8.out h7.out g3.out I.out);rw[show((N+(A+1):Nat):Int)=(J:Int)+1 from by have:=Z.out;omega]at p;clear j R h9 U G q3 q6 O z5
     gi_wp2
     refine⟨CG p.out.1,p.out.2.1,?_⟩;dsimp only;rw[d6.out];exact⟨p.out.2.2,p.out.1.same D _ (aC _) c0.out rfl⟩
    ·rw[j];rw[Z.out,HQ.out]at j;have I:=jq j;have p:=jq (WI.fail (B:=0) z6.out z9.out C.out V.out z8.out h7.out g3.out I.out);clear j R h9 U G q3 q6 O z5
     gi_wp2
     exact⟨CG p.out.1,rfl,p.out.2,p.out.1.same D _ (aC _) c0.out rfl⟩
   case stop=>
    rintro E cd pre X1 hE _ ⟨rfl,⟨b6,i,u⟩,x8⟩ hK;have hs:=CK u;rw[c8.out]at hs;have z:=f8.out;rw[hs,<-c8.out]at z;have HM:=jq z;have V:=jq u;have p:=jq (i.ret y3.out hE hK);have HK:=jq hK;have y6:D≠E:=by have:=b9.out;omega
    have x7:Hid ((X1.putObj E (.deferred none)).heap[D]? =some (.deferred (some []))):=jq ((World.putObj_heap_other y6).trans x8);have Q:=jq (p.out.2.ret (B:=D) (by have:=HD.out;have:=h8.out;omega) jn x7.out);clear hs z i u hK x8 y6;dsimp only
    gi_wp2
    have g0:=Q.out.1;refine⟨by simp,.inl ⟨_,_,rfl,run_takeDeferred HK.out,by simp,.inl ⟨_,_,rfl,run_takeDeferred x7.out,?_⟩⟩⟩;refine⟨.int .i64 6,by simp[results,Tryz.f47,go_sem,g0],?_⟩;rw[HM.out,V.out];exact⟨rfl,b6,Q.out.2.dk,Q.out.2.up,Q.out.2.own⟩
   case done=>
    rintro E xs X1 hE hS ⟨hI,x8⟩ hK;rw[hS,nO]at hI;obtain⟨wv',i,u⟩:=hI.whole;obtain⟨m3,i8⟩:=jl ((m2.writes (aP N mb)).1);have H:=lH u;have y5:=CO u;rw[<-i8]at i H y5;have b1:m3.wt.length<=1000000:=by rw[H.2.2,jL,yZ,g6.out];omega
    have c4:=jq (yR i.dk (H.2.1.trans g4.out) b1);have R:=i.bd.cell 0;simp only[jt,ja]at R;have C:=jq i;have HK:=jq hK;have z:=f8.out;rw[<-c8.out,y5]at z;have HM:=jq z;have h7:=jq hE;have c0:=jq x8;clear i u hK y5 z H b1 i8 hI hS hE x8;dsimp only
    gi_wp2
    go_wp2_with fail
    refine c4.out.mono ?_;rintro e X2 ⟨rfl,b6,O,U,z5⟩;have G:Upon (Has d g wv') X1 X2:=U.mono (λk T=>T.elim .inl (λh=>.inr (.inl h)));have F:=jq (C.out.step G O (λk T=>.inl (z5 k T)));have f2:=jq (CJ C.out.dk G HK.out);have f7:=jq (CJ C.out.dk G c0.out);have f6:=F.out.br.frozen 0;have f3:=F.out.br.cell 0;simp only[jt,ja]at f3;clear R U G O z5;have y6:D≠E:=by have i:=b9.out;have u:=h7.out;omega
    have g8:b0+1+1<E:=aD k1.out h7.out;have g7:b0+1+1<D:=aD g5.out HD.out;rcases Cx m3 with j|j
    ·rw[j];have H4:=jq (F.out.say z9.out 0);have y2:Hid ((X2.setCell ⟨b0+1+1,0,none⟩ (.int .i64 0)).heap[E]? =some (.deferred (some []))):=jq ((Below.heap_setCell X2 ⟨b0+1+1,0,none⟩ (.int .i64 0) E (by show E≠b0+1+1;omega)).trans f2.out);have d5:Hid ((X2.setCell ⟨b0+1+1,0,none⟩ (.int .i64 0)).heap[D]? =some (.deferred (some []))):=jq ((Below.heap_setCell X2 ⟨b0+1+1,0,none⟩ (.int .i64 0) D (by show D≠b0+1+1;omega)).trans f7.out);have p:=jq (H4.out.ret y3.out h7.out y2.out);have x7:Hid (((X2.setCell ⟨b0+1+1,0,none⟩ (.int .i64 0)).putObj E (.deferred none)).heap[D]? =some (.deferred (some []))):=jq ((World.putObj_heap_other y6).trans d5.out);have Q:=jq (p.out.2.ret (B:=D) (by have i:=HD.out;have u:=h8.out;omega) jn x7.out);have I:=jq j;clear j y6 g8 g7
     go_wp2_with fail
     rw[rounds_succ]
     go_wp2_with fail
     have g0:=Q.out.1;refine⟨by simp,.inl ⟨_,_,rfl,run_takeDeferred y2.out,by simp,.inl ⟨_,_,rfl,run_takeDeferred x7.out,?_⟩⟩⟩;refine⟨.int .i64 0,by simp[results,Tryz.f47,go_sem,g0],?_⟩;rw[HM.out,I.out];exact⟨rfl,b6,Q.out.2.dk,Q.out.2.up,Q.out.2.own⟩
    ·rw[j];have H4:=jq (F.out.say z9.out 6);have y2:Hid ((X2.setCell ⟨b0+1+1,0,none⟩ (.int .i64 6)).heap[E]? =some (.deferred (some []))):=jq ((Below.heap_setCell X2 ⟨b0+1+1,0,none⟩ (.int .i64 6) E (by show E≠b0+1+1;omega)).trans f2.out);have d5:Hid ((X2.setCell ⟨b0+1+1,0,none⟩ (.int .i64 6)).heap[D]? =some (.deferred (some []))):=jq ((Below.heap_setCell X2 ⟨b0+1+1,0,none⟩ (.int .i64 6) D (by show D≠b0+1+1;omega)).trans f7.out);have p:=jq (H4.out.ret y3.out h7.out y2.out);have x7:Hid (((X2.setCell ⟨b0+1+1,0,none⟩ (.int .i64 6)).putObj E (.deferred none)).heap[D]? =some (.deferred (some []))):=jq ((World.putObj_heap_other y6).trans d5.out);have Q:=jq (p.out.2.ret (B:=D) (by have i:=HD.out;have u:=h8.out;omega) jn x7.out);have I:=jq j;clear j y6 g8 g7
     go_wp2_with fail
     have g0:=Q.out.1;refine⟨by simp,.inl ⟨_,_,rfl,run_takeDeferred y2.out,by simp,.inl ⟨_,_,rfl,run_takeDeferred x7.out,?_⟩⟩⟩;refine⟨.int .i64 6,by simp[results,Tryz.f47,go_sem,g0],?_⟩;rw[HM.out,I.out];exact⟨rfl,b6,Q.out.2.dk,Q.out.2.up,Q.out.2.own⟩
  ·rw[j];have z: (m.slot (ver%2*16) mb).2=6:=by rw[<-y1.out,z7.out];exact j
   have e7:=CP z;rw[<-y1.out,z7.out]at e7;have HM:=jq e7;have H4:=jq (F.out.say z9.out 6)
   have e2: (W2.setCell ⟨b0+1+1,0,none⟩ (.int .i64 6)).heap[D]? =some (.deferred (some [])):=(Below.heap_setCell W2 ⟨b0+1+1,0,none⟩ (.int .i64 6) D (by
    have i:=HD.out;have u:=g5.out;show D≠b0+1+1
    omega)).trans c2.out
   have y2:=jq e2;have p:=jq (H4.out.ret h8.out HD.out e2);have I:=jq j;clear j z e7 e2
   go_wp2_with fail
   have g0:=p.out.1;refine⟨by simp,.inl ⟨_,_,rfl,run_takeDeferred y2.out,?_⟩⟩;refine⟨.int .i64 6,by simp[results,Tryz.f47,go_sem,g0],?_⟩;rw[HM.out,I.out];exact⟨rfl,wv2,p.out.2.dk,p.out.2.up,p.out.2.own⟩
end aA
namespace nP
open Go.RowKit Go.Deep Go.Shelf Mem Crc kP Dk oW Chunk aA
def cK(id:Nat)(bl:List Nat)(b:List UInt8):List (Nat×List UInt8):=(List.range bl.length).map λk=>(bl.getD k 0,dh id k ((b.drop (k*112)).take 112))
variable {k id:Nat}{m:DM}{bl:List Nat}{b:List UInt8}
theorem MH(id:Nat)(bl:List Nat)(b:List UInt8)(a:k<bl.length): (cK id bl b).take (k+1)=(cK id bl b).take k++ [(bl.getD k 0,dh id k ((b.drop (k*112)).take 112))]:=by
 rw[bF]
 congr 1
 simp[cK,a]
theorem CR(c:k<bl.length)(a: (m.writes ((cK id bl b).take k)).2=0):m.writes ((cK id bl b).take (k+1))=(m.writes ((cK id bl b).take k)).1.write (bl.getD k 0) (dh id k ((b.drop (k*112)).take 112)):=by
 rw[MH _ _ _ c,sP _ _ _ a]
theorem MI(h:k<bl.length)(f: (m.writes ((cK id bl b).take k)).2=0)(i: ((m.writes ((cK id bl b).take k)).1.write (bl.getD k 0) (dh id k ((b.drop (k*112)).take 112))).2=6):m.writes (cK id bl b)=(m.writes ((cK id bl b).take k)).1.write (bl.getD k 0) (dh id k ((b.drop (k*112)).take 112)):=by
 have a:=CR h f;have c:=vO (m:=m) (l:=(cK id bl b).take (k+1)) (r:=(cK id bl b).drop (k+1)) (by rw[a,i];decide);rw[iq]at c;exact c.trans a
theorem CS(id:Nat)(bl:List Nat)(b:List UInt8): (cK id bl b).length=bl.length:=by simp[cK]
structure PW(w:World)(d g:Nat)(wv:Value)(x:Nat)(sv:Value)(fv:Array Value)(jv:Value)(r:Int)(n:Nat)(m:DM)(wv':Value)(W:World):Prop where
 dk:Dk W d g wv' m
 up:Upon (Has d g wv) w W
 own:∀k,wv'.ownBlock=some k->wv.ownBlock=some k\/w.heap.size<=k
 bs:Blk W x 25 #[sv]
 bf:Blk W (x+1) 113 fv
 br:Blk W (x+1+1) 29 #[.int .i64 r]
 bn:Blk W (x+1+1+1) 46 #[.int .u32 (n:Int)]
 ba:Blk W (x+1+1+1+1) 84 #[jv]
 bw:Blk W (x+1+1+1+1+1) 3 #[.int .i64 (112:Nat)]
section
variable {w W:World}{d g x n:Nat}{wv wv' sv jv:Value}{fv:Array Value}{r:Int}{m:DM}
variable {Y:World}
theorem PW.far{B:Nat}(f:w.heap.size<=B)(h:PW w d g wv x sv fv jv r n m wv' W)(a:dH B W Y):PW w d g wv x sv fv jv r n m wv' Y:=
 ⟨h.dk.upon a (λ_ c i=>c.2 (Dk.mO h.dk i)),h.up.trans a (λ_ c=>.inr (ax f c.1)),h.own,a.blk h.bs,a.blk h.bf,a.blk h.br,a.blk h.bn,a.blk h.ba,a.blk h.bw⟩
theorem PW.step{m2:DM}{wv2:Value}(h:PW w d g wv x sv fv jv r n m wv' W)(a:Upon (Has d g wv') W Y)(hd:Dk Y d g wv2 m2)(f:∀k,wv2.ownBlock=some k->wv'.ownBlock=some k\/W.heap.size<=k):PW w d g wv x sv fv jv r n m2 wv2 Y:=
 ⟨hd,h.up.trans a (λk c=>by
   rcases c with rfl|rfl|e
   ·exact .inl (.inl rfl)
   ·exact .inl (.inr (.inl rfl))
   ·exact(h.own k e).elim (λe=>.inl (.inr (.inr e))) .inr),
  λk c=>(f k c).elim (h.own k) (λc=>.inr (ax h.up.size c)),
  Blk.upon h.bs a (Dk.not h.dk h.bs (by decide) (by decide) (by decide)),Blk.upon h.bf a (Dk.not h.dk h.bf (by decide) (by decide) (by decide)),Blk.upon h.br a (Dk.not h.dk h.br (by decide) (by decide) (by decide)),
  Blk.upon h.bn a (Dk.not h.dk h.bn (by decide) (by decide) (by decide)),Blk.upon h.ba a (Dk.not h.dk h.ba (by decide) (by decide) (by decide)),Blk.upon h.bw a (Dk.not h.dk h.bw (by decide) (by decide) (by decide))⟩
theorem PW.later{Y:World}(h:PW w d g wv x sv fv jv r n m wv' W)(a:Below W.heap.size W Y):PW w d g wv x sv fv jv r n m wv' Y:=
 h.step (Upon.of_below a) (h.dk.later a) (λ_ h=>.inl h)
theorem PW.count(h:PW w d g wv x sv fv jv r n m wv' W)(f:w.heap.size<=x)(k:Nat):PW w d g wv x sv fv jv r k m wv' (W.setCell ⟨x+1+1+1,0,none⟩ (.int .u32 (k:Int))):=
 ⟨h.dk.upon ((Upon.refl (λk=>k=x+1+1+1) W).set (.inl rfl) _) (λk c a=>by subst c;exact Dk.not h.dk h.bn (by decide) (by decide) (by decide) a),h.up.set (.inr (by show w.heap.size<=x+1+1+1;omega)) _,h.own,
  h.bs.far (by show x≠x+1+1+1;omega) _,h.bf.far (by show x+1≠x+1+1+1;omega) _,h.br.far (by show x+1+1≠x+1+1+1;omega) _,by have:=h.bn.set 0 (.int .u32 (k:Int));simpa using this,
  h.ba.far (by show x+1+1+1+1≠x+1+1+1;omega) _,h.bw.far (by show x+1+1+1+1+1≠x+1+1+1;omega) _⟩
theorem PW.say(h:PW w d g wv x sv fv jv r n m wv' W)(f:w.heap.size<=x)(z:Int):PW w d g wv x sv fv jv z n m wv' (W.setCell ⟨x+1+1,0,none⟩ (.int .i64 z)):=
 ⟨h.dk.upon ((Upon.refl (λk=>k=x+1+1) W).set (.inl rfl) _) (λk c a=>by subst c;exact Dk.not h.dk h.br (by decide) (by decide) (by decide) a),h.up.set (.inr (by show w.heap.size<=x+1+1;omega)) _,h.own,
  h.bs.far (by show x≠x+1+1;omega) _,h.bf.far (by show x+1≠x+1+1;omega) _,by have:=h.br.set 0 (.int .i64 z);simpa using this,h.bn.far (by show x+1+1+1≠x+1+1;omega) _,
  h.ba.far (by show x+1+1+1+1≠x+1+1;omega) _,h.bw.far (by show x+1+1+1+1+1≠x+1+1;omega) _⟩
theorem PW.ret{B D:Nat}(c:w.heap.size<=B)(hD:B<=D)(h:PW w d g wv x sv fv jv r n m wv' W)(hK:W.heap[D]? =some (.deferred (some []))):
  (W.putObj D (.deferred none)).cell? ⟨x+1+1,0,none⟩=some (.int .i64 r)/\PW w d g wv x sv fv jv r n m wv' (W.putObj D (.deferred none)):=by
 have a:=h.far c (dH.of_grown (B:=B) (grownBy_putObj' W D (.deferred none)) (λq e=>by cases e;exact⟨hD,_,hK,rfl⟩));exact⟨a.br.cell 0,a⟩
theorem CU{B:Nat}{Z V:World}{q:Nat}{t:TypeId}{cs:Array Value}(a:Below W.heap.size W V)(hd:Dk V d g wv' m)(f:Upon (Has d g wv') V Y)(hq:Blk V q t cs)(h:Y.grownBy Z (some q)):KeepsFrom B W Z:=
 KeepsFrom.trans ⟨a.size,λk _ _ c _=>(a.block k (dG.1 c).1).trans c⟩ (ze hd f hq h)
end
theorem CV{w:World}{a:Nat}{o:Nat}{l:List Nat}(h:Lies w (some ⟨a,o,none⟩) (l.map iv)){k:Nat}(c:k<l.length):w.cell? ⟨a,o+k,none⟩=some (iv (l.getD k 0)):=by
 obtain⟨g,f,e,hc⟩:=iB h (k:=k) (u:=iv (l.getD k 0)) (by simp[c]);cases e;exact hc
open Round
attribute [local go_sem] Oper.semAt_some
theorem MJ{d g s:Nat}{wv:Value}{m:DM}{cs:Array Value}(nm:ByteArray)(id size j go mc ba bo F:Nat)(b:List UInt8)(bl:List Nat)(w:World)(hd:Dk w d g wv m)(a3:m.off=false)(c5:m.wt.length+bl.length<=1000000)(hs:Blk w s 119 cs)(hcs:cs[0]? =some (.pointer (some ⟨d,0,none⟩)))(hb:Lies w (some ⟨j,go,none⟩) (b.map bv))(b6:¬Has d g wv j)(hc:b.length<=mc)(c3:b.length<=2000000)(a0:Lies w (some ⟨ba,bo,none⟩) (bl.map iv))(z8:¬Has d g wv ba)(z9:∀i∈bl,i<m.bl.length)(y3:b.length<=bl.length*112)(y4:∀k,k<bl.length->k*112<b.length)(hid:id<4294967296)(hB:bl.length<=100000):
  Calls prog 100 #[.pointer (some ⟨s,0,none⟩),.agg #[.string nm,.int .u32 (id:Int),.int .i64 (size:Int),.slice (some ⟨ba,bo,none⟩) bl.length F],.slice (some ⟨j,go,none⟩) b.length mc] w λe w'=>e=.returned (.int .i64 (m.writes (cK id bl b)).2)/\∃wv',Dk w' d g wv' (m.writes (cK id bl b)).1/\Upon (Has d g wv) w w'/\∀k,wv'.ownBlock=some k->wv.ownBlock=some k\/w.heap.size<=k:=by
 obtain⟨M,hM⟩:=jl b.length;obtain⟨B,x8⟩:=jl bl.length;obtain⟨x,G⟩:=jl w.heap.size;rw[<-hM]at hc c3 y3 y4⊢;rw[<-x8]at c5 y3 y4 hB⊢;obtain⟨W,L⟩:=jl ((((w.alloc (.cells #[.pointer (some ⟨s,0,none⟩)] 25)).alloc (.cells #[.string nm,.int .u32 (id:Int),.int .i64 (size:Int),.slice (some ⟨ba,bo,none⟩) B F] 113)).alloc (.cells #[.int .i64 0] 29)).alloc (.cells #[.int .u32 0] 46));have x0:Below w.heap.size w W:=by rw[L];exact((((Below.refl _ w).alloc jn _).alloc (by simp) _).alloc (by simp;omega) _).alloc (by simp;omega) _
 have x4:W.heap.size=x+1+1+1+1:=by rw[L,G];simp
 obtain⟨W3,x1⟩:=jl ((W.alloc (.cells #[.slice (some ⟨j,go,none⟩) M mc] 84)).alloc (.cells #[.int .i64 (112:Nat)] 3));have T:Below W.heap.size W W3:=by rw[x1];exact((Below.refl _ W).alloc jn _).alloc (by simp) _
 have N:PW w d g wv x (.pointer (some ⟨s,0,none⟩)) #[.string nm,.int .u32 (id:Int),.int .i64 (size:Int),.slice (some ⟨ba,bo,none⟩) B F] (.slice (some ⟨j,go,none⟩) M mc) 0 0 m wv W3:=by
  refine⟨hd.later (x0.trans (T.mono x0.size)),Upon.of_below (x0.trans (T.mono x0.size)),λ_ h=>.inl h,?_,?_,?_,?_,?_,?_⟩
  ·refine Blk.below ?_ T (by omega);rw[L,G];exact(((Blk.new w _ _).alloc _).alloc _).alloc _
  ·refine Blk.below ?_ T (by omega);rw[L];exact((Blk.at_ (by rw[World.size_alloc,G])).alloc _).alloc _
  ·refine Blk.below ?_ T (by omega);rw[L];exact(Blk.at_ (by rw[World.size_alloc,World.size_alloc,G])).alloc _
  ·refine Blk.below ?_ T (by omega);rw[L];exact Blk.at_ (by rw[World.size_alloc,World.size_alloc,World.size_alloc,G])
  ·rw[x1];exact(Blk.at_ x4.symm).alloc _
  ·rw[x1];exact Blk.at_ (by rw[World.size_alloc,x4])
 have b4:=jq x1;have b2:=jq N;have HX:Hid (w.heap.size<=x):=jq (Nat.le_of_eq G.symm);have c8:=jq G;have h7:Hid (w.heap.size<=W3.heap.size):=jq N.up.size;have z3:Hid (x+1+1+1+1+1<W3.heap.size):=jq N.bw.lt;have a6:Hid (∀i∈bl,i<m.bl.length):=jq z9;have h9:=jq x8;have b0:=jq hM;have HS:=jq hs;have HB:=jq hb;have y8:=jq a0;have z0:=jq hd;have a7:=jq (yV 4 (by omega) (x+1+1+1+1) (x+1+1+1+1+1) (w0:=W3) (g:=j) (off:=go) (wd:=112) (M:=M) (m:=B) (c:=mc) (by decide) (by decide) hc (by omega) y3 y4 N.ba.lt N.bw.lt (N.ba.cell 0) (N.bw.cell 0));clear x1 T N z9 hM x8 hs hb a0 hd x0;refine(callsIn_wide (n:=5)).1 ?_;refine callsIn_of_wp_marks func100 rfl trivial ?_ rfl;simp only[ntmps100,List.size_toArray,List.length_cons,List.length_nil,Nat.reduceAdd,Nat.reduceSub,Array.replicate_succ,Array.replicate_zero,List.push_toArray,List.append_toArray,List.nil_append,List.cons_append];refine wpIn_wide.2 ?_
 go_wp2_with fail
 rw[<-L,<-G];refine(qQ (some ⟨j,go,none⟩) M mc 112 (by decide) _).mono ?_;rintro e w3 ⟨rfl,a5⟩;rw[<-b4.out]at a5;subst a5;rw[x4];clear L G x4
 go_wp2_with fail
 refine(wpIn_wide (n:=5)).1 ?_
 refine sM rfl (by omega) (gf:=128) (lb:=#[.pointer (some ⟨x+1+1+1+1,0,none⟩),.pointer (some ⟨x+1+1+1+1+1,0,none⟩)]) rfl trivial (enters_of func128 (by kernel_rfl) rfl) a7.out ?mine (λh k=>⟨ax h.1 k.1,k.2.1.trans h.2.1,k.2.2.trans h.2.2⟩) ?oZ (λ_ _ _ _ _ _ h _ _ _=>h) (Below.refl _ _) (λ_=>rfl)
  (λpre W=>∃wv',PW w d g wv x (.pointer (some ⟨s,0,none⟩)) #[.string nm,.int .u32 (id:Int),.int .i64 (size:Int),.slice (some ⟨ba,bo,none⟩) B F] (.slice (some ⟨j,go,none⟩) M mc) 0 pre.length (m.writes ((cK id bl b).take pre.length)).1 wv' W/\(m.writes ((cK id bl b).take pre.length)).2=0)
  (λcd _ W=>cd=.ret/\∃wv' n,PW w d g wv x (.pointer (some ⟨s,0,none⟩)) #[.string nm,.int .u32 (id:Int),.int .i64 (size:Int),.slice (some ⟨ba,bo,none⟩) B F] (.slice (some ⟨j,go,none⟩) M mc) 6 n (m.writes (cK id bl b)).1 wv' W/\(m.writes (cK id bl b)).2=6)
  (λs X Y row ⟨v,h,a⟩ hg hr=>⟨v,h.far h7.out (dH.of_grown hg hr),a⟩) (λcd s X Y row ⟨h0,v,n,h,a⟩ hg hr=>⟨h0,v,n,h.far h7.out (dH.of_grown hg hr),a⟩) (λs X Y ⟨v,h,a⟩ hm=>⟨v,h.far h7.out (dH.mine hm),a⟩) (λcd s X Y ⟨h0,v,n,h,a⟩ hm=>⟨h0,v,n,h.far h7.out (dH.mine hm),a⟩) ⟨wv,b2.out,rfl⟩
  (λy=>{tmps:=#[.pointer (some ⟨s,0,none⟩),.agg #[.string nm,.int .u32 (id:Int),.int .i64 (size:Int),.slice (some ⟨ba,bo,none⟩) B F],.slice (some ⟨j,go,none⟩) M mc,.pointer (some ⟨x,0,none⟩),.pointer (some ⟨x+1,0,none⟩),undef,.pointer (some ⟨x+1+1,0,none⟩),.pointer (some ⟨x+1+1+1,0,none⟩),sl y,undef,undef,undef,.slice (some ⟨j,go,none⟩) M mc,.func (.func 128) #[] #[.pointer (some ⟨x+1+1+1+1,0,none⟩),.pointer (some ⟨x+1+1+1+1+1,0,none⟩)],sl y,undef,undef,undef,undef,undef,undef,undef,undef,undef,undef,undef,undef,undef,undef,undef,undef,undef,undef,undef,undef,undef,undef,undef,undef],defers:=[]})
  ?assign ?body ?done ?stop
 case mine=>
  rintro X Y ⟨q,rfl⟩;exact⟨aj _,λ_ _ _ ho _=>ho⟩
 case oZ=>
  intro W l o o' hl _ _ _;have f:=z3.out;exact⟨by simp,World.putObj_heap_other (by omega),World.putObj_heap_other (by omega)⟩
 case assign=>
  intro l y W K hK;unfold sl at hK⊢
  gi_wp2
  exact hK
 case body=>
  rintro lv pre y W1 ⟨wv',f,a⟩ hlt hy;obtain⟨K0,x9⟩:=jl pre.length;rw[<-x9]at f a hlt hy;have a9:Hid (∀z:SL,(pre++ [z]).length=K0+1):=jq (λz=>by rw[jL,<-x9];rfl);subst hy;obtain⟨O,x6⟩:=jl ((b.drop (K0*112)).take 112);obtain⟨q,hq⟩:=jl O.length;obtain⟨o,ho⟩:=jl (go+K0*112);have a4:q=min 112 (M-K0*112):=by rw[hq,x6,jT,List.length_drop,b0.out]
  have z6:Lies W1 (some ⟨j,o,none⟩) (O.map bv):=by
   have:=((HB.out.upon f.up (λq hq hh=>by cases hq;exact b6 hh)).drop (K0*112)).take 112
   rwa [<-jV,<-fA,<-x6,<-ho]at this
  have y5:=iN id K0 hid (by omega) (some ⟨j,o,none⟩) q O W1 z6 (by omega);rw[<-hq]at y5;have b1:=jq y5;have z4:=f.bf.cell 1;have z5:=f.bn.cell 0;simp only[jt,ja,jb]at z4 z5;unfold sl piece;dsimp only;rw[<-ho,<-a4];have H1:=jq f;have H2:=jq a;have H:=jq x6;have c9:K0<100000:=by omega
  have C:=jq hlt;clear f a x6 hq ho a4 z6 y5 x9 hlt
  gi_wp2
  refine⟨trivial,(CallsIn.inRound lv (callsIn_wide.2 b1.out)).mono ?_⟩;rintro e V ⟨v1,rfl,hO,x7⟩
  gi_wp2
  obtain⟨g1,c1,ev,b7,c0,_⟩:=Go.Proofs.YtndkohocgfmamaaGreatDoor.Frame.mI hO (by rw[pq (by rw[H.out,jT];omega)];decide);rw[pq (by rw[H.out,jT];omega)]at ev;subst ev;obtain⟨a1,c2,e2,_,y1,_,_⟩:=own_shape hO;injection e2 with e2 e3 e4;clear e3 e4;subst e2;have p:=H1.out.later x7;have y7:Hid (bl.getD K0 0<m.bl.length):=jq (a6.out _ (by rw[List.getD_eq_getElem?_getD,jg (by rw[<-h9.out];exact C.out)];exact qE _));obtain⟨I,hI⟩:=jl (bl.getD K0 0);have h6:=lH H2.out
  have CW:=jq (vG I (some ⟨g1,0,none⟩) c1 (dh id K0 O) p.dk (h6.2.1.trans a3) (by rw[h6.1,hI];exact y7.out) (pq (by rw[H.out,jT];omega)) y1 (by
   rw[h6.2.2,jL,jT];have:=Nat.min_le_left K0 (cK id bl b).length;have:=C.out
   omega))
  have d1:=p.bs.cell 0;have d2:=(Blk.upon HS.out p.up (Dk.not z0.out HS.out (by decide) (by decide) (by decide))).cell 0;rw[hcs]at d2;have d3:=p.bf.cell 3;have d4:=p.bn.cell 0;have R:=CV (y8.out.upon p.up (λq hq hh=>by cases hq;exact z8 hh)) (k:=K0) (by rw[<-h9.out];exact C.out);rw[<-hI]at R;unfold iv at R;simp only[jt,ja,jb]at d1 d3 d4;have b3:Hid ((λw':World=>w'.cell? ⟨x,0,none⟩=some (.pointer (some ⟨s,0,none⟩))/\w'.cell? ⟨s,0,none⟩=some (.pointer (some ⟨d,0,none⟩))/\w'.cell? ⟨x+1,3,none⟩=some (.slice (some ⟨ba,bo,none⟩) B F)/\w'.cell? ⟨x+1+1+1,0,none⟩=some (.int .u32 (K0:Int))/\w'.cell? ⟨ba,bo+K0,none⟩=some (.int .i64 (I:Int))) V.drew):=jq ⟨d1,d2,d3,d4,R⟩
  have a8:Hid (∀(Y:World) (P:Value),Dk Y d g P ((m.writes ((cK id bl b).take K0)).1.write I (dh id K0 O)).1->Upon (λk=>k=d\/wv'.ownBlock=some k) V.drew Y->(∀k,P.ownBlock=some k->wv'.ownBlock=some k\/V.drew.heap.size<=k)->(λw':World=>w'.cell? ⟨x,0,none⟩=some (.pointer (some ⟨s,0,none⟩))/\w'.cell? ⟨s,0,none⟩=some (.pointer (some ⟨d,0,none⟩))/\w'.cell? ⟨x+1,3,none⟩=some (.slice (some ⟨ba,bo,none⟩) B F)/\w'.cell? ⟨x+1+1+1,0,none⟩=some (.int .u32 (K0:Int))/\w'.cell? ⟨ba,bo+K0,none⟩=some (.int .i64 (I:Int))) Y):=jq (λY P b9 x2 c4=>by
   have u:=p.step (Y:=Y) (m2:=((m.writes ((cK id bl b).take K0)).1.write I (dh id K0 O)).1) (wv2:=P) (⟨x2.os,x2.tape,x2.output,x2.size,λk hk hn=>x2.block k hk (λhp=>hn (hp.elim .inl (λh=>.inr (.inr h))))⟩:Upon (Has d g wv') V Y) b9 c4;have d1:=u.bs.cell 0;have d2:=(Blk.upon HS.out u.up (Dk.not z0.out HS.out (by decide) (by decide) (by decide))).cell 0;rw[hcs]at d2;have d3:=u.bf.cell 3;have d4:=u.bn.cell 0;have R:=CV (y8.out.upon u.up (λq hq hh=>by cases hq;exact z8 hh)) (k:=K0) (by rw[<-h9.out];exact C.out);rw[<-hI]at R;exact⟨d1,d2,d3,d4,R⟩)
  replace CW:=jq ((vG I (some ⟨g1,0,none⟩) c1 (dh id K0 O) (w:=V.drew) (p.dk.keep jn (λ_ _=>rfl)) (h6.2.1.trans a3) (by rw[h6.1,hI];exact y7.out) (pq (by rw[H.out,jT];omega)) y1 (by
   rw[h6.2.2,jL,jT];have:=Nat.min_le_left K0 (cK id bl b).length;have:=C.out
   omega)))
  have H3:=jq p;have HI:=jq hI;have y9:=jq x7;have d0:decide ((B:Int)<=(K0:Int))=false:=by have:=C.out;simp;omega
  have x5:decide ((K0:Int) <(B:Int))=true:=by have:=C.out;simp;omega
  have d6:decide (B<=K0)=false:=by have:=C.out;simp;omega
  have d7:¬B<=K0:=by have:=C.out;omega
  have b8:K0<B:=C.out;clear d1 d2 d3 d4 R p h6 hI x7 y1 hO b7 c0 z4 z5;refine MB (S:=λw'=>w'.cell? ⟨x,0,none⟩=some (.pointer (some ⟨s,0,none⟩))/\w'.cell? ⟨s,0,none⟩=some (.pointer (some ⟨d,0,none⟩))/\w'.cell? ⟨x+1,3,none⟩=some (.slice (some ⟨ba,bo,none⟩) B F)/\w'.cell? ⟨x+1+1+1,0,none⟩=some (.int .u32 (K0:Int))/\w'.cell? ⟨ba,bo+K0,none⟩=some (.int .i64 (I:Int))) (by kernel_rfl) (by kernel_rfl) b3.out (λhHeld=>?_);refine' jk 0 ?_
  try simp only[Act.put,ji,js,ju]
  refine' jk 1 ?_
  try simp only[Act.put,ji,js,ju]
  refine' jk 2 ?_
  try simp only[Act.put,ji,js,ju]
  refine' jk 3 ?_
  try simp only[Act.put,ji,js,ju]
  refine' jk 4 ?_
  try simp only[Act.put,ji,js,ju]
  refine' jk 5 ?_
  try simp only[Act.put,ji,js,ju]
  refine' jk 6 ?_
  try simp only[Act.put,ji,js,ju]
  refine' jk 7 ?_
  try simp only[Act.put,ji,js,ju]
  refine' jk 8 ?_
  try simp only[Act.put,ji,js,ju]
  refine' jk 9 ?_
  try simp only[Act.put,ji,js,ju]
  refine wpAnyH_ready (rs:=[10]) (by kernel_rfl) (by simp) ?_;refine' AllReadyH.cons (o:=?KE) ?yP (λK hK=>?yQ) ?KF
  case yP=>(simp only[jt,jb,ja];rfl)
  case yQ=>
   go_simp
   (go_at_call 84;refine CW.out.mono ?_;rintro e W2 ⟨rfl,P,x5,Z,y2⟩;have z7:=a8.out W2 P x5 Z y2;dsimp only)
   refine hK.out _ _ ?_ (λhHeld=>?_)
   ·exact z7
   clear hK K
   try simp only[Act.put,ji,js,ju]
   refine' jk 11 ?_
   try simp only[Act.put,ji,js,ju]
   refine wpAnyH_done (by kernel_rfl) ?_ _
   rename_i b5
   clear b5 z7;have y6:Upon (Has d g wv') V W2:=⟨Z.os,Z.tape,Z.output,Z.size,λk hk hn=>Z.block k hk (λhp=>hn (hp.elim .inl (λh=>.inr (.inr h))))⟩;have u:=H3.out.step y6 x5 y2;have H4:=jq u;have z2:=jq y6;have c6:=u.bn.cell 0;have c7:=u.br.cell 0;have f6:=u.bn.frozen 0;have f7:=u.br.frozen 0;simp only[jt,ja]at c6 c7;clear u Z y6 x5 y2;unfold Round.Calm;dsimp only;have a2:K0<bl.length:=by rw[<-h9.out];exact b8
   have z1:=jq a2;clear a2;rcases yY (m.writes ((cK id bl b).take K0)).1 I (dh id K0 O)with A|A
   ·rw[A];rw[HI.out,H.out]at A;have U:=CR (id:=id) z1.out H2.out;have J:=H4.out.count HX.out (K0+1);rw[HI.out,H.out,<-U]at J;rw[<-U]at A;have h8:=CU (B:=w3.heap.size) y9.out H3.out.dk z2.out H3.out.bn (grownBy_setCell' W2 (x+1+1+1) (.int .u32 ((K0+1:Nat):Int)));rw[show((K0+1:Nat):Int)=(K0:Int)+1 from by omega]at J h8;have H5:=jq J;have x3:=jq h8;have Q:=jq A;clear U J h8 A
    gi_wp2
    refine⟨x3.out,⟨x3.out.size,H5.out.ba.trans H1.out.ba.symm,H5.out.bw.trans H1.out.bw.symm⟩,?_⟩;dsimp only;rw[a9.out];exact⟨⟨P,H5.out⟩,Q.out⟩
   ·rw[A];rw[HI.out,H.out]at A;have U:=MI (id:=id) z1.out H2.out A;have J:=H4.out.say HX.out 6;rw[HI.out,H.out,<-U]at J;rw[<-U]at A;have h8:=CU (B:=w3.heap.size) y9.out H3.out.dk z2.out H3.out.br (grownBy_setCell' W2 (x+1+1) (.int .i64 6));have H5:=jq J;have x3:=jq h8;have Q:=jq A;clear U J h8 A
    gi_wp2
    exact⟨x3.out,rfl,⟨P,_,H5.out⟩,Q.out⟩
  exact AllReadyH.nil
 case done=>
  rintro D xs V hD hS ⟨wv',f,a⟩ hK;rw[hS,nO,jW (by rw[CS,h9.out];exact aj _)]at f a;have c6:=f.br.cell 0;have f6:=f.br.frozen 0;have p:=f.say HX.out 0;have y0: (V.setCell ⟨x+1+1,0,none⟩ (.int .i64 0)).heap[D]? =some (.deferred (some [])):=(Below.heap_setCell V ⟨x+1+1,0,none⟩ (.int .i64 0) D (by have:=z3.out;show D≠x+1+1;omega)).trans hK;have HK:=jq y0;have E:=jq (p.ret h7.out hD y0);have Q:=jq a;clear f a p hK y0 hS;dsimp only
  gi_wp2
  go_wp2_with fail
  have g0:=E.out.1;refine⟨by simp,.inl ⟨_,_,rfl,run_takeDeferred HK.out,?_⟩⟩;refine⟨.int .i64 0,by simp[results,Tryz.f100,go_sem,g0],?_⟩;rw[Q.out];exact⟨rfl,_,E.out.2.dk,E.out.2.up,E.out.2.own⟩
 case stop=>
  rintro D cd pre V hD _ ⟨rfl,wv',n,f,a⟩ hK;have HK:=jq hK;have E:=jq (f.ret h7.out hD hK);have Q:=jq a;clear f a hK;dsimp only
  gi_wp2
  have g0:=E.out.1;refine⟨by simp,.inl ⟨_,_,rfl,run_takeDeferred HK.out,?_⟩⟩;refine⟨.int .i64 6,by simp[results,Tryz.f100,go_sem,g0],?_⟩;rw[Q.out];exact⟨rfl,_,E.out.2.dk,E.out.2.up,E.out.2.own⟩
theorem MK(n:Nat)(f h:Nat){w0:World}{a:Option Addr}{c:Nat}{V:List SL->SL->World->Prop}(hcs:w0.cell? ⟨f,0,none⟩=some (.slice a 0 c))(s:f<w0.heap.size):
  vL Fence.wide n prog 128 #[.pointer (some ⟨f,0,none⟩),.pointer (some ⟨h,0,none⟩)] (λx:SL=>#[sl x]) vN (sO f h) V (λu=>u= []) (λ_=>False) 0 w0:=by
 intro l J y W o z _ _ j;have A:W.cell? ⟨f,0,none⟩=some (.slice a 0 c):=(o.cell (p:=⟨f,0,none⟩) s).trans hcs;refine callsIn_of_wp func128 rfl trivial ?_ rfl;simp only[ntmps128,List.size_toArray,List.length_cons,List.length_nil,Nat.reduceAdd,Nat.reduceSub,Array.replicate_succ,Array.replicate_zero,List.push_toArray,List.append_toArray,List.nil_append,List.cons_append]
 gi_wp2
 gi_loopw [4] (λi wr=>i=.int .i64 0/\J [] wr/\wr=W) (λ_ _=>0)
 case atStart=>exact⟨rfl,j,rfl⟩
 case round=>
  obtain⟨rfl,q,rfl⟩:=hrel
  gi_wp2
  go_end0
  exact⟨⟨_,rfl⟩,.inl ⟨_,rfl,q⟩⟩
theorem ML(s:Nat)(nm:ByteArray)(id size mc:Nat)(A:Value)(a:Option Addr)(w:World):
  Calls prog 100 #[.pointer (some ⟨s,0,none⟩),.agg #[.string nm,.int .u32 (id:Int),.int .i64 (size:Int),A],.slice a 0 mc] w λe w'=>e=.returned (.int .i64 0)/\Below w.heap.size w w':=by
 obtain⟨x,j⟩:=jl w.heap.size;obtain⟨W,f⟩:=jl ((((w.alloc (.cells #[.pointer (some ⟨s,0,none⟩)] 25)).alloc (.cells #[.string nm,.int .u32 (id:Int),.int .i64 (size:Int),A] 113)).alloc (.cells #[.int .i64 0] 29)).alloc (.cells #[.int .u32 0] 46));have E:Below w.heap.size w W:=by rw[f];exact((((Below.refl _ w).alloc jn _).alloc (by simp) _).alloc (by simp;omega) _).alloc (by simp;omega) _
 have u:W.heap.size=x+1+1+1+1:=by rw[f,j];simp
 obtain⟨W3,i⟩:=jl ((W.alloc (.cells #[.slice a 0 mc] 84)).alloc (.cells #[.int .i64 (112:Nat)] 3));have C:Below W.heap.size W W3:=by rw[i];exact((Below.refl _ W).alloc jn _).alloc (by simp) _
 have T:Blk W3 (x+1+1) 29 #[.int .i64 0]:=by
  refine Blk.below ?_ C (by omega);rw[f];exact(Blk.at_ (by rw[World.size_alloc,World.size_alloc,j])).alloc _
 have G:Blk W3 (x+1+1+1+1) 84 #[.slice a 0 mc]:=by
  rw[i];exact(Blk.at_ u.symm).alloc _
 have U:Blk W3 (x+1+1+1+1+1) 3 #[.int .i64 (112:Nat)]:=by
  rw[i];exact Blk.at_ (by rw[World.size_alloc,u])
 have z:=jq (E.trans (C.mono E.size));have h6:=jq T;have h8:=jq i;have HX:Hid (w.heap.size<=x):=jq (Nat.le_of_eq j.symm);have N:Hid (x+1+1+1+1+1<W3.heap.size):=jq U.lt;have h7:=jq (MK 4 (x+1+1+1+1) (x+1+1+1+1+1) (w0:=W3) (V:=λ_ _ _=>False) (G.cell 0) G.lt);clear i C E T G U;refine(callsIn_wide (n:=5)).1 ?_;refine callsIn_of_wp_marks func100 rfl trivial ?_ rfl;simp only[ntmps100,List.size_toArray,List.length_cons,List.length_nil,Nat.reduceAdd,Nat.reduceSub,Array.replicate_succ,Array.replicate_zero,List.push_toArray,List.append_toArray,List.nil_append,List.cons_append];refine wpIn_wide.2 ?_
 go_wp2_with fail
 rw[<-f,<-j];refine(qQ a 0 mc 112 (by decide) _).mono ?_;rintro e w3 ⟨rfl,h0⟩;rw[<-h8.out]at h0;subst h0;rw[u];clear f j u
 go_wp2_with fail
 refine(wpIn_wide (n:=5)).1 ?_
 refine sM rfl (by omega) (gf:=128) (lb:=#[.pointer (some ⟨x+1+1+1+1,0,none⟩),.pointer (some ⟨x+1+1+1+1+1,0,none⟩)]) rfl trivial (enters_of func128 (by kernel_rfl) rfl) h7.out ?mine (λh k=>⟨ax h.1 k.1,k.2.1.trans h.2.1,k.2.2.trans h.2.2⟩) ?oZ (λ_ _ _ _ _ _ h _ _ _=>h) (Below.refl _ _) (λ_=>rfl)
  (λ_ W=>Blk W (x+1+1) 29 #[.int .i64 0]/\Upon (λ_=>False) w W)
  (λ_ _ _=>False)
  (λs X Y row h I M=>⟨(dH.of_grown I M).blk h.1,h.2.trans (dH.of_grown I M) (λk J=>.inr (ax z.out.size J.1))⟩) (λO s X Y row h I M=>h) (λs X Y h L=>⟨(dH.mine (B:=0) L).blk h.1,by obtain⟨q,rfl⟩:=L;exact h.2.drewN q⟩) (λO s X Y h L=>h) ⟨h6.out,Upon.of_below z.out⟩
  (λy=>{tmps:=#[.pointer (some ⟨s,0,none⟩),.agg #[.string nm,.int .u32 (id:Int),.int .i64 (size:Int),A],.slice a 0 mc,.pointer (some ⟨x,0,none⟩),.pointer (some ⟨x+1,0,none⟩),undef,.pointer (some ⟨x+1+1,0,none⟩),.pointer (some ⟨x+1+1+1,0,none⟩),sl y,undef,undef,undef,.slice a 0 mc,.func (.func 128) #[] #[.pointer (some ⟨x+1+1+1+1,0,none⟩),.pointer (some ⟨x+1+1+1+1+1,0,none⟩)],sl y,undef,undef,undef,undef,undef,undef,undef,undef,undef,undef,undef,undef,undef,undef,undef,undef,undef,undef,undef,undef,undef,undef,undef,undef],defers:=[]})
  ?assign ?body ?done ?stop
 case mine=>
  rintro X Y ⟨q,rfl⟩;exact⟨aj _,λ_ _ _ ho _=>ho⟩
 case oZ=>
  intro W l o o' hl _ _ _;have c:=N.out;exact⟨by simp,World.putObj_heap_other (by omega),World.putObj_heap_other (by omega)⟩
 case assign=>
  intro l y W K hK;unfold sl at hK⊢
  gi_wp2
  exact hK
 case body=>exact λlv pre y W1 _ hlt _=>absurd hlt (je _)
 case done=>
  rintro D xs V hD hS ⟨c,P⟩ hK;have c6:=c.cell 0;have f6:=c.frozen 0;have Z:D≠x+1+1:=by have:=N.out;omega
  have Q:=c.set 0 (.int .i64 0);have F: (V.setCell ⟨x+1+1,0,none⟩ (.int .i64 0)).heap[D]? =some (.deferred (some [])):=(Below.heap_setCell V ⟨x+1+1,0,none⟩ (.int .i64 0) D (by show D≠x+1+1;exact Z)).trans hK;have H:dH w3.heap.size (V.setCell ⟨x+1+1,0,none⟩ (.int .i64 0)) ((V.setCell ⟨x+1+1,0,none⟩ (.int .i64 0)).putObj D (.deferred none)):=dH.of_grown (grownBy_putObj' _ D (.deferred none)) (λq e=>by cases e;exact⟨hD,_,F,rfl⟩);have R:=H.blk Q;have S:Below w.heap.size w ((V.setCell ⟨x+1+1,0,none⟩ (.int .i64 0)).putObj D (.deferred none)):=((P.set (p:=⟨x+1+1,0,none⟩) (.inr (by have:=HX.out;show w.heap.size<=x+1+1;omega)) (.int .i64 0)).trans H (λk J=>.inr (ax z.out.size J.1))).below jn (λ_ h=>h.elim);have g0:=R.cell 0;have HK:=jq F;have h4:=jq S;clear c P Q hK F hS H R S Z;dsimp only
  gi_wp2
  go_wp2_with fail
  refine⟨by simp,.inl ⟨_,_,rfl,run_takeDeferred HK.out,?_⟩⟩;refine⟨.int .i64 0,by simp[results,Tryz.f100,go_sem,g0],rfl,h4.out⟩
 case stop=>exact λD O pre V hD h _ _=>h.elim
end nP
end Go.Proofs.YtndkohocgfmamaaGreatDoor
