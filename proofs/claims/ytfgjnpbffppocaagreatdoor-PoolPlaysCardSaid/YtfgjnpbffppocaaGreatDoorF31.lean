/- Part. -/
import Derived.Test.YtfgjnpbffppocaaGreatDoorF0
import Derived.Test.YtfgjnpbffppocaaGreatDoorF0H
import Derived.Test.YtfgjnpbffppocaaGreatDoorF0Q
import Derived.Test.YtfgjnpbffppocaaGreatDoorF19
import Derived.Test.YtfgjnpbffppocaaGreatDoorF29
import Derived.Test.YtfgjnpbffppocaaGreatDoorF30
import Derived.RangeFuncBox
import Derived.Shelf.Abstract
set_option maxHeartbeats 4000000
set_option maxRecDepth 100000
namespace Go.Proofs.YtfgjnpbffppocaaGreatDoor
namespace Mani
open Go.RowKit Go.Deep Mem Crc Go.Proofs.YtfgjnpbffppocaaGreatDoor.Dk Sees Chunk
theorem own_low {w:World} {b b':Nat} {e:TypeId} {size:Nat} {v:Value} {n:Nat} {xs:List Value} (h:w.ownsRow b e size v n xs) (hb:b'<=b):w.ownsRow b' e size v n xs:=by
 refine⟨h.1,?_⟩;rcases h.2 with h0|⟨g,cap,cur,rfl,hg,r⟩
 ·exact .inl h0
 ·exact .inr ⟨g,cap,cur,rfl,Nat.le_trans hb hg,r⟩
def IsC (w:World) (k:Nat):Prop:=∃(cs:Array Value) (t:TypeId) (fr:Nat×Nat),w.heap[k]? =some (.cells cs t fr)
theorem Blk.isC {w:World} {k:Nat} {t:TypeId} {cs:Array Value} (h:Blk w k t cs):IsC w k:=⟨_,_,_,h⟩
theorem own_cells {w:World} {base:Nat} {e:TypeId} {size:Nat} {v:Value} {n:Nat} {xs:List Value} (h:w.ownsRow base e size v n xs) {k:Nat} (hk:v.ownBlock=some k):∃cs fr,w.heap[k]? =some (.cells cs e fr):=by
 rcases h.2 with⟨rfl,_⟩|⟨g,cap,cur,rfl,_,hb,_⟩
 ·cases hk
 ·have e1:g=k:=by simpa[Value.ownBlock]using hk
  subst e1;exact⟨_,_,hb⟩
theorem own_ne_own {w:World} {b1 b2:Nat} {e1 e2:TypeId} {s1 s2 n1 n2:Nat} {v1 v2:Value} {xs ys:List Value} (h:w.ownsRow b1 e1 s1 v1 n1 xs) (k:w.ownsRow b2 e2 s2 v2 n2 ys) (hne:e1≠e2) {q:Nat} (hq:v1.ownBlock=some q):v2.ownBlock≠some q:=λhq2=>by
 obtain⟨_,_,h1⟩:=own_cells h hq;obtain⟨_,_,h2⟩:=own_cells k hq2;rw[h1]at h2;injection h2 with h2;injection h2 with _ h2;exact hne h2
theorem Dk.isC {w:World} {d g:Nat} {wv:Value} {m:DM} (h:Dk w d g wv m) {k:Nat} (hk:Has d g wv k):IsC w k:=by
 rcases hk with rfl|rfl|e
 ·exact Blk.isC h.disk
 ·exact Blk.isC h.row
 ·obtain⟨_,_,h1⟩:=own_cells h.wt e;exact⟨_,_,_,h1⟩
theorem Dk.not {w:World} {d g:Nat} {wv:Value} {m:DM} (h:Dk w d g wv m) {k:Nat} {t:TypeId} {cs:Array Value} (hb:Blk w k t cs) (h1:97≠t) (h2:192≠t) (h3:194≠t):¬Has d g wv k:=by
 rintro(rfl|rfl|e)
 ·exact h.disk.ne hb h1 rfl
 ·exact h.row.ne hb h2 rfl
 ·exact own_ne_blk h.wt hb h3 e
abbrev Far (B:Nat) (X Y:World):Prop:=Upon (λk=>B<=k/\¬IsC X k) X Y
theorem Far.blk {B:Nat} {X Y:World} (h:Far B X Y) {k:Nat} {t:TypeId} {cs:Array Value} (hb:Blk X k t cs):Blk Y k t cs:=Blk.upon hb h (λhp=>hp.2 (Blk.isC hb))
theorem Far.of_grown {B:Nat} {X Y:World} {row:Option Nat} (hg:X.grownBy Y row) (hr:∀r,row=some r->B<=r/\∃o:Obj,X.heap[r]? =some o/\o.isCells=false):Far B X Y:=
 Upon.of_grown hg (λq e=>.inl ⟨(hr q e).1,fun⟨cs,t,fr,h⟩=>by
  obtain⟨o,ho,hc⟩:=(hr q e).2;rw[h]at ho;cases ho;cases hc⟩)
theorem Far.mine {B:Nat} {X Y:World} (h:MineD X Y):Far B X Y:=by
 obtain⟨q,rfl⟩:=h;exact(Upon.refl _ _).drewN q
structure MW (w:World) (d g:Nat) (wv:Value) (b0:Nat) (man:Array Value) (g1 c1:Nat) (mb:List UInt8) (r:Int) (m:DM) (wv':Value) (W:World):Prop where
 dk:Dk W d g wv' m
 up:Upon (Has d g wv) w W
 own:∀k,wv'.ownBlock=some k->wv.ownBlock=some k\/w.heap.size<=k
 bd:Blk W b0 30 #[.pointer (some ⟨d,0,none⟩)]
 bm:Blk W (b0+1) 101 man
 br:Blk W (b0+1+1) 35 #[.int .i64 r]
 row:OwnB W b0 (.slice (some ⟨g1,0,none⟩) 2048 c1) mb
section
variable {w W:World} {d g b0 g1 c1:Nat} {wv wv':Value} {man:Array Value} {mb:List UInt8} {r:Int} {m:DM}
theorem MW.far {B:Nat} {Y:World} (hB:w.heap.size<=B) (h:MW w d g wv b0 man g1 c1 mb r m wv' W) (hf:Far B W Y):MW w d g wv b0 man g1 c1 mb r m wv' Y:=
 ⟨h.dk.upon hf (λk hk hh=>hk.2 (Dk.isC h.dk hh)),h.up.trans hf (λk hk=>.inr (Nat.le_trans hB hk.1)),h.own,hf.blk h.bd,hf.blk h.bm,hf.blk h.br,
  own_upon h.row hf (λq hq hp=>by
   obtain⟨_,_,h1⟩:=own_cells h.row hq;exact hp.2 ⟨_,_,_,h1⟩)⟩
theorem MW.step {Y:World} {m2:DM} {wv2:Value} (h:MW w d g wv b0 man g1 c1 mb r m wv' W) (hu:Upon (Has d g wv') W Y) (hd:Dk Y d g wv2 m2) (ho:∀k,wv2.ownBlock=some k->wv'.ownBlock=some k\/W.heap.size<=k):MW w d g wv b0 man g1 c1 mb r m2 wv2 Y:=
 ⟨hd,h.up.trans hu (λk hk=>by
   rcases hk with rfl|rfl|e
   ·exact .inl (.inl rfl)
   ·exact .inl (.inr (.inl rfl))
   ·exact(h.own k e).elim (λe=>.inl (.inr (.inr e))) .inr),
  λk hk=>(ho k hk).elim (h.own k) (λhk=>.inr (Nat.le_trans h.up.size hk)),
  Blk.upon h.bd hu (Dk.not h.dk h.bd (by decide) (by decide) (by decide)),Blk.upon h.bm hu (Dk.not h.dk h.bm (by decide) (by decide) (by decide)),Blk.upon h.br hu (Dk.not h.dk h.br (by decide) (by decide) (by decide)),
  own_upon h.row hu (λq hq hp=>by
   rcases hp with rfl|rfl|e
   ·exact own_ne_blk h.row h.dk.disk (by decide) hq
   ·exact own_ne_blk h.row h.dk.row (by decide) hq
   ·exact own_ne_own h.row h.dk.wt (by decide) hq e)⟩
theorem MW.box {ab:Nat} {cs:Array Value} (h:MW w d g wv b0 man g1 c1 mb r m wv' W) (hb:Blk W ab 3 cs) (hw:w.heap.size<=ab) (u:Value):MW w d g wv b0 man g1 c1 mb r m wv' (W.setCell ⟨ab,0,none⟩ u):=
 ⟨h.dk.upon ((Upon.refl (λk=>k=ab) W).set (.inl rfl) u) (λk hk hh=>by subst hk;exact Dk.not h.dk hb (by decide) (by decide) (by decide) hh),h.up.set (.inr hw) u,h.own,
  h.bd.far (h.bd.ne hb (by decide)) u,h.bm.far (h.bm.ne hb (by decide)) u,h.br.far (h.br.ne hb (by decide)) u,
  own_upon h.row ((Upon.refl (λk=>k=ab) W).set (.inl rfl) u) (λq hq hp=>by subst hp;exact own_ne_blk h.row hb (by decide) hq)⟩
theorem MW.say (h:MW w d g wv b0 man g1 c1 mb r m wv' W) (hw:w.heap.size<=b0) (z:Int):MW w d g wv b0 man g1 c1 mb z m wv' (W.setCell ⟨b0+1+1,0,none⟩ (.int .i64 z)):=
 ⟨h.dk.upon ((Upon.refl (λk=>k=b0+1+1) W).set (.inl rfl) _) (λk hk hh=>by subst hk;exact Dk.not h.dk h.br (by decide) (by decide) (by decide) hh),h.up.set (.inr (by show w.heap.size<=b0+1+1;omega)) _,h.own,
  h.bd.far (by show b0≠b0+1+1;omega) _,h.bm.far (by show b0+1≠b0+1+1;omega) _,by have:=h.br.set 0 (.int .i64 z);simpa using this,
  own_upon h.row ((Upon.refl (λk=>k=b0+1+1) W).set (.inl rfl) _) (λq hq hp=>by subst hp;exact own_ne_blk h.row h.br (by decide) hq)⟩
end
theorem write_res (m:DM) (i:Nat) (b:List UInt8): (m.write i b).2=0\/(m.write i b).2=6:=by
 unfold DM.write
 split
 ·exact .inr rfl
 ·exact .inl rfl
theorem sync_res (m:DM):m.sync.2=0\/m.sync.2=6:=by
 unfold DM.sync
 split
 ·exact .inr rfl
 ·exact .inl rfl
theorem sync_ok {m:DM} (h:m.sync.2=0):m.sync.1.bl.length=m.bl.length/\m.sync.1.off=m.off/\m.sync.1.wt= []:=by
 unfold DM.sync at h⊢
 split at h
 ·cases h
 ·rename_i h0
  rw[if_neg h0];refine⟨puts_length _ _,?_,rfl⟩;show m.deed.1.off=m.off;unfold DM.deed;rw[if_neg h0]
  split <;> rfl
theorem slotW_len (at_:Nat) (b:List UInt8): (slotW at_ b).length=16:=by simp[slotW]
theorem slotW_take (at_:Nat) (b:List UInt8) {k:Nat} (hk:k<16): (slotW at_ b).take (k+1)=(slotW at_ b).take k++ [(at_+k,(b.drop (k*128)).take 128)]:=by
 rw[List.take_add_one]
 congr 1
 simp[slotW,hk]
def WI (w:World) (d g:Nat) (wv:Value) (b0:Nat) (man:Array Value) (g1 c1:Nat) (mb:List UInt8) (m:DM) (at_ ab:Nat) (k:Nat) (W:World):Prop:=
 ∃wv',MW w d g wv b0 man g1 c1 mb 0 (m.writes ((slotW at_ mb).take k)).1 wv' W/\(m.writes ((slotW at_ mb).take k)).2=0/\Blk W ab 3 #[.int .i64 ((at_+k:Nat):Int)]/\Blk W (ab+1) 27 #[.slice (some ⟨g1,0,none⟩) 2048 c1]/\Blk W (ab+1+1) 3 #[.int .i64 (128:Nat)]
def WX (w:World) (d g:Nat) (wv:Value) (b0:Nat) (man:Array Value) (g1 c1:Nat) (mb:List UInt8) (m:DM) (at_:Nat) (W:World):Prop:=
 ∃wv',MW w d g wv b0 man g1 c1 mb 6 (m.writes (slotW at_ mb)).1 wv' W/\(m.writes (slotW at_ mb)).2=6
section
variable {w W:World} {d g b0 g1 c1 at_ ab k:Nat} {wv:Value} {man:Array Value} {mb:List UInt8} {m:DM}
theorem WI.far {B:Nat} {Y:World} (hB:w.heap.size<=B) (h:WI w d g wv b0 man g1 c1 mb m at_ ab k W) (hf:Far B W Y):WI w d g wv b0 man g1 c1 mb m at_ ab k Y:=by
 obtain⟨wv',h1,h2,h3,h4,h5⟩:=h;exact⟨wv',h1.far hB hf,h2,hf.blk h3,hf.blk h4,hf.blk h5⟩
theorem WX.far {B:Nat} {Y:World} (hB:w.heap.size<=B) (h:WX w d g wv b0 man g1 c1 mb m at_ W) (hf:Far B W Y):WX w d g wv b0 man g1 c1 mb m at_ Y:=by
 obtain⟨wv',h1,h2⟩:=h;exact⟨wv',h1.far hB hf,h2⟩
theorem keeps_of {B:Nat} {Y Z:World} {wv':Value} {m':DM} (hd:Dk W d g wv' m') (hu:Upon (Has d g wv') W Y) {q:Nat} {t:TypeId} {cs:Array Value} (hq:Blk W q t cs) (hz:Y.grownBy Z (some q)):KeepsFrom B W Z:=
 ⟨Nat.le_trans hu.size hz.size,λk o _ ho hc=>by
  have hkl:=(Array.getElem?_eq_some_iff.1 ho).1
  have e1:Y.heap[k]? =some o:=(hu.block k hkl (λhk=>by
   obtain⟨_,_,_,h1⟩:=Dk.isC hd hk;rw[h1]at ho;cases ho;cases hc)).trans ho
  refine(hz.block k (Nat.lt_of_lt_of_le hkl hu.size) (λe=>?_)).trans e1;cases e;unfold Blk at hq;rw[hq]at ho;cases ho;cases hc⟩
theorem WI.done {B:Nat} {Y:World} {wv' wv2:Value} (hk:k<16) (hw:w.heap.size<=ab) (h1:MW w d g wv b0 man g1 c1 mb 0 (m.writes ((slotW at_ mb).take k)).1 wv' W) (h2: (m.writes ((slotW at_ mb).take k)).2=0) (h3:Blk W ab 3 #[.int .i64 ((at_+k:Nat):Int)]) (h4:Blk W (ab+1) 27 #[.slice (some ⟨g1,0,none⟩) 2048 c1]) (h5:Blk W (ab+1+1) 3 #[.int .i64 (128:Nat)])
  (hu:Upon (Has d g wv') W Y) (hd:Dk Y d g wv2 (((m.writes ((slotW at_ mb).take k)).1).write (at_+k) ((mb.drop (k*128)).take 128)).1) (ho:∀k,wv2.ownBlock=some k->wv'.ownBlock=some k\/W.heap.size<=k) (hz: (((m.writes ((slotW at_ mb).take k)).1).write (at_+k) ((mb.drop (k*128)).take 128)).2=0):
  KeepsFrom B W (Y.setCell ⟨ab,0,none⟩ (.int .i64 ((at_+(k+1):Nat):Int)))/\KeepB (ab+1) (ab+1+1) W (Y.setCell ⟨ab,0,none⟩ (.int .i64 ((at_+(k+1):Nat):Int)))/\WI w d g wv b0 man g1 c1 mb m at_ ab (k+1) (Y.setCell ⟨ab,0,none⟩ (.int .i64 ((at_+(k+1):Nat):Int))):=by
 have q3:=Blk.upon h3 hu (Dk.not h1.dk h3 (by decide) (by decide) (by decide));have q4:=Blk.upon h4 hu (Dk.not h1.dk h4 (by decide) (by decide) (by decide));have q5:=Blk.upon h5 hu (Dk.not h1.dk h5 (by decide) (by decide) (by decide));have r4:=q4.far (p:=⟨ab,0,none⟩) (by show ab+1≠ab;omega) (.int .i64 ((at_+(k+1):Nat):Int));have r5:=q5.far (p:=⟨ab,0,none⟩) (by show ab+1+1≠ab;omega) (.int .i64 ((at_+(k+1):Nat):Int));refine⟨keeps_of h1.dk hu h3 (grownBy_setCell' Y ab _),⟨?_,r4.trans h4.symm,r5.trans h5.symm⟩,wv2,?_,?_,?_,r4,r5⟩
 ·exact Nat.le_trans hu.size (grownBy_setCell' Y ab _).size
 ·rw[slotW_take _ _ hk,writes_snoc _ _ _ h2];exact(h1.step hu hd ho).box q3 hw _
 ·rw[slotW_take _ _ hk,writes_snoc _ _ _ h2];exact hz
 ·have:=q3.set 0 (.int .i64 ((at_+(k+1):Nat):Int))
  simpa using this
theorem WI.fail {B:Nat} {Y:World} {wv' wv2:Value} (hk:k<16) (hw:w.heap.size<=b0) (h1:MW w d g wv b0 man g1 c1 mb 0 (m.writes ((slotW at_ mb).take k)).1 wv' W) (h2: (m.writes ((slotW at_ mb).take k)).2=0)
  (hu:Upon (Has d g wv') W Y) (hd:Dk Y d g wv2 (((m.writes ((slotW at_ mb).take k)).1).write (at_+k) ((mb.drop (k*128)).take 128)).1) (ho:∀k,wv2.ownBlock=some k->wv'.ownBlock=some k\/W.heap.size<=k) (hz: (((m.writes ((slotW at_ mb).take k)).1).write (at_+k) ((mb.drop (k*128)).take 128)).2=6):
  KeepsFrom B W (Y.setCell ⟨b0+1+1,0,none⟩ (.int .i64 6))/\WX w d g wv b0 man g1 c1 mb m at_ (Y.setCell ⟨b0+1+1,0,none⟩ (.int .i64 6)):=by
 have hs:m.writes (slotW at_ mb)=((m.writes ((slotW at_ mb).take k)).1).write (at_+k) ((mb.drop (k*128)).take 128):=by
  have e1:m.writes ((slotW at_ mb).take (k+1))=((m.writes ((slotW at_ mb).take k)).1).write (at_+k) ((mb.drop (k*128)).take 128):=by rw[slotW_take _ _ hk,writes_snoc _ _ _ h2]
  have e2:=writes_stop (m:=m) (l:=(slotW at_ mb).take (k+1)) (r:=(slotW at_ mb).drop (k+1)) (by rw[e1,hz];decide);rw[List.take_append_drop]at e2;exact e2.trans e1
 refine⟨keeps_of h1.dk hu h1.br (grownBy_setCell' Y (b0+1+1) _),wv2,?_,?_⟩
 ·rw[hs];exact(h1.step hu hd ho).say hw 6
 ·rw[hs];exact hz
theorem piece_at (hL:OwnB W b0 (.slice (some ⟨g1,0,none⟩) 2048 c1) mb) (q:Nat):Lies W (some ⟨g1,q,none⟩) (((mb.drop q).take 128).map bv):=by
 obtain⟨a,c,e,_,hl,_,_⟩:=own_shape hL;injection e with e1 e2 e3;subst e1;have:=(hl.drop q).take 128;rw[Nat.zero_add]at this
 rwa [List.map_take,List.map_drop]
theorem piece_eq (hk:k<16):piece g1 0 128 2048 k=(some ⟨g1,k*128,none⟩,128,128):=by
 unfold piece;rw[Nat.zero_add,show min 128 (2048-k*128)=128 by omega]
theorem WI.start {wv':Value} (h:MW w d g wv b0 man g1 c1 mb 0 m wv' W) (h3:Blk W ab 3 #[.int .i64 ((at_:Nat):Int)]) (h4:Blk W (ab+1) 27 #[.slice (some ⟨g1,0,none⟩) 2048 c1]) (h5:Blk W (ab+1+1) 3 #[.int .i64 (128:Nat)]):WI w d g wv b0 man g1 c1 mb m at_ ab 0 W:=⟨wv',h,rfl,h3,h4,h5⟩
theorem MW.ret {B D:Nat} {r:Int} {m':DM} {wv':Value} (hB:w.heap.size<=B) (hD:B<=D) (h:MW w d g wv b0 man g1 c1 mb r m' wv' W) (hK:W.heap[D]? =some (.deferred (some []))):
  (W.putObj D (.deferred none)).cell? ⟨b0+1+1,0,none⟩=some (.int .i64 r)/\MW w d g wv b0 man g1 c1 mb r m' wv' (W.putObj D (.deferred none)):=by
 have h1:=h.far hB (Far.of_grown (B:=B) (grownBy_putObj' W D (.deferred none)) (λq e=>by cases e;exact⟨hD,_,hK,rfl⟩));exact⟨h1.br.cell 0,h1⟩
theorem WI.whole (h:WI w d g wv b0 man g1 c1 mb m at_ ab 16 W):∃wv',MW w d g wv b0 man g1 c1 mb 0 (m.writes (slotW at_ mb)).1 wv' W/\(m.writes (slotW at_ mb)).2=0:=by
 obtain⟨wv',h1,h2,_⟩:=h;rw[jW (by rw[slotW_len];exact Nat.le_refl _)]at h1 h2;exact⟨wv',h1,h2⟩
end
theorem low_grown {B D:Nat} {X Y:World} {row:Option Nat} {ob:Obj} (hD:D<B) (h:X.heap[D]? =some ob) (hg:X.grownBy Y row) (hr:∀r,row=some r->B<=r/\∃o:Obj,X.heap[r]? =some o/\o.isCells=false):Y.heap[D]? =some ob:=
 (hg.block D (Array.getElem?_eq_some_iff.1 h).1 (λe=>by have:=(hr D e.symm).1;omega)).trans h
theorem low_mine {D:Nat} {X Y:World} {ob:Obj} (h:X.heap[D]? =some ob) (hm:MineD X Y):Y.heap[D]? =some ob:=by
 obtain⟨q,rfl⟩:=hm;exact h
theorem keeps_up {B:Nat} {X Y:World} (h:KeepsFrom 0 X Y):KeepsFrom B X Y:=⟨h.size,λk o _=>h.same k o (Nat.zero_le _)⟩
theorem mark_kept {D d g:Nat} {wv:Value} {m:DM} {X Y:World} {ds:Option (List Deferred)} (h:Dk X d g wv m) (hu:Upon (Has d g wv) X Y) (hK:X.heap[D]? =some (.deferred ds)):Y.heap[D]? =some (.deferred ds):=
 (hu.block D (Array.getElem?_eq_some_iff.1 hK).1 (λhh=>by
  obtain⟨_,_,_,h1⟩:=Dk.isC h hh;rw[hK]at h1;cases h1)).trans hK
theorem slot_stop {m:DM} {at_:Nat} {b:List UInt8} (h: (m.writes (slotW at_ b)).2=6):m.slot at_ b=m.writes (slotW at_ b):=by
 unfold DM.slot;rw[if_neg (by rw[h];decide)]
theorem slot_done {m:DM} {at_:Nat} {b:List UInt8} (h: (m.writes (slotW at_ b)).2=0):m.slot at_ b=(m.writes (slotW at_ b)).1.sync:=by
 unfold DM.slot;rw[if_pos h]
theorem mani_stop {m:DM} {ver:Nat} {b:List UInt8} (h: (m.slot (ver%2*16) b).2=6):m.mani ver b=m.slot (ver%2*16) b:=by
 unfold DM.mani;rw[if_neg (by rw[h];decide)]
theorem mani_on {m:DM} {ver:Nat} {b:List UInt8} (h: (m.slot (ver%2*16) b).2=0):m.mani ver b=(m.slot (ver%2*16) b).1.slot ((ver+1)%2*16) b:=by
 unfold DM.mani;rw[if_pos h]
end Mani
namespace Mani
open Go.RowKit Go.Deep Mem Crc Varint Go.Proofs.YtfgjnpbffppocaaGreatDoor.Dk Sees Chunk
attribute [local go_sem] Oper.semAt_some
abbrev Box1 (w:World) (b:Nat) (t:TypeId) (v:Value):Prop:=Blk w b t #[v]
theorem write_any {d g:Nat} {wv:Value} {m:DM} (ver next:Nat) (a:Option Addr) (c:Nat) (l:List FR) (w:World) (hd:Dk w d g wv m) (hoff:m.off=false) (h32:33<=m.bl.length) (hwt:m.wt.length<=900000) (h:FilesIn w a l) (hv:ver<18446744073709551616) (hn:next<4294967296) (hf:∀x∈l,x.f.fits) (hmay:mayB ver next (l.map FR.f)=true):
  Calls Tryz.prog 49 #[.pointer (some ⟨d,0,none⟩),.agg #[.int .u64 (ver:Int),.int .u32 (next:Int),.slice a l.length c]] w λe w'=>e=.returned (.int .i64 (m.mani ver (manL ver next (l.map FR.f))).2)/\∃wv',Dk w' d g wv' (m.mani ver (manL ver next (l.map FR.f))).1/\Upon (Has d g wv) w w'/\∀k,wv'.ownBlock=some k->wv.ownBlock=some k\/w.heap.size<=k:=by
 obtain⟨n,hnl⟩:=jl l.length;obtain⟨b0,hb0⟩:=jl w.heap.size;obtain⟨W,hW⟩:=jl (((w.alloc (.cells #[.pointer (some ⟨d,0,none⟩)] 30)).alloc (.cells #[.int .u64 (ver:Int),.int .u32 (next:Int),.slice a n c] 101)).alloc (.cells #[.int .i64 0] 35));have hBW:Below w.heap.size w W:=by rw[hW];exact(((Below.refl _ w).alloc jn _).alloc (by simp) _).alloc (by simp;omega) _
 have hbd:Box1 W b0 30 (.pointer (some ⟨d,0,none⟩)):=by rw[hW,hb0];exact((Blk.new w _ _).alloc _).alloc _
 have hbm:Blk W (b0+1) 101 #[.int .u64 (ver:Int),.int .u32 (next:Int),.slice a n c]:=by
  have:=Blk.new (w.alloc (.cells #[.pointer (some ⟨d,0,none⟩)] 30)) 101 #[.int .u64 (ver:Int),.int .u32 (next:Int),.slice a n c];rw[World.size_alloc]at this;rw[hW,hb0];exact this.alloc _
 have hbr:Box1 W (b0+2) 35 (.int .i64 0):=by
  have:=Blk.new ((w.alloc (.cells #[.pointer (some ⟨d,0,none⟩)] 30)).alloc (.cells #[.int .u64 (ver:Int),.int .u32 (next:Int),.slice a n c] 101)) 35 #[.int .i64 0];rw[World.size_alloc,World.size_alloc]at this;rw[hW,hb0];exact this
 have hmp:=mput_any ver next a c l W (h.later hBW) hv hn hf hmay;have hml:=manL_length hmay;obtain⟨mb,hmb⟩:=jl (manL ver next (l.map FR.f));rw[<-hnl]at hmp⊢;rw[<-hmb]at hmp hml⊢;have HMP:=jq hmp;have HML:=jq hml;have HBW:=jq hBW;have HBD:=jq hbd;have HBM:=jq hbm;have HBR:=jq hbr;have HD:=jq hd;have x0:W.cell? ⟨b0+1,0,none⟩=some (.int .u64 (ver:Int)):=hbm.cell 0;have x1:W.cell? ⟨b0+1,1,none⟩=some (.int .u32 (next:Int)):=hbm.cell 1;have x2:W.cell? ⟨b0+1,2,none⟩=some (.slice a n c):=hbm.cell 2;have HB0:=jq hb0;clear hmp hml hBW hbd hbm hbr hd h hf hmay hmb hnl;refine(callsIn_wide (n:=5)).1 ?_;refine callsIn_of_wp_marks Tryz.func49 rfl trivial ?_ rfl;simp only[Tryz.ntmps49,List.size_toArray,List.length_cons,List.length_nil,Nat.reduceAdd,Nat.reduceSub,Array.replicate_succ,Array.replicate_zero,List.push_toArray,List.append_toArray,List.nil_append,List.cons_append];refine wpIn_wide.2 ?_
 go_wp2_with fail
 rw[<-hW,<-hb0];clear hW hb0
 go_wp2_with fail
 refine HMP.out.mono ?_;rintro e w1 ⟨v1,rfl,hO1,hB1⟩;obtain⟨g1,c1,e1,hcap,_,_⟩:=Go.Proofs.YtfgjnpbffppocaaGreatDoor.Frame.own_some hO1 (by rw[HML.out];decide);rw[HML.out]at e1;subst e1;obtain⟨a1,c1',e1,z1,hL1,z2,z3⟩:=own_shape hO1;clear z1 z2 z3;rw[HML.out]at e1;cases e1;clear x0 x1 x2;have hbd1:=HBD.out.below hB1 HBD.out.lt;have hbm1:=HBM.out.below hB1 HBM.out.lt;have hbr1:=HBR.out.below hB1 HBR.out.lt;have HD1:=jq (HD.out.later (HBW.out.trans (hB1.mono HBW.out.size)));have y0:w1.cell? ⟨b0+1,0,none⟩=some (.int .u64 (ver:Int)):=hbm1.cell 0;have HBD1:=jq hbd1;have HBM1:=jq hbm1;have HBR1:=jq hbr1;have HO1:=jq (own_low hO1 (show b0<=W.heap.size from by have:=HBR.out.lt;omega));have HBB1:=jq (HBW.out.trans (hB1.mono HBW.out.size));rw[HML.out]at hcap;have HC1:Hid (2048<=c1):=jq hcap;clear hbd1 hbm1 hbr1 hL1 hB1 hO1 hcap HBD HBM HBR HD
 go_wp2_with fail
 refine wp_loop_rounds 3 ?_;rw[rounds_succ]
 go_wp2_with fail
 obtain⟨at0,hat0⟩:∃at0:Nat,at0=ver%2*16:=⟨_,rfl⟩;have hatI: (ver:Int)%2*16=((at0:Nat):Int):=by omega
 have hat16:at0<=16:=by omega
 obtain⟨ab,hab⟩:=jl w1.heap.size;obtain⟨w2,hw2⟩:=jl (w1.alloc (.cells #[.int .i64 ((ver:Int)%2*16)] 3));rw[<-hab,<-hw2];refine(chunk_any (some ⟨g1,0,none⟩) 2048 c1 128 (by decide) w2).mono ?_;rintro e w3 ⟨rfl,hw3⟩;have hBs:w2.heap.size=ab+1:=by rw[hw2,World.size_alloc,hab]
 rw[hBs];have hba2:Blk w2 ab 3 #[.int .i64 ((at0:Nat):Int)]:=by rw[hw2,hab,<-hatI];exact Blk.new _ _ _
 have hba:Blk w3 ab 3 #[.int .i64 ((at0:Nat):Int)]:=by rw[hw3];exact(hba2.alloc _).alloc _
 have hbs:Blk w3 (ab+1) 27 #[.slice (some ⟨g1,0,none⟩) 2048 c1]:=by rw[hw3,<-hBs];exact(Blk.new _ _ _).alloc _
 have hbn:Blk w3 (ab+1+1) 3 #[.int .i64 (128:Nat)]:=by
  have:=Blk.new (w2.alloc (.cells #[.slice (some ⟨g1,0,none⟩) 2048 c1] 27)) 3 #[.int .i64 (128:Nat)];rw[World.size_alloc,hBs]at this;rw[hw3];exact this
 have hB3:Below w1.heap.size w1 w3:=by rw[hw3,hw2];exact(((Below.refl _ w1).alloc jn _).alloc (by simp) _).alloc (by simp;omega) _
 have hmw:MW w d g wv b0 #[.int .u64 (ver:Int),.int .u32 (next:Int),.slice a n c] g1 c1 mb 0 m wv w3:=
  ⟨HD1.out.later hB3,Upon.of_below (HBB1.out.trans (hB3.mono HBB1.out.size)),λ_ h=>.inl h,HBD1.out.below hB3 HBD1.out.lt,HBM1.out.below hB3 HBM1.out.lt,HBR1.out.below hB3 HBR1.out.lt,
   own_upon HO1.out (Upon.of_below (P:=λ_=>False) hB3) (λ_ _ h=>h)⟩
 have hwab:w.heap.size<=ab:=by rw[hab];exact HBB1.out.size
 have hw30:w.heap.size<=w3.heap.size:=hmw.up.size;have HWS:=jq (WI.start (at_:=at0) hmw hba hbs hbn);have HCS:=jq (chunk_sees 4 (by omega) (ab+1) (ab+1+1) (w0:=w3) (g:=g1) (off:=0) (wd:=128) (M:=2048) (m:=16) (c:=c1) (by decide) (by decide) HC1.out (by decide) (by decide) (λk hk=>by omega) hbs.lt hbn.lt (hbs.cell 0) (hbn.cell 0));have HS1:=jq hbs.lt;have HS2:=jq hbn.lt;have HWA:=jq hwab;have HW30:=jq hw30;have HWB:Hid (w.heap.size<=b0):=jq (Nat.le_of_eq HB0.out.symm);have HB3:=jq hB3;have HATI:=jq hatI;have HAT0:=jq hat0;have HR30:Hid (b0+1+1<w3.heap.size):=jq hmw.br.lt;clear hatI hw3 hba2 hba hbs hbn hB3 hmw hwab hw30 hBs hw2 hab hat0 HD1 HBD1 HBM1 HBR1 HO1 y0
 go_wp2_with fail
 refine(wpIn_wide (n:=5)).1 ?_
 refine wpIn_range_sees rfl (by omega) (gf:=113) (lb:=#[.pointer (some ⟨ab+1,0,none⟩),.pointer (some ⟨ab+1+1,0,none⟩)]) rfl trivial (enters_of Tryz.func113 (by kernel_rfl) rfl) HCS.out ?mine (λh k=>⟨Nat.le_trans h.1 k.1,k.2.1.trans h.2.1,k.2.2.trans h.2.2⟩) ?kput (λ_ _ _ _ _ _ h _ _ _=>h) (Below.refl _ _) (λ_=>rfl)
  (λpre W=>WI w d g wv b0 #[.int .u64 (ver:Int),.int .u32 (next:Int),.slice a n c] g1 c1 mb m at0 ab pre.length W)
  (λcd _ W=>cd=.ret/\WX w d g wv b0 #[.int .u64 (ver:Int),.int .u32 (next:Int),.slice a n c] g1 c1 mb m at0 W)
  (λs X Y row h hg hr=>h.far HW30.out (Far.of_grown hg hr)) (λcd s X Y row h hg hr=>⟨h.1,h.2.far HW30.out (Far.of_grown hg hr)⟩) (λs X Y h hm=>h.far HW30.out (Far.mine hm)) (λcd s X Y h hm=>⟨h.1,h.2.far HW30.out (Far.mine hm)⟩) HWS.out
  (λy=>{tmps:=#[.pointer (some ⟨d,0,none⟩),.agg #[.int .u64 ver,.int .u32 next,.slice a n c],.pointer (some ⟨b0,0,none⟩),.pointer (some ⟨b0+1,0,none⟩),.pointer (some ⟨b0+1+1,0,none⟩),.slice (some ⟨g1,0,none⟩) 2048 c1,.int .i64 0,.int .u64 0,.pointer (some ⟨ab,0,none⟩),sl y,undef,undef,.tuple #[.slice (some ⟨g1,0,none⟩) 2048 c1,.int .i64 0],.agg #[.int .u64 ver,.int .u32 next,.slice a n c],.tuple #[.slice (some ⟨g1,0,none⟩) 2048 c1,.int .i64 0],.slice (some ⟨g1,0,none⟩) 2048 c1,.int .i64 0,.int .i64 0,.bool false,undef,.int .u64 0,.bool true,.int .u64 0,.pointer (some ⟨b0+1,0,none⟩),.int .u64 ver,.int .u64 0,.int .u64 ver,.int .u64 ((ver:Int)%2),.int .i64 ((ver:Int)%2),.int .i64 ((ver:Int)%2*16),.slice (some ⟨g1,0,none⟩) 2048 c1,.func (.func 113) #[] #[.pointer (some ⟨ab+1,0,none⟩),.pointer (some ⟨ab+1+1,0,none⟩)],sl y,undef,undef,undef,undef,undef,undef,undef,undef,undef,undef,undef,undef,undef,undef,undef],defers:=[]})
  ?assign ?body ?done ?stop
 case mine=>
  rintro X Y ⟨q,rfl⟩;exact⟨Nat.le_refl _,λ_ _ _ ho _=>ho⟩
 case kput=>
  intro W l o o' hl _ _ _;have h1:=HS1.out;have h2:=HS2.out;exact⟨by simp,World.putObj_heap_other (by omega),World.putObj_heap_other (by omega)⟩
 case assign=>
  intro l y W K hK;unfold sl at hK⊢
  gi_wp2
  exact hK
 case body=>
  rintro lv pre y W1 ⟨wv',h1,h2,h3,h4,h5⟩ hlt hy;obtain⟨K0,hK0⟩:=jl pre.length;rw[<-hK0]at h1 h2 h3 hlt hy;have HKL:Hid (∀x:SL,(pre++ [x]).length=K0+1):=jq (λx=>by rw[jL,<-hK0];rfl);rw[piece_eq hlt]at hy;subst hy;have HK0:=jq hK0;obtain⟨J,hJ⟩:=jl (at0+K0);obtain⟨q0,hq0⟩:=jl (K0*128);have hwk:=writes_ok h2;have hmb: ((mb.drop (K0*128)).take 128).length=128:=by rw[jT,List.length_drop,HML.out];omega
  have hwt9: (m.writes ((slotW at0 mb).take K0)).1.wt.length<=1000000:=by
   rw[hwk.2.2,jL,jT];have:=Nat.min_le_left K0 (slotW at0 mb).length
   omega
  have HWO:=jq (write_on (at0+K0) (some ⟨g1,K0*128,none⟩) 128 ((mb.drop (K0*128)).take 128) h1.dk (hwk.2.1.trans hoff) (by rw[hwk.1];omega) hmb (piece_at h1.row (K0*128)) hwt9);have c1':=h1.bd.cell 0;have c2':=h3.cell 0;simp only[jt,ja]at c1' c2';rw[<-hJ]at c2';have H1:=jq h1;have H2:=jq h2;have H3:=jq h3;have H4:=jq h4;have H5:=jq h5;have hJ32:J<32:=by omega
  have HJ:=jq hJ;have HQ:=jq hq0;have HLT:=jq hlt;unfold sl;dsimp only;rw[<-hq0];rw[<-hq0,<-hJ]at HWO;clear h1 h2 h3 h4 h5 hwk hmb hwt9 hJ hq0 hK0 hlt
  gi_wp2
  refine⟨trivial,(CallsIn.inRound lv (callsIn_wide.2 HWO.out)).mono ?_⟩;rintro e W2 ⟨rfl,wv2,hd2,hu2,ho2⟩;have hu3:Upon (Has d g wv') W1 W2:=hu2.mono (λk hk=>hk.elim .inl (λh=>.inr (.inr h)));have q3:=Blk.upon H3.out hu3 (Dk.not H1.out.dk H3.out (by decide) (by decide) (by decide));have q6:=Blk.upon H1.out.br hu3 (Dk.not H1.out.dk H1.out.br (by decide) (by decide) (by decide));have f3:=q3.frozen 0;have f6:=q6.frozen 0;have c3':=q3.cell 0;have c6':=q6.cell 0;simp only[jt,ja]at c3' c6';rw[<-HJ.out]at c3';rw[HJ.out,HQ.out]at hd2;have HU3:=jq hu3;have HD2:=jq hd2;have HO2:=jq ho2;rcases write_res (m.writes ((slotW at0 mb).take K0)).1 J ((mb.drop q0).take 128)with hz|hz
  ·rw[hz];rw[HJ.out,HQ.out]at hz;have HZ:=jq hz;have HE:=jq (WI.done (B:=w3.heap.size) HLT.out HWA.out H1.out H2.out H3.out H4.out H5.out HU3.out HD2.out HO2.out HZ.out);rw[show((at0+(K0+1):Nat):Int)=(J:Int)+1 from by have:=HJ.out;omega]at HE;clear hz c1' c2' hu2 hu3 q3 q6 hd2 ho2
   gi_wp2
   refine⟨HE.out.1,HE.out.2.1,?_⟩;dsimp only;rw[HKL.out];exact HE.out.2.2
  ·rw[hz];rw[HJ.out,HQ.out]at hz;have HZ:=jq hz;have HE:=jq (WI.fail (B:=w3.heap.size) HLT.out HWB.out H1.out H2.out HU3.out HD2.out HO2.out HZ.out);clear hz c1' c2' hu2 hu3 q3 q6 hd2 ho2
   gi_wp2
   exact⟨HE.out.1,rfl,HE.out.2⟩
 case stop=>
  rintro D cd pre W1 hD _ ⟨rfl,wv',h1,h2⟩ hK;have hs:=slot_stop h2;rw[HAT0.out]at hs;have hm:=mani_stop (m:=m) (ver:=ver) (b:=mb) (by rw[hs,<-HAT0.out];exact h2);rw[hs,<-HAT0.out]at hm;have HM:=jq hm;have H2:=jq h2;have HE:=jq (h1.ret HW30.out hD hK);have HK:=jq hK;clear hs hm h1 h2 hK;dsimp only
  gi_wp2
  have g0:=HE.out.1;refine⟨by simp,.inl ⟨_,_,rfl,run_takeDeferred HK.out,?_⟩⟩;refine⟨.int .i64 6,by simp[results,Tryz.f49,go_sem,g0],?_⟩;rw[HM.out,H2.out];exact⟨rfl,wv',HE.out.2.dk,HE.out.2.up,HE.out.2.own⟩
 case done=>
  rintro D xs W1 hD hS hI hK;rw[hS,pieces_len]at hI;obtain⟨wv',h1,h2⟩:=hI.whole;obtain⟨m1,hm1⟩:=jl ((m.writes (slotW at0 mb)).1);have hwk:=writes_ok h2;have hmS:=slot_done h2;rw[<-hm1]at h1 hwk hmS;have hlw:m1.wt.length<=1000000:=by rw[hwk.2.2,jL,slotW_len];omega
  have HSY:=jq (sync_on h1.dk (hwk.2.1.trans hoff) hlw);have c1':=h1.bd.cell 0;simp only[jt,ja]at c1';have H1:=jq h1;have H2:=jq h2;have HK:=jq hK;have HMS:=jq hmS;have HWK:=jq hwk;have HD:=jq hD;clear h1 h2 hK hmS hwk hlw hm1 hI hS hD;dsimp only
  gi_wp2
  go_wp2_with fail
  refine HSY.out.mono ?_;rintro e W2 ⟨rfl,wv2,hd2,hu2,ho2⟩;have hu3:Upon (Has d g wv') W1 W2:=hu2.mono (λk hk=>hk.elim .inl (λh=>.inr (.inl h)));have H3:=jq (H1.out.step hu3 hd2 (λk hk=>.inl (ho2 k hk)))
  have hK2:W2.heap[D]? =some (.deferred (some [])):=(hu3.block D (Array.getElem?_eq_some_iff.1 HK.out).1 (λhh=>by
   obtain⟨_,_,_,h⟩:=Dk.isC H1.out.dk hh;rw[HK.out]at h;cases h)).trans HK.out
  have HK2:=jq hK2;have f6:=H3.out.br.frozen 0;have f5:=H3.out.bd.cell 0;have f4:=H3.out.bm.cell 0;have f3:=H3.out.br.cell 0;simp only[jt,ja]at f3 f4 f5;clear c1' hu2 hu3 hd2 ho2 hK2;rcases sync_res m1 with hz|hz
  ·rw[hz];have hm: (m.slot (ver%2*16) mb).2=0:=by rw[<-HAT0.out,HMS.out];exact hz
   have HM:=jq (mani_on hm);have HZ:=jq hz;clear hz hm
   go_wp2_with fail
   rw[rounds_succ];obtain⟨o,ho⟩:∃o:Nat,o=(ver+1)%2:=⟨_,rfl⟩;have ho2:o<2:=by omega
   have hwr: (IntKind.u64.wrap ((ver:Int)+1)).tmod 2=(o:Int):=by
    rw[Int.tmod_eq_emod_of_nonneg (wrap_u64_nonneg _),IntKind.wrap_u64,ho]
    omega
   have HO:=jq ho;clear ho;obtain⟨m2,hm2⟩:=jl m1.sync.1;have hso:=sync_ok HZ.out;have hoff2:m2.off=false:=by rw[hm2,hso.2.1,HWK.out.2.1,hoff]
   have hbl2:m2.bl.length=m.bl.length:=by rw[hm2,hso.1,HWK.out.1]
   have hwt2:m2.wt.length=0:=by rw[hm2,hso.2.2];rfl
   have hmw2:=H3.out;rw[<-hm2]at hmw2;have HM2:Hid (m.mani ver mb=m2.slot (o*16) mb):=jq (by rw[HM.out,<-HAT0.out,HMS.out,<-hm2,HO.out]);have HMW2:=jq hmw2;have HBL2:=jq hbl2;have HWT2:=jq hwt2;have HOFF2:=jq hoff2;clear hm2 hso hoff2 hbl2 hwt2 hmw2 HM HMS HWK HZ H3 HSY H1 H2
   go_wp2_with fail
   obtain⟨at1,hat1⟩:∃at1:Nat,at1=o*16:=⟨_,rfl⟩;have hatI: (o:Int)*16=((at1:Nat):Int):=by omega
   have hat16:at1<=16:=by omega
   obtain⟨ac,hac⟩:=jl W2.heap.size;obtain⟨V2,hV2⟩:=jl (W2.alloc (.cells #[.int .i64 ((o:Int)*16)] 3));rw[<-hac,<-hV2];refine(chunk_any (some ⟨g1,0,none⟩) 2048 c1 128 (by decide) V2).mono ?_;rintro e V3 ⟨rfl,hV3⟩;have hBs:V2.heap.size=ac+1:=by rw[hV2,World.size_alloc,hac]
   rw[hBs];have hba2:Blk V2 ac 3 #[.int .i64 ((at1:Nat):Int)]:=by rw[hV2,hac,<-hatI];exact Blk.new _ _ _
   have hba:Blk V3 ac 3 #[.int .i64 ((at1:Nat):Int)]:=by rw[hV3];exact(hba2.alloc _).alloc _
   have hbs:Blk V3 (ac+1) 27 #[.slice (some ⟨g1,0,none⟩) 2048 c1]:=by rw[hV3,<-hBs];exact(Blk.new _ _ _).alloc _
   have hbn:Blk V3 (ac+1+1) 3 #[.int .i64 (128:Nat)]:=by
    have:=Blk.new (V2.alloc (.cells #[.slice (some ⟨g1,0,none⟩) 2048 c1] 27)) 3 #[.int .i64 (128:Nat)];rw[World.size_alloc,hBs]at this;rw[hV3];exact this
   have hB3:Below W2.heap.size W2 V3:=by rw[hV3,hV2];exact(((Below.refl _ W2).alloc jn _).alloc (by simp) _).alloc (by simp;omega) _
   have hDW:D<W2.heap.size:=(Array.getElem?_eq_some_iff.1 HK2.out).1;have hmw:MW w d g wv b0 #[.int .u64 (ver:Int),.int .u32 (next:Int),.slice a n c] g1 c1 mb 0 m2 wv2 V3:=HMW2.out.far (B:=W2.heap.size) HMW2.out.up.size (Upon.of_below hB3);have hwac:w.heap.size<=ac:=by rw[hac];exact HMW2.out.up.size
   have hw30:w.heap.size<=V3.heap.size:=hmw.up.size;have HWS2:=jq (WI.start (at_:=at1) hmw hba hbs hbn);have HCS2:=jq (chunk_sees 4 (by omega) (ac+1) (ac+1+1) (w0:=V3) (g:=g1) (off:=0) (wd:=128) (M:=2048) (m:=16) (c:=c1) (by decide) (by decide) HC1.out (by decide) (by decide) (λk hk=>by omega) hbs.lt hbn.lt (hbs.cell 0) (hbn.cell 0));have HT1:=jq hbs.lt;have HT2:=jq hbn.lt;have HWC:=jq hwac;have HW32:=jq hw30;have HATI2:=jq hatI;have HAT1:=jq hat1;have HRV:Hid (b0+1+1<V3.heap.size):=jq hmw.br.lt;have HDV:Hid (D<V3.heap.size):=jq (Nat.lt_of_lt_of_le hDW hB3.size);have HDL:Hid (V3.heap[D]? =some (.deferred (some []))):=jq ((hB3.block D hDW).trans HK2.out);clear hatI hV3 hba2 hba hbs hbn hB3 hmw hwac hw30 hBs hV2 hac hat1 HMW2 hDW f3 f4 f5 f6 HK2
   go_wp2_with fail
   refine(wpIn_wide (n:=5)).1 ?_
   refine wpIn_range_sees rfl (by omega) (gf:=113) (lb:=#[.pointer (some ⟨ac+1,0,none⟩),.pointer (some ⟨ac+1+1,0,none⟩)]) rfl trivial (enters_of Tryz.func113 (by kernel_rfl) rfl) HCS2.out ?mine (λh k=>⟨Nat.le_trans h.1 k.1,k.2.1.trans h.2.1,k.2.2.trans h.2.2⟩) ?kput (λ_ _ _ _ _ _ h _ _ _=>h) (Below.refl _ _) (λ_=>rfl)
    (λpre W=>WI w d g wv b0 #[.int .u64 (ver:Int),.int .u32 (next:Int),.slice a n c] g1 c1 mb m2 at1 ac pre.length W/\W.heap[D]? =some (.deferred (some [])))
    (λcd _ W=>cd=.ret/\WX w d g wv b0 #[.int .u64 (ver:Int),.int .u32 (next:Int),.slice a n c] g1 c1 mb m2 at1 W/\W.heap[D]? =some (.deferred (some [])))
    (λs X Y row h hg hr=>⟨h.1.far HW32.out (Far.of_grown hg hr),low_grown HDV.out h.2 hg hr⟩) (λcd s X Y row h hg hr=>⟨h.1,h.2.1.far HW32.out (Far.of_grown hg hr),low_grown HDV.out h.2.2 hg hr⟩) (λs X Y h hm=>⟨h.1.far HW32.out (Far.mine hm),low_mine h.2 hm⟩) (λcd s X Y h hm=>⟨h.1,h.2.1.far HW32.out (Far.mine hm),low_mine h.2.2 hm⟩) ⟨HWS2.out,HDL.out⟩
    (λy=>{tmps:=#[.pointer (some ⟨d,0,none⟩),.agg #[.int .u64 ver,.int .u32 next,.slice a n c],.pointer (some ⟨b0,0,none⟩),.pointer (some ⟨b0+1,0,none⟩),.pointer (some ⟨b0+1+1,0,none⟩),.slice (some ⟨g1,0,none⟩) 2048 c1,.int .i64 0,.int .u64 1,.pointer (some ⟨ac,0,none⟩),sl y,undef,.int .i64 0,.tuple #[.slice (some ⟨g1,0,none⟩) 2048 c1,.int .i64 0],.agg #[.int .u64 ver,.int .u32 next,.slice a n c],.tuple #[.slice (some ⟨g1,0,none⟩) 2048 c1,.int .i64 0],.slice (some ⟨g1,0,none⟩) 2048 c1,.int .i64 0,.int .i64 0,.bool false,undef,.int .u64 1,.bool true,.int .u64 1,.pointer (some ⟨b0+1,0,none⟩),.int .u64 ver,.int .u64 1,.int .u64 (IntKind.u64.wrap ((ver:Int)+1)),.int .u64 (o:Int),.int .i64 (o:Int),.int .i64 ((o:Int)*16),.slice (some ⟨g1,0,none⟩) 2048 c1,.func (.func 113) #[] #[.pointer (some ⟨ac+1,0,none⟩),.pointer (some ⟨ac+1+1,0,none⟩)],sl y,undef,undef,undef,undef,undef,undef,undef,undef,undef,.pointer (some ⟨d,0,none⟩),.int .i64 0,.int .i64 0,.bool false,undef,.int .u64 1],defers:=[]})
    ?assign ?body ?done ?stop
   case mine=>
    rintro X Y ⟨q,rfl⟩;exact⟨Nat.le_refl _,λ_ _ _ ho _=>ho⟩
   case kput=>
    intro W l o o' hl _ _ _;have h1:=HT1.out;have h2:=HT2.out;exact⟨by simp,World.putObj_heap_other (by omega),World.putObj_heap_other (by omega)⟩
   case assign=>
    intro l y W K hK;unfold sl at hK⊢
    gi_wp2
    exact hK
   case body=>
    rintro lv pre y X1 ⟨⟨wv',h1,h2,h3,h4,h5⟩,hdl⟩ hlt hy;obtain⟨K0,hK0⟩:=jl pre.length;rw[<-hK0]at h1 h2 h3 hlt hy;have HKL:Hid (∀x:SL,(pre++ [x]).length=K0+1):=jq (λx=>by rw[jL,<-hK0];rfl);rw[piece_eq hlt]at hy;subst hy;have HK0:=jq hK0;obtain⟨J,hJ⟩:=jl (at1+K0);obtain⟨q0,hq0⟩:=jl (K0*128);have hwk:=writes_ok h2;have hmb: ((mb.drop (K0*128)).take 128).length=128:=by rw[jT,List.length_drop,HML.out];omega
    have hwt9: (m2.writes ((slotW at1 mb).take K0)).1.wt.length<=1000000:=by
     rw[hwk.2.2,jL,jT];have:=Nat.min_le_left K0 (slotW at1 mb).length;rw[HWT2.out]
     omega
    have HWO:=jq (write_on (at1+K0) (some ⟨g1,K0*128,none⟩) 128 ((mb.drop (K0*128)).take 128) h1.dk (hwk.2.1.trans HOFF2.out) (by rw[hwk.1,HBL2.out];omega) hmb (piece_at h1.row (K0*128)) hwt9);have c1':=h1.bd.cell 0;have c2':=h3.cell 0;simp only[jt,ja]at c1' c2';rw[<-hJ]at c2';have H1:=jq h1;have H2:=jq h2;have H3:=jq h3;have H4:=jq h4;have H5:=jq h5;have HDX:=jq hdl;have hJ32:J<32:=by omega
    have HJ:=jq hJ;have HQ:=jq hq0;have HLT:=jq hlt;unfold sl;dsimp only;rw[<-hq0];rw[<-hq0,<-hJ]at HWO;clear h1 h2 h3 h4 h5 hdl hwk hmb hwt9 hJ hq0 hK0 hlt
    gi_wp2
    refine⟨trivial,(CallsIn.inRound lv (callsIn_wide.2 HWO.out)).mono ?_⟩;rintro e X2 ⟨rfl,wv3,hd2,hu2,ho3⟩;have hu3:Upon (Has d g wv') X1 X2:=hu2.mono (λk hk=>hk.elim .inl (λh=>.inr (.inr h)));have q3:=Blk.upon H3.out hu3 (Dk.not H1.out.dk H3.out (by decide) (by decide) (by decide));have q6:=Blk.upon H1.out.br hu3 (Dk.not H1.out.dk H1.out.br (by decide) (by decide) (by decide));have f3:=q3.frozen 0;have f6:=q6.frozen 0;have c3':=q3.cell 0;have c6':=q6.cell 0;simp only[jt,ja]at c3' c6';rw[<-HJ.out]at c3';rw[HJ.out,HQ.out]at hd2;have HU3:=jq hu3;have HD2:=jq hd2;have HO3:=jq ho3;rcases write_res (m2.writes ((slotW at1 mb).take K0)).1 J ((mb.drop q0).take 128)with hz|hz
    ·rw[hz];rw[HJ.out,HQ.out]at hz;have HZ:=jq hz;have HE:=jq (WI.done (B:=0) HLT.out HWC.out H1.out H2.out H3.out H4.out H5.out HU3.out HD2.out HO3.out HZ.out);rw[show((at1+(K0+1):Nat):Int)=(J:Int)+1 from by have:=HJ.out;omega]at HE;clear hz c1' c2' hu2 hu3 q3 q6 hd2 ho3
     gi_wp2
     refine⟨keeps_up HE.out.1,HE.out.2.1,?_⟩;dsimp only;rw[HKL.out];exact⟨HE.out.2.2,HE.out.1.same D _ (Nat.zero_le _) HDX.out rfl⟩
    ·rw[hz];rw[HJ.out,HQ.out]at hz;have HZ:=jq hz;have HE:=jq (WI.fail (B:=0) HLT.out HWB.out H1.out H2.out HU3.out HD2.out HO3.out HZ.out);clear hz c1' c2' hu2 hu3 q3 q6 hd2 ho3
     gi_wp2
     exact⟨keeps_up HE.out.1,rfl,HE.out.2,HE.out.1.same D _ (Nat.zero_le _) HDX.out rfl⟩
   case stop=>
    rintro E cd pre X1 hE _ ⟨rfl,⟨wv3,h1,h2⟩,hdl⟩ hK;have hs:=slot_stop h2;rw[HAT1.out]at hs;have hm:=HM2.out;rw[hs,<-HAT1.out]at hm;have HM:=jq hm;have H2:=jq h2;have HE:=jq (h1.ret HW32.out hE hK);have HK:=jq hK;have hne:D≠E:=by have:=HDV.out;omega
    have HKD:Hid ((X1.putObj E (.deferred none)).heap[D]? =some (.deferred (some []))):=jq ((World.putObj_heap_other hne).trans hdl);have HE2:=jq (HE.out.2.ret (B:=D) (by have:=HD.out;have:=HW30.out;omega) jn HKD.out);clear hs hm h1 h2 hK hdl hne;dsimp only
    gi_wp2
    have g0:=HE2.out.1;refine⟨by simp,.inl ⟨_,_,rfl,run_takeDeferred HK.out,by simp,.inl ⟨_,_,rfl,run_takeDeferred HKD.out,?_⟩⟩⟩;refine⟨.int .i64 6,by simp[results,Tryz.f49,go_sem,g0],?_⟩;rw[HM.out,H2.out];exact⟨rfl,wv3,HE2.out.2.dk,HE2.out.2.up,HE2.out.2.own⟩
   case done=>
    rintro E xs X1 hE hS ⟨hI,hdl⟩ hK;rw[hS,pieces_len]at hI;obtain⟨wv',h1,h2⟩:=hI.whole;obtain⟨m3,hm3⟩:=jl ((m2.writes (slotW at1 mb)).1);have hwk:=writes_ok h2;have hmS:=slot_done h2;rw[<-hm3]at h1 hwk hmS;have hlw:m3.wt.length<=1000000:=by rw[hwk.2.2,jL,slotW_len,HWT2.out];omega
    have HSY:=jq (sync_on h1.dk (hwk.2.1.trans HOFF2.out) hlw);have c1':=h1.bd.cell 0;simp only[jt,ja]at c1';have H1:=jq h1;have HK:=jq hK;have hm:=HM2.out;rw[<-HAT1.out,hmS]at hm;have HM:=jq hm;have HD2:=jq hE;have HDX:=jq hdl;clear h1 h2 hK hmS hm hwk hlw hm3 hI hS hE hdl;dsimp only
    gi_wp2
    go_wp2_with fail
    refine HSY.out.mono ?_;rintro e X2 ⟨rfl,wv3,hd2,hu2,ho3⟩;have hu3:Upon (Has d g wv') X1 X2:=hu2.mono (λk hk=>hk.elim .inl (λh=>.inr (.inl h)));have H3:=jq (H1.out.step hu3 hd2 (λk hk=>.inl (ho3 k hk)));have HKE:=jq (mark_kept H1.out.dk hu3 HK.out);have HKX:=jq (mark_kept H1.out.dk hu3 HDX.out);have f6:=H3.out.br.frozen 0;have f3:=H3.out.br.cell 0;simp only[jt,ja]at f3;clear c1' hu2 hu3 hd2 ho3;have hne:D≠E:=by have h1:=HDV.out;have h2:=HD2.out;omega
    have hE0:b0+1+1<E:=Nat.lt_of_lt_of_le HRV.out HD2.out;have hD0:b0+1+1<D:=Nat.lt_of_lt_of_le HR30.out HD.out;rcases sync_res m3 with hz|hz
    ·rw[hz];have H4:=jq (H3.out.say HWB.out 0);have HK4:Hid ((X2.setCell ⟨b0+1+1,0,none⟩ (.int .i64 0)).heap[E]? =some (.deferred (some []))):=jq ((Below.heap_setCell X2 ⟨b0+1+1,0,none⟩ (.int .i64 0) E (by show E≠b0+1+1;omega)).trans HKE.out);have HK5:Hid ((X2.setCell ⟨b0+1+1,0,none⟩ (.int .i64 0)).heap[D]? =some (.deferred (some []))):=jq ((Below.heap_setCell X2 ⟨b0+1+1,0,none⟩ (.int .i64 0) D (by show D≠b0+1+1;omega)).trans HKX.out);have HE:=jq (H4.out.ret HW32.out HD2.out HK4.out);have HKD:Hid (((X2.setCell ⟨b0+1+1,0,none⟩ (.int .i64 0)).putObj E (.deferred none)).heap[D]? =some (.deferred (some []))):=jq ((World.putObj_heap_other hne).trans HK5.out);have HE2:=jq (HE.out.2.ret (B:=D) (by have h1:=HD.out;have h2:=HW30.out;omega) jn HKD.out);have HZ:=jq hz;clear hz hne hE0 hD0
     go_wp2_with fail
     rw[rounds_succ]
     go_wp2_with fail
     have g0:=HE2.out.1;refine⟨by simp,.inl ⟨_,_,rfl,run_takeDeferred HK4.out,by simp,.inl ⟨_,_,rfl,run_takeDeferred HKD.out,?_⟩⟩⟩;refine⟨.int .i64 0,by simp[results,Tryz.f49,go_sem,g0],?_⟩;rw[HM.out,HZ.out];exact⟨rfl,wv3,HE2.out.2.dk,HE2.out.2.up,HE2.out.2.own⟩
    ·rw[hz];have H4:=jq (H3.out.say HWB.out 6);have HK4:Hid ((X2.setCell ⟨b0+1+1,0,none⟩ (.int .i64 6)).heap[E]? =some (.deferred (some []))):=jq ((Below.heap_setCell X2 ⟨b0+1+1,0,none⟩ (.int .i64 6) E (by show E≠b0+1+1;omega)).trans HKE.out);have HK5:Hid ((X2.setCell ⟨b0+1+1,0,none⟩ (.int .i64 6)).heap[D]? =some (.deferred (some []))):=jq ((Below.heap_setCell X2 ⟨b0+1+1,0,none⟩ (.int .i64 6) D (by show D≠b0+1+1;omega)).trans HKX.out);have HE:=jq (H4.out.ret HW32.out HD2.out HK4.out);have HKD:Hid (((X2.setCell ⟨b0+1+1,0,none⟩ (.int .i64 6)).putObj E (.deferred none)).heap[D]? =some (.deferred (some []))):=jq ((World.putObj_heap_other hne).trans HK5.out);have HE2:=jq (HE.out.2.ret (B:=D) (by have h1:=HD.out;have h2:=HW30.out;omega) jn HKD.out);have HZ:=jq hz;clear hz hne hE0 hD0
     go_wp2_with fail
     have g0:=HE2.out.1;refine⟨by simp,.inl ⟨_,_,rfl,run_takeDeferred HK4.out,by simp,.inl ⟨_,_,rfl,run_takeDeferred HKD.out,?_⟩⟩⟩;refine⟨.int .i64 6,by simp[results,Tryz.f49,go_sem,g0],?_⟩;rw[HM.out,HZ.out];exact⟨rfl,wv3,HE2.out.2.dk,HE2.out.2.up,HE2.out.2.own⟩
  ·rw[hz];have hm: (m.slot (ver%2*16) mb).2=6:=by rw[<-HAT0.out,HMS.out];exact hz
   have hmm:=mani_stop hm;rw[<-HAT0.out,HMS.out]at hmm;have HM:=jq hmm;have H4:=jq (H3.out.say HWB.out 6)
   have hK4: (W2.setCell ⟨b0+1+1,0,none⟩ (.int .i64 6)).heap[D]? =some (.deferred (some [])):=(Below.heap_setCell W2 ⟨b0+1+1,0,none⟩ (.int .i64 6) D (by
    have h1:=HD.out;have h2:=HR30.out;show D≠b0+1+1
    omega)).trans HK2.out
   have HK4:=jq hK4;have HE:=jq (H4.out.ret HW30.out HD.out hK4);have HZ:=jq hz;clear hz hm hmm hK4
   go_wp2_with fail
   have g0:=HE.out.1;refine⟨by simp,.inl ⟨_,_,rfl,run_takeDeferred HK4.out,?_⟩⟩;refine⟨.int .i64 6,by simp[results,Tryz.f49,go_sem,g0],?_⟩;rw[HM.out,HZ.out];exact⟨rfl,wv2,HE.out.2.dk,HE.out.2.up,HE.out.2.own⟩
end Mani
namespace Pages
open Go.RowKit Go.Deep Go.Shelf Mem Crc Page Dk Sees Chunk Mani
def pagesW (id:Nat) (bl:List Nat) (b:List UInt8):List (Nat×List UInt8):=(List.range bl.length).map λk=>(bl.getD k 0,pageL id k ((b.drop (k*112)).take 112))
theorem pagesW_take (id:Nat) (bl:List Nat) (b:List UInt8) {k:Nat} (hk:k<bl.length): (pagesW id bl b).take (k+1)=(pagesW id bl b).take k++ [(bl.getD k 0,pageL id k ((b.drop (k*112)).take 112))]:=by
 rw[List.take_add_one]
 congr 1
 simp[pagesW,hk]
theorem pages_on {m:DM} {id:Nat} {bl:List Nat} {b:List UInt8} {k:Nat} (hk:k<bl.length) (h2: (m.writes ((pagesW id bl b).take k)).2=0):m.writes ((pagesW id bl b).take (k+1))=(m.writes ((pagesW id bl b).take k)).1.write (bl.getD k 0) (pageL id k ((b.drop (k*112)).take 112)):=by
 rw[pagesW_take _ _ _ hk,writes_snoc _ _ _ h2]
theorem pages_stop {m:DM} {id:Nat} {bl:List Nat} {b:List UInt8} {k:Nat} (hk:k<bl.length) (h2: (m.writes ((pagesW id bl b).take k)).2=0) (hz: ((m.writes ((pagesW id bl b).take k)).1.write (bl.getD k 0) (pageL id k ((b.drop (k*112)).take 112))).2=6):m.writes (pagesW id bl b)=(m.writes ((pagesW id bl b).take k)).1.write (bl.getD k 0) (pageL id k ((b.drop (k*112)).take 112)):=by
 have e1:=pages_on hk h2;have e2:=writes_stop (m:=m) (l:=(pagesW id bl b).take (k+1)) (r:=(pagesW id bl b).drop (k+1)) (by rw[e1,hz];decide);rw[List.take_append_drop]at e2;exact e2.trans e1
theorem pagesW_len (id:Nat) (bl:List Nat) (b:List UInt8): (pagesW id bl b).length=bl.length:=by simp[pagesW]
structure PW (w:World) (d g:Nat) (wv:Value) (x:Nat) (sv:Value) (fv:Array Value) (bvs:Value) (r:Int) (n:Nat) (m:DM) (wv':Value) (W:World):Prop where
 dk:Dk W d g wv' m
 up:Upon (Has d g wv) w W
 own:∀k,wv'.ownBlock=some k->wv.ownBlock=some k\/w.heap.size<=k
 bs:Blk W x 31 #[sv]
 bf:Blk W (x+1) 106 fv
 br:Blk W (x+1+1) 35 #[.int .i64 r]
 bn:Blk W (x+1+1+1) 24 #[.int .u32 (n:Int)]
 ba:Blk W (x+1+1+1+1) 27 #[bvs]
 bw:Blk W (x+1+1+1+1+1) 3 #[.int .i64 (112:Nat)]
section
variable {w W:World} {d g x n:Nat} {wv wv' sv bvs:Value} {fv:Array Value} {r:Int} {m:DM}
theorem PW.far {B:Nat} {Y:World} (hB:w.heap.size<=B) (h:PW w d g wv x sv fv bvs r n m wv' W) (hf:Far B W Y):PW w d g wv x sv fv bvs r n m wv' Y:=
 ⟨h.dk.upon hf (λ_ hk hh=>hk.2 (Dk.isC h.dk hh)),h.up.trans hf (λ_ hk=>.inr (Nat.le_trans hB hk.1)),h.own,hf.blk h.bs,hf.blk h.bf,hf.blk h.br,hf.blk h.bn,hf.blk h.ba,hf.blk h.bw⟩
theorem PW.step {Y:World} {m2:DM} {wv2:Value} (h:PW w d g wv x sv fv bvs r n m wv' W) (hu:Upon (Has d g wv') W Y) (hd:Dk Y d g wv2 m2) (ho:∀k,wv2.ownBlock=some k->wv'.ownBlock=some k\/W.heap.size<=k):PW w d g wv x sv fv bvs r n m2 wv2 Y:=
 ⟨hd,h.up.trans hu (λk hk=>by
   rcases hk with rfl|rfl|e
   ·exact .inl (.inl rfl)
   ·exact .inl (.inr (.inl rfl))
   ·exact(h.own k e).elim (λe=>.inl (.inr (.inr e))) .inr),
  λk hk=>(ho k hk).elim (h.own k) (λhk=>.inr (Nat.le_trans h.up.size hk)),
  Blk.upon h.bs hu (Dk.not h.dk h.bs (by decide) (by decide) (by decide)),Blk.upon h.bf hu (Dk.not h.dk h.bf (by decide) (by decide) (by decide)),Blk.upon h.br hu (Dk.not h.dk h.br (by decide) (by decide) (by decide)),
  Blk.upon h.bn hu (Dk.not h.dk h.bn (by decide) (by decide) (by decide)),Blk.upon h.ba hu (Dk.not h.dk h.ba (by decide) (by decide) (by decide)),Blk.upon h.bw hu (Dk.not h.dk h.bw (by decide) (by decide) (by decide))⟩
theorem PW.later {Y:World} (h:PW w d g wv x sv fv bvs r n m wv' W) (hB:Below W.heap.size W Y):PW w d g wv x sv fv bvs r n m wv' Y:=
 h.step (Upon.of_below hB) (h.dk.later hB) (λ_ h=>.inl h)
theorem PW.count (h:PW w d g wv x sv fv bvs r n m wv' W) (hw:w.heap.size<=x) (k:Nat):PW w d g wv x sv fv bvs r k m wv' (W.setCell ⟨x+1+1+1,0,none⟩ (.int .u32 (k:Int))):=
 ⟨h.dk.upon ((Upon.refl (λk=>k=x+1+1+1) W).set (.inl rfl) _) (λk hk hh=>by subst hk;exact Dk.not h.dk h.bn (by decide) (by decide) (by decide) hh),h.up.set (.inr (by show w.heap.size<=x+1+1+1;omega)) _,h.own,
  h.bs.far (by show x≠x+1+1+1;omega) _,h.bf.far (by show x+1≠x+1+1+1;omega) _,h.br.far (by show x+1+1≠x+1+1+1;omega) _,by have:=h.bn.set 0 (.int .u32 (k:Int));simpa using this,
  h.ba.far (by show x+1+1+1+1≠x+1+1+1;omega) _,h.bw.far (by show x+1+1+1+1+1≠x+1+1+1;omega) _⟩
theorem PW.say (h:PW w d g wv x sv fv bvs r n m wv' W) (hw:w.heap.size<=x) (z:Int):PW w d g wv x sv fv bvs z n m wv' (W.setCell ⟨x+1+1,0,none⟩ (.int .i64 z)):=
 ⟨h.dk.upon ((Upon.refl (λk=>k=x+1+1) W).set (.inl rfl) _) (λk hk hh=>by subst hk;exact Dk.not h.dk h.br (by decide) (by decide) (by decide) hh),h.up.set (.inr (by show w.heap.size<=x+1+1;omega)) _,h.own,
  h.bs.far (by show x≠x+1+1;omega) _,h.bf.far (by show x+1≠x+1+1;omega) _,by have:=h.br.set 0 (.int .i64 z);simpa using this,h.bn.far (by show x+1+1+1≠x+1+1;omega) _,
  h.ba.far (by show x+1+1+1+1≠x+1+1;omega) _,h.bw.far (by show x+1+1+1+1+1≠x+1+1;omega) _⟩
theorem PW.ret {B D:Nat} (hB:w.heap.size<=B) (hD:B<=D) (h:PW w d g wv x sv fv bvs r n m wv' W) (hK:W.heap[D]? =some (.deferred (some []))):
  (W.putObj D (.deferred none)).cell? ⟨x+1+1,0,none⟩=some (.int .i64 r)/\PW w d g wv x sv fv bvs r n m wv' (W.putObj D (.deferred none)):=by
 have h1:=h.far hB (Far.of_grown (B:=B) (grownBy_putObj' W D (.deferred none)) (λq e=>by cases e;exact⟨hD,_,hK,rfl⟩));exact⟨h1.br.cell 0,h1⟩
theorem keeps_box {B:Nat} {Y Z V:World} {q:Nat} {t:TypeId} {cs:Array Value} (hV:Below W.heap.size W V) (hd:Dk V d g wv' m) (hu:Upon (Has d g wv') V Y) (hq:Blk V q t cs) (hz:Y.grownBy Z (some q)):KeepsFrom B W Z:=
 KeepsFrom.trans ⟨hV.size,λk _ _ ho _=>(hV.block k (Array.getElem?_eq_some_iff.1 ho).1).trans ho⟩ (keeps_of hd hu hq hz)
end
theorem iv_at {w:World} {a:Nat} {o:Nat} {l:List Nat} (h:Lies w (some ⟨a,o,none⟩) (l.map iv)) {k:Nat} (hk:k<l.length):w.cell? ⟨a,o+k,none⟩=some (iv (l.getD k 0)):=by
 obtain⟨g,o',e,hc⟩:=lies_at h (k:=k) (u:=iv (l.getD k 0)) (by simp[hk]);cases e;exact hc
end Pages
namespace Pages
open Go.RowKit Go.Deep Go.Shelf Mem Crc Page Dk Sees Chunk Mani Round
attribute [local go_sem] Oper.semAt_some
theorem pages_any {d g s:Nat} {wv:Value} {m:DM} {cs:Array Value} (nm:ByteArray) (id size ga go mc ba bo bc:Nat) (b:List UInt8) (bl:List Nat) (w:World) (hd:Dk w d g wv m) (hoff:m.off=false) (hwt:m.wt.length+bl.length<=1000000)
  (hs:Blk w s 111 cs) (hcs:cs[0]? =some (.pointer (some ⟨d,0,none⟩))) (hb:Lies w (some ⟨ga,go,none⟩) (b.map bv)) (hbn:¬Has d g wv ga) (hc:b.length<=mc) (hlen:b.length<=2000000)
  (hbl:Lies w (some ⟨ba,bo,none⟩) (bl.map iv)) (hbb:¬Has d g wv ba) (hbi:∀i∈bl,i<m.bl.length) (hp1:b.length<=bl.length*112) (hp2:∀k,k<bl.length->k*112<b.length) (hid:id<4294967296) (hB:bl.length<=100000):
  Calls Tryz.prog 98 #[.pointer (some ⟨s,0,none⟩),.agg #[.string nm,.int .u32 (id:Int),.int .i64 (size:Int),.slice (some ⟨ba,bo,none⟩) bl.length bc],.slice (some ⟨ga,go,none⟩) b.length mc] w λe w'=>e=.returned (.int .i64 (m.writes (pagesW id bl b)).2)/\∃wv',Dk w' d g wv' (m.writes (pagesW id bl b)).1/\Upon (Has d g wv) w w'/\∀k,wv'.ownBlock=some k->wv.ownBlock=some k\/w.heap.size<=k:=by
 obtain⟨M,hM⟩:=jl b.length;obtain⟨B,hBl⟩:=jl bl.length;obtain⟨x,hx⟩:=jl w.heap.size;rw[<-hM]at hc hlen hp1 hp2⊢;rw[<-hBl]at hwt hp1 hp2 hB⊢;obtain⟨W,hW⟩:=jl ((((w.alloc (.cells #[.pointer (some ⟨s,0,none⟩)] 31)).alloc (.cells #[.string nm,.int .u32 (id:Int),.int .i64 (size:Int),.slice (some ⟨ba,bo,none⟩) B bc] 106)).alloc (.cells #[.int .i64 0] 35)).alloc (.cells #[.int .u32 0] 24));have hBW:Below w.heap.size w W:=by rw[hW];exact((((Below.refl _ w).alloc jn _).alloc (by simp) _).alloc (by simp;omega) _).alloc (by simp;omega) _
 have hWs:W.heap.size=x+1+1+1+1:=by rw[hW,hx];simp
 obtain⟨W3,hW3⟩:=jl ((W.alloc (.cells #[.slice (some ⟨ga,go,none⟩) M mc] 27)).alloc (.cells #[.int .i64 (112:Nat)] 3));have hB3:Below W.heap.size W W3:=by rw[hW3];exact((Below.refl _ W).alloc jn _).alloc (by simp) _
 have hpw:PW w d g wv x (.pointer (some ⟨s,0,none⟩)) #[.string nm,.int .u32 (id:Int),.int .i64 (size:Int),.slice (some ⟨ba,bo,none⟩) B bc] (.slice (some ⟨ga,go,none⟩) M mc) 0 0 m wv W3:=by
  refine⟨hd.later (hBW.trans (hB3.mono hBW.size)),Upon.of_below (hBW.trans (hB3.mono hBW.size)),λ_ h=>.inl h,?_,?_,?_,?_,?_,?_⟩
  ·refine Blk.below ?_ hB3 (by omega);rw[hW,hx];exact(((Blk.new w _ _).alloc _).alloc _).alloc _
  ·refine Blk.below ?_ hB3 (by omega);rw[hW];exact((Blk.at_ (by rw[World.size_alloc,hx])).alloc _).alloc _
  ·refine Blk.below ?_ hB3 (by omega);rw[hW];exact(Blk.at_ (by rw[World.size_alloc,World.size_alloc,hx])).alloc _
  ·refine Blk.below ?_ hB3 (by omega);rw[hW];exact Blk.at_ (by rw[World.size_alloc,World.size_alloc,World.size_alloc,hx])
  ·rw[hW3];exact(Blk.at_ hWs.symm).alloc _
  ·rw[hW3];exact Blk.at_ (by rw[World.size_alloc,hWs])
 have HW3:=jq hW3;have HPW:=jq hpw;have HX:Hid (w.heap.size<=x):=jq (Nat.le_of_eq hx.symm);have HXE:=jq hx;have HW30:Hid (w.heap.size<=W3.heap.size):=jq hpw.up.size;have HX3:Hid (x+1+1+1+1+1<W3.heap.size):=jq hpw.bw.lt;have HBI:Hid (∀i∈bl,i<m.bl.length):=jq hbi;have HBL:=jq hBl;have HMM:=jq hM;have HS:=jq hs;have HB:=jq hb;have HBLL:=jq hbl;have HDK:=jq hd;have HCS:=jq (chunk_sees 4 (by omega) (x+1+1+1+1) (x+1+1+1+1+1) (w0:=W3) (g:=ga) (off:=go) (wd:=112) (M:=M) (m:=B) (c:=mc) (by decide) (by decide) hc (by omega) hp1 hp2 hpw.ba.lt hpw.bw.lt (hpw.ba.cell 0) (hpw.bw.cell 0));clear hW3 hB3 hpw hbi hM hBl hs hb hbl hd hBW;refine(callsIn_wide (n:=5)).1 ?_;refine callsIn_of_wp_marks Tryz.func98 rfl trivial ?_ rfl;simp only[Tryz.ntmps98,List.size_toArray,List.length_cons,List.length_nil,Nat.reduceAdd,Nat.reduceSub,Array.replicate_succ,Array.replicate_zero,List.push_toArray,List.append_toArray,List.nil_append,List.cons_append];refine wpIn_wide.2 ?_
 go_wp2_with fail
 rw[<-hW,<-hx];refine(chunk_any (some ⟨ga,go,none⟩) M mc 112 (by decide) _).mono ?_;rintro e w3 ⟨rfl,hw3⟩;rw[<-HW3.out]at hw3;subst hw3;rw[hWs];clear hW hx hWs
 go_wp2_with fail
 refine(wpIn_wide (n:=5)).1 ?_
 refine wpIn_range_sees rfl (by omega) (gf:=113) (lb:=#[.pointer (some ⟨x+1+1+1+1,0,none⟩),.pointer (some ⟨x+1+1+1+1+1,0,none⟩)]) rfl trivial (enters_of Tryz.func113 (by kernel_rfl) rfl) HCS.out ?mine (λh k=>⟨Nat.le_trans h.1 k.1,k.2.1.trans h.2.1,k.2.2.trans h.2.2⟩) ?kput (λ_ _ _ _ _ _ h _ _ _=>h) (Below.refl _ _) (λ_=>rfl)
  (λpre W=>∃wv',PW w d g wv x (.pointer (some ⟨s,0,none⟩)) #[.string nm,.int .u32 (id:Int),.int .i64 (size:Int),.slice (some ⟨ba,bo,none⟩) B bc] (.slice (some ⟨ga,go,none⟩) M mc) 0 pre.length (m.writes ((pagesW id bl b).take pre.length)).1 wv' W/\(m.writes ((pagesW id bl b).take pre.length)).2=0)
  (λcd _ W=>cd=.ret/\∃wv' n,PW w d g wv x (.pointer (some ⟨s,0,none⟩)) #[.string nm,.int .u32 (id:Int),.int .i64 (size:Int),.slice (some ⟨ba,bo,none⟩) B bc] (.slice (some ⟨ga,go,none⟩) M mc) 6 n (m.writes (pagesW id bl b)).1 wv' W/\(m.writes (pagesW id bl b)).2=6)
  (λs X Y row ⟨v,h,h2⟩ hg hr=>⟨v,h.far HW30.out (Far.of_grown hg hr),h2⟩) (λcd s X Y row ⟨h0,v,n,h,h2⟩ hg hr=>⟨h0,v,n,h.far HW30.out (Far.of_grown hg hr),h2⟩) (λs X Y ⟨v,h,h2⟩ hm=>⟨v,h.far HW30.out (Far.mine hm),h2⟩) (λcd s X Y ⟨h0,v,n,h,h2⟩ hm=>⟨h0,v,n,h.far HW30.out (Far.mine hm),h2⟩) ⟨wv,HPW.out,rfl⟩
  (λy=>{tmps:=#[.pointer (some ⟨s,0,none⟩),.agg #[.string nm,.int .u32 (id:Int),.int .i64 (size:Int),.slice (some ⟨ba,bo,none⟩) B bc],.slice (some ⟨ga,go,none⟩) M mc,.pointer (some ⟨x,0,none⟩),.pointer (some ⟨x+1,0,none⟩),undef,.pointer (some ⟨x+1+1,0,none⟩),.pointer (some ⟨x+1+1+1,0,none⟩),sl y,undef,undef,undef,.slice (some ⟨ga,go,none⟩) M mc,.func (.func 113) #[] #[.pointer (some ⟨x+1+1+1+1,0,none⟩),.pointer (some ⟨x+1+1+1+1+1,0,none⟩)],sl y,undef,undef,undef,undef,undef,undef,undef,undef,undef,undef,undef,undef,undef,undef,undef,undef,undef,undef,undef,undef,undef,undef,undef,undef],defers:=[]})
  ?assign ?body ?done ?stop
 case mine=>
  rintro X Y ⟨q,rfl⟩;exact⟨Nat.le_refl _,λ_ _ _ ho _=>ho⟩
 case kput=>
  intro W l o o' hl _ _ _;have h1:=HX3.out;exact⟨by simp,World.putObj_heap_other (by omega),World.putObj_heap_other (by omega)⟩
 case assign=>
  intro l y W K hK;unfold sl at hK⊢
  gi_wp2
  exact hK
 case body=>
  rintro lv pre y W1 ⟨wv',h1,h2⟩ hlt hy;obtain⟨K0,hK0⟩:=jl pre.length;rw[<-hK0]at h1 h2 hlt hy;have HKL:Hid (∀z:SL,(pre++ [z]).length=K0+1):=jq (λz=>by rw[jL,<-hK0];rfl);subst hy;obtain⟨pb,hpb⟩:=jl ((b.drop (K0*112)).take 112);obtain⟨q,hq⟩:=jl pb.length;obtain⟨o,ho⟩:=jl (go+K0*112);have hql:q=min 112 (M-K0*112):=by rw[hq,hpb,jT,List.length_drop,HMM.out]
  have hLb:Lies W1 (some ⟨ga,o,none⟩) (pb.map bv):=by
   have:=((HB.out.upon h1.up (λq hq hh=>by cases hq;exact hbn hh)).drop (K0*112)).take 112
   rwa [<-List.map_drop,<-List.map_take,<-hpb,<-ho]at this
  have hput:=put_any id K0 hid (by omega) (some ⟨ga,o,none⟩) q pb W1 hLb (by omega);rw[<-hq]at hput;have HPUT:=jq hput;have c1':=h1.bf.cell 1;have c2':=h1.bn.cell 0;simp only[jt,ja,jb]at c1' c2';unfold sl piece;dsimp only;rw[<-ho,<-hql];have H1:=jq h1;have H2:=jq h2;have HPB:=jq hpb;have hK9:K0<100000:=by omega
  have HLT:=jq hlt;clear h1 h2 hpb hq ho hql hLb hput hK0 hlt
  gi_wp2
  refine⟨trivial,(CallsIn.inRound lv (callsIn_wide.2 HPUT.out)).mono ?_⟩;rintro e V ⟨v1,rfl,hO,hBV⟩
  gi_wp2
  obtain⟨g1,c1,ev,hcap,hg1,_⟩:=Go.Proofs.YtfgjnpbffppocaaGreatDoor.Frame.own_some hO (by rw[pageL_length (by rw[HPB.out,jT];omega)];decide);rw[pageL_length (by rw[HPB.out,jT];omega)]at ev;subst ev;obtain⟨a1,c2,e2,_,hL2,_,_⟩:=own_shape hO;injection e2 with e2 e3 e4;clear e3 e4;subst e2;have h3:=H1.out.later hBV;have HBI0:Hid (bl.getD K0 0<m.bl.length):=jq (HBI.out _ (by rw[List.getD_eq_getElem?_getD,jg (by rw[<-HBL.out];exact HLT.out)];exact List.getElem_mem _));obtain⟨I,hI⟩:=jl (bl.getD K0 0);have hwk:=writes_ok H2.out
  have HWO:=jq (write_on I (some ⟨g1,0,none⟩) c1 (pageL id K0 pb) h3.dk (hwk.2.1.trans hoff) (by rw[hwk.1,hI];exact HBI0.out) (pageL_length (by rw[HPB.out,jT];omega)) hL2 (by
   rw[hwk.2.2,jL,jT];have:=Nat.min_le_left K0 (pagesW id bl b).length;have:=HLT.out
   omega))
  have d1:=h3.bs.cell 0;have d2:=(Blk.upon HS.out h3.up (Dk.not HDK.out HS.out (by decide) (by decide) (by decide))).cell 0;rw[hcs]at d2;have d3:=h3.bf.cell 3;have d4:=h3.bn.cell 0;have d5:=iv_at (HBLL.out.upon h3.up (λq hq hh=>by cases hq;exact hbb hh)) (k:=K0) (by rw[<-HBL.out];exact HLT.out);rw[<-hI]at d5;unfold iv at d5;simp only[jt,ja,jb]at d1 d3 d4;have HS0:Hid ((λw':World=>w'.cell? ⟨x,0,none⟩=some (.pointer (some ⟨s,0,none⟩))/\w'.cell? ⟨s,0,none⟩=some (.pointer (some ⟨d,0,none⟩))/\w'.cell? ⟨x+1,3,none⟩=some (.slice (some ⟨ba,bo,none⟩) B bc)/\w'.cell? ⟨x+1+1+1,0,none⟩=some (.int .u32 (K0:Int))/\w'.cell? ⟨ba,bo+K0,none⟩=some (.int .i64 (I:Int))) V.drew):=jq ⟨d1,d2,d3,d4,d5⟩
  have HKEEP:Hid (∀(Y:World) (wv3:Value),Dk Y d g wv3 ((m.writes ((pagesW id bl b).take K0)).1.write I (pageL id K0 pb)).1->Upon (λk=>k=d\/wv'.ownBlock=some k) V.drew Y->(∀k,wv3.ownBlock=some k->wv'.ownBlock=some k\/V.drew.heap.size<=k)->(λw':World=>w'.cell? ⟨x,0,none⟩=some (.pointer (some ⟨s,0,none⟩))/\w'.cell? ⟨s,0,none⟩=some (.pointer (some ⟨d,0,none⟩))/\w'.cell? ⟨x+1,3,none⟩=some (.slice (some ⟨ba,bo,none⟩) B bc)/\w'.cell? ⟨x+1+1+1,0,none⟩=some (.int .u32 (K0:Int))/\w'.cell? ⟨ba,bo+K0,none⟩=some (.int .i64 (I:Int))) Y):=jq (λY wv3 hdy huy hoy=>by
   have h4:=h3.step (Y:=Y) (m2:=((m.writes ((pagesW id bl b).take K0)).1.write I (pageL id K0 pb)).1) (wv2:=wv3) (⟨huy.os,huy.tape,huy.output,huy.size,λk hk hn=>huy.block k hk (λhp=>hn (hp.elim .inl (λh=>.inr (.inr h))))⟩:Upon (Has d g wv') V Y) hdy hoy;have d1:=h4.bs.cell 0;have d2:=(Blk.upon HS.out h4.up (Dk.not HDK.out HS.out (by decide) (by decide) (by decide))).cell 0;rw[hcs]at d2;have d3:=h4.bf.cell 3;have d4:=h4.bn.cell 0;have d5:=iv_at (HBLL.out.upon h4.up (λq hq hh=>by cases hq;exact hbb hh)) (k:=K0) (by rw[<-HBL.out];exact HLT.out);rw[<-hI]at d5;exact⟨d1,d2,d3,d4,d5⟩)
  replace HWO:=jq ((write_on I (some ⟨g1,0,none⟩) c1 (pageL id K0 pb) (w:=V.drew) (h3.dk.keep jn (λ_ _=>rfl)) (hwk.2.1.trans hoff) (by rw[hwk.1,hI];exact HBI0.out) (pageL_length (by rw[HPB.out,jT];omega)) hL2 (by
   rw[hwk.2.2,jL,jT];have:=Nat.min_le_left K0 (pagesW id bl b).length;have:=HLT.out
   omega)))
  have H3:=jq h3;have HI:=jq hI;have HBV:=jq hBV;have hd1:decide ((B:Int)<=(K0:Int))=false:=by have:=HLT.out;simp;omega
  have hd2:decide ((K0:Int) <(B:Int))=true:=by have:=HLT.out;simp;omega
  have hd3:decide (B<=K0)=false:=by have:=HLT.out;simp;omega
  have hd4:¬B<=K0:=by have:=HLT.out;omega
  have hd5:K0<B:=HLT.out;clear d1 d2 d3 d4 d5 h3 hwk hI hBV hL2 hO hcap hg1 c1' c2';refine region_round_held (S:=λw'=>w'.cell? ⟨x,0,none⟩=some (.pointer (some ⟨s,0,none⟩))/\w'.cell? ⟨s,0,none⟩=some (.pointer (some ⟨d,0,none⟩))/\w'.cell? ⟨x+1,3,none⟩=some (.slice (some ⟨ba,bo,none⟩) B bc)/\w'.cell? ⟨x+1+1+1,0,none⟩=some (.int .u32 (K0:Int))/\w'.cell? ⟨ba,bo+K0,none⟩=some (.int .i64 (I:Int))) (by kernel_rfl) (by kernel_rfl) HS0.out (λhHeld=>?_);refine' jk 0 ?_
  try simp only[Act.put,ji,js,ju]
  refine' jk 1 ?_
  try simp only[Act.put,ji,js,ju]
  refine' jk 2 ?_
  try simp only[Act.put,ji,js,ju]
  refine' jk 3 ?_
  try simp only[Act.put,ji,js,ju]
  refine' jk 4 ?_
  try simp only[Act.put,ji,js,ju]
  refine' jk 5 ?_
  try simp only[Act.put,ji,js,ju]
  refine' jk 6 ?_
  try simp only[Act.put,ji,js,ju]
  refine' jk 7 ?_
  try simp only[Act.put,ji,js,ju]
  refine' jk 8 ?_
  try simp only[Act.put,ji,js,ju]
  refine' jk 9 ?_
  try simp only[Act.put,ji,js,ju]
  refine wpAnyH_ready (rs:=[10]) (by kernel_rfl) (by simp) ?_;refine' AllReadyH.cons (o:=?o11) ?ho11 (λK hK=>?step11) ?more11
  case ho11=>(simp only[jt,jb,ja];rfl)
  case step11=>
   go_simp
   (go_at_call 80;refine HWO.out.mono ?_;rintro e W2 ⟨rfl,wv3,hd2,hu2,ho2⟩;have hS3:=HKEEP.out W2 wv3 hd2 hu2 ho2;dsimp only)
   refine hK.out _ _ ?_ (λhHeld=>?_)
   ·exact hS3
   clear hK K
   try simp only[Act.put,ji,js,ju]
   refine' jk 11 ?_
   try simp only[Act.put,ji,js,ju]
   refine wpAnyH_done (by kernel_rfl) ?_ _
   rename_i hH9
   clear hH9 hS3;have hu3:Upon (Has d g wv') V W2:=⟨hu2.os,hu2.tape,hu2.output,hu2.size,λk hk hn=>hu2.block k hk (λhp=>hn (hp.elim .inl (λh=>.inr (.inr h))))⟩;have h4:=H3.out.step hu3 hd2 ho2;have H4:=jq h4;have HU3:=jq hu3;have c6:=h4.bn.cell 0;have c7:=h4.br.cell 0;have f6:=h4.bn.frozen 0;have f7:=h4.br.frozen 0;simp only[jt,ja]at c6 c7;clear h4 hu2 hu3 hd2 ho2;unfold Round.Calm;dsimp only;have hkb:K0<bl.length:=by rw[<-HBL.out];exact hd5
   have HKB:=jq hkb;clear hkb;rcases write_res (m.writes ((pagesW id bl b).take K0)).1 I (pageL id K0 pb)with hz|hz
   ·rw[hz];rw[HI.out,HPB.out]at hz;have hon:=pages_on (id:=id) HKB.out H2.out;have h5:=H4.out.count HX.out (K0+1);rw[HI.out,HPB.out,<-hon]at h5;rw[<-hon]at hz;have hkf:=keeps_box (B:=w3.heap.size) HBV.out H3.out.dk HU3.out H3.out.bn (grownBy_setCell' W2 (x+1+1+1) (.int .u32 ((K0+1:Nat):Int)));rw[show((K0+1:Nat):Int)=(K0:Int)+1 from by omega]at h5 hkf;have H5:=jq h5;have HKF:=jq hkf;have HZ:=jq hz;clear hon h5 hkf hz
    gi_wp2
    refine⟨HKF.out,⟨HKF.out.size,H5.out.ba.trans H1.out.ba.symm,H5.out.bw.trans H1.out.bw.symm⟩,?_⟩;dsimp only;rw[HKL.out];exact⟨⟨wv3,H5.out⟩,HZ.out⟩
   ·rw[hz];rw[HI.out,HPB.out]at hz;have hon:=pages_stop (id:=id) HKB.out H2.out hz;have h5:=H4.out.say HX.out 6;rw[HI.out,HPB.out,<-hon]at h5;rw[<-hon]at hz;have hkf:=keeps_box (B:=w3.heap.size) HBV.out H3.out.dk HU3.out H3.out.br (grownBy_setCell' W2 (x+1+1) (.int .i64 6));have H5:=jq h5;have HKF:=jq hkf;have HZ:=jq hz;clear hon h5 hkf hz
    gi_wp2
    exact⟨HKF.out,rfl,⟨wv3,_,H5.out⟩,HZ.out⟩
  exact AllReadyH.nil
 case done=>
  rintro D xs V hD hS ⟨wv',h1,h2⟩ hK;rw[hS,pieces_len,jW (by rw[pagesW_len,HBL.out];exact Nat.le_refl _)]at h1 h2;have c6:=h1.br.cell 0;have f6:=h1.br.frozen 0;have h3:=h1.say HX.out 0;have hK4: (V.setCell ⟨x+1+1,0,none⟩ (.int .i64 0)).heap[D]? =some (.deferred (some [])):=(Below.heap_setCell V ⟨x+1+1,0,none⟩ (.int .i64 0) D (by have:=HX3.out;show D≠x+1+1;omega)).trans hK;have HK:=jq hK4;have HE:=jq (h3.ret HW30.out hD hK4);have HZ:=jq h2;clear h1 h2 h3 hK hK4 hS;dsimp only
  gi_wp2
  go_wp2_with fail
  have g0:=HE.out.1;refine⟨by simp,.inl ⟨_,_,rfl,run_takeDeferred HK.out,?_⟩⟩;refine⟨.int .i64 0,by simp[results,Tryz.f98,go_sem,g0],?_⟩;rw[HZ.out];exact⟨rfl,_,HE.out.2.dk,HE.out.2.up,HE.out.2.own⟩
 case stop=>
  rintro D cd pre V hD _ ⟨rfl,wv',n,h1,h2⟩ hK;have HK:=jq hK;have HE:=jq (h1.ret HW30.out hD hK);have HZ:=jq h2;clear h1 h2 hK;dsimp only
  gi_wp2
  have g0:=HE.out.1;refine⟨by simp,.inl ⟨_,_,rfl,run_takeDeferred HK.out,?_⟩⟩;refine⟨.int .i64 6,by simp[results,Tryz.f98,go_sem,g0],?_⟩;rw[HZ.out];exact⟨rfl,_,HE.out.2.dk,HE.out.2.up,HE.out.2.own⟩
end Pages
namespace Pages
open Go.RowKit Go.Deep Go.Shelf Mem Crc Page Dk Sees Chunk Mani Round
attribute [local go_sem] Oper.semAt_some
theorem chunk_sees0 (n:Nat) (Bs Bn:Nat) {w0:World} {a:Option Addr} {c:Nat} {V:List SL->SL->World->Prop} (hcs:w0.cell? ⟨Bs,0,none⟩=some (.slice a 0 c)) (hs0:Bs<w0.heap.size):
  SeqSees Fence.wide n Tryz.prog 113 #[.pointer (some ⟨Bs,0,none⟩),.pointer (some ⟨Bn,0,none⟩)] (λx:SL=>#[sl x]) MineD (KeepB Bs Bn) V (λys=>ys= []) (λ_=>False) 0 w0:=by
 intro l J Jx W hB hJ _ _ h0;have hcs1:W.cell? ⟨Bs,0,none⟩=some (.slice a 0 c):=(hB.cell (p:=⟨Bs,0,none⟩) hs0).trans hcs;refine callsIn_of_wp Tryz.func113 rfl trivial ?_ rfl;simp only[Tryz.ntmps113,List.size_toArray,List.length_cons,List.length_nil,Nat.reduceAdd,Nat.reduceSub,Array.replicate_succ,Array.replicate_zero,List.push_toArray,List.append_toArray,List.nil_append,List.cons_append]
 gi_wp2
 gi_loopw [4] (λi wr=>i=.int .i64 0/\J [] wr/\wr=W) (λ_ _=>0)
 case atStart=>exact⟨rfl,h0,rfl⟩
 case round=>
  obtain⟨rfl,hJs,rfl⟩:=hrel
  gi_wp2
  go_end0
  exact⟨⟨_,rfl⟩,.inl ⟨_,rfl,hJs⟩⟩
theorem pages_none (s:Nat) (nm:ByteArray) (id size mc:Nat) (bv0:Value) (a:Option Addr) (w:World):
  Calls Tryz.prog 98 #[.pointer (some ⟨s,0,none⟩),.agg #[.string nm,.int .u32 (id:Int),.int .i64 (size:Int),bv0],.slice a 0 mc] w λe w'=>e=.returned (.int .i64 0)/\Below w.heap.size w w':=by
 obtain⟨x,hx⟩:=jl w.heap.size;obtain⟨W,hW⟩:=jl ((((w.alloc (.cells #[.pointer (some ⟨s,0,none⟩)] 31)).alloc (.cells #[.string nm,.int .u32 (id:Int),.int .i64 (size:Int),bv0] 106)).alloc (.cells #[.int .i64 0] 35)).alloc (.cells #[.int .u32 0] 24));have hBW:Below w.heap.size w W:=by rw[hW];exact((((Below.refl _ w).alloc jn _).alloc (by simp) _).alloc (by simp;omega) _).alloc (by simp;omega) _
 have hWs:W.heap.size=x+1+1+1+1:=by rw[hW,hx];simp
 obtain⟨W3,hW3⟩:=jl ((W.alloc (.cells #[.slice a 0 mc] 27)).alloc (.cells #[.int .i64 (112:Nat)] 3));have hB3:Below W.heap.size W W3:=by rw[hW3];exact((Below.refl _ W).alloc jn _).alloc (by simp) _
 have hbr:Blk W3 (x+1+1) 35 #[.int .i64 0]:=by
  refine Blk.below ?_ hB3 (by omega);rw[hW];exact(Blk.at_ (by rw[World.size_alloc,World.size_alloc,hx])).alloc _
 have hba:Blk W3 (x+1+1+1+1) 27 #[.slice a 0 mc]:=by
  rw[hW3];exact(Blk.at_ hWs.symm).alloc _
 have hbw:Blk W3 (x+1+1+1+1+1) 3 #[.int .i64 (112:Nat)]:=by
  rw[hW3];exact Blk.at_ (by rw[World.size_alloc,hWs])
 have HB3:=jq (hBW.trans (hB3.mono hBW.size));have HBR:=jq hbr;have HW3:=jq hW3;have HX:Hid (w.heap.size<=x):=jq (Nat.le_of_eq hx.symm);have HX3:Hid (x+1+1+1+1+1<W3.heap.size):=jq hbw.lt;have HCS:=jq (chunk_sees0 4 (x+1+1+1+1) (x+1+1+1+1+1) (w0:=W3) (V:=λ_ _ _=>False) (hba.cell 0) hba.lt);clear hW3 hB3 hBW hbr hba hbw;refine(callsIn_wide (n:=5)).1 ?_;refine callsIn_of_wp_marks Tryz.func98 rfl trivial ?_ rfl;simp only[Tryz.ntmps98,List.size_toArray,List.length_cons,List.length_nil,Nat.reduceAdd,Nat.reduceSub,Array.replicate_succ,Array.replicate_zero,List.push_toArray,List.append_toArray,List.nil_append,List.cons_append];refine wpIn_wide.2 ?_
 go_wp2_with fail
 rw[<-hW,<-hx];refine(chunk_any a 0 mc 112 (by decide) _).mono ?_;rintro e w3 ⟨rfl,hw3⟩;rw[<-HW3.out]at hw3;subst hw3;rw[hWs];clear hW hx hWs
 go_wp2_with fail
 refine(wpIn_wide (n:=5)).1 ?_
 refine wpIn_range_sees rfl (by omega) (gf:=113) (lb:=#[.pointer (some ⟨x+1+1+1+1,0,none⟩),.pointer (some ⟨x+1+1+1+1+1,0,none⟩)]) rfl trivial (enters_of Tryz.func113 (by kernel_rfl) rfl) HCS.out ?mine (λh k=>⟨Nat.le_trans h.1 k.1,k.2.1.trans h.2.1,k.2.2.trans h.2.2⟩) ?kput (λ_ _ _ _ _ _ h _ _ _=>h) (Below.refl _ _) (λ_=>rfl)
  (λ_ W=>Blk W (x+1+1) 35 #[.int .i64 0]/\Upon (λ_=>False) w W)
  (λ_ _ _=>False)
  (λs X Y row h hg hr=>⟨(Far.of_grown hg hr).blk h.1,h.2.trans (Far.of_grown hg hr) (λk hk=>.inr (Nat.le_trans HB3.out.size hk.1))⟩) (λcd s X Y row h hg hr=>h) (λs X Y h hm=>⟨(Far.mine (B:=0) hm).blk h.1,by obtain⟨q,rfl⟩:=hm;exact h.2.drewN q⟩) (λcd s X Y h hm=>h) ⟨HBR.out,Upon.of_below HB3.out⟩
  (λy=>{tmps:=#[.pointer (some ⟨s,0,none⟩),.agg #[.string nm,.int .u32 (id:Int),.int .i64 (size:Int),bv0],.slice a 0 mc,.pointer (some ⟨x,0,none⟩),.pointer (some ⟨x+1,0,none⟩),undef,.pointer (some ⟨x+1+1,0,none⟩),.pointer (some ⟨x+1+1+1,0,none⟩),sl y,undef,undef,undef,.slice a 0 mc,.func (.func 113) #[] #[.pointer (some ⟨x+1+1+1+1,0,none⟩),.pointer (some ⟨x+1+1+1+1+1,0,none⟩)],sl y,undef,undef,undef,undef,undef,undef,undef,undef,undef,undef,undef,undef,undef,undef,undef,undef,undef,undef,undef,undef,undef,undef,undef,undef],defers:=[]})
  ?assign ?body ?done ?stop
 case mine=>
  rintro X Y ⟨q,rfl⟩;exact⟨Nat.le_refl _,λ_ _ _ ho _=>ho⟩
 case kput=>
  intro W l o o' hl _ _ _;have h1:=HX3.out;exact⟨by simp,World.putObj_heap_other (by omega),World.putObj_heap_other (by omega)⟩
 case assign=>
  intro l y W K hK;unfold sl at hK⊢
  gi_wp2
  exact hK
 case body=>exact λlv pre y W1 _ hlt _=>absurd hlt (Nat.not_lt_zero _)
 case done=>
  rintro D xs V hD hS ⟨h1,h2⟩ hK;have c6:=h1.cell 0;have f6:=h1.frozen 0;have hne:D≠x+1+1:=by have:=HX3.out;omega
  have h3:=h1.set 0 (.int .i64 0);have hK4: (V.setCell ⟨x+1+1,0,none⟩ (.int .i64 0)).heap[D]? =some (.deferred (some [])):=(Below.heap_setCell V ⟨x+1+1,0,none⟩ (.int .i64 0) D (by show D≠x+1+1;exact hne)).trans hK;have hf:Far w3.heap.size (V.setCell ⟨x+1+1,0,none⟩ (.int .i64 0)) ((V.setCell ⟨x+1+1,0,none⟩ (.int .i64 0)).putObj D (.deferred none)):=Far.of_grown (grownBy_putObj' _ D (.deferred none)) (λq e=>by cases e;exact⟨hD,_,hK4,rfl⟩);have h5:=hf.blk h3;have hB9:Below w.heap.size w ((V.setCell ⟨x+1+1,0,none⟩ (.int .i64 0)).putObj D (.deferred none)):=((h2.set (p:=⟨x+1+1,0,none⟩) (.inr (by have:=HX.out;show w.heap.size<=x+1+1;omega)) (.int .i64 0)).trans hf (λk hk=>.inr (Nat.le_trans HB3.out.size hk.1))).below jn (λ_ h=>h.elim);have g0:=h5.cell 0;have HK:=jq hK4;have HB9:=jq hB9;clear h1 h2 h3 hK hK4 hS hf h5 hB9 hne;dsimp only
  gi_wp2
  go_wp2_with fail
  refine⟨by simp,.inl ⟨_,_,rfl,run_takeDeferred HK.out,?_⟩⟩;refine⟨.int .i64 0,by simp[results,Tryz.f98,go_sem,g0],rfl,HB9.out⟩
 case stop=>exact λD cd pre V hD h _ _=>h.elim
end Pages
end Go.Proofs.YtfgjnpbffppocaaGreatDoor
