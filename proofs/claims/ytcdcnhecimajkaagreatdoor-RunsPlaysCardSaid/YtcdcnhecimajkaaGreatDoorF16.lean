/- Part. -/
import Derived.Test.YtcdcnhecimajkaaGreatDoorF0
import Derived.Test.YtcdcnhecimajkaaGreatDoorF0Q
import Derived.Test.YtcdcnhecimajkaaGreatDoorF5
import Derived.Test.YtcdcnhecimajkaaGreatDoorF15
import Derived.Test.YtcdcnhecimajkaaGreatDoorShelf
set_option maxHeartbeats 400000
set_option maxRecDepth 100000
namespace Go.Proofs.YtcdcnhecimajkaaGreatDoor
namespace Runs
open Go.RowKit Go.Deep Go.Shelf Go.Lib Mem Crc Merge
attribute [local go_sem] Oper.semAt_some
theorem join_flat:∀l:List B,Lib.join l []=l.flatten
 | []=>rfl
 |x ::r=>by
  rw[Lib.join_cons]
  simp[Lib.joinTail]
theorem lens_flat (l:List B):Lib.lens l=l.flatten.length:=by simp[Lib.lens,List.length_flatten]
theorem fresh_lies {base:Nat} {w:World} {v:Value} {l:B} (h:Lib.FreshBytes base w v l):∃a c,v=.slice a l.length c/\Lies w a (l.map bv):=by
 obtain⟨g,cap,zs,rfl,_,hlc,_,hz,hr,hb,hc,_⟩:=h;refine⟨_,_,rfl,?_⟩
 by_cases h0:l= []
 ·exact .inl (by simp[h0])
 ·have hpos:0<l.length:=List.length_pos_iff.2 h0;have c0:=hc 0 (by omega);refine .inr ⟨g,0,rfl,?_,λi u hu=>?_⟩
  ·obtain⟨o,ho,_⟩:=cells_of_cell c0;exact(Array.getElem?_eq_some_iff.1 ho).1
  ·have hi:i<l.length:=by simpa using(jS.1 hu).1
   have hzi:i<zs.length:=by omega
   rw[Nat.zero_add,hc i (by omega)];have hu':bv l[i]=u:=by simpa[jg hi]using hu
   have hli:l[i]=zs[i].toNat.toUInt8:=by
    have h1: (Lib.bytesOf (zs.take l.length))[i]? =l[i]?:=by rw[hb]
    rw[jg hi]at h1
    simp[Lib.bytesOf,hi,jg hzi]at h1
    rw[<-h1]
   have h2:=hr zs[i] (List.getElem_mem hzi);rw[<-hu',hli,List.getD_eq_getElem?_getD,jg hzi];unfold bv
   simp
   omega
theorem join_any {a:Option Addr} {c:Nat} {vs:List SL} {l:List B} (w:World) (hL:Lies w a (vs.map sl)) (hlc:vs.length<=c) (hR:RecsIn w (vs.map sl) l) (hne:∀b∈l,b≠[]) (hmax:l.flatten.length<=1048576) (hml:l.length<=1048576):
  Calls Tryz.prog 73 #[.slice a vs.length c,.slice none 0 0] w λe w'=>∃ad cp,e=.returned (.slice ad l.flatten.length cp)/\Lies w' ad (l.flatten.map bv)/\Below w.heap.size w w':=by
 have hlen:vs.length=l.length:=by simpa using hR.len
 have hparts:∀(i:Nat) (v:Value) (b:B),(vs.map sl)[i]? =some v->l[i]? =some b->∃ad cp,v=.slice (some ad) b.length cp/\∀(j:Nat) x,b[j]? =some x->w.cell? (ad.add j)=some (.int .u8 (x.toNat:Int)):=λi v b hv hb=>by
  obtain⟨p,cp,e,_,hl⟩:=hR.at_ i v b hv hb;have hbne:=hne b (jM hb);rcases hl with h|⟨g,o,rfl,hg,hc⟩
  ·exact absurd (by simpa using h) hbne
  ·refine⟨_,cp,e,λj x hx=>?_⟩;exact lies_add (w:=w) (a:=⟨g,o,none⟩) (.inr ⟨g,o,rfl,hg,hc⟩) j _ (by simp[hx,bv])
 match l,hlen,hL with
 | [],hlen,_=>
  rw[show vs.length=0 from hlen];refine(Tryz.bytes_Join_none a c _ w).mono ?_;rintro e w' ⟨rfl,rfl⟩;exact⟨_,_,rfl,.inl rfl,(Below.refl _ w).alloc jn _⟩
 | [b],hlen,hL=>
  have hv0:0<vs.length:=by rw[hlen];exact Nat.one_pos
  rcases hL with h|⟨g,o,rfl,hg,hc⟩
  ·have:vs= []:=by simpa using h
   rw[this]at hv0;cases hv0
  ·obtain⟨ad,cp,e,hp⟩:=hparts 0 (sl vs[0]) b (by simp[jg hv0]) rfl;have h0:=hc 0 (sl vs[0]) (by simp[jg hv0]);rw[e]at h0;rw[show vs.length=1 from hlen];refine(Tryz.bytes_Join_one g o c ad cp b _ w h0 hp (List.length_pos_iff.2 (hne b (by simp))) (by simp at hmax;omega)).mono ?_;rintro e w' ⟨v',rfl,hf,hB⟩;obtain⟨q,k,rfl,hl⟩:=fresh_lies hf;exact⟨q,k,by simp,by simpa using hl,hB⟩
 |x ::y ::r,hlen,hL=>
  have hv0:2<=vs.length:=by rw[hlen];simp
  rcases hL with h|⟨g,o,rfl,hg,hc⟩
  ·have:vs= []:=by simpa using h
   rw[this]at hv0;cases hv0
  ·have hPA:Lib.PartsAt w ⟨g,o,none⟩ (vs.map sl) (x ::y ::r):=⟨by simpa using hlen,λi v hv=>lies_add (w:=w) (a:=⟨g,o,none⟩) (.inr ⟨g,o,rfl,hg,hc⟩) i v hv,λi v b hv hb=>by
    obtain⟨ad,cp,e,hp⟩:=hparts i v b hv hb;exact⟨some ad,cp,e,(λh=>by cases h),(λq hq=>by cases hq;exact hp)⟩⟩
   refine(Tryz.bytes_Join_many g o vs.length c (vs.map sl) (x ::y ::r) (.slice none 0 0) [] w hlen.symm hv0 hPA hlc ⟨none,0,rfl,λ_=>rfl,λq hq=>by cases hq⟩ (by omega) (by rw[lens_flat];simp only[List.length_nil,Nat.zero_mul];omega)).mono ?_;rintro e w' ⟨v',rfl,hf,hB⟩;rw[join_flat]at hf;obtain⟨q,k,rfl,hl⟩:=fresh_lies hf;exact⟨q,k,rfl,hl,hB⟩
end Runs
namespace Runs
open Go.RowKit Go.Deep Go.Shelf Go.Lib Mem Crc Merge
attribute [local go_sem] Oper.semAt_some
theorem k82: (((82:UInt8).toNat:Nat):Int)=82:=by decide
theorem section_any {a:Option Addr} {c:Nat} {vs:List SL} {l:List B} (w:World) (hL:Lies w a (vs.map sl)) (hlc:vs.length<=c) (hR:RecsIn w (vs.map sl) l) (hne:∀b∈l,b≠[]) (hmax:l.flatten.length<=1048576) (hml:l.length<=1048576):
  Calls Tryz.prog 48 #[.slice a vs.length c] w λe w'=>∃v,e=.returned (.tuple #[v,.int .i64 0])/\OwnB w' w.heap.size v (Frame.frameL 82 l.flatten)/\Below w.heap.size w w':=by
 have hj:=join_any w hL hlc hR hne hmax hml;obtain⟨X,hX⟩:=jl l.flatten;rw[<-hX]at hj hmax⊢;have HJ:=jq hj;clear hL hR hj hX
 go_enter Tryz.func48,Tryz.ntmps48
 go_wp2_with fail
 refine HJ.out.mono ?_;rintro e w1 ⟨ad,cp,rfl,h1,h2⟩;have hp:=Frame.put_nil 82 ad cp X w1 h1 hmax;rw[k82]at hp;have HP:=jq hp;have H2:=jq h2;clear h1 h2 hp
 go_wp2_with fail
 refine HP.out.mono ?_;rintro e w2 ⟨v,rfl,h3,h4⟩;have H3:=jq (own_mono h3 H2.out.size);have H4:=jq (H2.out.trans (h4.mono H2.out.size));obtain⟨va,vc,rfl,_,_,_,_⟩:=own_shape h3;clear h3 h4
 go_wp2_with fail
 go_ret2
 exact⟨_,rfl,H3.out,H4.out⟩
end Runs
end Go.Proofs.YtcdcnhecimajkaaGreatDoor
