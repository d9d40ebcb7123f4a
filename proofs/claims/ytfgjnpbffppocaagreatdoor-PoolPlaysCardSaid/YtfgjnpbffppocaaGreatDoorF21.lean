/- Part. -/
import Derived.Test.YtfgjnpbffppocaaGreatDoorF0
import Derived.Test.YtfgjnpbffppocaaGreatDoorF0Q
import Derived.Test.YtfgjnpbffppocaaGreatDoorF2
import Derived.Test.YtfgjnpbffppocaaGreatDoorF20
import Derived.Deep.RegionHeld3
set_option maxHeartbeats 1000000
set_option maxRecDepth 100000
namespace Go.Proofs.YtfgjnpbffppocaaGreatDoor
namespace Mani
open Go.RowKit Go.Deep Mem Crc Varint
structure Fil where
 name:List UInt8
 id:Nat
 size:Nat
 blocks:List Nat
def iv (i:Nat):Value:=.int .i64 (i:Int)
structure FR where
 f:Fil
 a:Option Addr
 c:Nat
def FR.vs (x:FR):List Value:=[sv x.f.name,.int .u32 (x.f.id:Int),iv x.f.size,.slice x.a x.f.blocks.length x.c]
def flatF (l:List FR):List Value:=l.flatMap FR.vs
theorem flatF_length (l:List FR): (flatF l).length=l.length*4:=by
 induction l with
 |nil=>rfl
 |cons x r ih=>unfold flatF at ih⊢;rw[jC,jL,ih,List.length_cons];show 4+_=_;omega
theorem flatF_at:∀{l:List FR} {k:Nat} {x:FR},l[k]? =some x->∀{j:Nat} {u:Value},x.vs[j]? =some u->(flatF l)[k*4+j]? =some u
 | [],k,x,hx,_,_,_=>by simp at hx
 |y ::r,0,x,hx,j,u,hu=>by
  simp at hx
  subst hx;unfold flatF;rw[jC,List.getElem?_append_left (by have:=(jS.1 hu).1;omega)]
  simpa using hu
 |y ::r,k+1,x,hx,j,u,hu=>by
  have:=flatF_at (l:=r) (k:=k) (x:=x) (by simpa using hx) hu;have e:y.vs.length=4:=rfl;unfold flatF at this⊢;rw[jC,List.getElem?_append_right (by rw[e];omega),<-this]
  congr 1
  rw[e]
  omega
theorem lies_at {w:World} {a:Option Addr} {xs:List Value} (h:Lies w a xs) {k:Nat} {u:Value} (hk:xs[k]? =some u):∃g o,a=some ⟨g,o,none⟩/\w.cell? ⟨g,o+k,none⟩=some u:=by
 obtain⟨g,o,rfl,_,hc⟩:=h.resolve_left (λe=>by rw[e]at hk;simp at hk);exact⟨g,o,rfl,hc k u hk⟩
structure FilesIn (w:World) (a:Option Addr) (l:List FR):Prop where
 row:Lies w a (flatF l)
 blocks:∀x∈l,Lies w x.a (x.f.blocks.map iv)/\x.f.blocks.length<=x.c
theorem FilesIn.later {w w':World} {a:Option Addr} {l:List FR} (h:FilesIn w a l) (hB:Below w.heap.size w w'):FilesIn w' a l:=⟨h.row.later hB,λx hx=>⟨(h.blocks x hx).1.later hB,(h.blocks x hx).2⟩⟩
theorem FilesIn.cells {w:World} {a:Option Addr} {l:List FR} (h:FilesIn w a l) {k:Nat} {x:FR} (hx:l[k]? =some x):∃g o,a=some ⟨g,o,none⟩/\w.cell? ⟨g,o+k*4,none⟩=some (sv x.f.name)/\w.cell? ⟨g,o+k*4+1,none⟩=some (.int .u32 (x.f.id:Int))/\w.cell? ⟨g,o+k*4+2,none⟩=some (iv x.f.size)/\w.cell? ⟨g,o+k*4+3,none⟩=some (.slice x.a x.f.blocks.length x.c):=by
 have hne:flatF l≠[]:=λe=>by
  have:=flatF_length l;have h2:=(jS.1 hx).1;rw[e]at this
  simp at this
  omega
 obtain⟨g,o,rfl,_,hc⟩:=h.row.resolve_left hne;refine⟨g,o,rfl,?_,?_,?_,?_⟩
 ·exact hc _ _ (flatF_at hx (j:=0) rfl)
 ·exact hc _ _ (flatF_at hx (j:=1) rfl)
 ·exact hc _ _ (flatF_at hx (j:=2) rfl)
 ·exact hc _ _ (flatF_at hx (j:=3) rfl)
def blocksL (l:List Nat):List UInt8:=l.flatMap vput
def filL (f:Fil):List UInt8:=vput f.name.length++(f.name++(vput f.id++(vput f.size++blocksL f.blocks)))
def bodyL (ver next:Nat) (l:List Fil):List UInt8:=vput ver++(vput next++(vput l.length++l.flatMap filL))
structure Fil.fits (f:Fil):Prop where
 id:f.id<4294967296
 size:f.size<4294967296
 blocks:∀i∈f.blocks,i<4294967296
theorem flat_snoc {α β:Type} (f:α->List β) {l:List α} {k:Nat} {x:α} (hx:l[k]? =some x): (l.take (k+1)).flatMap f=(l.take k).flatMap f++f x:=by
 rw[List.take_add_one,hx,List.flatMap_append]
 simp
theorem flat_le {α β:Type} (f:α->List β) (l:List α) (k:Nat): ((l.take k).flatMap f).length<=(l.flatMap f).length:=by
 have h:l.flatMap f=(l.take k).flatMap f++(l.drop k).flatMap f:=by rw[<-List.flatMap_append,List.take_append_drop]
 rw[h,jL]
 omega
theorem blocksL_ge (l:List Nat):l.length<=(blocksL l).length:=by
 induction l with
 |nil=>exact Nat.le_refl _
 |cons x r ih=>
  unfold blocksL at ih⊢;rw[jC,jL,List.length_cons];have:=vput_pos x
  omega
structure Grow (W:World) (v:Value) (bs:List UInt8) (w:World):Prop where
 own:OwnB w W.heap.size v bs
 below:Below W.heap.size W w
theorem Grow.step {W w w':World} {v v':Value} {bs bs':List UInt8} (h:Grow W v bs w) (ho:OwnB w' W.heap.size v' bs') (hu:Upon (λq=>v.ownBlock=some q) w w'):Grow W v' bs' w':=
 ⟨ho,h.below.trans (hu.below h.below.size (λq hq=>(h.own.lt q hq).1))⟩
theorem Grow.box {W w w':World} {v:Value} {bs:List UInt8} (h:Grow W v bs w) (hu:Upon (λq=>v.ownBlock=some q) w w') {b:Nat} {t:TypeId} {cs:Array Value} (hb:Blk w b t cs) (ht:5≠t):Blk w' b t cs:=hb.upon hu (λe=>own_ne_blk h.own hb ht e)
theorem body_any (ver next:Nat) (a:Option Addr) (c:Nat) (l:List FR) (w:World) (h:FilesIn w a l) (hv:ver<18446744073709551616) (hn:next<4294967296) (hf:∀x∈l,x.f.fits) (hm: (bodyL ver next (l.map FR.f)).length<=900000) (hl:l.length<=1000000):
  Calls Tryz.prog 112 #[.agg #[.int .u64 (ver:Int),.int .u32 (next:Int),.slice a l.length c]] w λe w'=>∃v,e=.returned v/\OwnB w' w.heap.size v (bodyL ver next (l.map FR.f))/\Below w.heap.size w w':=by
 obtain⟨n,hnl⟩:=jl l.length;rw[<-hnl]at hl⊢;obtain⟨W,hW⟩:=jl (w.alloc (.cells #[.int .u64 (ver:Int),.int .u32 (next:Int),.slice a n c] 101));have hBW:Below w.heap.size w W:=by rw[hW];exact(Below.refl _ w).alloc jn _
 have hbx:Blk W w.heap.size 101 #[.int .u64 (ver:Int),.int .u32 (next:Int),.slice a n c]:=by rw[hW];exact Blk.new w _ _
 have hg0:Grow W (.slice none 0 0) [] W:=⟨World.ownsRow_nil W W.heap.size 5 1,Below.refl _ _⟩;obtain⟨xb,hxb⟩:=jl w.heap.size;rw[<-hxb]at hbx;have HF:=jq (h.later hBW);have HBX:=jq hbx;have HBW:=jq hBW;have HNL:=jq hnl;have HFIT:=jq hf;have HM:=jq hm;have HG0:=jq hg0;have HXB:=jq hxb;have hm0:=hbx.cell 0
 simp at hm0
 clear h hbx hBW hnl hf hm hg0
 go_enter Tryz.func112,Tryz.ntmps112
 go_wp2_with fail
 rw[<-hW,<-hxb];clear hW hxb;refine(put_any ver hv _ _ W HG0.out.own jn (by simp)).mono ?_;rintro e w1 ⟨v1,rfl,hO1,hU1,hv1⟩;have HG1:=jq (HG0.out.step hO1 hU1);have hb1:=HG0.out.box hU1 HBX.out (by decide);have m1:=hb1.cell 1
 simp at m1
 have HB1:=jq hb1;clear hO1 hU1 hv1 hb1 hm0
 go_wp2_with fail
 refine(put_any next (by omega) _ _ w1 HG1.out.own HG1.out.below.size (by have:=vput_length 9 ver (by omega);simp;omega)).mono ?_;rintro e w2 ⟨v2,rfl,hO2,hU2,hv2⟩;have HG2:=jq (HG1.out.step hO2 hU2);have hb2:=HG1.out.box hU2 HB1.out (by decide);have m2:=hb2.cell 2
 simp at m2
 have HB2:=jq hb2;clear hO2 hU2 hv2 hb2 m1
 go_wp2_with fail
 refine(put_any n (by omega) _ _ w2 HG2.out.own HG2.out.below.size (by have:=vput_length 9 ver (by omega);have:=vput_length 9 next (by omega);simp;omega)).mono ?_;rintro e w3 ⟨v3,rfl,hO3,hU3,hv3⟩;have hg3:=HG2.out.step hO3 hU3;have hb3:=HG2.out.box hU3 HB2.out (by decide);have m3:=hb3.cell 2
 simp at m3
 obtain⟨pre,hpre⟩:=jl ( []++vput ver++vput next++vput n);rw[<-hpre]at hg3;have HG3:=jq hg3
 have htot:∀k,(pre++((l.map FR.f).take k).flatMap filL).length<=900000:=λk=>by
  have h1:=HM.out;have h2:=flat_le filL (l.map FR.f) k;have e:bodyL ver next (l.map FR.f)=pre++(l.map FR.f).flatMap filL:=by rw[hpre,HNL.out];unfold bodyL;simp
  rw[e,jL]at h1;rw[jL]
  omega
 have HTOT:=jq htot;have HPRE:=jq hpre;clear hO3 hU3 hv3 hb3 hg3 m2 hpre htot HG1 HG2 HB1 HB2 HBX HG0
 go_wp2_with fail
 go_loopw[3,25] (λx i wr=>∃k,k<=n/\i=.int .i64 k/\Grow W x (pre++((l.map FR.f).take k).flatMap filL) wr) (λ_ i _=>n-(intOf i).toNat)
 case atStart=>exact⟨0,Nat.zero_le _,rfl,by simpa using HG3.out⟩
 case round=>
  obtain⟨k,hk,rfl,hg⟩:=hrel
  by_cases hlt:k<n
  ·obtain⟨x,hx⟩:∃x,l[k]? =some x:=⟨l[k]'(by rw[<-HNL.out];exact hlt),jg _⟩;obtain⟨g,o,rfl,c0,c1,c2,c3⟩:=(HF.out.later hg.below).cells hx;have hxm:=jM hx;obtain⟨hLb,hcb⟩:=HF.out.blocks x hxm;have hfit:=HFIT.out x hxm;obtain⟨⟨nm,id,sz,bl⟩,ba,bc⟩:=x;dsimp only at c0 c1 c2 c3 hLb hcb hfit;obtain⟨cur,hcur⟩:=jl (pre++((l.map FR.f).take k).flatMap filL)
   have hnext:pre++((l.map FR.f).take (k+1)).flatMap filL=cur++filL ⟨nm,id,sz,bl⟩:=by
    rw[hcur,flat_snoc filL (x:=⟨nm,id,sz,bl⟩) (by simp[hx]),List.append_assoc]
   have htk:=HTOT.out (k+1);rw[hnext]at htk;rw[<-hcur]at hg;have HNEXT:=jq hnext;have HG:=jq hg;have HLB:=jq hLb;obtain⟨hid,hsz,hbl⟩:=hfit;have HBL:=jq hbl
   have hl3:cur.length+(vput nm.length).length+nm.length+(vput id).length+(vput sz).length+(blocksL bl).length<=900000:=by
    unfold filL at htk;simp only[jL]at htk
    omega
   clear hnext hg hcur htk hx hxm hLb hbl;obtain⟨bn,hbn⟩:=jl bl.length;rw[<-hbn]at c3 hcb;unfold iv at c2;obtain⟨sb,hsb⟩:∃sb:ByteArray,.string sb=sv nm:=⟨_,rfl⟩
   have hsz2:sb.size=nm.length:=by
    have e:sb=⟨nm.toArray⟩:=by unfold sv at hsb;injection hsb
    rw[e];show nm.toArray.size=_
    simp
   rw[<-hsb]at c0;have HSB:=jq hsb;have HSZ:=jq hsz2;have HBN:=jq hbn;have hsb9:sb.size<=1000000:=by omega
   have hbn9:bn<=1000000:=by have:=blocksL_ge bl;omega
   have hw64:IntKind.u64.wrap (sb.size:Int)=(sb.size:Int):=by rw[IntKind.wrap_u64];omega
   clear hsb hsz2 hbn
   go_wp2_with fail
   obtain⟨fb,hfb⟩:=jl wr.heap.size;obtain⟨WB,hWB⟩:=jl (wr.alloc (.cells #[.string sb,.int .u32 (id:Int),.int .i64 (sz:Int),.slice ba bn bc] 106));have hbB:Blk WB fb 106 #[.string sb,.int .u32 (id:Int),.int .i64 (sz:Int),.slice ba bn bc]:=by rw[hWB,hfb];exact Blk.new wr _ _
   have hGB:Grow W u3 cur WB:=by rw[hWB];exact⟨HG.out.own.alloc _,HG.out.below.alloc HG.out.below.size _⟩
   rw[<-hWB,<-hfb];have hGD:Grow W u3 cur WB.drew:=⟨own_later hGB.own ((Below.refl _ WB).drew),hGB.below.drew⟩;have hbD:Blk WB.drew fb 106 #[.string sb,.int .u32 (id:Int),.int .i64 (sz:Int),.slice ba bn bc]:=hbB;have hS0:WB.drew.cell? ⟨fb,0,none⟩=some (.string sb):=hbD.cell 0;have HGD:=jq hGD;have HBD:=jq hbD;clear hWB hfb hGB hbB hGD hbD c0 c1 c2 c3;have HPA:=jq (put_any sb.size (by omega) _ _ WB.drew HGD.out.own HGD.out.below.size (by omega))
   go_region_held3 (λw'=>w'.cell? ⟨fb,0,none⟩=some (.string sb)) (first|exact hS0|exact hS4|exact hS5) (first|(go_at_call 140;refine HPA.out.mono ?_;rintro e w4 ⟨v4,rfl,hO4,hU4,hv4⟩;have hS4:=(HGD.out.box hU4 HBD.out (by decide)).cell 0;dsimp only)|(obtain⟨v5,w5,hr5,hO5,hg5⟩:=run_append_str w4 27 v4 _ hO4 nm (by have:=vput_length 9 sb.size (by rw[HSZ.out];omega);rw[jL];rw[HSZ.out]at this⊢;omega) (HGD.out.step hO4 hU4).below.size;rw[<-HSB.out]at hr5;have hS5:=((HGD.out.step hO4 hU4).box (Upon.of_grown hg5 (λq hq=>.inl hq)) (HGD.out.box hU4 HBD.out (by decide)) (by decide)).cell 0;refine step_append_run rfl (.tmp 34) (.tmp 36) 27 9 rfl _ _ rfl rfl hr5 ?_))
   have hg4:=HGD.out.step hO4 hU4;have hb4:=HGD.out.box hU4 HBD.out (by decide);have hu5:Upon (λq=>v4.ownBlock=some q) w4 w5:=Upon.of_grown hg5 (λq hq=>.inl hq);have hG5:=hg4.step hO5 hu5;have hb5:=hg4.box hu5 hb4 (by decide);have d1:=hb5.cell 1
   simp at d1
   have HG5:=jq hG5;have HB5:=jq hb5;have hlen5: (cur++vput sb.size++nm).length<=900000:=by rw[HSZ.out];simp only[jL];omega
   clear hO4 hU4 hv4 hr5 hO5 hg5 hS0 hg4 hb4 hu5 hG5 hb5 HPA HGD HBD hw64 hS4 hS5
   rename_i hHeld
   clear hHeld
   go_wp2_with fail
   refine(put_any id (by omega) _ _ w5 HG5.out.own HG5.out.below.size (by omega)).mono ?_;rintro e w6 ⟨v6,rfl,hO6,hU6,hv6⟩;have hb6:=HG5.out.box hU6 HB5.out (by decide);have d2:=hb6.cell 2
   simp at d2
   have HG6:=jq (HG5.out.step hO6 hU6);have HB6:=jq hb6;have hlen6: (cur++vput sb.size++nm++vput id).length<=900000:=by rw[HSZ.out];simp only[jL];omega
   clear hO6 hU6 hv6 hb6 d1
   go_wp2_with fail
   refine(put_any sz (by omega) _ _ w6 HG6.out.own HG6.out.below.size (by omega)).mono ?_;rintro e w7 ⟨v7,rfl,hO7,hU7,hv7⟩;have hb7:=HG6.out.box hU7 HB6.out (by decide);have d3:=hb7.cell 3
   simp at d3
   have hG7:=HG6.out.step hO7 hU7;obtain⟨cur2,hcur2⟩:=jl (cur++vput sb.size++nm++vput id++vput sz);rw[<-hcur2]at hG7;have HG7:=jq hG7;have HCUR2:=jq hcur2
   have hlen7:∀j,(cur2++blocksL (bl.take j)).length<=900000:=λj=>by
    have:=flat_le vput bl j;unfold blocksL;rw[hcur2,HSZ.out];simp only[jL];unfold blocksL at hl3
    omega
   have HLEN7:=jq hlen7;clear hO7 hU7 hv7 hb7 d2 hG7 hcur2 hlen7 hlen5 hlen6 HG5 HG6 HB5 HB6 hl3
   go_wp2_with fail
   go_loopw[3,51] (λy i wq=>∃j,j<=bn/\i=.int .i64 j/\Grow W y (cur2++blocksL (bl.take j)) wq) (λ_ i _=>bn-(intOf i).toNat)
   case atStart=>exact⟨0,Nat.zero_le _,rfl,by simpa[blocksL]using HG7.out⟩
   case round=>
    obtain⟨j,hj,rfl,hgj⟩:=hrel;have HGJ:=jq hgj;clear hgj
    by_cases hjlt:j<bn
    ·obtain⟨q,hq⟩:∃q,bl[j]? =some q:=⟨bl[j]'(by rw[<-HBN.out];exact hjlt),jg _⟩;have hq32:=HBL.out q (jM hq);obtain⟨bg,bo,rfl,cq⟩:=lies_at (HLB.out.later HGJ.out.below) (k:=j) (u:=.int .i64 (q:Int)) (by simp[hq,iv]);have hq1:=HLEN7.out j;have HNQ:Hid (cur2++blocksL (bl.take (j+1))=(cur2++blocksL (bl.take j))++vput q):=jq (by unfold blocksL;rw[flat_snoc vput hq,List.append_assoc]);clear hq
     go_wp2_with fail
     refine(put_any q (Nat.lt_trans hq32 (by decide)) _ _ _ HGJ.out.own HGJ.out.below.size (Nat.le_trans (HLEN7.out j) (by decide))).mono ?_;rintro e w8 ⟨v8,rfl,hO8,hU8,hv8⟩;have HG8:=jq (HGJ.out.step hO8 hU8);clear hO8 hU8 hv8 cq d3 hq1 hq32
     go_wp2_with fail
     go_roundw
     case rel=>exact⟨j+1,Nat.succ_le_of_lt hjlt,by simp,by rw[HNQ.out];exact HG8.out⟩
     case measure=>simp[intOf];omega
    ·obtain rfl:j=bn:=by omega
     have htk:bl.take j=bl:=by rw[HBN.out,List.take_length]
     have hfin:Grow W u3 (pre++((l.map FR.f).take (k+1)).flatMap filL) wr:=by
      rw[HNEXT.out];have h1:=HGJ.out;rw[htk,HCUR2.out,HSZ.out]at h1;unfold filL
      simpa only[List.append_assoc]using h1
     have HFIN:=jq hfin;clear hfin htk hjlt hj
     go_wp2_with fail
     go_roundw
     case rel=>exact⟨k+1,Nat.succ_le_of_lt hlt,by simp,HFIN.out⟩
     case measure=>simp[intOf];omega
  ·obtain rfl:k=n:=by omega
   have htk: (l.map FR.f).take k=l.map FR.f:=by rw[jW (by rw[jP,<-HNL.out];exact Nat.le_refl _)]
   rw[htk]at hg;have HG:=jq hg;clear hg htk hlt hk
   go_wp2_with fail
   go_ret
   refine⟨_,rfl,?_,HBW.out.trans (HG.out.below.mono HBW.out.size)⟩;have h1:=own_mono HG.out.own HBW.out.size;have e:bodyL ver next (l.map FR.f)=pre++(l.map FR.f).flatMap filL:=by rw[HPRE.out,HNL.out];unfold bodyL;simp
   unfold OwnB;rw[e];exact h1
end Mani
end Go.Proofs.YtfgjnpbffppocaaGreatDoor
