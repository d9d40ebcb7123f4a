/- Part. -/
import Derived.Test.YtfgjnpbffppocaaGreatDoorF0
import Derived.Test.YtfgjnpbffppocaaGreatDoorF0Q
import Derived.Test.YtfgjnpbffppocaaGreatDoorF13
import Derived.Test.YtfgjnpbffppocaaGreatDoorF14
import Derived.Test.YtfgjnpbffppocaaGreatDoorF19
import Derived.Test.YtfgjnpbffppocaaGreatDoorF26
import Derived.Test.YtfgjnpbffppocaaGreatDoorF31
import Derived.Test.YtfgjnpbffppocaaGreatDoorF32
import Derived.Test.YtfgjnpbffppocaaGreatDoorF37
import Derived.Test.YtfgjnpbffppocaaGreatDoorIter
import Derived.Deep.RegionHeld3
import Derived.Outline
import Derived.StillTailTactics
import Derived.BigQuiet
import Derived.Deep.QuietTactic
set_option maxHeartbeats 8000000
set_option maxRecDepth 200000
namespace Go.Proofs.YtfgjnpbffppocaaGreatDoor
namespace Full
open Go.RowKit Go.Deep Mem Crc Go.Maps Dk Mani
open Store (Chg chgV isChg none')
def Own (Q:Nat->Prop) (s d g cm:Nat) (wv:Value) (k:Nat):Prop:=Q k/\k≠cm/\k≠s/\¬Has d g wv k
structure Fu (w:World) (Q:Nat->Prop) (s d g cm:Nat) (wv:Value) (m:DM) (ver next:Nat) (a:Option Addr) (c:Nat) (l:List FR) (bad:Bool) (C:Chg):Prop where
 store:Blk w s 111 #[.pointer (some ⟨d,0,none⟩),.int .u64 (ver:Int),.int .u32 (next:Int),.slice a l.length c,.map (some cm),.bool bad]
 disk:Dk w d g wv m
 files:FilesIn w a l
 fr:∀k,Mem.blk a=some k->Own Q s d g cm wv k
 br:∀x∈l,∀k,Mem.blk x.a=some k->Own Q s d g cm wv k
 map:∃f,MapIs w 9 cm f/\(∀x,f x≠none->∃nm,x=.string nm)/\∀nm,isChg w (Own Q s d g cm wv) f C nm
 qs:Q s
 qm:Q cm
 qd:∀k,Has d g wv k->Q k
 lt:∀k,Q k->k<w.heap.size
theorem _root_.Go.Proofs.YtfgjnpbffppocaaGreatDoor.Mani.FilesIn.keep {w w':World} {a:Option Addr} {l:List FR} (h:FilesIn w a l) (hs:w.heap.size<=w'.heap.size) (hk:∀k,Mem.blk a=some k->w'.heap[k]? =w.heap[k]?) (hb:∀x∈l,∀k,Mem.blk x.a=some k->w'.heap[k]? =w.heap[k]?):FilesIn w' a l:=
 ⟨h.row.keep hs hk,λx hx=>⟨(h.blocks x hx).1.keep hs (hb x hx),(h.blocks x hx).2⟩⟩
theorem Fu.keep {w w':World} {Q:Nat->Prop} {s d g cm:Nat} {wv:Value} {m:DM} {ver next:Nat} {a:Option Addr} {c:Nat} {l:List FR} {bad:Bool} {C:Chg} (h:Fu w Q s d g cm wv m ver next a c l bad C) (hs:w.heap.size<=w'.heap.size) (hk:∀k,Q k->w'.heap[k]? =w.heap[k]?):Fu w' Q s d g cm wv m ver next a c l bad C:=by
 obtain⟨f,h1,h2,h3⟩:=h.map;exact⟨(hk s h.qs).trans h.store,h.disk.keep hs (λk hq=>hk k (h.qd k hq)),h.files.keep hs (λk e=>hk k (h.fr k e).1) (λx hx k e=>hk k (h.br x hx k e).1),h.fr,h.br,⟨f,h1.keep (hk cm h.qm),h2,λnm=>(h3 nm).keep hs (λk hq=>hk k hq.1) (λ_ h=>h)⟩,h.qs,h.qm,h.qd,λk hq=>Nat.lt_of_lt_of_le (h.lt k hq) hs⟩
theorem Fu.later {w w':World} {Q:Nat->Prop} {s d g cm:Nat} {wv:Value} {m:DM} {ver next:Nat} {a:Option Addr} {c:Nat} {l:List FR} {bad:Bool} {C:Chg} (h:Fu w Q s d g cm wv m ver next a c l bad C) (hB:Below w.heap.size w w'):Fu w' Q s d g cm wv m ver next a c l bad C:=h.keep hB.size (λk hq=>hB.block k (h.lt k hq))
theorem Fu.upon {w w':World} {P Q:Nat->Prop} {s d g cm:Nat} {wv:Value} {m:DM} {ver next:Nat} {a:Option Addr} {c:Nat} {l:List FR} {bad:Bool} {C:Chg} (h:Fu w Q s d g cm wv m ver next a c l bad C) (hB:Upon P w w') (hP:∀k,P k->¬Q k):Fu w' Q s d g cm wv m ver next a c l bad C:=h.keep hB.size (λk hq=>hB.block k (h.lt k hq) (λhp=>hP k hp hq))
theorem Fu.cells {w:World} {Q:Nat->Prop} {s d g cm:Nat} {wv:Value} {m:DM} {ver next:Nat} {a:Option Addr} {c:Nat} {l:List FR} {bad:Bool} {C:Chg} (h:Fu w Q s d g cm wv m ver next a c l bad C):
  w.cell? ⟨s,0,none⟩=some (.pointer (some ⟨d,0,none⟩))/\w.cell? ⟨s,1,none⟩=some (.int .u64 (ver:Int))/\w.cell? ⟨s,2,none⟩=some (.int .u32 (next:Int))/\w.cell? ⟨s,3,none⟩=some (.slice a l.length c)/\w.cell? ⟨s,4,none⟩=some (.map (some cm))/\w.cell? ⟨s,5,none⟩=some (.bool bad):=by
 refine⟨?_,?_,?_,?_,?_,?_⟩ <;> rw[h.store.cell] <;> rfl
attribute [local go_sem] Oper.semAt_some
theorem down_any {w:World} {Q:Nat->Prop} {s d g cm:Nat} {wv:Value} {m:DM} {ver next:Nat} {a:Option Addr} {c:Nat} {l:List FR} {bad:Bool} {C:Chg} (h:Fu w Q s d g cm wv m ver next a c l bad C):
  Calls Tryz.prog 62 #[.pointer (some ⟨s,0,none⟩)] w λe w'=>e=.returned (.bool (bad||m.off))/\w'=w:=by
 obtain⟨c0,_,_,_,_,c5⟩:=h.cells;have HO:=jq (on_any h.disk);obtain⟨off,hoff⟩:=jl m.off;rw[<-hoff]at HO⊢;clear h hoff;cases bad
 ·go_enter Tryz.func62,Tryz.ntmps62
  go_wp2_with fail
  refine HO.out.mono ?_;rintro e w1 ⟨rfl,rfl⟩
  go_wp2_with fail
  go_ret
  exact⟨by simp,rfl⟩
 ·go_enter Tryz.func62,Tryz.ntmps62
  go_wp2_with fail
  go_ret
  exact⟨by simp,rfl⟩
end Full
namespace Full
open Go.RowKit Go.Deep Mem Crc Go.Maps Dk Mani
open Store (Chg chgV isChg none')
open Ext (Holds turnK turnE Row Ints cnt hold_any new_any fresh_holds)
def ints (l:List Nat):List Int:=l.map (λi:Nat=>(i:Int))
def slotsK (n j:Nat):List Bool:=(List.range j).foldl (fun(k:List Bool) (i:Nat)=>turnK k [(i:Int)] false) (List.replicate n false)
theorem slotsK_succ (n j:Nat):slotsK n (j+1)=turnK (slotsK n j) [(j:Int)] false:=by unfold slotsK;rw[List.range_succ,List.foldl_append];rfl
def filesK (k:List Bool) (fs:List Fil):List Bool:=fs.foldl (fun(k:List Bool) (f:Fil)=>turnK k (ints f.blocks) false) k
theorem filesK_snoc {k:List Bool} {fs:List Fil} {j:Nat} {f:Fil} (h:fs[j]? =some f):filesK k (fs.take (j+1))=turnK (filesK k (fs.take j)) (ints f.blocks) false:=by unfold filesK;rw[List.take_add_one,h,List.foldl_append];rfl
def freeK (n:Nat) (fs:List Fil):List Bool:=filesK (slotsK n 32) fs
theorem iv_ints (l:List Nat):l.map iv=(ints l).map (Value.int .i64):=by unfold ints;rw[List.map_map];rfl
theorem ints_at {w:World} {b off:Nat} {l:List Nat} (h:∀j u,(l.map iv)[j]? =some u->w.cell? ⟨b,off+j,none⟩=some u):Ints w b off (ints l):=λi x hx=>by
 refine h i _ ?_;rw[iv_ints,List.getElem?_map,hx]
 rfl
theorem row_of {w:World} {bs:List Nat} {a:Option Addr} {cp:Nat} {l:List Nat} (h:Lies w a (l.map iv)) (hc:l.length<=cp) (hn:l.length<=100000) (hb:∀k,Mem.blk a=some k->k∉bs):Row w bs a cp (ints l):=by
 refine⟨by unfold ints;simpa using hc,by unfold ints;simpa using hn,?_⟩;rcases h with h0|⟨g,o,rfl,hg,hc⟩
 ·left
  unfold ints;rw[List.map_eq_nil_iff]at h0⊢;exact h0
 ·exact .inr ⟨g,o,rfl,hg,hb g rfl,ints_at hc⟩
attribute [local go_sem] Oper.semAt_some
theorem free_any {w:World} {Q:Nat->Prop} {s d g cm:Nat} {wv:Value} {m:DM} {ver next:Nat} {a:Option Addr} {c:Nat} {l:List FR} {bad:Bool} {C:Chg} (h:Fu w Q s d g cm wv m ver next a c l bad C) (hl:l.length<=100000) (hb:∀x∈l,x.f.blocks.length<=100000):
  Calls Tryz.prog 92 #[.pointer (some ⟨s,0,none⟩)] w λe w'=>∃Cb gb cap,e=.returned (.pointer (some ⟨Cb,0,none⟩))/\Holds Cb gb cap (freeK m.bl.length (l.map FR.f)) w'/\w.heap.size<=Cb/\w.heap.size<=gb/\Below w.heap.size w w':=by
 obtain⟨c0,_,_,c3,_,_⟩:=h.cells;have HC:=jq (count_any h.disk);have hsm:=h.disk.small;obtain⟨n,hn⟩:=jl m.bl.length;rw[<-hn]at HC hsm⊢;have hsl:=h.store.lt;obtain⟨L,hL⟩:=jl l.length;rw[<-hL]at c3 hl;have HN:=jq (new_any (n:Int) w);have H:=jq h;have HBL:=jq hb;have HL:=jq hL;clear h hb hn hL
 go_enter Tryz.func92,Tryz.ntmps92
 go_wp2_with fail
 refine HC.out.mono ?_;rintro e w0 ⟨rfl,rfl⟩
 go_wp2_with fail
 refine HN.out.mono ?_;rintro e w1 ⟨rfl,hF⟩;have hH:=fresh_holds hF;have hcn:cnt (n:Int)=n:=by unfold cnt;omega
 rw[hcn,show((n:Int)).toNat=n by omega]at hH;obtain⟨cap,hcap⟩:=jl ((((n:Int)+63)/64).toNat);rw[<-hcap]at hH;have HB1:=jq hF.below;have HH:=jq hH;obtain⟨gb,hgb⟩:=jl w0.heap.size;rw[<-hgb]at HH⊢;have HG:=jq hgb;have hk3:=(hF.below.cell (p:=⟨s,3,none⟩) hsl).trans c3;clear hF hH hcn hcap hgb c0 c3 HN HC
 go_wp2_with fail
 go_loopw[13] (λi wr=>∃j:Nat,j<=32/\i=.int .i64 j/\Hid (Holds (gb+1) gb cap (slotsK n j) wr)/\Hid (Below w0.heap.size w0 wr)) (λi _=>32-(intOf i).toNat)
 case atStart=>exact⟨0,by omega,rfl,HH,HB1⟩
 case round=>
  obtain⟨j,hj,rfl,hH,hB⟩:=hrel
  by_cases hlt:j<32
  ·have hjd:decide ((j:Int) <32)=true:=jd (by omega);have hW:Holds (gb+1) gb cap (slotsK n j) (wr.alloc (.cells #[.int .i64 (j:Int)] 3)):=hH.out.later ((Below.refl _ wr).alloc jn _);have hlt2:=hH.out.lt
   have hrow:Row (wr.alloc (.cells #[.int .i64 (j:Int)] 3)) [gb+1,gb] (some ⟨wr.heap.size,0,none⟩) 1 [(j:Int)]:=by
    refine⟨by simp,by simp,.inr ⟨_,0,rfl,by simp,by simp;omega,λi x hx=>?_⟩⟩
    cases i with
    |zero=>
     simp at hx
     subst hx;rw[(Blk.new wr _ _).cell]
     rfl
    |succ i=>simp at hx
   have hho:=hold_any (gb+1) gb cap 1 _ (slotsK n j) [(j:Int)] _ hW hrow;rw[<-slotsK_succ]at hho;have HHO:=jq hho;have hBa:=jq (hB.out.alloc hB.out.size (.cells #[.int .i64 (j:Int)] 3));clear hW hrow hho hlt2
   go_wp2_with fail
   refine HHO.out.mono ?_;rintro e w2 ⟨rfl,hh,ho⟩;have hg0:=HG.out;have hB2:Below w0.heap.size w0 w2:=hBa.out.trans (ho.below (by have:=hBa.out.size;omega) (λq hq=>by simp at hq;omega));have HH2:=jq hh;have HB2:=jq hB2;clear hh ho hB2 hg0 HHO hBa
   go_wp2_with fail
   exact⟨⟨j+1,by omega,by simp,HH2,HB2⟩,by simp[intOf];omega⟩
  ·have e32:j=32:=by omega
   have hjd:decide ((j:Int) <32)=false:=jf (by omega);have hk:=(hB.out.cell (p:=⟨s,3,none⟩) hsl).trans ((HB1.out.cell (p:=⟨s,3,none⟩) hsl).symm.trans hk3)
   go_wp2_with fail
   obtain⟨K32,hK⟩:=jl (slotsK n 32);rw[e32,<-hK]at hH;clear e32;have HK:=jq hK
   have hF0:Hid (Holds (gb+1) gb cap (filesK K32 ((l.map FR.f).take 0)) wr):=by
    rw[List.take_zero];exact hH
   clear hK
   go_loopw[27] (λi wr=>∃j:Nat,j<=L/\i=.int .i64 j/\Hid (Holds (gb+1) gb cap (filesK K32 ((l.map FR.f).take j)) wr)/\Hid (Below w0.heap.size w0 wr)) (λi _=>L-(intOf i).toNat)
   case atStart=>exact⟨0,Nat.zero_le _,rfl,hF0,hB⟩
   case round=>
    clear hF0 hH hB hk;obtain⟨j,hj,rfl,hH,hB⟩:=hrel
    by_cases hlt:j<L
    ·have hjd:decide ((j:Int) <(L:Int))=true:=jd (by omega);obtain⟨x,hx⟩:∃x,l[j]? =some x:=⟨l[j]'(by rw[<-HL.out];exact hlt),jg _⟩;have hxm:=jM hx;obtain⟨ga,oa,rfl,f0,f1,f2,f3⟩:=(H.out.later hB.out).files.cells hx;obtain⟨W,hW⟩:=jl (wr.alloc (.cells #[sv x.f.name,.int .u32 (x.f.id:Int),iv x.f.size,.slice x.a x.f.blocks.length x.c] 106));have hBW:Below wr.heap.size wr W:=by rw[hW];exact(Below.refl _ wr).alloc jn _
     have hHW:=hH.out.later hBW;have hge:w0.heap.size<=gb:=by have:=HG.out;omega
     have hbw:=hB.out.size
     have hrow:Row W [gb+1,gb] x.a x.c (ints x.f.blocks):=row_of (((H.out.later hB.out).later hBW).files.blocks x hxm).1 (H.out.files.blocks x hxm).2 (HBL.out x hxm) (λk hk hm=>by
      have:=H.out.lt k (H.out.br x hxm k hk).1
      simp at hm
      omega)
     have hho:=hold_any (gb+1) gb cap x.c x.a _ (ints x.f.blocks) W hHW hrow;rw[<-filesK_snoc (show(l.map FR.f)[j]? =some x.f by rw[List.getElem?_map,hx];rfl),show(ints x.f.blocks).length=x.f.blocks.length by unfold ints;simp]at hho;have b3:W.cell? ⟨wr.heap.size,3,none⟩=some (.slice x.a x.f.blocks.length x.c):=by rw[hW,(Blk.new wr _ _).cell];rfl
     have hBa:=jq (hB.out.trans (hBW.mono hbw));have HHO:=jq hho;obtain⟨sb,hnm⟩:∃sb:ByteArray,sv x.f.name=.string sb:=⟨_,rfl⟩;obtain⟨sz,hsz⟩:=jl x.f.size;obtain⟨id,hid⟩:=jl x.f.id;obtain⟨bn,hbn⟩:=jl x.f.blocks.length;unfold iv at f2 hW;rw[hnm]at f0 hW;rw[<-hid]at f1 hW;rw[<-hsz]at f2 hW;rw[<-hbn]at f3 hW b3 HHO;have HW:=jq hW;clear hH hB hBW hHW hho hrow hnm hid hsz hbn hx hxm hW
     go_wp2_with fail
     rw[<-HW.out];refine HHO.out.mono ?_;rintro e w2 ⟨rfl,hh,ho⟩;have hB2:Below w0.heap.size w0 w2:=hBa.out.trans (ho.below (by have:=hBa.out.size;omega) (λq hq=>by simp at hq;omega));have HH2:=jq hh;have HB2:=jq hB2;clear hh ho hB2
     go_wp2_with fail
     exact⟨⟨j+1,by omega,by simp,HH2,HB2⟩,by simp[intOf];omega⟩
    ·obtain rfl:j=L:=by omega
     have hjd:decide ((j:Int) <(j:Int))=false:=jf (by omega);have hfin:=hH.out;have hfk:freeK n (l.map FR.f)=filesK K32 (l.map FR.f):=by unfold freeK;rw[HK.out]
     have HFK:=jq hfk;clear hfk;rw[jW (by rw[jP];have:=HL.out;omega)]at hfin;have HFIN:=jq hfin;have hsz:=hB.out.size;clear hfin hH
     go_wp2_with fail
     go_ret
     have:=HG.out;exact⟨gb+1,gb,cap,rfl,by rw[HFK.out];exact HFIN.out,by omega,by omega,hB.out⟩
end Full
namespace Full
open Go.RowKit Mani Varint
open Store (Chg)
open Ext (takeL takeK freeN freeL flips flipK fits outs tak tak_flip tak_le frees frees_mem freeL_length takeL_fits flips_length flipK_length)
def rises (l:List Fil):Prop:=l.Pairwise (λf g=>f.name<g.name)
def insAt (nm:List UInt8):List Fil->Nat
 | []=>0
 |f ::r=>if f.name<nm then insAt nm r+1 else 0
def insF (f:Fil) (l:List Fil):List Fil:=l.take (insAt f.name l)++f ::l.drop (insAt f.name l)
theorem insAt_eq (nm:List UInt8):∀(l:List Fil) (i:Nat),i<=l.length->(∀k x,k<i->l[k]? =some x->x.name<nm)->(∀k x,i<=k->l[k]? =some x->¬x.name<nm)->insAt nm l=i
 | [],i,hi,_,_=>by simp at hi;subst hi;rfl
 |f ::r,0,_,_,h2=>by
  have:=h2 0 f jn rfl;unfold insAt;rw[if_neg this]
 |f ::r,i+1,hi,h1,h2=>by
  have:=h1 0 f (by omega) rfl;unfold insAt;rw[if_pos this,insAt_eq nm r i (by simpa using hi) (λk x hk hx=>h1 (k+1) x (by omega) (by simpa using hx)) (λk x hk hx=>h2 (k+1) x (by omega) (by simpa using hx))]
theorem insAt_le (nm:List UInt8):∀l:List Fil,insAt nm l<=l.length
 | []=>Nat.le_refl _
 |f ::r=>by
  have:=insAt_le nm r;unfold insAt
  split <;> simp <;> omega
theorem insAt_ahead (nm:List UInt8):∀(l:List Fil),∀x∈l.take (insAt nm l),x.name<nm
 | [],x,hx=>by simp at hx
 |f ::r,x,hx=>by
  unfold insAt at hx
  by_cases h:f.name<nm
  ·rw[if_pos h,List.take_succ_cons]at hx;rcases List.mem_cons.1 hx with rfl|hx
   ·exact h
   ·exact insAt_ahead nm r x hx
  ·rw[if_neg h]at hx
   simp at hx
theorem insAt_behind (nm:List UInt8):∀(l:List Fil),rises l->∀x∈l.drop (insAt nm l),¬x.name<nm
 | [],_,x,hx=>by simp at hx
 |f ::r,hr,x,hx=>by
  have hr2:=List.pairwise_cons.1 hr;unfold insAt at hx
  by_cases h:f.name<nm
  ·rw[if_pos h,List.drop_succ_cons]at hx;exact insAt_behind nm r hr2.2 x hx
  ·rw[if_neg h,List.drop_zero]at hx;rcases List.mem_cons.1 hx with rfl|hx
   ·exact h
   ·exact λh3=>h (List.lt_trans (hr2.1 x hx) h3)
theorem name_lt_of {a b:List UInt8} (h:¬a<b) (hne:a≠b):b<a:=by
 have:b<=a:=List.not_lt.1 h;rcases List.le_iff_lt_or_eq.1 this with h2|h2
 ·exact h2
 ·exact absurd h2.symm hne
theorem rises_ins {l:List Fil} {f:Fil} (h:rises l) (hn:∀x∈l,x.name≠f.name):rises (insF f l):=by
 have h1:rises (l.take (insAt f.name l)):=h.sublist (List.take_sublist _ _);have h2:rises (l.drop (insAt f.name l)):=h.sublist (List.drop_sublist _ _);have hA:=insAt_ahead f.name l;have hB:∀x∈l.drop (insAt f.name l),f.name<x.name:=λx hx=>name_lt_of (insAt_behind f.name l h x hx) (hn x (List.mem_of_mem_drop hx))
 unfold insF rises;refine List.pairwise_append.2 ⟨h1,List.pairwise_cons.2 ⟨hB,h2⟩,λa ha b hb=>?_⟩;rcases List.mem_cons.1 hb with rfl|hb
 ·exact hA a ha
 ·exact List.lt_trans (hA a ha) (hB b hb)
theorem mem_ins {l:List Fil} {f x:Fil}:x∈insF f l↔x=f\/x∈l:=by
 have e: (x∈l.take (insAt f.name l)\/x∈l.drop (insAt f.name l))↔x∈l:=by rw[<-List.mem_append,List.take_append_drop]
 unfold insF;rw[List.mem_append,List.mem_cons]
 constructor
 ·rintro(h|h|h)
  ·exact .inr (e.1 (.inl h))
  ·exact .inl h
  ·exact .inr (e.1 (.inr h))
 ·rintro(h|h)
  ·exact .inr (.inl h)
  ·rcases e.2 h with h|h
   ·exact .inl h
   ·exact .inr (.inr h)
theorem ins_length (f:Fil) (l:List Fil): (insF f l).length=l.length+1:=by
 have:=insAt_le f.name l;unfold insF;rw[jL,List.length_cons,jT,List.length_drop]
 omega
theorem ins_perm (f:Fil) (l:List Fil): (insF f l).Perm (f ::l):=by
 unfold insF;have:=List.perm_middle (a:=f) (l₁:=l.take (insAt f.name l)) (l₂:=l.drop (insAt f.name l))
 rwa [List.take_append_drop]at this
theorem bks_ins (f:Fil) (l:List Fil): (bksL (insF f l)).length=f.blocks.length+(bksL l).length:=by
 have h:=(List.Perm.flatMap_right Fil.blocks (ins_perm f l)).length_eq;unfold bksL;rw[h,jC,jL]
theorem bksL_mem {l:List Fil} {f:Fil} (h:f∈l):f.blocks.length<=(bksL l).length:=by
 unfold bksL
 induction l with
 |nil=>simp at h
 |cons x r ih=>
  rw[jC,jL];rcases List.mem_cons.1 h with rfl|h
  ·omega
  ·have:=ih h
   omega
structure PL where
 k:List Bool
 next:Nat
 fs:List Fil
def newF (nm b:List UInt8) (p:PL):Fil:=⟨nm,p.next,b.length,(takeL p.k (many b.length:Nat)).map Int.toNat⟩
def stepF (C:Chg) (nm:List UInt8) (p:PL):Option PL:=
 match C nm with
 |some (some b)=>if freeN p.k<many b.length then none else some ⟨takeK p.k (many b.length:Nat),(p.next+1)%4294967296,insF (newF nm b p) p.fs⟩
 |_=>some p
def planF (C:Chg) (ss:List (List UInt8)) (p:PL):Option PL:=ss.foldl (λo nm=>o.bind (stepF C nm)) (some p)
theorem planF_snoc (C:Chg) {ss:List (List UInt8)} {j:Nat} {nm:List UInt8} (h:ss[j]? =some nm) (p:PL):planF C (ss.take (j+1)) p=(planF C (ss.take j) p).bind (stepF C nm):=by
 unfold planF;rw[List.take_add_one,h,List.foldl_append]
 rfl
theorem foldl_none (C:Chg):∀ss:List (List UInt8),ss.foldl (fun(o:Option PL) nm=>o.bind (stepF C nm)) none=none
 | []=>rfl
 |_ ::r=>foldl_none C r
theorem planF_none (C:Chg) {ss:List (List UInt8)} {j:Nat} {p:PL} (h:planF C (ss.take j) p=none):planF C ss p=none:=by
 unfold planF at h⊢;rw[<-List.take_append_drop j ss,List.foldl_append,h];exact foldl_none C _
def keepF (C:Chg) (l:List Fil):List Fil:=l.filter (λf=>(C f.name).isNone)
def startF (C:Chg) (n next:Nat) (l:List Fil):PL:=⟨freeK n l,next,keepF C l⟩
theorem takeL_mem {k:List Bool} {N:Int} {x:Int} (h:x∈takeL k N):∃i:Nat,x=i/\i<k.length/\k.getD i true=false:=by
 unfold Ext.takeL at h
 split at h
 ·simp at h
 ·have:=List.mem_of_mem_take h;unfold Ext.freeL at this;exact(frees_mem _ _ _).1 this
theorem takeL_length {k:List Bool} {N:Nat} (h:N<=freeN k): (takeL k (N:Int)).length=N:=by
 unfold Ext.takeL;rw[if_neg (by omega),jT,freeL_length]
 omega
theorem tak_flips:∀(l:List Int) (k:List Bool),fits false k l=true->l.any (outs k.length)=false->tak (flips k l)=tak k+l.length
 | [],k,_,_=>rfl
 |i ::r,k,h,ho=>by
  unfold Ext.fits at h;rw[Bool.and_eq_true]at h;rw[List.any_cons,Bool.or_eq_false_iff]at ho
  have hi:i.toNat<k.length:=by
   have:=ho.1;unfold Ext.outs at this
   simp at this
   omega
  have h1:k.getD i.toNat false=false:=by simpa using h.1
  have h2:=tak_flip k i.toNat hi;rw[h1]at h2
  have h3:tak (flipK k i.toNat)=tak k+1:=by
   have:Ext.next (!false) (tak k:Int)=tak k+1:=rfl;rw[this]at h2
   omega
  have h4:=tak_flips r (flipK k i.toNat) h.2 (by rw[flipK_length];exact ho.2);show tak (flips (flipK k i.toNat) r)=_;rw[h4,h3,List.length_cons]
  omega
theorem free_take {k:List Bool} {N:Nat} (h:N<=freeN k):freeN (takeK k (N:Int))+N=freeN k:=by
 have h1:=takeL_fits k (N:Int);have h2:=tak_flips _ k h1.1 h1.2;have h3:=takeL_length h;have h4:=tak_le k;have h5:=tak_le (takeK k (N:Int));unfold Ext.freeN at h⊢;unfold Ext.takeK at h5⊢;rw[flips_length]at h5⊢
 omega
structure PInv (C:Chg) (n M S:Nat) (done:List (List UInt8)) (p:PL):Prop where
 len:p.k.length=n
 next:p.next<4294967296
 rise:rises p.fs
 names:∀f∈p.fs,C f.name=none\/f.name∈done
 short:∀f∈p.fs,f.name.length<=32
 fit:∀f∈p.fs,f.fits/\∀i∈f.blocks,i<65536
 count:p.fs.length<=M+done.length
 sum: (bksL p.fs).length+freeN p.k<=S
theorem newF_length {nm b:List UInt8} {p:PL} (h:many b.length<=freeN p.k): (newF nm b p).blocks.length=many b.length:=by
 unfold newF;rw[jP];exact takeL_length h
theorem PInv.step {C:Chg} {n M S:Nat} {done:List (List UInt8)} {p p':PL} (h:PInv C n M S done p) (hn:n<=65536) {nm:List UInt8} (hnm:nm∉done) (hc:C nm≠none) (hs:nm.length<=32) (hb:∀b,C nm=some (some b)->b.length<=1048576) (hp:stepF C nm p=some p'):PInv C n M S (done++ [nm]) p':=by
 unfold stepF at hp
 cases hC:C nm with
 |none=>exact absurd hC hc
 |some c=>
  rw[hC]at hp
  cases c with
  |none=>
   have hp:=Option.some.inj hp;subst hp;exact⟨h.len,h.next,h.rise,λf hf=>(h.names f hf).imp id (λh=>by simp[h]),h.short,h.fit,by have:=h.count;rw[jL];omega,h.sum⟩
  |some b=>
   dsimp only at hp;have hbl:=hb b hC
   by_cases hf:freeN p.k<many b.length
   ·rw[if_pos hf]at hp;cases hp
   ·rw[if_neg hf]at hp;have hp:=Option.some.inj hp;subst hp;have hN:many b.length<=freeN p.k:=by omega
    have hbks:∀i∈(newF nm b p).blocks,i<65536:=λi hi=>by
     unfold newF at hi;obtain⟨x,hx,rfl⟩:=List.mem_map.1 hi;obtain⟨i,rfl,h1,_⟩:=takeL_mem hx;have:=h.len
     simp
     omega
    refine⟨?_,Nat.mod_lt _ (by decide),rises_ins h.rise (λx hx e=>?_),λf hf=>?_,λf hf=>?_,λf hf=>?_,?_,?_⟩
    ·show(takeK p.k _).length=n;unfold Ext.takeK;rw[flips_length];exact h.len
    ·have e2:x.name=nm:=e;rcases h.names x hx with h1|h1
     ·rw[e2]at h1;exact hc h1
     ·rw[e2]at h1;exact hnm h1
    ·rcases mem_ins.1 hf with rfl|hf
     ·exact .inr (by show nm∈_;simp)
     ·exact(h.names f hf).imp id (λh=>by simp[h])
    ·rcases mem_ins.1 hf with rfl|hf
     ·exact hs
     ·exact h.short f hf
    ·rcases mem_ins.1 hf with rfl|hf
     ·exact⟨⟨h.next,by show b.length<_;omega,λi hi=>by have:=hbks i hi;omega⟩,hbks⟩
     ·exact h.fit f hf
    ·show(insF _ _).length<=_;rw[ins_length,jL];have:=h.count
     simp
     omega
    ·show(bksL (insF _ _)).length+freeN (takeK p.k _)<=S;rw[bks_ins,newF_length hN];have:=free_take hN;have:=h.sum
     omega
theorem filL_le {f:Fil} (h1:f.name.length<=32) (h2:f.fits) (h3:∀i∈f.blocks,i<65536): (filL f).length<=43+3*f.blocks.length:=by
 have a1:=vput_length 0 f.name.length (by omega);have a2:=vput_length 4 f.id (by have:=h2.id;omega);have a3:=vput_length 4 f.size (by have:=h2.size;omega)
 have a4:∀l:List Nat,(∀i∈l,i<65536)->(blocksL l).length<=3*l.length:=by
  intro l
  induction l with
  |nil=>intro _;exact Nat.le_refl _
  |cons i r ih=>
   intro h;have b1:=vput_length 2 i (by have:=h i (by simp);omega);have b2:=ih (λx hx=>h x (by simp[hx]));unfold blocksL at b2⊢;rw[jC,jL,List.length_cons]
   omega
 have a5:=a4 f.blocks h3;unfold filL;simp only[jL]
 omega
theorem body_le {ver next:Nat} {fs:List Fil} (hv:ver<18446744073709551616) (hn:next<4294967296) (h:∀f∈fs,f.name.length<=32/\f.fits/\∀i∈f.blocks,i<65536) (hc:fs.length<=12000) (hs: (bksL fs).length<=100000): (bodyL ver next fs).length<=900000:=by
 have a1:=vput_length 9 ver (by omega);have a2:=vput_length 4 next (by omega);have a3:=vput_length 9 fs.length (by omega)
 have a4:∀l:List Fil,(∀f∈l,f.name.length<=32/\f.fits/\∀i∈f.blocks,i<65536)->(l.flatMap filL).length<=43*l.length+3*(bksL l).length:=by
  intro l
  induction l with
  |nil=>intro _;exact Nat.le_refl _
  |cons f r ih=>
   intro h;obtain⟨b1,b2,b3⟩:=h f (by simp);have b4:=filL_le b1 b2 b3;have b5:=ih (λx hx=>h x (by simp[hx]));unfold bksL at b5⊢;rw[jC,jL,jC,jL,List.length_cons]
   omega
 have a5:=a4 fs h;unfold bodyL;simp only[jL]
 omega
theorem turnK_len (k:List Bool) (l:List Int) (t:Bool): (Ext.turnK k l t).length=k.length:=by
 unfold Ext.turnK
 split
 ·rfl
 ·split
  ·exact flips_length _ _
  ·rfl
theorem filesK_len (fs:List Fil):∀k:List Bool,(filesK k fs).length=k.length:=by
 induction fs with
 |nil=>intro k;rfl
 |cons f r ih=>
  intro k;show(filesK (Ext.turnK k (ints f.blocks) false) r).length=_;rw[ih,turnK_len]
theorem slotsK_len (n:Nat):∀j,(slotsK n j).length=n
 |0=>by simp[slotsK]
 |j+1=>by rw[slotsK_succ,turnK_len,slotsK_len n j]
theorem freeK_len (n:Nat) (fs:List Fil): (freeK n fs).length=n:=by
 unfold freeK;rw[filesK_len,slotsK_len]
theorem bks_filter (q:Fil->Bool):∀l:List Fil,(bksL (l.filter q)).length<=(bksL l).length
 | []=>Nat.le_refl _
 |f ::r=>by
  have:=bks_filter q r;unfold bksL at this⊢
  cases hq:q f with
  |true=>
   rw[List.filter_cons_of_pos hq,jC,jC,jL,jL]
   omega
  |false=>
   rw[List.filter_cons_of_neg (by rw[hq];decide),jC,jL]
   omega
theorem pinv_start {C:Chg} {n next:Nat} {fs:List Fil} (hn:n<=65536) (hx:next<4294967296) (hr:rises fs) (hl:∀f∈fs,f.name.length<=32/\f.fits/\∀i∈f.blocks,i<65536) (hc:fs.length<=2100) (hb: (bksL fs).length<=2100):PInv C n 2100 70000 [] (startF C n next fs):=by
 have hm:∀f∈keepF C fs,f∈fs/\C f.name=none:=λf hf=>by
  have:=List.mem_filter.1 hf;exact⟨this.1,Option.isNone_iff_eq_none.1 this.2⟩
 refine⟨freeK_len n fs,hx,hr.sublist (List.filter_sublist),λf hf=>.inl (hm f hf).2,λf hf=>(hl f (hm f hf).1).1,λf hf=>(hl f (hm f hf).1).2,?_,?_⟩
 ·show(keepF C fs).length<=_;have: (keepF C fs).length<=fs.length:=List.length_filter_le _ _
  simp
  omega
 ·show(bksL (keepF C fs)).length+freeN (freeK n fs)<=_;have h1:=bks_filter (λf=>(C f.name).isNone) fs;have h2:freeN (freeK n fs)<=(freeK n fs).length:=by unfold Ext.freeN;omega
  rw[freeK_len]at h2;unfold keepF
  omega
theorem PInv.may {C:Chg} {n ver:Nat} {done:List (List UInt8)} {p:PL} (h:PInv C n 2100 70000 done p) (hd:done.length<=9000) (hv:ver<18446744073709551616): (bodyL ver p.next p.fs).length<=900000:=
 body_le hv h.next (λf hf=>⟨h.short f hf,h.fit f hf⟩) (by have:=h.count;omega) (by have:=h.sum;omega)
end Full
namespace Full
open Go.RowKit Mani
open Store (Chg)
open Ext (takeL takeK freeN flips flipK flipK_at fits takeL_fits)
structure IsNew (n:Nat) (b:List UInt8) (f:Fil):Prop where
 size:f.size=b.length
 many:f.blocks.length=many b.length
 in_:∀i∈f.blocks,i<n
theorem step_new {C:Chg} {n:Nat} {nm:List UInt8} {p p':PL} (hl:p.k.length=n) (h:∀f∈p.fs,C f.name=none\/∃b,C f.name=some (some b)/\IsNew n b f) (hp:stepF C nm p=some p'):p'.k.length=n/\∀f∈p'.fs,C f.name=none\/∃b,C f.name=some (some b)/\IsNew n b f:=by
 unfold stepF at hp
 cases hC:C nm with
 |none=>
  rw[hC]at hp;have hp:=Option.some.inj hp;subst hp;exact⟨hl,h⟩
 |some c=>
  rw[hC]at hp
  cases c with
  |none=>
   have hp:=Option.some.inj hp;subst hp;exact⟨hl,h⟩
  |some b=>
   dsimp only at hp
   by_cases hf:freeN p.k<Mani.many b.length
   ·rw[if_pos hf]at hp;cases hp
   ·rw[if_neg hf]at hp;have hp:=Option.some.inj hp;subst hp;refine⟨?_,λf hf2=>?_⟩
    ·show(takeK p.k _).length=n;unfold Ext.takeK;rw[Ext.flips_length];exact hl
    ·rcases mem_ins.1 hf2 with rfl|hf2
     ·refine .inr ⟨b,hC,rfl,newF_length (by omega),λi hi=>?_⟩;unfold newF at hi;obtain⟨x,hx,rfl⟩:=List.mem_map.1 hi;obtain⟨j,rfl,h1,_⟩:=takeL_mem hx
      simp
      omega
     ·exact h f hf2
theorem plan_new {C:Chg} {n:Nat}:∀(ss:List (List UInt8)) {p p':PL},p.k.length=n->(∀f∈p.fs,C f.name=none\/∃b,C f.name=some (some b)/\IsNew n b f)->planF C ss p=some p'->∀f∈p'.fs,C f.name=none\/∃b,C f.name=some (some b)/\IsNew n b f
 | [],p,p',_,h,hp=>by
  have hp:some p=some p':=hp;cases hp;exact h
 |nm ::r,p,p',hl,h,hp=>by
  unfold planF at hp;rw[List.foldl_cons]at hp
  cases hs:stepF C nm p with
  |none=>
   rw[show(some p:Option PL).bind (stepF C nm)=none from hs,foldl_none]at hp;cases hp
  |some q=>
   rw[show(some p:Option PL).bind (stepF C nm)=some q from hs]at hp;obtain⟨h1,h2⟩:=step_new hl h hs;exact plan_new r h1 h2 hp
theorem start_new {C:Chg} {n next:Nat} {fs:List Fil}: (startF C n next fs).k.length=n/\∀f∈(startF C n next fs).fs,C f.name=none\/∃b,C f.name=some (some b)/\IsNew n b f:=
 ⟨freeK_len n fs,λ_ hf=>.inl (Option.isNone_iff_eq_none.1 (List.mem_filter.1 hf).2)⟩
end Full
namespace Full
open Go.RowKit Mani Dk
open Store (Chg)
open Pages (pagesW)
def fileW (C:Chg) (f:Fil):List (Nat×List UInt8):=
 match C f.name with
 |some (some b)=>pagesW f.id f.blocks b
 |_=>[]
def chW (C:Chg) (fs:List Fil):List (Nat×List UInt8):=fs.flatMap (fileW C)
theorem chW_snoc (C:Chg) {fs:List Fil} {j:Nat} {f:Fil} (h:fs[j]? =some f):chW C (fs.take (j+1))=chW C (fs.take j)++fileW C f:=by
 unfold chW;rw[List.take_add_one,h,List.flatMap_append]
 simp
theorem writes_append:∀(a b:List (Nat×List UInt8)) (m:DM),(m.writes a).2=0->m.writes (a++b)=(m.writes a).1.writes b
 | [],_,_,_=>rfl
 |x ::r,b,m,h=>by
  by_cases hx: (m.write x.1 x.2).2=0
  ·have e1:m.writes (x ::r)=(m.write x.1 x.2).1.writes r:=by show(if _ then _ else _)=_;rw[if_pos hx]
   have e2:m.writes (x ::r++b)=(m.write x.1 x.2).1.writes (r++b):=by show(if _ then _ else _)=_;rw[if_pos hx];rfl
   rw[e1]at h⊢;rw[e2];exact writes_append r b _ h
  ·have e1:m.writes (x ::r)=m.write x.1 x.2:=by show(if _ then _ else _)=_;rw[if_neg hx]
   rw[e1]at h;exact absurd h hx
def commitD (m:DM) (C:Chg) (fs:List Fil) (ver:Nat) (b:List UInt8):DM×Int:=
 if(m.writes (chW C fs)).2=0 then(if(m.writes (chW C fs)).1.sync.2=0 then(m.writes (chW C fs)).1.sync.1.mani ver b else(m.writes (chW C fs)).1.sync)else m.writes (chW C fs)
theorem chW_stop {C:Chg} {fs:List Fil} {j:Nat} {m:DM} (h: (m.writes (chW C (fs.take j))).2≠0):m.writes (chW C fs)=m.writes (chW C (fs.take j)):=by
 have e:chW C fs=chW C (fs.take j)++chW C (fs.drop j):=by
  unfold chW;rw[<-List.flatMap_append,List.take_append_drop]
 rw[e];exact writes_stop h
theorem fileW_len (C:Chg) (f:Fil): (fileW C f).length<=f.blocks.length:=by
 unfold fileW
 split
 ·rw[Pages.pagesW_len];exact Nat.le_refl _
 ·exact Nat.zero_le _
theorem chW_len (C:Chg):∀fs:List Fil,(chW C fs).length<=(bksL fs).length
 | []=>Nat.le_refl _
 |f ::r=>by
  have h1:=chW_len C r;have h2:=fileW_len C f;unfold chW bksL at h1⊢;rw[jC,jC,jL,jL]
  omega
theorem bks_take (fs:List Fil) (j:Nat): (bksL (fs.take j)).length<=(bksL fs).length:=by
 have e:bksL fs=bksL (fs.take j)++bksL (fs.drop j):=by
  unfold bksL;rw[<-List.flatMap_append,List.take_append_drop]
 rw[e,jL]
 omega
theorem chW_state {C:Chg} {fs:List Fil} {j:Nat} {m:DM} (h: (m.writes (chW C (fs.take j))).2=0) (hb: (bksL fs).length<=70000) (hw:m.wt.length<=100000): (m.writes (chW C (fs.take j))).1.bl=m.bl/\(m.writes (chW C (fs.take j))).1.off=m.off/\(m.writes (chW C (fs.take j))).1.wt.length<=170000:=by
 obtain⟨h1,h2,h3⟩:=writes_ok h;refine⟨h1,h2,?_⟩;rw[h3,jL];have h4:=chW_len C (fs.take j);have h5:=bks_take fs j
 omega
theorem many_zero {n:Nat} (h:Mani.many n=0):n=0:=by
 unfold Mani.many at h
 split at h
 ·assumption
 ·omega
theorem many_cover {n:Nat}:n<=Mani.many n*112/\∀k,k<Mani.many n->k*112<n:=by
 unfold Mani.many
 split
 ·exact⟨by omega,λk hk=>by omega⟩
 ·exact⟨by omega,λk hk=>by omega⟩
theorem sync_ok {m:DM} (h:m.sync.2=0):m.sync.1.off=m.off/\m.sync.1.bl=puts m.bl m.wt/\m.sync.1.wt= []:=by
 unfold DM.sync at h⊢
 by_cases hf:m.fuse=0
 ·rw[if_pos hf]at h;exact absurd (show(6:Int)=0 from h) (by decide)
 ·rw[if_neg hf];refine⟨?_,rfl,rfl⟩;show m.deed.1.off=m.off;unfold DM.deed;rw[if_neg hf]
  split <;> rfl
end Full
namespace Full
open Go.RowKit Go.Deep Mem Crc Go.Maps Dk Mani
open Ext (Holds)
def NewRow (B:Nat) (W:World) (x:FR):Prop:=W.ownsRow B 3 1 (.slice x.a x.f.blocks.length x.c) x.f.blocks.length (x.f.blocks.map iv)
structure PS (w:World) (l0:List FR) (r q Cb gb cap:Nat) (k:List Bool) (ver next:Nat) (u v:Value) (l:List FR) (nv:Value) (nn:Nat) (nx:List Value) (W:World):Prop where
 below:Below w.heap.size w W
 res:Blk W r 101 #[.int .u64 0,.int .u32 0,.slice none 0 0]
 man:Blk W q 101 #[.int .u64 (ver:Int),.int .u32 (next:Int),u]
 row:W.ownsRow w.heap.size 106 4 v l.length (flatF l)
 map:Holds Cb gb cap k W
 blocks:∀x∈l,x∈l0\/NewRow w.heap.size W x
 names:W.ownsRow w.heap.size 9 1 nv nn nx
 gq:w.heap.size<=q
 gr:w.heap.size<=r
 gC:w.heap.size<=Cb
 gg:w.heap.size<=gb
 ne:q≠r
variable {nv:Value} {nn:Nat} {nx:List Value} {w W W':World} {l0 l l':List FR} {r q Cb gb cap ver next:Nat} {k k':List Bool} {u v v':Value}
theorem PS.later (h:PS w l0 r q Cb gb cap k ver next u v l nv nn nx W) (hB:Below W.heap.size W W'):PS w l0 r q Cb gb cap k ver next u v l nv nn nx W':=
 ⟨h.below.trans (hB.mono h.below.size),h.res.below hB h.res.lt,h.man.below hB h.man.lt,Dk.own_keep h.row (λg hg=>hB.block g (h.row.lt g hg).2),h.map.later hB,λx hx=>(h.blocks x hx).imp id (λho=>Dk.own_keep ho (λg hg=>hB.block g (World.ownsRow.lt ho g hg).2)),Dk.own_keep h.names (λg hg=>hB.block g (h.names.lt g hg).2),h.gq,h.gr,h.gC,h.gg,h.ne⟩
theorem PS.rowed (h:PS w l0 r q Cb gb cap k ver next u v l nv nn nx W) (hu:Upon (λg=>v.ownBlock=some g) W W') (hrow:W'.ownsRow w.heap.size 106 4 v' l'.length (flatF l')) (hb:∀x∈l',x∈l\/x∈l0\/NewRow w.heap.size W x):PS w l0 r q Cb gb cap k ver next u v' l' nv nn nx W':=by
 have hk:∀x,NewRow w.heap.size W x->NewRow w.heap.size W' x:=λx ho=>own_upon ho hu (λg hg e=>own_ne_own h.row ho (by decide) e hg)
 obtain⟨cs,hc,_⟩:=h.map.words
 have hm:Holds Cb gb cap k W':=by
  obtain⟨cs,hc,hb⟩:=h.map.words;exact⟨h.map.small,h.map.map.upon hu (own_ne_blk h.row h.map.map (by decide)),cs,hc.upon hu (own_ne_blk h.row hc (by decide)),hb⟩
 exact⟨h.below.trans (hu.below h.below.size (λg hg=>(h.row.lt g hg).1)),h.res.upon hu (own_ne_blk h.row h.res (by decide)),h.man.upon hu (own_ne_blk h.row h.man (by decide)),hrow,hm,λx hx=>by
  rcases hb x hx with h1|h1|h1
  ·exact(h.blocks x h1).imp id (hk x)
  ·exact .inl h1
  ·exact .inr (hk x h1),own_upon h.names hu (λg hg e=>own_ne_own h.row h.names (by decide) e hg),h.gq,h.gr,h.gC,h.gg,h.ne⟩
theorem PS.far (h:PS w l0 r q Cb gb cap k ver next u v l nv nn nx W) (i:Nat) (z:Value):
  Below w.heap.size w (W.setCell ⟨q,i,none⟩ z)/\Blk (W.setCell ⟨q,i,none⟩ z) r 101 #[.int .u64 0,.int .u32 0,.slice none 0 0]/\(W.setCell ⟨q,i,none⟩ z).ownsRow w.heap.size 106 4 v l.length (flatF l)/\Holds Cb gb cap k (W.setCell ⟨q,i,none⟩ z)/\(∀x∈l,x∈l0\/NewRow w.heap.size (W.setCell ⟨q,i,none⟩ z) x)/\(W.setCell ⟨q,i,none⟩ z).ownsRow w.heap.size 9 1 nv nn nx:=by
 obtain⟨cs,hc,hb⟩:=h.map.words;exact⟨h.below.setCell h.gq z,h.res.far (Ne.symm h.ne) z,own_far h.row (own_ne_blk h.row h.man (by decide)) z,⟨h.map.small,h.map.map.far (h.map.map.ne h.man (by decide)) z,cs,hc.far (hc.ne h.man (by decide)) z,hb⟩,λx hx=>(h.blocks x hx).imp id (λho=>own_far ho (own_ne_blk ho h.man (by decide)) z),own_far h.names (own_ne_blk h.names h.man (by decide)) z⟩
theorem PS.set (h:PS w l0 r q Cb gb cap k ver next u v l nv nn nx W):PS w l0 r q Cb gb cap k ver next v v l nv nn nx (W.setCell ⟨q,2,none⟩ v):=by
 obtain⟨h1,h2,h3,h4,h5,h6⟩:=h.far 2 v;exact⟨h1,h2,h.man.set 2 v,h3,h4,h5,h6,h.gq,h.gr,h.gC,h.gg,h.ne⟩
theorem PS.nexts (h:PS w l0 r q Cb gb cap k ver next u v l nv nn nx W) (n:Nat):PS w l0 r q Cb gb cap k ver n u v l nv nn nx (W.setCell ⟨q,1,none⟩ (.int .u32 (n:Int))):=by
 obtain⟨h1,h2,h3,h4,h5,h6⟩:=h.far 1 (.int .u32 (n:Int));exact⟨h1,h2,h.man.set 1 _,h3,h4,h5,h6,h.gq,h.gr,h.gC,h.gg,h.ne⟩
theorem PS.took (h:PS w l0 r q Cb gb cap k ver next u v l nv nn nx W) (ho:Only [Cb,gb] W W') (hm:Holds Cb gb cap k' W'):PS w l0 r q Cb gb cap k' ver next u v l nv nn nx W':=by
 obtain⟨cs,hc,_⟩:=h.map.words
 have hn:∀{t:TypeId} {s n:Nat} {z:Value} {xs:List Value},W.ownsRow w.heap.size t s z n xs->t≠205->t≠98->W'.ownsRow w.heap.size t s z n xs:=λhz h1 h2=>own_only hz ho (λg hg hm=>by
  simp at hm
  rcases hm with rfl|rfl
  ·exact own_ne_blk hz h.map.map h1 hg
  ·exact own_ne_blk hz hc h2 hg)
 have hb:∀{g:Nat} {cs2:Array Value},Blk W g 101 cs2->g∉[Cb,gb]:=λhz hm=>by
  simp at hm
  rcases hm with rfl|rfl
  ·exact hz.ne h.map.map (by decide) rfl
  ·exact hz.ne hc (by decide) rfl
 exact⟨h.below.trans (ho.below h.below.size (λg hg=>by
  simp at hg
  rcases hg with rfl|rfl
  ·exact h.gC
  ·exact h.gg)),h.res.only ho (hb h.res),h.man.only ho (hb h.man),hn h.row (by decide) (by decide),hm,λx hx=>(h.blocks x hx).imp id (λhz=>hn hz (by decide) (by decide)),hn h.names (by decide) (by decide),h.gq,h.gr,h.gC,h.gg,h.ne⟩
theorem PS.files {a0:Option Addr} (h:PS w l0 r q Cb gb cap k ver next u v l nv nn nx W) (hF:FilesIn w a0 l0):∃a c,v=.slice a l.length c/\FilesIn W a l/\(∀b,Mem.blk a=some b->w.heap.size<=b)/\∀x∈l,x∈l0\/∀b,Mem.blk x.a=some b->w.heap.size<=b:=by
 obtain⟨a,c,rfl,_,hL,hg,_⟩:=own_shape h.row;refine⟨a,c,rfl,⟨hL,λx hx=>?_⟩,λb hb=>(hg b hb).1,λx hx=>(h.blocks x hx).imp id (λho b hb=>?_)⟩
 ·rcases h.blocks x hx with h1|h1
  ·exact⟨(hF.blocks x h1).1.later h.below,(hF.blocks x h1).2⟩
  ·obtain⟨a2,c2,e,hc,hL2,_,_⟩:=own_shape h1;cases e;exact⟨hL2,hc⟩
 ·obtain⟨a2,c2,e,hc,hL2,hg2,_⟩:=own_shape ho;cases e;exact(hg2 b hb).1
structure PF (w:World) (l0 l:List FR) (v:Value) (r:Nat) (W:World):Prop where
 below:Below w.heap.size w W
 row:W.ownsRow w.heap.size 106 4 v l.length (flatF l)
 blocks:∀x∈l,x∈l0\/NewRow w.heap.size W x
 res:∃cs,Blk W r 101 cs
 gr:w.heap.size<=r
theorem PF.res0 (h:PF w l0 l v r W) (z:Value) (i:Nat):PF w l0 l v r (W.setCell ⟨r,i,none⟩ z):=by
 obtain⟨cs,hc⟩:=h.res;exact⟨h.below.setCell h.gr z,own_far h.row (own_ne_blk h.row hc (by decide)) z,λx hx=>(h.blocks x hx).imp id (λho=>own_far ho (own_ne_blk ho hc (by decide)) z),⟨_,hc.set i z⟩,h.gr⟩
theorem PS.res0 {nv:Value} {nn:Nat} {nx:List Value} (h:PS w l0 r q Cb gb cap k ver next u v l nv nn nx W) (z:Value) (i:Nat):PF w l0 l v r (W.setCell ⟨r,i,none⟩ z):=
 PF.res0 ⟨h.below,h.row,h.blocks,⟨_,h.res⟩,h.gr⟩ z i
theorem PF.files9 {a0:Option Addr} (h:PF w l0 l v r W) (hF:FilesIn w a0 l0):∃a c,v=.slice a l.length c/\FilesIn W a l/\(∀b,Mem.blk a=some b->w.heap.size<=b/\b<W.heap.size)/\∀x∈l,x∈l0\/∀b,Mem.blk x.a=some b->w.heap.size<=b/\b<W.heap.size:=by
 obtain⟨a,c,rfl,_,hL,hg,_⟩:=own_shape h.row;refine⟨a,c,rfl,⟨hL,λx hx=>?_⟩,λb hb=>hg b hb,λx hx=>(h.blocks x hx).imp id (λho b hb=>?_)⟩
 ·rcases h.blocks x hx with h1|h1
  ·exact⟨(hF.blocks x h1).1.later h.below,(hF.blocks x h1).2⟩
  ·obtain⟨a2,c2,e,hc,hL2,_,_⟩:=own_shape h1;cases e;exact⟨hL2,hc⟩
 ·obtain⟨a2,c2,e,hc,hL2,hg2,_⟩:=own_shape ho;cases e;exact hg2 b hb
theorem PS.named {nv':Value} {nn':Nat} {nx':List Value} (h:PS w l0 r q Cb gb cap k ver next u v l nv nn nx W) (hn:W.ownsRow w.heap.size 9 1 nv' nn' nx'):PS w l0 r q Cb gb cap k ver next u v l nv' nn' nx' W:=
 ⟨h.below,h.res,h.man,h.row,h.map,h.blocks,hn,h.gq,h.gr,h.gC,h.gg,h.ne⟩
end Full
namespace Full
open Go.RowKit Go.Deep Mem Go.Maps
open Store (strKeys_mem)
theorem strKeys_nodup {D:DataW Value} {fm:Lit->Option Value} (hd:Desc D fm) (hs:∀x,fm x≠none->∃nm,x=.string nm) (hD:∃es,D=.map es/\es.Pairwise (λp q=>p.1≠q.1)/\∀p∈es,WideAt.IsKeyLit p.1): (strKeys D).Nodup:=by
 obtain⟨es,rfl,hp,hk⟩:=hD
 have hall:∀p∈es,∃nm,p.1=.string nm:=λp hp=>by
  have h1:Maps.has (.map es) p.1=true:=List.any_eq_true.2 ⟨p,hp,WideAt.sameKey_self (hk p hp)⟩;rw[(hd p.1).1]at h1;exact hs p.1 (λh=>by rw[h]at h1;cases h1)
 clear hd hk hs;show(List.map _ es).Nodup;refine List.pairwise_map.2 ?_
 induction es with
 |nil=>exact List.Pairwise.nil
 |cons a r ih=>
  obtain⟨h1,h2⟩:=List.pairwise_cons.1 hp;refine List.pairwise_cons.2 ⟨λb hb e=>?_,ih h2 (λp hp=>hall p (List.mem_cons_of_mem _ hp))⟩;obtain⟨x,hx⟩:=hall a (by simp);obtain⟨y,hy⟩:=hall b (List.mem_cons_of_mem _ hb);rw[hx,hy]at e;have e2:x=y:=e;exact h1 b hb (by rw[hx,hy,e2])
theorem sorted_names {ss keys:List (List UInt8)} (hp:ss.Perm keys) (hn:keys.Nodup): (ss.mergeSort (λx y=>decide (x<=y))).Pairwise (·< ·):=by
 have h1: (ss.mergeSort (λx y=>decide (x<=y))).Pairwise (λx y=>decide (x<=y)=true):=List.pairwise_mergeSort (le:=λx y=>decide (x<=y)) (λa b c h1 h2=>by
  simp only[decide_eq_true_eq]at h1 h2⊢;exact List.le_trans h1 h2) (λa b=>by
  rw[Bool.or_eq_true,decide_eq_true_eq,decide_eq_true_eq];exact List.le_total a b) ss
 have h2: (ss.mergeSort (λx y=>decide (x<=y))).Nodup:=((List.mergeSort_perm ss _).trans hp).nodup_iff.2 hn;refine(h1.and h2).imp (fun{a b} h=>?_);obtain⟨h3,h4⟩:=h;simp only[decide_eq_true_eq]at h3;rcases List.le_iff_lt_or_eq.1 h3 with h5|h5
 ·exact h5
 ·exact absurd h5 h4
open Mani in
theorem cmp_lt {b c:List UInt8} {sb sc:ByteArray} (hb:sv b=.string sb) (hc:sv c=.string sc):cmpI sb sc<0↔b<c:=by
 unfold sv at hb hc;injection hb with hb;injection hc with hc;subst hb hc;unfold cmpI;rw[Lib.toList_data,Lib.toList_data,bytesLess_eq]
 by_cases h:b<c
 ·have e:decide (b.toArray.toList<c.toArray.toList)=true:=jd h;rw[if_pos e];exact⟨λ_=>h,λ_=>by decide⟩
 ·have e:¬decide (b.toArray.toList<c.toArray.toList)=true:=by simpa using h
  rw[if_neg e];refine⟨λh2=>?_,λh2=>absurd h2 h⟩
  split at h2 <;> simp at h2
theorem res_set {W:World} {r:Nat} {x y z:Value} (h:Blk W r 101 #[x,y,z]) (A B D:Value):
  (((W.setCell ⟨r,0,none⟩ A).setCell ⟨r,1,none⟩ B).setCell ⟨r,2,none⟩ D).cell? ⟨r,0,none⟩=some A/\(((W.setCell ⟨r,0,none⟩ A).setCell ⟨r,1,none⟩ B).setCell ⟨r,2,none⟩ D).cell? ⟨r,1,none⟩=some B/\(((W.setCell ⟨r,0,none⟩ A).setCell ⟨r,1,none⟩ B).setCell ⟨r,2,none⟩ D).cell? ⟨r,2,none⟩=some D:=by
 have hf:=((h.set 0 A).set 1 B).set 2 D;exact⟨hf.cell 0,hf.cell 1,hf.cell 2⟩
theorem below_res {B:Nat} {a W:World} {r:Nat} (h:Below B a W) (hr:B<=r) (x y z:Value):Below B a (((W.setCell ⟨r,0,none⟩ x).setCell ⟨r,1,none⟩ y).setCell ⟨r,2,none⟩ z):=((h.setCell hr x).setCell hr y).setCell hr z
open Mani in
theorem toNat_iv {k:List Bool} {N:Int}: ((Ext.takeL k N).map Int.toNat).map iv=(Ext.takeL k N).map (Value.int .i64):=by
 rw[List.map_map];refine List.map_congr_left (λx hx=>?_);obtain⟨i,rfl,_⟩:=takeL_mem hx
 rfl
end Full
namespace Full
open Go.RowKit Go.Deep Mem Crc Go.Maps Dk Mani
open Store (Chg chgV isChg none' nv nv_key strKeyed zero_chg strKeys_mem strKeys_length)
open Ext (Holds Tab)
def Looked (w:World) (O:Nat->Prop):Option (Option (List UInt8))->Option Addr->Nat->Nat->Bool->Prop
 |none,a,n,cp,gn=>a=none/\n=0/\cp=0/\gn=false
 |some none,a,n,cp,gn=>a=none/\n=0/\cp=0/\gn=true
 |some (some b),a,n,cp,gn=>n=b.length/\gn=false/\b.length<=cp/\Lies w a (b.map bv)/\∀k,Mem.blk a=some k->O k
theorem Fu.look {w:World} {Q:Nat->Prop} {s d g cm:Nat} {wv:Value} {m:DM} {ver next:Nat} {a:Option Addr} {c:Nat} {l:List FR} {bad:Bool} {C:Chg} (h:Fu w Q s d g cm wv m ver next a c l bad C) (nm:List UInt8) (hn:nm.length<=1000000):
  ∃a1 n1 cp1 gn,Looked w (Own Q s d g cm wv) (C nm) a1 n1 cp1 gn/\∀w':World,w'.heap[cm]? =w.heap[cm]?->
   (Instr.lookup 109 (.map (some cm)) (nv nm) true).run Tryz.prog w'=.ok (.tuple #[.agg #[.slice a1 n1 cp1,.bool gn],.bool (C nm).isSome]) w'/\
   (Instr.lookup 109 (.map (some cm)) (nv nm) false).run Tryz.prog w'=.ok (.agg #[.slice a1 n1 cp1,.bool gn]) w':=by
 obtain⟨f,hm,hk,hf⟩:=h.map;have h1:∀w':World,w'.heap[cm]? =w.heap[cm]?->_:=λw' he=>And.intro ((hm.keep he).look_ok strKeyed Tryz.underlying109 zero_chg (nv_key hn)) ((hm.keep he).look strKeyed Tryz.underlying109 zero_chg (nv_key hn))
 have hx:=hf nm;unfold isChg at hx
 cases hc:C nm with
 |none=>
  rw[hc]at hx;rw[hx]at h1;exact⟨none,0,0,false,⟨rfl,rfl,rfl,rfl⟩,h1⟩
 |some c=>
  rw[hc]at hx;obtain⟨v,h3,h4⟩:=hx;rw[h3]at h1
  cases c with
  |none=>
   rw[show v=_ from h4]at h1;exact⟨none,0,0,true,⟨rfl,rfl,rfl,rfl⟩,h1⟩
  |some b=>
   obtain⟨a,cp,rfl,h5,h6,h7⟩:=h4;exact⟨a,b.length,cp,false,⟨rfl,rfl,h5,h6,h7⟩,h1⟩
def keepR (C:Chg) (l:List FR):List FR:=l.filter (λx=>(C x.f.name).isNone)
theorem keepR_map (C:Chg) (l:List FR): (keepR C l).map FR.f=keepF C (l.map FR.f):=by
 unfold keepR keepF;rw[List.filter_map]
 rfl
theorem keepR_snoc (C:Chg) {l:List FR} {j:Nat} {x:FR} (h:l[j]? =some x):keepR C (l.take (j+1))=keepR C (l.take j)++(if(C x.f.name).isNone then [x]else []):=by
 unfold keepR;rw[List.take_add_one,h,List.filter_append]
 congr 1
 cases hc: (C x.f.name).isNone <;> simp[hc]
attribute [local go_sem] Oper.semAt_some
theorem plan_any {w:World} {Q:Nat->Prop} {s d g cm:Nat} {wv:Value} {m:DM} {ver next:Nat} {a:Option Addr} {c:Nat} {l:List FR} {bad:Bool} {C:Chg} (h:Fu w Q s d g cm wv m ver next a c l bad C) (hT:Tab w) (L:List (List UInt8)) (hL:∀x,C x≠none->x∈L) (hLn:L.length<=9000) (hLs:∀x∈L,x.length<=32)
  (hCb:∀nm b,C nm=some (some b)->b.length<=1048576) (hv:ver<18446744073709551616) (hn:next<4294967296) (hr:rises (l.map FR.f)) (hl:∀x∈l,x.f.name.length<=32/\x.f.fits/\∀i∈x.f.blocks,i<65536) (hlc:l.length<=2100) (hbk: (bksL (l.map FR.f)).length<=2100):
  Calls Tryz.prog 63 #[.pointer (some ⟨s,0,none⟩)] w λe w'=>∃mv room,e=.returned (.tuple #[mv,.bool room])/\(∃(x y:Int) (a0:Option Addr) (k0 c0:Nat),mv=.agg #[.int .u64 x,.int .u32 y,.slice a0 k0 c0])/\Below w.heap.size w w'/\((room=false/\ver=18446744073709551615)\/(ver<18446744073709551615/\∃ss:List (List UInt8),ss.Pairwise (·< ·)/\(∀nm,nm∈ss↔C nm≠none)/\
   ((room=false/\(planF C ss (startF C m.bl.length next (l.map FR.f))=none\/∃p,planF C ss (startF C m.bl.length next (l.map FR.f))=some p/\mayB (ver+1) p.next p.fs=false))\/
    (room=true/\∃p a' c' l',planF C ss (startF C m.bl.length next (l.map FR.f))=some p/\mayB (ver+1) p.next p.fs=true/\mv=.agg #[.int .u64 ((ver+1:Nat):Int),.int .u32 (p.next:Int),.slice a' l'.length c']/\l'.map FR.f=p.fs/\FilesIn w' a' l'/\(∀b,Mem.blk a'=some b->w.heap.size<=b/\b<w'.heap.size)/\∀x∈l',x∈l\/∀b,Mem.blk x.a=some b->w.heap.size<=b/\b<w'.heap.size)))):=by
 obtain⟨c0,c1,c2,c3,c4,c5⟩:=h.cells;have hsl:=h.store.lt;obtain⟨n,hnl⟩:=jl l.length;rw[<-hnl]at c3 hlc
 have hbl:∀x∈l,x.f.blocks.length<=100000:=λx hx=>by
  have:=bksL_mem (List.mem_map.2 ⟨x,hx,rfl⟩:x.f∈l.map FR.f)
  omega
 have H:=jq h;have HT:=jq hT;have HL:=jq hL;have HLS:=jq hLs;have HCB:=jq hCb;have HR:=jq hr;have HLL:=jq hl;have HNL:=jq hnl;have HBL:=jq hbl;have HBK:=jq hbk;obtain⟨i0,hi0,hiz,hi1,hi2⟩:=info_parts infoF
 by_cases hvm:ver=18446744073709551615
 ·subst hvm;clear h hT hL hLs hCb hr hl hnl hbl hbk
  go_enter Tryz.func63,Tryz.ntmps63
  go_wp2_with fail
  go_region
  have hw0:IntKind.u64.wrap 18446744073709551616=0:=by rw[IntKind.wrap_u64];rfl
  obtain⟨W1,hW1⟩:=jl (((w.alloc (.cells #[.int .u64 0,.int .u32 0,.slice none 0 0] 101)).alloc (.cells #[.int .u64 (IntKind.u64.wrap 18446744073709551616),.int .u32 (next:Int),.slice none 0 0] 101)).drew);rw[<-hW1];rw[hw0]at hW1;have hB1:Below w.heap.size w W1:=by rw[hW1];exact(((Below.refl _ w).alloc jn _).alloc (by simp) _).drew
  obtain⟨r,hr⟩:=jl w.heap.size;obtain⟨q,hq⟩:=jl (w.heap.size+1);have hres:Blk W1 r 101 #[.int .u64 0,.int .u32 0,.slice none 0 0]:=by rw[hW1,hr];exact(Blk.new w _ _).alloc _
  have hman:Blk W1 q 101 #[.int .u64 0,.int .u32 (next:Int),.slice none 0 0]:=by
   rw[hW1,hq];have:=Blk.new (w.alloc (.cells #[.int .u64 0,.int .u32 0,.slice none 0 0] 101)) 101 #[.int .u64 0,.int .u32 (next:Int),.slice none 0 0];rw[World.size_alloc]at this;exact this
  rw[hw0,<-hq,<-hr];have hrr:w.heap.size<=r:=by omega
  have m0:=hman.cell 0;have m1:=hman.cell 1;have m2:=hman.cell 2;have r0:=hres.cell 0;have r1:=hres.cell 1;have r2:=hres.cell 2;have z0:=hres.frozen 0;have z1:=hres.frozen 1;have z2:=hres.frozen 2
  simp at m0 m1 m2 r0 r1 r2
  clear hW1 hq hr
  go_wp2_with fail
  have hf:=((hres.set 0 (.int .u64 0)).set 1 (.int .u32 (next:Int))).set 2 (.slice none 0 0);have y0:=hf.cell 0;have y1:=hf.cell 1;have y2:=hf.cell 2;have hBf:Below w.heap.size w (((W1.setCell ⟨r,0,none⟩ (.int .u64 0)).setCell ⟨r,1,none⟩ (.int .u32 (next:Int))).setCell ⟨r,2,none⟩ (.slice none 0 0)):=((hB1.setCell hrr _).setCell hrr _).setCell hrr _;obtain⟨Wf,hWf⟩:=jl ((((W1.setCell ⟨r,0,none⟩ (.int .u64 0)).setCell ⟨r,1,none⟩ (.int .u32 (next:Int))).setCell ⟨r,2,none⟩ (.slice none 0 0)));rw[<-hWf]at y0 y1 y2 hBf⊢
  simp at y0 y1 y2
  refine bodyPost_ret (v:=.tuple #[.agg #[.int .u64 0,.int .u32 (next:Int),.slice none 0 0],.bool false]) (by simp[results,Tryz.f63,go_sem,y0,y1,y2]) rfl ?_;exact⟨_,_,rfl,⟨_,_,_,_,_,rfl⟩,hBf,by first|exact .inl ⟨rfl,rfl⟩|exact .inl ⟨rfl,trivial⟩⟩
 ·have hv2:ver<18446744073709551615:=by omega
  clear h hT hL hLs hCb hr hl hnl hbl hbk hvm
  go_enter Tryz.func63,Tryz.ntmps63
  go_wp2_with fail
  go_region
  obtain⟨W1,hW1⟩:=jl (((w.alloc (.cells #[.int .u64 0,.int .u32 0,.slice none 0 0] 101)).alloc (.cells #[.int .u64 ((ver:Int)+1),.int .u32 (next:Int),.slice none 0 0] 101)).drew);obtain⟨r,hr⟩:=jl w.heap.size;obtain⟨q,hq⟩:=jl (w.heap.size+1);have hB1:Below w.heap.size w W1:=by rw[hW1];exact(((Below.refl _ w).alloc jn _).alloc (by simp) _).drew
  have hres:Blk W1 r 101 #[.int .u64 0,.int .u32 0,.slice none 0 0]:=by rw[hW1,hr];exact(Blk.new w _ _).alloc _
  have hman:Blk W1 q 101 #[.int .u64 ((ver+1:Nat):Int),.int .u32 (next:Int),.slice none 0 0]:=by
   rw[hW1,hq];have:=Blk.new (w.alloc (.cells #[.int .u64 0,.int .u32 0,.slice none 0 0] 101)) 101 #[.int .u64 ((ver:Int)+1),.int .u32 (next:Int),.slice none 0 0];rw[World.size_alloc]at this;exact this
  rw[<-hW1,<-hq,<-hr];have HFR:=jq (free_any (H.out.later hB1) (by rw[<-HNL.out];omega) HBL.out);have x0:W1.cell? ⟨q,0,none⟩=some (.int .u64 ((ver:Int)+1)):=hman.cell 0;have hge:=And.intro (show w.heap.size<=q by omega) (And.intro (show w.heap.size<=r by omega) (show q≠r by omega));have HB1:=jq hB1;have HRES:=jq hres;have HMAN:=jq hman;clear hW1 hr hq hB1 hres hman;obtain⟨hgq,hgr,hne⟩:=hge
  go_wp2_with fail
  refine HFR.out.mono ?_;rintro e w2 ⟨Cb,gb,cap,rfl,hH,hC,hg,hB2⟩;have hz1:=HB1.out.size
  have hP0:PS w l r q Cb gb cap (freeK m.bl.length (l.map FR.f)) (ver+1) next (.slice none 0 0) (.slice none 0 0) (keepR C (l.take 0)) (.slice none 0 0) 0 [] w2:=by
   rw[List.take_zero];exact⟨HB1.out.trans (hB2.mono hz1),HRES.out.below hB2 HRES.out.lt,HMAN.out.below hB2 HMAN.out.lt,World.ownsRow_nil _ _ _ _,hH,λx hx=>(by cases hx),World.ownsRow_nil _ _ _ _,hgq,hgr,by omega,by omega,hne⟩
  obtain⟨K0,hK0⟩:=jl (freeK m.bl.length (l.map FR.f));rw[<-hK0]at hP0;have hBw:Below w.heap.size w w2:=hP0.below;have d3:=(hBw.cell (p:=⟨s,3,none⟩) hsl).trans c3;have HP0:=jq hP0;have HK0:=jq hK0;clear hP0 hK0 hH hC hg hB2 hz1 x0 HFR HRES HMAN hBw
  go_wp2_with fail
  clear d3
  go_loopw[41] (λi wr=>∃(j:Nat) (v:Value),j<=n/\i=.int .i64 j/\Hid (PS w l r q Cb gb cap K0 (ver+1) next v v (keepR C (l.take j)) (.slice none 0 0) 0 [] wr)) (λi _=>n-(intOf i).toNat)
  case atStart=>exact⟨0,_,Nat.zero_le _,rfl,HP0⟩
  case round=>
   obtain⟨j,v,hj,rfl,hP⟩:=hrel
   by_cases hlt:j<n
   ·have hjd:decide ((j:Int) <(n:Int))=true:=jd (by omega);obtain⟨x,hx⟩:∃x,l[j]? =some x:=⟨l[j]'(by rw[<-HNL.out];exact hlt),jg _⟩;have hxm:=jM hx;have hBr:=hP.out.below;have hFr:=H.out.later hBr;obtain⟨ga,oa,rfl,f0,f1,f2,f3⟩:=hFr.files.cells hx;obtain⟨sb,hnm⟩:∃sb:ByteArray,sv x.f.name=.string sb:=⟨_,rfl⟩;have hnm2:nv x.f.name=.string sb:=hnm;obtain⟨sz,hsz⟩:=jl x.f.size;obtain⟨id,hid⟩:=jl x.f.id;obtain⟨bn,hbn⟩:=jl x.f.blocks.length;obtain⟨ch,hch⟩:=jl ((C x.f.name).isSome);unfold iv at f2;rw[hnm]at f0;rw[<-hid]at f1;rw[<-hsz]at f2;rw[<-hbn]at f3;obtain⟨W5,hW5⟩:=jl (wr.alloc (.cells #[.string sb,.int .u32 (id:Int),.int .i64 (sz:Int),.slice x.a bn x.c] 106));have hB5:Below wr.heap.size wr W5:=by rw[hW5];exact(Below.refl _ wr).alloc jn _
    have hb5:Blk W5 wr.heap.size 106 #[.string sb,.int .u32 (id:Int),.int .i64 (sz:Int),.slice x.a bn x.c]:=by rw[hW5];exact Blk.new wr _ _
    obtain⟨bx,hbx⟩:=jl wr.heap.size;rw[<-hbx]at hb5;obtain⟨W6,hW6⟩:=jl ((W5.alloc (.cells #[.slice none 0 0,.bool false] 115)).drew);have hB6:Below wr.heap.size wr W6:=by rw[hW6];exact(hB5.alloc hB5.size _).drew
    have hcw:cm<wr.heap.size:=Nat.lt_of_lt_of_le (H.out.lt cm H.out.qm) hBr.size;obtain⟨a1,n1,cp1,gn,_,hlk⟩:=hFr.look x.f.name (by have:=(HLL.out x hxm).1;omega);have hlk5:=(hlk W5.drew (hB5.drew.block cm hcw)).1;have hlk6:=(hlk W6 (hB6.block cm hcw)).1;rw[hnm2,<-hch]at hlk5 hlk6;have k6:=((hBr.trans (hB6.mono hBr.size)).cell (p:=⟨s,4,none⟩) hsl).trans c4
    have b6:W6.cell? ⟨bx,0,none⟩=some (.string sb):=by
     rw[hW6];exact(hb5.alloc _).cell 0
    rw[hW6]at hlk6 k6 b6;have k4:=((hBr.trans (hB5.mono hBr.size)).cell (p:=⟨s,4,none⟩) hsl).trans c4;have b0:=hb5.cell 0
    simp at b0
    have HW5:=jq hW5;have HBX:=jq hbx;have HX:=jq hx;have HNM:=jq hnm;have HSZ:=jq hsz;have HID:=jq hid;have HBN:=jq hbn;have HCH:=jq hch;have HB5:=jq hB5;have HP:=jq hP.out;have HBK5:=jq hb5;clear hW6 hB6 hlk hcw hFr hBr hxm hx hnm hnm2 hsz hid hbn hch hB5 hb5 hP
    go_wp2_with fail
    rw[<-HW5.out,<-HBX.out];clear hW5 hbx
    go_wp2_with fail
    go_region
    all_goals
     obtain⟨W7,hW7⟩:=jl ((W5.alloc (.cells #[.slice a1 n1 cp1,.bool gn] 115)).drew);have hB57:Below W5.heap.size W5 W7:=by rw[hW7];exact((Below.refl _ W5).alloc jn _).drew
     rw[<-hW7];have hP7:=HP.out.later (HB5.out.trans (hB57.mono HB5.out.size));have hb7:=HBK5.out.below hB57 HBK5.out.lt;have HP7:=jq hP7;have b0:=hb7.cell 0;have b1:=hb7.cell 1;have b2:=hb7.cell 2;have b3:=hb7.cell 3;have q2:=hP7.man.cell 2
     simp at b0 b1 b2 b3 q2
     clear hW7 hB57 hP7 hb7 hlk5 hlk6 k4 k6 b6;cases ch
     ·have hks:keepR C (l.take (j+1))=keepR C (l.take j)++ [x]:=by
       rw[keepR_snoc C HX.out];have:=HCH.out
       cases hc:C x.f.name with
       |none=>rfl
       |some c=>rw[hc]at this;cases this
      have hvs:x.vs= [.string sb,.int .u32 (id:Int),.int .i64 (sz:Int),.slice x.a bn x.c]:=by
       unfold FR.vs iv;rw[HNM.out,<-HID.out,<-HSZ.out,<-HBN.out]
      have HKS:=jq hks;have HVS:=jq hvs;have hlen: (keepR C (l.take j)).length<=2100:=Nat.le_trans (List.length_filter_le _ _) (by rw[jT];omega);have hsz7:=HP7.out.below.size;obtain⟨W8,hW8⟩:=jl (W7.alloc (.cells #[.string sb,.int .u32 (id:Int),.int .i64 (sz:Int),.slice x.a bn x.c] 106));have hB8:Below W7.heap.size W7 W8:=by rw[hW8];exact(Below.refl _ W7).alloc jn _
      have hP8:=HP7.out.later hB8;have hb8:Blk W8 W7.heap.size 106 x.vs.toArray:=by rw[hW8,hvs];exact Blk.new W7 _ _
      have HC8:=jq (vs_cells hb8);have HP8:=jq hP8;have HW8:=jq hW8;rw[hvs]at HC8;clear hks hvs hB8 hP8 hb8 hW8
      go_wp2_with (first|(at_builtin;rw[<-HW8.out];refine wpList_append_own _ rfl _ _ 99 rfl w.heap.size 106 i0 (.agg #[.string ⟨#[]⟩,.int .u32 0,.int .i64 0,.slice none 0 0]) 4 56 Tryz.underlying99 hi0 hiz hi1 hi2 rfl (by decide) _ _ _ rfl HP8.out.row ⟨W7.heap.size,0,none⟩ 1 1 _ rfl rfl HC8.out (by rw[<-HVS.out];exact vs_one x) ?c1 ?c2 ?c3 ?_))
      case c1=>unfold maxLen;omega
      case c2=>omega
      case c3=>exact HP8.out.below.size
      intro v' w9 hown hgr _;obtain⟨av,cv,rfl,_,_,_,_⟩:=own_shape hown
      have hown2:w9.ownsRow w.heap.size 106 4 (.slice av ((keepR C (l.take j)).length+1) cv) (keepR C (l.take (j+1))).length (flatF (keepR C (l.take (j+1)))):=by
       rw[HKS.out,flatF_append,flatF_cons,HVS.out,jL]
       simpa[flatF]using hown
      have hP9:=HP8.out.rowed (l':=keepR C (l.take (j+1))) (Upon.of_grown hgr (λg hg=>.inl hg)) hown2 (λy hy=>by
       rw[HKS.out]at hy;rcases List.mem_append.1 hy with h1|h1
       ·exact .inl h1
       ·exact .inr (.inl (by rw[jE.1 h1];exact jM HX.out)))
      have hPA:=hP9.set;have q3:=hP9.man.cell 2;have z3:=hP9.man.frozen 2
      simp at q3
      have HPA:=jq hPA;clear hown hown2 hgr hP9 hPA
      go_wp2_with fail
      exact⟨⟨j+1,_,by omega,by simp,HPA⟩,by simp[intOf];omega⟩
     ·have hks:keepR C (l.take (j+1))=keepR C (l.take j):=by
       rw[keepR_snoc C HX.out];have:=HCH.out
       cases hc:C x.f.name with
       |none=>rw[hc]at this;cases this
       |some c=>simp
      have HKS:=jq hks;clear hks
      go_wp2_with fail
      exact⟨⟨j+1,v,by omega,by simp,by rw[HKS.out];exact HP7⟩,by simp[intOf];omega⟩
   ·obtain rfl:j=n:=by omega
    have hjd:decide ((j:Int) <(j:Int))=false:=jf (by omega);have htk:l.take j=l:=jW (by rw[HNL.out];exact Nat.le_refl _);have hP2:=hP.out;rw[htk]at hP2;have hBr:=hP2.below;have k4:=(hBr.cell (p:=⟨s,4,none⟩) hsl).trans c4;have HP:=jq hP2;have HBR:=jq hBr;clear htk hP2 hBr hP;obtain⟨f,⟨D,nD,hown,hd⟩,hk,hf⟩:=(H.out.later HBR.out).map
    have hLm:∀x∈strKeys D,x∈L:=λx hx=>HL.out x (λhc=>by
     have h1:=(strKeys_mem hd hk (hown.entries strKeyed) x).1 hx;have h2:=hf x;unfold isChg at h2;rw[hc]at h2;exact h1 h2)
    have hsup:∀x,f x≠none->x∈L.map Lit.string:=λx hx=>by
     obtain⟨nm,rfl⟩:=hk x hx;refine List.mem_map.2 ⟨nm,HL.out nm (λhc=>hx ?_),rfl⟩;have h2:=hf nm;unfold isChg at h2;rw[hc]at h2;exact h2
    obtain⟨D2,hown2,hd2⟩:=MapIs.bounded ⟨D,nD,hown,hd⟩ strKeyed (L.map Lit.string) hsup;have hle:=hown2.size_le;rw[jP]at hle;have hnod:=strKeys_nodup hd2 hk (hown2.entries strKeyed)
    have hmem:∀nm,nm∈strKeys D2↔C nm≠none:=λnm=>by
     rw[strKeys_mem hd2 hk (hown2.entries strKeyed) nm];have h2:=hf nm;unfold isChg at h2
     cases hc:C nm with
     |none=>rw[hc]at h2;rw[h2];simp
     |some c=>
      rw[hc]at h2;obtain⟨v,h3,_⟩:=h2;rw[h3]
      simp
    have hkl: (strKeys D2).length<=9000:=by rw[strKeys_length (hown2.entries strKeyed)];omega
    have hKeys:=callsIn_wide.1 (Tryz.maps_Keys_93 (some cm) wr);have hSort:=callsIn_wide.1 (Tryz.slices_Sorted_keys_50_93 cm _ D2 anyR wr hown2 (by unfold maxLen;omega) (by omega));have HKY:=jq hKeys;have HST:=jq hSort;have HNOD:=jq hnod;have HMEM:=jq hmem;have HKL:=jq hkl;clear hown hd hk hf hLm hsup hown2 hd2 hle hnod hmem hkl hKeys hSort
    go_wp2_with fail
    refine HKY.out.mono ?_;rintro e w6 ⟨rfl,rfl⟩
    go_wp2_with fail
    refine HST.out.mono ?_;rintro e w7 ⟨vn,ss0,rfl,hperm,hown7,_,hB7⟩;obtain⟨ss,hss⟩:=jl (ss0.mergeSort (λx y=>decide (x<=y)));have hsp:ss.Perm ss0:=by rw[hss];exact List.mergeSort_perm _ _
    have hslen:ss.length=ss0.length:=hsp.length_eq;have hsort:ss.Pairwise (·< ·):=by rw[hss];exact sorted_names hperm HNOD.out
    have hsmem:∀nm,nm∈ss↔C nm≠none:=λnm=>by rw[hsp.mem_iff,hperm.mem_iff,HMEM.out nm]
    have hs9:ss.length<=9000:=by rw[hslen,hperm.length_eq];exact HKL.out
    rw[<-hss,<-hslen]at hown7;have hP7:=(HP.out.later (((Below.refl _ wr).alloc jn _).trans (hB7.mono (by simp)))).named (own_mono hown7 (by have:=HBR.out.size;simp;omega));obtain⟨an,cn,rfl,hcn,hLN,_,_⟩:=own_shape hown7;obtain⟨N,hN⟩:=jl ss.length;rw[<-hN]at hP7 hcn hs9⊢;have HP7:=jq hP7;have HSS:=jq hsort;have HSM:=jq hsmem;have HN:=jq hN
    have hpi0:=pinv_start (C:=C) (n:=m.bl.length) (next:=next) (fs:=l.map FR.f) H.out.disk.small hn HR.out (λf hf=>by
     obtain⟨x,hx,rfl⟩:=List.mem_map.1 hf;exact HLL.out x hx) (by rw[jP,<-HNL.out];exact hlc) HBK.out
    have HPI0:=jq hpi0;clear hss hsp hslen hsort hsmem hperm hown7 hB7 hP7 hLN hN hpi0 HKY HST HNOD HMEM HKL HP;obtain⟨p0,hp0⟩:=jl (startF C m.bl.length next (l.map FR.f));rw[<-hp0]at HPI0;have hk0:p0.k=K0:=by rw[hp0,HK0.out];rfl
    have hn0:p0.next=next:=by rw[hp0];rfl
    have hf0: (keepR C l).map FR.f=p0.fs:=by rw[keepR_map,hp0];rfl
    have hP8:=HP7.out;rw[<-hk0]at hP8;have hP9:PS w l r q Cb gb cap p0.k (ver+1) p0.next v v (keepR C l) (.slice an N cn) N (ss.map encStr) w7:=by rw[hn0];exact hP8
    have HP9:=jq hP9;have HF0:=jq hf0;have HP0:=jq hp0;have hpl0:planF C (ss.take 0) p0=some p0:=rfl;have HPL0:=jq hpl0;clear hk0 hn0 hf0 hP8 hP9 hp0 hpl0 HP7
    go_wp2_with fail
    go_loopw[71] (λi wr=>∃(t:Nat) (v:Value) (p:PL) (l':List FR),t<=N/\i=.int .i64 t/\Hid (planF C (ss.take t) p0=some p)/\Hid (l'.map FR.f=p.fs)/\Hid (PInv C m.bl.length 2100 70000 (ss.take t) p)/\Hid (PS w l r q Cb gb cap p.k (ver+1) p.next v v l' (.slice an N cn) N (ss.map encStr) wr)) (λi _=>N-(intOf i).toNat)
    case atStart=>exact⟨0,_,p0,_,Nat.zero_le _,rfl,HPL0,HF0,HPI0,HP9⟩
    case round=>
     clear HPL0 HF0 HPI0 HP9;obtain⟨t,v,p,l',ht,rfl,hpl,hfs,hpi,hP⟩:=hrel
     by_cases hlt:t<N
     ·have htd:decide ((t:Int) <(N:Int))=true:=jd (by omega);obtain⟨nm,hnm⟩:∃nm,ss[t]? =some nm:=⟨ss[t]'(by rw[<-HN.out];exact hlt),jg _⟩;have hnmm:=jM hnm;have hcn0:=(HSM.out nm).1 hnmm;have hns:nm.length<=32:=HLS.out nm (HL.out nm hcn0);obtain⟨a8,c8,e8,_,hrow8⟩:=Ext.own_form hP.out.names;obtain⟨gnb,e9,_,_,hcells⟩:=hrow8 (by omega);cases e8;subst e9;obtain⟨sb,hsb⟩:∃sb:ByteArray,encStr nm=.string sb:=⟨_,rfl⟩;have n0:=hcells t (.string sb) (by rw[List.getElem?_map,hnm,<-hsb];rfl);have hnv:nv nm=.string sb:=hsb;have hBr:=hP.out.below;have hcw:cm<w.heap.size:=H.out.lt cm H.out.qm;obtain⟨a1,n1,cp1,gn,hlo,hlk⟩:=(H.out.later hBr).look nm (by omega);have hlk1:=(hlk wr rfl).2;rw[hnv]at hlk1;have k4:=(hBr.cell (p:=⟨s,4,none⟩) hsl).trans c4;have hsn:=planF_snoc C hnm p0;rw[hpl.out]at hsn
      have hdn:nm∉ss.take t:=λhm=>by
       obtain⟨i,hi⟩:=List.mem_iff_getElem?.1 hm;rw[List.getElem?_take]at hi
       split at hi
       ·have hlt2:i<t:=by assumption
        obtain⟨i1,ei⟩:=jS.1 hi;obtain⟨t1,et⟩:=jS.1 hnm;have:=List.pairwise_iff_getElem.1 HSS.out i t i1 t1 hlt2;rw[ei,et]at this;exact absurd this (List.lt_irrefl nm)
       ·cases hi
      have htk:ss.take (t+1)=ss.take t++ [nm]:=by rw[List.take_add_one,hnm];rfl
      cases hcc:C nm with
      |none=>exact absurd hcc hcn0
      |some cc=>
       cases cc with
       |none=>
        rw[hcc]at hlo;obtain⟨rfl,rfl,rfl,rfl⟩:=hlo;have hst:stepF C nm p=some p:=by unfold stepF;rw[hcc]
        have hpi2:=hpi.out.step H.out.disk.small hdn hcn0 hns (λb hb=>HCB.out nm b hb) hst;rw[<-htk]at hpi2;have hpl2:planF C (ss.take (t+1)) p0=some p:=by rw[hsn];exact hst
        have HPI2:=jq hpi2;have HPL2:=jq hpl2;have hP2:=jq (hP.out.later ((Below.refl _ wr).alloc jn (.cells #[.slice none 0 0,.bool true] 115)));clear hst hpi2 hpl2 hsn htk hdn hcn0 hnmm hnm hlk hcells hsb hnv hrow8 hBr hcc hpl hpi hP
        go_wp2_with fail
        exact⟨⟨t+1,v,p,l',by omega,by simp,HPL2,hfs,HPI2,hP2⟩,by simp[intOf];omega⟩
       |some b=>
        rw[hcc]at hlo;obtain⟨rfl,rfl,hcp,hLb,_⟩:=hlo;have hbl:=HCB.out nm b hcc;have hTl:=HT.out.lt;obtain⟨W1,hW1⟩:=jl (wr.alloc (.cells #[.slice a1 b.length cp1,.bool false] 115));have hP1:=hP.out.later (show Below wr.heap.size wr W1 by rw[hW1];exact(Below.refl _ wr).alloc jn _);have HMN:=jq (many_any b.length (by omega) W1);have HTK:=jq (Ext.take_any Cb gb cap p.k ((many b.length:Nat):Int) W1 hP1.map (HT.out.below hP1.below hTl) (by have:=hP1.gC;omega) (by have:=hP1.gg;omega));obtain⟨M,hM⟩:=jl (many b.length);rw[<-hM]at HMN HTK;obtain⟨B,hB⟩:=jl b.length;rw[<-hB]at HMN hcp hW1 hlk1;have HB:=jq hB;have HM:=jq hM;have HW1:=jq hW1;have HP1:=jq hP1;have HCC:=jq hcc;have HSN:=jq hsn;have HTK2:=jq htk;have HDN:=jq hdn;have HNM:=jq hnm;have HSB:=jq hnv;have HLB:=jq hLb;clear hcc hsn htk hdn hnm hnv hsb hcn0 hnmm hlk hcells hrow8 hBr hpl hP hP1 hM hB hLb
        go_wp2_with fail
        rw[<-hW1];clear hW1 hlk1 k4 n0;refine HMN.out.mono ?_;rintro e w3 ⟨rfl,rfl⟩
        go_wp2_with fail
        refine HTK.out.mono ?_;rintro e w4 ⟨⟨a3,c3,rfl,hown3⟩,hH4,ho4⟩;have hP4:=HP1.out.took ho4 hH4;have hbx1:Blk w3 wr.heap.size 115 #[.slice a1 B cp1,.bool false]:=by rw[HW1.out];exact Blk.new wr _ _
        have hbx4:Blk w4 wr.heap.size 115 #[.slice a1 B cp1,.bool false]:=hbx1.only ho4 (λhm=>by
         obtain⟨cs,hc,_⟩:=HP1.out.map.words
         simp at hm
         rcases hm with e|e
         ·exact hbx1.ne HP1.out.map.map (by decide) e
         ·exact hbx1.ne hc (by decide) e)
        have HBX4:=jq hbx4;clear hbx1 hbx4
        by_cases hfr:Ext.freeN p.k<M
        ·have hE:Ext.takeEr p.k (M:Int)=7:=by unfold Ext.takeEr;rw[if_neg (by omega),if_pos (by omega)]
         rw[hE];have hst:stepF C nm p=none:=by unfold stepF;rw[HCC.out];exact if_pos (by rw[<-HM.out];exact hfr)
         have hnone:planF C ss p0=none:=planF_none C (j:=t+1) (by rw[HSN.out];exact hst);have HNONE:=jq hnone;obtain⟨av,cv,e5,_,_,_,_⟩:=own_shape hP4.row;rw[e5]at hP4;obtain⟨L5,hL5⟩:=jl l'.length;obtain⟨T3,hT3⟩:=jl ((Ext.takeL p.k (M:Int)).length);rw[<-hT3];have m0:=hP4.man.cell 0;have m1:=hP4.man.cell 1;have m2:=hP4.man.cell 2;have r0:=hP4.res.cell 0;have r1:=hP4.res.cell 1;have r2:=hP4.res.cell 2;have z0:=hP4.res.frozen 0;have z1:=hP4.res.frozen 1;have z2:=hP4.res.frozen 2
         simp at m0 m1 m2 r0 r1 r2
         rw[<-hL5]at m2;have HP4:=jq hP4;obtain⟨nx,hnx⟩:=jl p.next;rw[<-hnx]at m1;clear hE hst hnone hP4 hown3 hH4 ho4 hL5 hT3 e5 hnx HTK HMN
         go_wp2_with fail
         obtain⟨y0,y1,y2⟩:=res_set HP4.out.res (.int .u64 ((ver:Int)+1)) (.int .u32 (nx:Int)) (.slice av L5 cv);have hBf:=below_res HP4.out.below hgr (.int .u64 ((ver:Int)+1)) (.int .u32 (nx:Int)) (.slice av L5 cv);obtain⟨Wf,hWf⟩:=jl ((((w4.setCell ⟨r,0,none⟩ (.int .u64 ((ver:Int)+1))).setCell ⟨r,1,none⟩ (.int .u32 (nx:Int))).setCell ⟨r,2,none⟩ (.slice av L5 cv)));rw[<-hWf]at y0 y1 y2 hBf⊢;refine bodyPost_ret (v:=.tuple #[.agg #[.int .u64 ((ver:Int)+1),.int .u32 (nx:Int),.slice av L5 cv],.bool false]) (by simp[results,Tryz.f63,go_sem,y0,y1,y2]) rfl ?_;have hn0:=HNONE.out;rw[HP0.out]at hn0;exact⟨_,_,rfl,⟨_,_,_,_,_,rfl⟩,hBf,.inr ⟨hv2,ss,HSS.out,HSM.out,.inl ⟨rfl,.inl hn0⟩⟩⟩
        ·have hNf:M<=Ext.freeN p.k:=by omega
         have hE:Ext.takeEr p.k (M:Int)=0:=by unfold Ext.takeEr;rw[if_neg (by omega),if_neg (by omega)]
         have hTL: (Ext.takeL p.k (M:Int)).length=M:=takeL_length hNf;rw[hE,hTL];rw[hTL]at hown3;obtain⟨x,hxd⟩:∃x:FR,x=⟨newF nm b p,a3,c3⟩:=⟨_,rfl⟩;have hxb:x.f.blocks=(Ext.takeL p.k (M:Int)).map Int.toNat:=by rw[hxd,HM.out];rfl
         have hxl:x.f.blocks.length=M:=by rw[hxb,jP,hTL]
         have hnew:NewRow w.heap.size w4 x:=by
          unfold NewRow;rw[hxl,hxb,toNat_iv,hxd];exact own_mono hown3 HP1.out.below.size
         have hvs:x.vs= [.string sb,.int .u32 (p.next:Int),.int .i64 (B:Int),.slice a3 M c3]:=by
          have e1:sv nm=.string sb:=HSB.out;unfold FR.vs iv;rw[hxl,hxd,HB.out];show [sv nm,_,_,_]=_;rw[e1]
          rfl
         obtain⟨av,cv,e5,hF4,_,_⟩:=hP4.files H.out.files;rw[e5]at hP4
         have hlen:l'.length<=11100:=by
          have h1:=hpi.out.count;rw[<-hfs.out,jP]at h1;have h2: (ss.take t).length<=N:=by rw[jT,HN.out];omega
          omega
         obtain⟨nb,hnb0⟩:∃nb:Nat->ByteArray,nb=λk=>⟨((l'[k]?.map (λy=>y.f.name)).getD []).toArray⟩:=⟨_,rfl⟩
         have hnb:∀(k:Nat) (y:FR),l'[k]? =some y->sv y.f.name=.string (nb k):=λk y hy=>by rw[hnb0];simp[hy,sv]
         have hcl:∀(k:Nat) (y:FR),l'[k]? =some y->(cmpI (nb k) sb<0↔y.f.name<nm):=λk y hy=>cmp_lt (hnb k y hy) HSB.out
         have hrs:∀(k k':Nat) (y y':FR),k<k'->l'[k]? =some y->l'[k']? =some y'->y.f.name<y'.f.name:=λk k' y y' hk hy hy'=>by
          have h1:=hpi.out.rise;unfold rises at h1;rw[<-hfs.out]at h1;have h2:=List.pairwise_map.1 h1;obtain⟨i1,e1⟩:=jS.1 hy;obtain⟨i2,e2⟩:=jS.1 hy';have:=List.pairwise_iff_getElem.1 h2 k k' i1 i2 hk
          rwa [e1,e2]at this
         have hmono:∀k k',k<=k'->k'<l'.length->cmpI (nb k') sb<0->cmpI (nb k) sb<0:=λk k' hk hk' hc=>by
          rcases Nat.lt_or_eq_of_le hk with h1|h1
          ·have g1:=List.getElem?_eq_getElem (l:=l') (i:=k) (by omega);have g2:=List.getElem?_eq_getElem (l:=l') (i:=k') hk';exact(hcl k _ g1).2 (List.lt_trans (hrs k k' _ _ h1 g1 g2) ((hcl k' _ g2).1 hc))
          ·rw[h1];exact hc
         have HFD:=jq (find_any (ver+1) p.next l' nb av cv sb w4 hF4 (by omega) hnb hmono);obtain⟨L5,hL5⟩:=jl l'.length;have m0:=hP4.man.cell 0;have m1:=hP4.man.cell 1;have m2:=hP4.man.cell 2
         simp at m0 m1 m2
         rw[<-hL5]at m2 HFD;obtain⟨nx,hnx⟩:=jl p.next;rw[<-hnx]at m1 HFD;have HP4:=jq hP4;have HNEW:=jq hnew;have HVS:=jq hvs;have HXD:=jq hxd;have HL5:=jq hL5;have HNX:=jq hnx;have HCL:=jq hcl;have HNF:=jq hNf;clear hE hTL hP4 hown3 hH4 ho4 hL5 hnx HTK HMN hF4 hnb0 hnb hcl hrs hmono hnew hvs hxb hxl hxd hNf hfr e5
         go_wp2_with fail
         refine HFD.out.mono ?_;rintro e w5 ⟨i,hi,hi1,hi2,rfl,hB5⟩
         have hins:insAt nm p.fs=i:=by
          rw[<-hfs.out];refine insAt_eq nm _ i (by rw[jP];rw[HL5.out]at hi;exact hi) (λk y hk hy=>?_) (λk y hk hy=>?_)
          ·obtain⟨z,hz,rfl⟩:=Option.map_eq_some_iff.1 (by rw[<-List.getElem?_map];exact hy);exact(HCL.out k z hz).1 (hi1 k hk)
          ·obtain⟨z,hz,rfl⟩:=Option.map_eq_some_iff.1 (by rw[<-List.getElem?_map];exact hy);have hk2:=(jS.1 hz).1;have:=hi2 k hk (by rw[HL5.out];exact hk2)
           exact λh2=>by
            have:=(HCL.out k z hz).2 h2
            omega
         have hP5:=HP4.out.later hB5;have hb5:=HBX4.out.below hB5 HBX4.out.lt;have hnew5:NewRow w.heap.size w5 x:=Dk.own_keep HNEW.out (λg hg=>hB5.block g (World.ownsRow.lt HNEW.out g hg).2);obtain⟨W6,hW6⟩:=jl (w5.alloc (.cells #[.string sb,.int .u32 (nx:Int),.int .i64 (B:Int),.slice a3 M c3] 106));have hB6:Below w5.heap.size w5 W6:=by rw[hW6];exact(Below.refl _ w5).alloc jn _
         have hP6:=hP5.later hB6;have hnew6:NewRow w.heap.size W6 x:=Dk.own_keep hnew5 (λg hg=>hB6.block g (World.ownsRow.lt hnew5 g hg).2);have hx6:Blk W6 w5.heap.size 106 x.vs.toArray:=by rw[hW6,HVS.out,<-HNX.out];exact Blk.new w5 _ _
         rw[<-HL5.out]at hP6
         have HINS:=jq (insert_any l' i x (.slice av L5 cv) w5.heap.size W6 hP6.row hP6.below.size (by rw[<-HL5.out];exact hi) hx6 (λe=>by
          have:=(hP5.row.lt _ (by rw[<-HL5.out];exact e)).2;exact Nat.lt_irrefl _ this) (by omega))
         obtain⟨b6,hb6⟩:=jl w5.heap.size;have m0:=hP5.man.cell 0;have m1:=hP5.man.cell 1;have m2:=hP5.man.cell 2;have b0:=hb5.cell 0
         simp at m0 m1 m2 b0
         rw[<-HL5.out]at m2;rw[<-HNX.out]at m1;have hmm:=hP6.man;have HP6:=jq hP6;have HNEW6:=jq hnew6;have HW6:=jq hW6;have HIN:=jq hins;clear hi1 hi2 hins hP5 hb5 hnew5 hW6 hB6 hP6 hnew6 hx6 hB5 hmm HFD hb6
         go_wp2_with fail
         rw[<-HW6.out];refine HINS.out.mono ?_;rintro e w7 ⟨v7,rfl,hown7,hu7⟩;have hi3:i<=l'.length:=by rw[<-HL5.out];exact hi
         have hlen7: (l'.take i++x ::l'.drop i).length=l'.length+1:=by
          rw[jL,List.length_cons,jT,List.length_drop]
          omega
         have hown8:w7.ownsRow w.heap.size 106 4 v7 (l'.take i++x ::l'.drop i).length (flatF (l'.take i++x ::l'.drop i)):=by rw[hlen7];exact hown7
         have hP7:=HP6.out.rowed (l':=l'.take i++x ::l'.drop i) hu7 hown8 (λy hy=>by
          rcases List.mem_append.1 hy with h1|h1
          ·exact .inl (List.mem_of_mem_take h1)
          ·rcases List.mem_cons.1 h1 with rfl|h1
           ·exact .inr (.inr HNEW6.out)
           ·exact .inl (List.mem_of_mem_drop h1))
         obtain⟨a7,c7,e7,_,_,_,_⟩:=own_shape hown8;obtain⟨L7,hL7⟩:=jl ((l'.take i++x ::l'.drop i).length);rw[<-hL7]at e7;subst e7;have hPA:=hP7.set.nexts ((nx+1)%4294967296)
         have hfs2: (l'.take i++x ::l'.drop i).map FR.f=insF (newF nm b p) p.fs:=by
          have e1:x.f=newF nm b p:=by rw[HXD.out]
          unfold insF;rw[show(newF nm b p).name=nm from rfl,HIN.out,<-hfs.out,<-e1,List.map_append,List.map_cons,List.map_take,List.map_drop]
         have hst:stepF C nm p=some ⟨Ext.takeK p.k (M:Int),(nx+1)%4294967296,insF (newF nm b p) p.fs⟩:=by
          unfold stepF;rw[HCC.out,HNX.out,HM.out];exact if_neg (by rw[<-HM.out];have:=HNF.out;omega)
         have hpi2:=hpi.out.step H.out.disk.small HDN.out (λe=>by rw[HCC.out]at e;cases e) hns (λb hb=>HCB.out nm b hb) hst;rw[<-HTK2.out]at hpi2;have hpl2:planF C (ss.take (t+1)) p0=some ⟨Ext.takeK p.k (M:Int),(nx+1)%4294967296,insF (newF nm b p) p.fs⟩:=by rw[HSN.out];exact hst
         have q0:=hP7.man.cell 0;have q1:=hP7.man.cell 1;have q2:=hP7.man.cell 2;have z1:=hP7.man.frozen 1;have z2:=hP7.man.frozen 2;simp only[jt,ja,jb]at q0 q1 q2;rw[<-HNX.out]at q1;have hwx:IntKind.u32.wrap ((nx:Int)+1)=(((nx+1)%4294967296:Nat):Int):=by rw[IntKind.wrap_u32];omega
         obtain⟨NX,hNX⟩:=jl ((nx+1)%4294967296);obtain⟨l7,hl7⟩:=jl (l'.take i++x ::l'.drop i);rw[<-hNX]at hPA hpi2 hpl2 hwx;rw[<-hl7]at hPA hfs2;have HPA:=jq hPA;have HPI2:=jq hpi2;have HPL2:=jq hpl2;have HFS2:=jq hfs2;clear hown7 hown8 hu7 hP7 hPA hfs2 hst hpi2 hpl2 hlen7 hi3 hL7 hNX hl7 m0 m1 m2 b0
         go_wp2_with fail
         exact⟨⟨t+1,_,_,_,by omega,by simp,HPL2,HFS2,HPI2,HPA⟩,by simp[intOf];omega⟩
     ·obtain rfl:t=N:=by omega
      have htd:decide ((t:Int) <(t:Int))=false:=jf (by omega);have htk:ss.take t=ss:=jW (by rw[HN.out];exact Nat.le_refl _);rw[htk]at hpl hpi;obtain⟨av,cv,e5,hF4,hg5,hb5⟩:=hP.out.files H.out.files;have hP4:=hP.out;rw[e5]at hP4;have hfits:∀y∈l',y.f.fits:=λy hy=>(hpi.out.fit y.f (by rw[<-hfs.out];exact List.mem_map.2 ⟨y,hy,rfl⟩)).1
      have hmy:∀W',Below wr.heap.size wr W'\/(∃A B D,Below wr.heap.size (((wr.setCell ⟨r,0,none⟩ A).setCell ⟨r,1,none⟩ B).setCell ⟨r,2,none⟩ D) W')->True:=λ_ _=>trivial
      clear hmy;have hbody:=hpi.out.may (ver:=ver+1) (by rw[<-HN.out];omega) (by omega)
      have hmy:∀W',FilesIn W' av l'->Calls Tryz.prog 97 #[.agg #[.int .u64 ((ver+1:Nat):Int),.int .u32 (p.next:Int),.slice av l'.length cv]] W' λe w'=>e=.returned (.bool (mayB (ver+1) p.next p.fs))/\Below W'.heap.size W' w':=λW' hW=>by
       have:=may_any (ver+1) p.next av cv l' W' hW (by omega) hpi.out.next hfits (by rw[hfs.out];exact hbody);rw[hfs.out]at this;exact this
      have HMY:=jq hmy;have m0:=hP4.man.cell 0;have m1:=hP4.man.cell 1;have m2:=hP4.man.cell 2;have r0:=hP4.res.cell 0;have r1:=hP4.res.cell 1;have r2:=hP4.res.cell 2;have z0:=hP4.res.frozen 0;have z1:=hP4.res.frozen 1;have z2:=hP4.res.frozen 2;simp only[jt,ja,jb]at m0 m1 m2 r0 r1 r2;obtain⟨nx,hnx⟩:=jl p.next;obtain⟨L5,hL5⟩:=jl l'.length;obtain⟨mb,hmb⟩:=jl (mayB (ver+1) p.next p.fs);rw[<-hmb,<-hnx,<-hL5]at HMY;rw[<-hnx]at m1;rw[<-hL5]at m2;have HP4:=jq hP4;have HF4:=jq hF4;have HG5:=jq hg5;have HB5:=jq hb5;have HNX:=jq hnx;have HL5:=jq hL5;have HMB:=jq hmb;have HPL:=jq hpl.out;have hql:=hP4.man.lt;have hrl:=hP4.res.lt;clear hP4 hF4 hg5 hb5 hnx hL5 hmb hmy hfits hbody e5 htk hP;have hk0: (λw':World=>w'.cell? ⟨q,0,none⟩=some (.int .u64 ((ver:Int)+1))/\w'.cell? ⟨q,1,none⟩=some (.int .u32 (nx:Int))/\w'.cell? ⟨q,2,none⟩=some (.slice av L5 cv)) wr.drew:=⟨m0,m1,m2⟩
      have HKEEP:=jq (show∀w6:World,Below wr.drew.heap.size wr.drew w6->(λw':World=>w'.cell? ⟨q,0,none⟩=some (.int .u64 ((ver:Int)+1))/\w'.cell? ⟨q,1,none⟩=some (.int .u32 (nx:Int))/\w'.cell? ⟨q,2,none⟩=some (.slice av L5 cv)) w6/\(λw':World=>w'.cell? ⟨q,0,none⟩=some (.int .u64 ((ver:Int)+1))/\w'.cell? ⟨q,1,none⟩=some (.int .u32 (nx:Int))/\w'.cell? ⟨q,2,none⟩=some (.slice av L5 cv)) (((w6.setCell ⟨r,0,none⟩ (.int .u64 ((ver:Int)+1))).setCell ⟨r,1,none⟩ (.int .u32 (nx:Int))).setCell ⟨r,2,none⟩ (.slice av L5 cv))/\Blk w6 r 101 #[.int .u64 0,.int .u32 0,.slice none 0 0]from λw6 hB=>by
       have hq6:Blk w6 q 101 #[.int .u64 ((ver+1:Nat):Int),.int .u32 (p.next:Int),.slice av l'.length cv]:=HP4.out.man.below (w':=w6) ⟨hB.os,hB.tape,hB.output,hB.size,hB.block⟩ hql;rw[<-HNX.out,<-HL5.out]at hq6;have hq7:=((hq6.far (p:=⟨r,0,none⟩) hne (.int .u64 ((ver:Int)+1))).far (p:=⟨r,1,none⟩) hne (.int .u32 (nx:Int))).far (p:=⟨r,2,none⟩) hne (.slice av L5 cv);exact⟨⟨hq6.cell 0,hq6.cell 1,hq6.cell 2⟩,⟨hq7.cell 0,hq7.cell 1,hq7.cell 2⟩,HP4.out.res.below (w':=w6) ⟨hB.os,hB.tape,hB.output,hB.size,hB.block⟩ hrl⟩)
      go_wp2_with fail
      go_region_held3 (λw'=>w'.cell? ⟨q,0,none⟩=some (.int .u64 ((ver:Int)+1))/\w'.cell? ⟨q,1,none⟩=some (.int .u32 (nx:Int))/\w'.cell? ⟨q,2,none⟩=some (.slice av L5 cv)) (first|exact hk0|exact hk1|exact hk2) ((first|(go_at_call 97;refine(HMY.out _ (HF4.out.later (Below.refl _ wr).drew)).mono ?_;rintro e w6 ⟨rfl,hB6⟩;obtain⟨hk1,hk2,hr6⟩:=HKEEP.out w6 hB6;have r06:=hr6.cell 0;have r16:=hr6.cell 1;have r26:=hr6.cell 2;have z06:=hr6.frozen 0;have z16:=hr6.frozen 1;have z26:=hr6.frozen 2;simp only[jt,ja,jb]at r06 r16 r26;have HB6:=jq hB6;have HR6:=jq hr6;clear hB6 hr6;dsimp only)))
      obtain⟨y0,y1,y2⟩:=res_set HR6.out (.int .u64 ((ver:Int)+1)) (.int .u32 (nx:Int)) (.slice av L5 cv);have hB46:Below w.heap.size w w6:=HP4.out.below.trans ((show Below wr.heap.size wr w6 from⟨HB6.out.os,HB6.out.tape,HB6.out.output,HB6.out.size,HB6.out.block⟩).mono HP4.out.below.size);have hBf:=below_res hB46 hgr (.int .u64 ((ver:Int)+1)) (.int .u32 (nx:Int)) (.slice av L5 cv)
      have hFf:FilesIn (((w6.setCell ⟨r,0,none⟩ (.int .u64 ((ver:Int)+1))).setCell ⟨r,1,none⟩ (.int .u32 (nx:Int))).setCell ⟨r,2,none⟩ (.slice av L5 cv)) av l'/\(∀b,Mem.blk av=some b->w.heap.size<=b/\b<(((w6.setCell ⟨r,0,none⟩ (.int .u64 ((ver:Int)+1))).setCell ⟨r,1,none⟩ (.int .u32 (nx:Int))).setCell ⟨r,2,none⟩ (.slice av L5 cv)).heap.size)/\∀x∈l',x∈l\/∀b,Mem.blk x.a=some b->w.heap.size<=b/\b<(((w6.setCell ⟨r,0,none⟩ (.int .u64 ((ver:Int)+1))).setCell ⟨r,1,none⟩ (.int .u32 (nx:Int))).setCell ⟨r,2,none⟩ (.slice av L5 cv)).heap.size:=by
       have hP6:=HP4.out.later (show Below wr.heap.size wr w6 from⟨HB6.out.os,HB6.out.tape,HB6.out.output,HB6.out.size,HB6.out.block⟩);obtain⟨cs6,hc6,hb6⟩:=hP6.map.words;have hPr:=((hP6.res0 (.int .u64 ((ver:Int)+1)) 0).res0 (.int .u32 (nx:Int)) 1).res0 (.slice av L5 cv) 2;obtain⟨a9,c9,e9,hF9,hg9,hb9⟩:=hPr.files9 H.out.files;cases e9;exact⟨hF9,hg9,hb9⟩
      obtain⟨Wf,hWf⟩:=jl ((((w6.setCell ⟨r,0,none⟩ (.int .u64 ((ver:Int)+1))).setCell ⟨r,1,none⟩ (.int .u32 (nx:Int))).setCell ⟨r,2,none⟩ (.slice av L5 cv)));rw[<-hWf]at y0 y1 y2 hBf hFf⊢;have HFf:=jq hFf;clear hFf hk1 hk2 r06 r16 r26 z06 z16 z26 hWf
      go_wp2_with fail
      refine bodyPost_ret (v:=.tuple #[.agg #[.int .u64 ((ver:Int)+1),.int .u32 (nx:Int),.slice av L5 cv],.bool mb]) (by simp[results,Tryz.f63,go_sem,y0,y1,y2]) rfl ?_;have hpl2:=HPL.out;rw[HP0.out]at hpl2;refine⟨_,_,rfl,⟨_,_,_,_,_,rfl⟩,hBf,.inr ⟨hv2,ss,HSS.out,HSM.out,?_⟩⟩;cases mb
      ·exact .inl ⟨rfl,.inr ⟨p,hpl2,HMB.out.symm⟩⟩
      ·refine .inr ⟨rfl,p,av,cv,l',hpl2,HMB.out.symm,?_,hfs.out,HFf.out.1,HFf.out.2.1,HFf.out.2.2⟩;rw[<-HNX.out,<-HL5.out]
       rfl
end Full
namespace Full
open Go.RowKit Go.Deep Mem Crc Go.Maps Dk Mani
open Store (Chg chgV isChg none' nv nv_key strKeyed zero_chg)
structure WS (w:World) (d g:Nat) (wv:Value) (m:DM) (wv':Value) (W:World):Prop where
 disk:Dk W d g wv' m
 upon:Upon (Has d g wv) w W
 own:∀k,wv'.ownBlock=some k->wv.ownBlock=some k\/w.heap.size<=k
theorem WS.later {w W W':World} {d g:Nat} {wv wv':Value} {m:DM} (h:WS w d g wv m wv' W) (hB:Below W.heap.size W W'):WS w d g wv m wv' W':=
 ⟨h.disk.later hB,h.upon.trans (Upon.of_below (P:=λ_=>False) hB) (λ_ hf=>hf.elim),h.own⟩
theorem WS.step {w W W':World} {d g:Nat} {wv wv' wv2:Value} {m m2:DM} (h:WS w d g wv m wv' W) (hd:Dk W' d g wv2 m2) (hu:Upon (Has d g wv') W W') (ho:∀k,wv2.ownBlock=some k->wv'.ownBlock=some k\/W.heap.size<=k):WS w d g wv m2 wv2 W':=
 ⟨hd,h.upon.trans hu (λk hk=>by
  rcases hk with rfl|rfl|hk
  ·exact .inl (.inl rfl)
  ·exact .inl (.inr (.inl rfl))
  ·rcases h.own k hk with h1|h1
   ·exact .inl (.inr (.inr h1))
   ·exact .inr h1),λk hk=>by
  rcases ho k hk with h1|h1
  ·exact h.own k h1
  ·exact .inr (Nat.le_trans h.upon.size h1)⟩
theorem WS.cell {w W:World} {d g:Nat} {wv wv':Value} {m:DM} (h:WS w d g wv m wv' W) {p:Addr} (hp:p.block<w.heap.size) (hn:¬Has d g wv p.block):W.cell? p=w.cell? p:=World.cell?_of_block (h.upon.block p.block hp hn)
theorem WS.lies {w W:World} {d g:Nat} {wv wv':Value} {m:DM} (h:WS w d g wv m wv' W) {a:Option Addr} {xs:List Value} (hL:Lies w a xs) (hn:∀k,Mem.blk a=some k->¬Has d g wv k):Lies W a xs:=hL.upon h.upon hn
theorem WS.files {w W:World} {d g:Nat} {wv wv':Value} {m:DM} (h:WS w d g wv m wv' W) {a:Option Addr} {l:List FR} (hF:FilesIn w a l) (hn:∀k,Mem.blk a=some k->¬Has d g wv k) (hx:∀x∈l,∀k,Mem.blk x.a=some k->¬Has d g wv k):FilesIn W a l:=
 ⟨h.lies hF.row hn,λx hx2=>⟨h.lies (hF.blocks x hx2).1 (hx x hx2),(hF.blocks x hx2).2⟩⟩
theorem WS.base {w W0 W:World} {d g:Nat} {wv wv':Value} {m:DM} (h:WS W0 d g wv m wv' W) (hB:Below w.heap.size w W0):WS w d g wv m wv' W:=
 ⟨h.disk,(Upon.of_below (P:=Has d g wv) hB).trans h.upon (λ_ hk=>.inl hk),λk hk=>(h.own k hk).imp id (λh1=>Nat.le_trans hB.size h1)⟩
theorem Fu.away {w:World} {Q:Nat->Prop} {s d g cm:Nat} {wv:Value} {m:DM} {ver next:Nat} {a:Option Addr} {c:Nat} {l:List FR} {bad:Bool} {C:Chg} (h:Fu w Q s d g cm wv m ver next a c l bad C):¬Has d g wv s/\¬Has d g wv cm:=by
 obtain⟨f,⟨D,n,⟨es,cl,hb,_⟩,_⟩,_⟩:=h.map;refine⟨λhk=>?_,λhk=>?_⟩
 ·rcases hk with e|e|e
  ·exact h.store.ne h.disk.disk (by decide) e
  ·exact h.store.ne h.disk.row (by decide) e
  ·exact own_ne_blk h.disk.wt h.store (by decide) e
 ·rcases hk with e|e|e
  ·have:=h.disk.disk;unfold Blk at this;rw[<-e,hb]at this;cases this
  ·have:=h.disk.row;unfold Blk at this;rw[<-e,hb]at this;cases this
  ·obtain⟨_,_,h1⟩:=own_cells h.disk.wt e;rw[hb]at h1;cases h1
end Full
namespace Full
open Go.RowKit Go.Deep Mem Crc Go.Maps Dk Mani Pages
theorem file_any {W:World} {d g s:Nat} {wv:Value} {m:DM} {cs:Array Value} (hd:Dk W d g wv m) (hoff:m.off=false) (hwt:m.wt.length<=900000) (hs:Blk W s 111 cs) (hcs:cs[0]? =some (.pointer (some ⟨d,0,none⟩)))
  (sb:ByteArray) (id sz:Nat) (b:List UInt8) (bl:List Nat) (a1 xa:Option Addr) (cp1 xc:Nat) (hLb:Lies W a1 (b.map bv)) (ha1:∀k,Mem.blk a1=some k->¬Has d g wv k) (hcp:b.length<=cp1) (hb:b.length<=1048576)
  (hLx:Lies W xa (bl.map iv)) (hxa:∀k,Mem.blk xa=some k->¬Has d g wv k) (hm:bl.length=Mani.many b.length) (hbi:∀i∈bl,i<m.bl.length) (hid:id<4294967296):
  Calls Tryz.prog 98 #[.pointer (some ⟨s,0,none⟩),.agg #[.string sb,.int .u32 (id:Int),.int .i64 (sz:Int),.slice xa bl.length xc],.slice a1 b.length cp1] W λe w'=>e=.returned (.int .i64 (m.writes (pagesW id bl b)).2)/\∃wv',Dk w' d g wv' (m.writes (pagesW id bl b)).1/\Upon (Has d g wv) W w'/\∀k,wv'.ownBlock=some k->wv.ownBlock=some k\/W.heap.size<=k:=by
 by_cases h0:b= []
 ·subst h0;have hbl:bl= []:=List.eq_nil_of_length_eq_zero (by rw[hm];rfl);subst hbl;refine(pages_none s sb id sz cp1 (.slice xa 0 xc) a1 W).mono ?_;rintro e w' ⟨rfl,hB⟩;exact⟨rfl,wv,hd.later hB,Upon.of_below hB,λk hk=>.inl hk⟩
 ·have hl0:b.length≠0:=λe=>h0 (List.eq_nil_of_length_eq_zero e)
  have hm0:bl≠[]:=λe=>by
   rw[e]at hm;exact hl0 (many_zero hm.symm)
  obtain⟨ga,go,rfl,_,_⟩:=(hLb.resolve_left (λe=>h0 (List.map_eq_nil_iff.1 e)));obtain⟨ba,bo,rfl,_,_⟩:=(hLx.resolve_left (λe=>hm0 (List.map_eq_nil_iff.1 e)));obtain⟨h1,h2⟩:=many_cover (n:=b.length);rw[<-hm]at h1 h2
  have hbn:bl.length<=10000:=by
   rw[hm];unfold Mani.many
   split <;> omega
  exact pages_any sb id sz ga go cp1 ba bo xc b bl W hd hoff (by omega) hs hcs hLb (ha1 ga rfl) hcp (by omega) hLx (hxa ba rfl) hbi h1 h2 hid (by omega)
end Full
namespace Full
open Go.RowKit Go.Deep Mem Crc Go.Maps Dk Mani
open Store (Chg chgV isChg none' nv nv_key strKeyed zero_chg)
attribute [local go_sem] Oper.semAt_some
theorem writes_any {w:World} {Q:Nat->Prop} {s d g cm:Nat} {wv:Value} {m:DM} {ver next:Nat} {a:Option Addr} {c:Nat} {l:List FR} {bad:Bool} {C:Chg} (h:Fu w Q s d g cm wv m ver next a c l bad C) (hoff:m.off=false) (hwt:m.wt.length<=100000) (h33:33<=m.bl.length)
  (v1 nx:Nat) (a':Option Addr) (c':Nat) (l':List FR) (hF:FilesIn w a' l') (ha:∀k,Mem.blk a'=some k->¬Has d g wv k) (hx:∀x∈l',∀k,Mem.blk x.a=some k->¬Has d g wv k) (hxlt:∀x∈l',∀k,Mem.blk x.a=some k->k<w.heap.size) (hnew:∀x∈l',C x.f.name=none\/∃b,C x.f.name=some (some b)/\IsNew m.bl.length b x.f)
  (hl:∀x∈l',x.f.name.length<=32/\x.f.fits) (hlen:l'.length<=11100) (hbk: (bksL (l'.map FR.f)).length<=70000) (hCb:∀nm b,C nm=some (some b)->b.length<=1048576) (hv:v1<18446744073709551616) (hn:nx<4294967296) (hmay:mayB v1 nx (l'.map FR.f)=true):
  Calls Tryz.prog 64 #[.pointer (some ⟨s,0,none⟩),.agg #[.int .u64 (v1:Int),.int .u32 (nx:Int),.slice a' l'.length c']] w λe w'=>e=.returned (.int .i64 (commitD m C (l'.map FR.f) v1 (manL v1 nx (l'.map FR.f))).2)/\∃wv',WS w d g wv (commitD m C (l'.map FR.f) v1 (manL v1 nx (l'.map FR.f))).1 wv' w':=by
 obtain⟨has,hac⟩:=h.away;obtain⟨n,hnl⟩:=jl l'.length;rw[<-hnl]at hlen⊢;obtain⟨W0,hW0⟩:=jl (w.alloc (.cells #[.int .u64 (v1:Int),.int .u32 (nx:Int),.slice a' n c'] 101));obtain⟨b3,hb3⟩:=jl w.heap.size;have hB0:Below w.heap.size w W0:=by rw[hW0];exact(Below.refl _ w).alloc jn _
 have hbm:Blk W0 b3 101 #[.int .u64 (v1:Int),.int .u32 (nx:Int),.slice a' n c']:=by rw[hW0,hb3];exact Blk.new w _ _
 have h0:=h.later hB0;have hF0:=hF.later hB0;have hb3h:¬Has d g wv b3:=λhk=>by have:=h.disk.lt b3 hk;omega
 obtain⟨c0,_,_,_,c4,_⟩:=h0.cells;have hsl:=h0.store.lt;have hcl:=h0.lt cm h0.qm;have H:=jq h0;have HFI:=jq hF0;have HA:=jq ha;have HX:=jq hx;have HXL:=jq hxlt;have HNEW:=jq hnew;have HLL:=jq hl;have HCB:=jq hCb;have HMAY:=jq hmay;have HNL:=jq hnl;have HBK:=jq hbk;have HAS:=jq has;have HAC:=jq hac;have HB3:=jq hb3h;have HBM:=jq hbm;have HB0:=jq hB0;have hws:WS W0 d g wv (m.writes (chW C ((l'.map FR.f).take 0))).1 wv W0:=⟨h0.disk,Upon.refl _ _,λk hk=>.inl hk⟩;have hok: (m.writes (chW C ((l'.map FR.f).take 0))).2=0:=rfl;have HWS:=jq hws;have HOK:=jq hok;have HW0:=jq hW0;have hb3e:b3=w.heap.size:=hb3;have HBE:=jq hb3e;have m2:=hbm.cell 2
 simp at m2
 clear h h0 hF hF0 ha hx hxlt hnew hl hCb hmay hnl hbk has hac hws hok hb3 hb3e hb3h hbm hB0 hW0
 go_enter Tryz.func64,Tryz.ntmps64
 go_wp2_with fail
 rw[<-HW0.out,<-HBE.out]
 go_wp2_with fail
 go_loopw[14] (λi wr=>∃(j:Nat) (wv':Value),j<=n/\i=.int .i64 j/\Hid ((m.writes (chW C ((l'.map FR.f).take j))).2=0)/\Hid (WS W0 d g wv (m.writes (chW C ((l'.map FR.f).take j))).1 wv' wr)) (λi _=>n-(intOf i).toNat)
 case atStart=>exact⟨0,wv,Nat.zero_le _,rfl,HOK,HWS⟩
 case round=>
  obtain⟨j,wv',hj,rfl,hok,hws⟩:=hrel
  by_cases hlt:j<n
  ·have hjd:decide ((j:Int) <(n:Int))=true:=jd (by omega);obtain⟨x,hx⟩:∃x,l'[j]? =some x:=⟨l'[j]'(by rw[<-HNL.out];exact hlt),jg _⟩;have hxm:=jM hx;have hFr:=hws.out.files HFI.out HA.out HX.out;obtain⟨ga,oa,rfl,f0,f1,f2,f3⟩:=hFr.cells hx;obtain⟨sb,hnm⟩:∃sb:ByteArray,sv x.f.name=.string sb:=⟨_,rfl⟩;have hnm2:nv x.f.name=.string sb:=hnm;obtain⟨sz,hsz⟩:=jl x.f.size;obtain⟨id,hid⟩:=jl x.f.id;obtain⟨bn,hbn⟩:=jl x.f.blocks.length;obtain⟨ch,hch⟩:=jl ((C x.f.name).isSome);unfold iv at f2;rw[hnm]at f0;rw[<-hid]at f1;rw[<-hsz]at f2;rw[<-hbn]at f3;obtain⟨W5,hW5⟩:=jl (wr.alloc (.cells #[.string sb,.int .u32 (id:Int),.int .i64 (sz:Int),.slice x.a bn x.c] 106));have hB5:Below wr.heap.size wr W5:=by rw[hW5];exact(Below.refl _ wr).alloc jn _
   have hb5:Blk W5 wr.heap.size 106 #[.string sb,.int .u32 (id:Int),.int .i64 (sz:Int),.slice x.a bn x.c]:=by rw[hW5];exact Blk.new wr _ _
   obtain⟨bx,hbx⟩:=jl wr.heap.size;rw[<-hbx]at hb5;obtain⟨W6,hW6⟩:=jl ((W5.alloc (.cells #[.slice none 0 0,.bool false] 115)).drew);have hB6:Below wr.heap.size wr W6:=by rw[hW6];exact(hB5.alloc hB5.size _).drew
   have hcm:wr.heap[cm]? =W0.heap[cm]?:=hws.out.upon.block cm hcl HAC.out;have hcw:cm<wr.heap.size:=Nat.lt_of_lt_of_le hcl hws.out.upon.size;obtain⟨a1,n1,cp1,gn,hlo,hlk⟩:=H.out.look x.f.name (by have:=(HLL.out x hxm).1;omega);have hlk5:=(hlk W5.drew ((hB5.drew.block cm hcw).trans hcm)).1;have hlk6:=(hlk W6 ((hB6.block cm hcw).trans hcm)).1;rw[hnm2,<-hch]at hlk5 hlk6;have hsw:s<wr.heap.size:=Nat.lt_of_lt_of_le hsl hws.out.upon.size;have k0:=(hws.out.cell (p:=⟨s,4,none⟩) hsl HAS.out).trans c4;have k6:=(hB6.cell (p:=⟨s,4,none⟩) hsw).trans k0;have k4:=(hB5.cell (p:=⟨s,4,none⟩) hsw).trans k0
   have b6:W6.cell? ⟨bx,0,none⟩=some (.string sb):=by
    rw[hW6];exact(hb5.alloc _).cell 0
   rw[hW6]at hlk6 k6 b6;have b0:=hb5.cell 0
   simp at b0
   have HW5:=jq hW5;have HBX:=jq hbx;have HXJ:=jq hx;have HNM:=jq hnm;have HSZ:=jq hsz;have HID:=jq hid;have HBN:=jq hbn;have HCH:=jq hch;have HB5:=jq hB5;have HBK5:=jq hb5;have HLO:=jq hlo;clear hW6 hB6 hlk hcw hsw hcm hFr hxm hx hnm hnm2 hsz hid hbn hch hB5 hb5 hlo k0
   go_wp2_with fail
   rw[<-HW5.out,<-HBX.out];clear hW5 hbx
   go_wp2_with fail
   go_region
   all_goals
    obtain⟨W7,hW7⟩:=jl ((W5.alloc (.cells #[.slice a1 n1 cp1,.bool gn] 115)).drew);have hB57:Below W5.heap.size W5 W7:=by rw[hW7];exact((Below.refl _ W5).alloc jn _).drew
    rw[<-hW7];have hws7:=hws.out.later (HB5.out.trans (hB57.mono HB5.out.size));have hb7:=HBK5.out.below hB57 HBK5.out.lt;have hc7:Blk W7 W5.heap.size 115 #[.slice a1 n1 cp1,.bool gn]:=by rw[hW7];exact Blk.new W5 _ _
    have HWS7:=jq hws7;have b0:=hb7.cell 0;have b1:=hb7.cell 1;have b2:=hb7.cell 2;have b3:=hb7.cell 3;have d0:=hc7.cell 0
    simp at b0 b1 b2 b3 d0
    clear hW7 hB57 hws7 hb7 hc7 hlk5 hlk6 k4 k6 b6;cases ch
    ·have hcn:C x.f.name=none:=by
      have:=HCH.out
      cases hc:C x.f.name with
      |none=>rfl
      |some c=>rw[hc]at this;cases this
     have hks:chW C ((l'.map FR.f).take (j+1))=chW C ((l'.map FR.f).take j):=by
      rw[chW_snoc C (f:=x.f) (by rw[List.getElem?_map,HXJ.out];rfl)];unfold fileW;rw[hcn]
      simp
     have hok2:=hok.out;have hws2:=HWS7.out;rw[<-hks]at hok2 hws2;have HOK2:=jq hok2;have HWS2:=jq hws2;clear hks hcn hok2 hws2
     go_wp2_with fail
     exact⟨⟨j+1,wv',by omega,by simp,HOK2,HWS2⟩,by simp[intOf];omega⟩
    ·have hxm:=jM HXJ.out
     obtain⟨b,hcc,hin⟩:∃b,C x.f.name=some (some b)/\IsNew m.bl.length b x.f:=by
      rcases HNEW.out x hxm with h1|h1
      ·have:=HCH.out;rw[h1]at this;cases this
      ·exact h1
     have hlo:=HLO.out;rw[hcc]at hlo;obtain⟨rfl,rfl,hcp,hLb,hOb⟩:=hlo;obtain⟨hs1,hs2,hs3⟩:=chW_state hok.out HBK.out hwt;have hst:=H.out.store.upon HWS7.out.upon HAS.out;have hfw:fileW C x.f=Pages.pagesW x.f.id x.f.blocks b:=by unfold fileW;rw[hcc]
     have hpg:=file_any HWS7.out.disk (by rw[hs2];exact hoff) (by omega) hst rfl sb x.f.id x.f.size b x.f.blocks a1 x.a cp1 x.c (HWS7.out.lies hLb (λk hk=>(hOb k hk).2.2.2)) (λk hk hh=>by
      rcases hh with e|e|e
      ·exact(hOb k hk).2.2.2 (.inl e)
      ·exact(hOb k hk).2.2.2 (.inr (.inl e))
      ·rcases HWS7.out.own k e with h1|h1
       ·exact(hOb k hk).2.2.2 (.inr (.inr h1))
       ·have:=H.out.lt k (hOb k hk).1;omega) hcp (HCB.out _ b hcc) (HWS7.out.lies (HFI.out.blocks x hxm).1 (HX.out x hxm)) (λk hk hh=>by
      rcases hh with e|e|e
      ·exact HX.out x hxm k hk (.inl e)
      ·exact HX.out x hxm k hk (.inr (.inl e))
      ·rcases HWS7.out.own k e with h1|h1
       ·exact HX.out x hxm k hk (.inr (.inr h1))
       ·have h2:=HXL.out x hxm k hk;have h3:=HB0.out.size
        omega) hin.many (λi hi=>by rw[hs1];exact hin.in_ i hi) (HLL.out x hxm).2.id
     rw[<-HID.out,<-HSZ.out,<-HBN.out]at hpg;have hsn:=chW_snoc C (fs:=l'.map FR.f) (j:=j) (f:=x.f) (by rw[List.getElem?_map,HXJ.out];rfl);rw[hfw]at hsn;have happ:=writes_append _ (Pages.pagesW x.f.id x.f.blocks b) m hok.out;rw[<-hsn,<-HID.out]at happ;have HPG:=jq hpg;have HAPP:=jq happ;clear hpg happ hsn hfw hst hs1 hs2 hs3 hcc hin hcp hLb hOb hxm
     go_wp2_with fail
     refine HPG.out.mono ?_;rintro e w8 ⟨rfl,wv2,hd8,hu8,ho8⟩;have hws8:=HWS7.out.step hd8 hu8 ho8;rw[<-HAPP.out]at hws8⊢;obtain⟨E,hE⟩:=jl ((m.writes (chW C ((l'.map FR.f).take (j+1)))).2);rw[<-hE];have HWS8:=jq hws8
     by_cases hz:E=0
     ·have hok2: (m.writes (chW C ((l'.map FR.f).take (j+1)))).2=0:=by rw[<-hE];exact hz
      have HOK2:=jq hok2;subst hz;clear hE hok2 hws8 hd8 hu8 ho8 HPG
      go_wp2_with fail
      exact⟨⟨j+1,wv2,by omega,by simp,HOK2,HWS8⟩,by simp[intOf];omega⟩
     ·have hEb: (E==0)=false:=by simpa using hz
      have hst2:=chW_stop (C:=C) (fs:=l'.map FR.f) (j:=j+1) (m:=m) (by rw[<-hE];exact hz)
      have hcm2:commitD m C (l'.map FR.f) v1 (manL v1 nx (l'.map FR.f))=m.writes (chW C ((l'.map FR.f).take (j+1))):=by
       unfold commitD;rw[hst2,if_neg (by rw[<-hE];exact hz)]
      have HCM:=jq hcm2;have HE:=jq hE;clear hE hst2 hcm2 hws8 hd8 hu8 ho8 HPG
      go_wp2_with fail
      go_ret
      rw[HCM.out];exact⟨by rw[<-HE.out];rfl,wv2,HWS8.out.base HB0.out⟩
  ·obtain rfl:j=n:=by omega
   have hjd:decide ((j:Int) <(j:Int))=false:=jf (by omega);have htk: (l'.map FR.f).take j=l'.map FR.f:=jW (by rw[jP,HNL.out];exact Nat.le_refl _);rw[htk]at hok hws;obtain⟨hs1,hs2,hs3⟩:=chW_state (C:=C) (fs:=l'.map FR.f) (j:=j) (m:=m) (by rw[htk];exact hok.out) HBK.out hwt;rw[htk]at hs1 hs2 hs3;have k0:=(hws.out.cell (p:=⟨s,0,none⟩) hsl HAS.out).trans c0;have HSY:=jq (sync_on hws.out.disk (by rw[hs2];exact hoff) (by omega));clear htk hs1 hs2 hs3
   go_wp2_with fail
   refine HSY.out.mono ?_;rintro e w8 ⟨rfl,wv2,hd8,hu8,ho8⟩;have hws8:=hws.out.step hd8 (hu8.mono (λk hk=>hk.elim .inl (λh=>.inr (.inl h)))) (λk hk=>.inl (ho8 k hk));obtain⟨m1,hm1⟩:=jl ((m.writes (chW C (l'.map FR.f))).1);rw[<-hm1]at hws8⊢;obtain⟨E,hE⟩:=jl m1.sync.2;rw[<-hE];have HWS8:=jq hws8
   by_cases hz:E=0
   ·have hcm2:commitD m C (l'.map FR.f) v1 (manL v1 nx (l'.map FR.f))=m1.sync.1.mani v1 (manL v1 nx (l'.map FR.f)):=by
     unfold commitD;rw[if_pos hok.out,<-hm1,if_pos (by rw[<-hE];exact hz)]
    have HCM:=jq hcm2;subst hz;have HE:=jq hE;have HM1:=jq hm1;have hk0:=(hws8.cell (p:=⟨s,0,none⟩) hsl HAS.out).trans c0;have hb3:=HBM.out.upon hws8.upon HB3.out;have b0:=hb3.cell 0;have b1:=hb3.cell 1;have b2:=hb3.cell 2
    simp at b0 b1 b2
    obtain⟨o1,o2,o3⟩:=sync_ok hE.symm;obtain⟨w1',w2',w3'⟩:=writes_ok hok.out;have hof:m1.sync.1.off=false:=by rw[o1,hm1,w2'];exact hoff
    have hbl:33<=m1.sync.1.bl.length:=by rw[o2,puts_length,hm1,w1'];exact h33
    have hwl:m1.sync.1.wt.length<=900000:=by rw[o3];exact Nat.zero_le _
    have hw9:WS W0 d g wv m1.sync.1 wv2 w8.drew:=hws8.later (Below.refl _ w8).drew;have hwr:=write_any v1 nx a' c' l' w8.drew hw9.disk hof hbl hwl (hw9.files HFI.out HA.out HX.out) hv hn (λx hx=>(HLL.out x hx).2) HMAY.out;rw[<-HNL.out]at hwr;have HWR:=jq hwr;have HW9:=jq hw9;clear hE hm1 hcm2 hws8 hd8 hu8 ho8 hb3 k0 o1 o2 o3 w1' w2' w3' hof hbl hwl hw9 hwr
    go_wp2_with fail
    go_still_tail 5,(by kernel_rfl)
    change wpList _ _ _ _ _ w8.drew
    obtain⟨w9,hw9e⟩:=jl w8.drew;rw[<-hw9e]at HWR HW9⊢;clear hw9e
    go_wp2_with fail
    refine HWR.out.mono ?_;rintro e wA ⟨rfl,wvA,hdA,huA,hoA⟩;have hwsA:=(HW9.out.step hdA huA hoA).base HB0.out;have HWSA:=jq hwsA;clear hwsA hdA huA hoA HWR
    go_wp2_with fail
    go_ret
    rw[HCM.out];exact⟨rfl,wvA,HWSA.out⟩
   ·have hEb: (E==0)=false:=by simpa using hz
    have hcm2:commitD m C (l'.map FR.f) v1 (manL v1 nx (l'.map FR.f))=m1.sync:=by
     unfold commitD;rw[if_pos hok.out,<-hm1,if_neg (by rw[<-hE];exact hz)]
    have HCM:=jq hcm2;have HE:=jq hE;clear hE hm1 hcm2 hws8 hd8 hu8 ho8
    go_wp2_with fail
    go_ret
    rw[HCM.out];exact⟨by rw[<-HE.out];rfl,wv2,HWS8.out.base HB0.out⟩
end Full
namespace Full
open Go.RowKit Mani Varint
theorem blkB_true:∀{l bks:List Nat},blkB bks l=true->l.Nodup/\∀i∈l,i∉bks/\32<=i/\i<65536
 | [],_,_=>⟨List.nodup_nil,λi hi=>by cases hi⟩
 |i ::r,bks,h=>by
  unfold Mani.blkB at h;simp only[Bool.and_eq_true,Bool.not_eq_true',decide_eq_true_eq]at h;obtain⟨⟨⟨h1,h2⟩,h3⟩,h4⟩:=h;obtain⟨h5,h6⟩:=blkB_true h4
  have h1':i∉bks:=λhm=>by
   rw[List.contains_iff_mem.2 hm]at h1;cases h1
  refine⟨List.nodup_cons.2 ⟨λhm=>(h6 i hm).1 (by simp),h5⟩,λj hj=>?_⟩;rcases List.mem_cons.1 hj with rfl|hj
  ·exact⟨h1',h2,h3⟩
  ·obtain⟨h7,h8⟩:=h6 j hj;exact⟨λhm=>h7 (by simp[hm]),h8⟩
structure FOk (next:Nat) (f:Fil):Prop where
 n1:1<=f.name.length
 n2:f.name.length<=32
 id:f.id<next
 many:many f.size=f.blocks.length
 blocks:∀i∈f.blocks,32<=i/\i<65536
structure MOk (next:Nat) (prev:Option (List UInt8)) (ids bks:List Nat) (fs:List Fil):Prop where
 rise:rises fs
 prev:∀p,prev=some p->∀f∈fs,p<f.name
 each:∀f∈fs,FOk next f
 ids: (fs.map Fil.id).Nodup/\∀f∈fs,f.id∉ids
 bks: (bksL fs).Nodup/\∀i∈bksL fs,i∉bks
theorem headB_true {f:Fil} {next:Nat} (h:headB f next=true):1<=f.name.length/\f.name.length<=32/\f.id<next/\Mani.many f.size=f.blocks.length:=by
 unfold Mani.headB at h;simp only[Bool.and_eq_true,decide_eq_true_eq]at h;exact⟨h.1.1.1,h.1.1.2,h.1.2,h.2⟩
theorem allB_true {next:Nat}:∀{fs:List Fil} {prev:Option (List UInt8)} {ids bks:List Nat},allB next prev ids bks fs=true->MOk next prev ids bks fs
 | [],_,_,_,_=>⟨List.Pairwise.nil,λ_ _ f hf=>(by cases hf),λf hf=>(by cases hf),⟨List.nodup_nil,λf hf=>(by cases hf)⟩,⟨List.nodup_nil,λf hf=>(by cases hf)⟩⟩
 |f ::r,prev,ids,bks,h=>by
  unfold Mani.allB Mani.rightB at h;simp only[Bool.and_eq_true,Bool.not_eq_true']at h;obtain⟨⟨h1,⟨h2,h3⟩,h4⟩,h5⟩:=h;have ih:=allB_true h5;obtain⟨g1,g2,g3,g4⟩:=headB_true h2;obtain⟨b1,b2⟩:=blkB_true h4
  have h3':f.id∉ids:=λhm=>by
   rw[List.contains_iff_mem.2 hm]at h3;cases h3
  refine⟨List.pairwise_cons.2 ⟨λx hx=>ih.prev f.name rfl x hx,ih.rise⟩,?_,?_,⟨?_,?_⟩,⟨?_,?_⟩⟩
  ·rintro p rfl x hx;have hp:p<f.name:=by simpa using h1
   rcases List.mem_cons.1 hx with rfl|hx
   ·exact hp
   ·exact List.lt_trans hp (ih.prev f.name rfl x hx)
  ·intro x hx;rcases List.mem_cons.1 hx with rfl|hx
   ·exact⟨g1,g2,g3,g4,λi hi=>(b2 i hi).2⟩
   ·exact ih.each x hx
  ·rw[List.map_cons];refine List.nodup_cons.2 ⟨λhm=>?_,ih.ids.1⟩;obtain⟨x,hx,e⟩:=List.mem_map.1 hm;exact ih.ids.2 x hx (by rw[e];simp)
  ·intro x hx;rcases List.mem_cons.1 hx with rfl|hx
   ·exact h3'
   ·exact λhm=>ih.ids.2 x hx (by simp[hm])
  ·have e:bksL (f ::r)=f.blocks++bksL r:=by unfold bksL;rw[jC]
   rw[e];refine List.nodup_append.2 ⟨b1,ih.bks.1,λa ha b hb=>?_⟩;rintro rfl;exact ih.bks.2 a hb (by simp[ha])
  ·intro i hi;have e:bksL (f ::r)=f.blocks++bksL r:=by unfold bksL;rw[jC]
   rw[e]at hi;rcases List.mem_append.1 hi with hi|hi
   ·exact(b2 i hi).1
   ·exact λhm=>ih.bks.2 i hi (by simp[hm])
theorem may_true {ver next:Nat} {fs:List Fil} (h:mayB ver next fs=true):MOk next none [] [] fs/\(bksL fs).length+fs.length<=2035:=by
 have h2:=may_short h;unfold Mani.mayB at h;rw[Bool.and_eq_true]at h;refine⟨allB_true h.1,?_⟩;have h3:=bksL_le fs;unfold Mani.bodyL at h2;simp only[jL]at h2
 omega
structure Okm (n ver next:Nat) (fs:List Fil):Prop where
 may:mayB ver next fs=true
 ver:ver<18446744073709551616
 next:next<4294967296
 in_:∀f∈fs,∀i∈f.blocks,i<n
theorem many_le {n k:Nat} (h:Mani.many n=k):n<=k*112:=by
 unfold Mani.many at h
 split at h <;> omega
theorem Okm.ok {n ver next:Nat} {fs:List Fil} (h:Okm n ver next fs):MOk next none [] [] fs:=(may_true h.may).1
theorem Okm.few {n ver next:Nat} {fs:List Fil} (h:Okm n ver next fs): (bksL fs).length+fs.length<=2035:=(may_true h.may).2
theorem Okm.fit {n ver next:Nat} {fs:List Fil} (h:Okm n ver next fs) (f:Fil) (hf:f∈fs):f.name.length<=32/\f.fits/\∀i∈f.blocks,i<65536:=by
 have h1:=h.ok.each f hf;have h2:=many_le h1.many;have h3:=bksL_mem hf;have h4:=h.few;have h5:=h.next;have h6:=h1.id;exact⟨h1.n2,⟨by omega,by omega,λi hi=>by have:=(h1.blocks i hi).2;omega⟩,λi hi=>(h1.blocks i hi).2⟩
theorem Okm.size {n ver next:Nat} {fs:List Fil} (h:Okm n ver next fs) (f:Fil) (hf:f∈fs):f.size<=227920/\f.blocks.length<=2035:=by
 have h1:=h.ok.each f hf;have h2:=many_le h1.many;have h3:=bksL_mem hf;have h4:=h.few
 omega
theorem okm_none (n:Nat):Okm n 0 0 []:=⟨by
 have e:vput 0= [UInt8.ofNat 0]:=vput_low (by decide);unfold Mani.mayB Mani.bodyL;rw[List.length_nil,List.flatMap_nil,e]
 rfl,by decide,by decide,λf hf=>by cases hf⟩
def planM (C:Store.Chg) (ss:List (List UInt8)) (n ver next:Nat) (fs:List Fil):Option (Nat×List Fil):=
 if ver=18446744073709551615 then none else
 match planF C ss (startF C n next fs)with
 |none=>none
 |some p=>if mayB (ver+1) p.next p.fs=true then some (p.next,p.fs)else none
structure Keys (C:Store.Chg) (ss:List (List UInt8)):Prop where
 rise:ss.Pairwise (·< ·)
 mem:∀nm,nm∈ss↔C nm≠none
theorem rising_same:∀{a b:List (List UInt8)},a.Pairwise (·< ·)->b.Pairwise (·< ·)->(∀x,x∈a↔x∈b)->a=b
 | [],[],_,_,_=>rfl
 | [],y ::s,_,_,h=>by have:=(h y).2 (by simp);cases this
 |x ::r,[],_,_,h=>by have:=(h x).1 (by simp);cases this
 |x ::r,y ::s,ha,hb,h=>by
  obtain⟨a1,a2⟩:=List.pairwise_cons.1 ha;obtain⟨b1,b2⟩:=List.pairwise_cons.1 hb
  have hxy:x=y:=by
   rcases List.mem_cons.1 ((h x).1 (by simp))with e|e
   ·exact e
   ·rcases List.mem_cons.1 ((h y).2 (by simp))with e2|e2
    ·exact e2.symm
    ·exact absurd (List.lt_trans (b1 x e) (a1 y e2)) (List.lt_irrefl y)
  subst hxy;rw[rising_same a2 b2 (λz=>⟨λhz=>?_,λhz=>?_⟩)]
  ·rcases List.mem_cons.1 ((h z).1 (by simp[hz]))with e|e
   ·exact absurd (a1 z hz) (by rw[e];exact List.lt_irrefl x)
   ·exact e
  ·rcases List.mem_cons.1 ((h z).2 (by simp[hz]))with e|e
   ·exact absurd (b1 z hz) (by rw[e];exact List.lt_irrefl x)
   ·exact e
theorem Keys.same {C:Store.Chg} {a b:List (List UInt8)} (ha:Keys C a) (hb:Keys C b):a=b:=rising_same ha.rise hb.rise (λx=>(ha.mem x).trans (hb.mem x).symm)
theorem plan_okm {C:Store.Chg} {ss:List (List UInt8)} {n ver next nx:Nat} {fs fs':List Fil} (h:Okm n ver next fs) (hn:n<=65536) (hC:∀nm b,C nm=some (some b)->b.length<=1048576) (hK:Keys C ss) (hs:∀nm∈ss,nm.length<=32) (hp:planM C ss n ver next fs=some (nx,fs')):Okm n (ver+1) nx fs'/\∀f∈fs',C f.name=none\/∃b,C f.name=some (some b)/\IsNew n b f:=by
 unfold planM at hp
 by_cases hv:ver=18446744073709551615
 ·rw[if_pos hv]at hp;cases hp
 ·rw[if_neg hv]at hp;cases hF:planF C ss (startF C n next fs)with
  |none=>rw[hF]at hp;cases hp
  |some p=>
   rw[hF]at hp;dsimp only at hp
   by_cases hm:mayB (ver+1) p.next p.fs=true
   ·rw[if_pos hm]at hp;have hp:=Option.some.inj hp;have e1:p.next=nx:=congrArg Prod.fst hp;have e2:p.fs=fs':=congrArg Prod.snd hp;subst e1 e2;have hnw:=plan_new ss (start_new (C:=C) (n:=n) (next:=next) (fs:=fs)).1 (start_new).2 hF;have hver:=h.ver
    have hpi:∀(l:List (List UInt8)) (done:List (List UInt8)) (q q':PL),PInv C n 2100 70000 done q->(done++l).Pairwise (·< ·)->(∀nm∈l,C nm≠none/\nm.length<=32)->planF C l q=some q'->PInv C n 2100 70000 (done++l) q':=by
     intro l
     induction l with
     |nil=>
      intro done q q' hq _ _ hpl;have hpl:some q=some q':=hpl;cases hpl;rw[List.append_nil];exact hq
     |cons x r ih=>
      intro done q q' hq hr hl hpl;unfold planF at hpl;rw[List.foldl_cons]at hpl
      cases hst:stepF C x q with
      |none=>
       rw[show(some q:Option PL).bind (stepF C x)=none from hst,foldl_none]at hpl;cases hpl
      |some q2=>
       rw[show(some q:Option PL).bind (stepF C x)=some q2 from hst]at hpl
       have hxn:x∉done:=λhm2=>by
        have:=(List.pairwise_append.1 hr).2.2 x hm2 x (by simp);exact List.lt_irrefl x this
       have h1:=hq.step hn hxn (hl x (by simp)).1 (hl x (by simp)).2 (hC x) hst;have h2:=ih (done++ [x]) q2 q' h1 (by rw[List.append_assoc];exact hr) (λnm hnm=>hl nm (by simp[hnm])) hpl;rw[List.append_assoc]at h2;exact h2
    have hl:∀f∈fs,f.name.length<=32/\f.fits/\∀i∈f.blocks,i<65536:=h.fit;have hfw:=h.few;have hP:=hpi ss [] _ p (pinv_start hn h.next h.ok.rise hl (by omega) (by omega)) (by simpa using hK.rise) (λnm hnm=>⟨(hK.mem nm).1 hnm,hs nm hnm⟩) hF;refine⟨⟨hm,by omega,hP.next,λf hf i hi=>?_⟩,hnw⟩;rcases hnw f hf with h1|⟨b,_,h2⟩
    ·
     have hkept:∀(l:List (List UInt8)) (q q':PL),(∀f∈q.fs,C f.name=none->f∈fs)->(∀nm∈l,C nm≠none)->planF C l q=some q'->∀f∈q'.fs,C f.name=none->f∈fs:=by
      intro l
      induction l with
      |nil=>
       intro q q' hq _ hpl;have hpl:some q=some q':=hpl;cases hpl;exact hq
      |cons x r ih=>
       intro q q' hq hl2 hpl;unfold planF at hpl;rw[List.foldl_cons]at hpl
       cases hst:stepF C x q with
       |none=>
        rw[show(some q:Option PL).bind (stepF C x)=none from hst,foldl_none]at hpl;cases hpl
       |some q2=>
        rw[show(some q:Option PL).bind (stepF C x)=some q2 from hst]at hpl;refine ih q2 q' (λf hf hcf=>?_) (λnm hnm=>hl2 nm (by simp[hnm])) hpl;unfold stepF at hst
        split at hst
        ·split at hst
         ·cases hst
         ·have hst:=Option.some.inj hst;subst hst;rcases mem_ins.1 hf with rfl|hf
          ·exact absurd hcf (hl2 x (by simp))
          ·exact hq f hf hcf
        ·have hst:=Option.some.inj hst;subst hst;exact hq f hf hcf
     have:=hkept ss _ p (λf hf _=>(List.mem_filter.1 hf).1) (λnm hnm=>(hK.mem nm).1 hnm) hF f hf h1;exact h.in_ f this i hi
    ·exact h2.in_ i hi
   ·rw[if_neg hm]at hp;cases hp
end Full
namespace Mem
open Go.RowKit Go.Deep
open Go.Maps (Keyed)
open Go.MapKept Go.ChangeMaps
theorem MapIs.count {w:World} {k:TypeId} {b:Nat} {f:Lit->Option Value} {t e:TypeId} (h:MapIs w k b f) (K:Keyed Tryz.prog k) (ht:Tryz.prog.underlying t=some (.map k e)):∃n:Nat,(∀ty,(Builtin.len_ #[t] ty #[.map (some b)]).run Tryz.prog w=.ok (.int .i64 (n:Int)) w)/\(n=0↔∀x,f x=none):=by
 obtain⟨D,n,h,hd⟩:=h;refine⟨Maps.size D,λty=>h.len ht ty,?_⟩;obtain⟨es,rfl,hp,hk⟩:=h.entries K
 cases es with
 |nil=>
  refine⟨λ_ x=>?_,λ_=>rfl⟩;have h1:=(hd x).1
  cases hf:f x with
  |none=>rfl
  |some v=>rw[hf]at h1;cases h1
 |cons p r=>
  refine⟨λh0=>?_,λhn=>?_⟩
  ·simp[Maps.size]at h0
  ·have h2:Maps.has (.map (p ::r)) p.1=true:=List.any_eq_true.2 ⟨p,by simp,WideAt.sameKey_self (hk p (by simp))⟩;rw[(hd p.1).1,hn p.1]at h2;cases h2
theorem MapIs.clear {w:World} {k:TypeId} {b:Nat} {f:Lit->Option Value} {t e:TypeId} (h:MapIs w k b f) (ht:Tryz.prog.underlying t=some (.map k e)) (ty:TypeId):∃w',(Builtin.clear_ #[t] ty #[.map (some b)]).run Tryz.prog w=.ok (.tuple #[]) w'/\MapIs w' k b (λ_=>none)/\w.grownBy w' (some b)/\w'.heap.size=w.heap.size:=by
 obtain⟨D,n,⟨es,clock,hb,hF,_⟩,hd⟩:=h;refine⟨setBlock w b (.map #[] clock),by simp[Builtin.clear_,run_underlying ht,MapKept.run_getObj_map hb,MapKept.run_setObj_map _ hb,Result.andThen,setBlock],?_,?_,?_⟩
 ·exact⟨.map [],0,⟨#[],clock,heap_setBlock_same hb _,⟨by simp,stamped_empty clock,by simp⟩,Nat.le_refl _,rfl⟩,desc_empty⟩
 ·exact⟨rfl,rfl,rfl,by simp[setBlock],λi _ hi=>heap_setBlock_other hb _ (λe=>hi (by rw[e]))⟩
 ·simp[setBlock]
end Mem
namespace Full
open Go.RowKit Go.Deep Mem Crc Go.Maps Dk Mani
open Store (Chg chgV isChg none' nv nv_key strKeyed zero_chg)
variable {w:World} {Q:Nat->Prop} {s d g cm:Nat} {wv:Value} {m:DM} {ver next:Nat} {a:Option Addr} {c:Nat} {l:List FR} {bad:Bool} {C:Chg}
theorem Fu.count (h:Fu w Q s d g cm wv m ver next a c l bad C):∃n:Nat,(∀ty,(Builtin.len_ #[109] ty #[.map (some cm)]).run Tryz.prog w=.ok (.int .i64 (n:Int)) w)/\(n=0↔∀nm,C nm=none):=by
 obtain⟨f,hm,hk,hf⟩:=h.map;obtain⟨n,h1,h2⟩:=hm.count strKeyed Tryz.underlying109;refine⟨n,h1,h2.trans ⟨λhx nm=>?_,λhx x=>?_⟩⟩
 ·have:=hf nm;unfold isChg at this
  cases hc:C nm with
  |none=>rfl
  |some y=>
   rw[hc]at this;obtain⟨v,hv,_⟩:=this;rw[hx]at hv;cases hv
 ·cases hfx:f x with
  |none=>rfl
  |some v=>
   obtain⟨nm,rfl⟩:=hk x (by rw[hfx];exact λh=>by cases h);have:=hf nm;unfold isChg at this;rw[hx nm]at this;rw[hfx]at this;cases this
theorem Fu.map_ne (h:Fu w Q s d g cm wv m ver next a c l bad C) {b:Nat} {t:TypeId} {cs:Array Value} (hb:Blk w b t cs):b≠cm:=λe=>by
 obtain⟨f,⟨D,n,⟨es,cl,hm,_⟩,_⟩,_⟩:=h.map;unfold Blk at hb;rw[e,hm]at hb;cases hb
theorem Fu.clear (h:Fu w Q s d g cm wv m ver next a c l bad C):∃w',(∀ty,(Builtin.clear_ #[109] ty #[.map (some cm)]).run Tryz.prog w=.ok (.tuple #[]) w')/\Fu w' Q s d g cm wv m ver next a c l bad none'/\w'.heap.size=w.heap.size/\Only [cm] w w':=by
 obtain⟨f,hm,hk,hf⟩:=h.map;obtain⟨D,n,⟨es,clock,hb,hF,_⟩,hd⟩:=hm;have hm2:MapIs w 9 cm f:=⟨D,n,⟨es,clock,hb,hF,by assumption⟩,hd⟩;obtain⟨w',h1,h2,h3,h4⟩:=hm2.clear Tryz.underlying109 0;have ho:Only [cm] w w':=Only.of_grown h3 (λg hg=>by cases hg;exact .inl (by simp));have hkk:∀k,k<w.heap.size->k≠cm->w'.heap[k]? =w.heap[k]?:=λk hk hne=>ho.block k hk (by simpa using hne)
 have haw:=h.away;refine⟨w',λty=>h1,⟨(hkk s h.store.lt (h.map_ne h.store)).trans h.store,h.disk.keep ho.size (λk hq=>hkk k (h.disk.lt k hq) (λe=>haw.2 (e▸hq))),h.files.keep ho.size (λk e=>hkk k (h.lt k (h.fr k e).1) (h.fr k e).2.1) (λx hx k e=>hkk k (h.lt k (h.br x hx k e).1) (h.br x hx k e).2.1),h.fr,h.br,⟨_,h2,λx h=>absurd rfl h,λnm=>rfl⟩,h.qs,h.qm,h.qd,λk hq=>by rw[h4];exact h.lt k hq⟩,h4,ho⟩
theorem Fu.wrote {w':World} {wv':Value} {m':DM} (h:Fu w Q s d g cm wv m ver next a c l bad C) (hw:WS w d g wv m' wv' w'):Fu w' (λk=>Q k\/(w.heap.size<=k/\k<w'.heap.size)) s d g cm wv' m' ver next a c l bad C:=by
 have haw:=h.away;have hkk:∀k,Own Q s d g cm wv k->w'.heap[k]? =w.heap[k]?:=λk hk=>hw.upon.block k (h.lt k hk.1) hk.2.2.2
 have hown:∀k,Own Q s d g cm wv k->Own (λk=>Q k\/(w.heap.size<=k/\k<w'.heap.size)) s d g cm wv' k:=λk hk=>⟨.inl hk.1,hk.2.1,hk.2.2.1,λe=>by
  rcases e with e|e|e
  ·exact hk.2.2.2 (.inl e)
  ·exact hk.2.2.2 (.inr (.inl e))
  ·rcases hw.own k e with h1|h1
   ·exact hk.2.2.2 (.inr (.inr h1))
   ·have:=h.lt k hk.1;omega⟩
 obtain⟨f,h1,h2,h3⟩:=h.map;refine⟨(hw.upon.block s h.store.lt haw.1).trans h.store,hw.disk,h.files.keep hw.upon.size (λk e=>hkk k (h.fr k e)) (λx hx k e=>hkk k (h.br x hx k e)),λk e=>hown k (h.fr k e),λx hx k e=>hown k (h.br x hx k e),⟨f,h1.keep (hw.upon.block cm (h.lt cm h.qm) haw.2),h2,λnm=>(h3 nm).keep hw.upon.size hkk hown⟩,.inl h.qs,.inl h.qm,λk hk=>?_,λk hk=>?_⟩
 ·rcases hk with e|e|e
  ·exact .inl (h.qd k (.inl e))
  ·exact .inl (h.qd k (.inr (.inl e)))
  ·rcases hw.own k e with h4|h4
   ·exact .inl (h.qd k (.inr (.inr h4)))
   ·exact .inr ⟨h4,hw.disk.lt k (.inr (.inr e))⟩
 ·rcases hk with hk|hk
  ·exact Nat.lt_of_lt_of_le (h.lt k hk) hw.upon.size
  ·exact hk.2
theorem Fu.set {w':World} {ver' next':Nat} {a':Option Addr} {c':Nat} {l':List FR} {bad':Bool} {Q':Nat->Prop} (h:Fu w Q s d g cm wv m ver next a c l bad C) (hQ:∀k,Q k->Q' k) (hs:w'.heap.size=w.heap.size) (hQ2:∀k,Q' k->k<w.heap.size) (ho:∀k,k≠s->w'.heap[k]? =w.heap[k]?)
  (hb:Blk w' s 111 #[.pointer (some ⟨d,0,none⟩),.int .u64 (ver':Int),.int .u32 (next':Int),.slice a' l'.length c',.map (some cm),.bool bad']) (hF:FilesIn w a' l') (ha:∀k,Mem.blk a'=some k->Own Q' s d g cm wv k) (hx:∀x∈l',∀k,Mem.blk x.a=some k->Own Q' s d g cm wv k):Fu w' Q' s d g cm wv m ver' next' a' c' l' bad' C:=by
 have haw:=h.away;have hown:∀k,Own Q s d g cm wv k->Own Q' s d g cm wv k:=λk hk=>⟨hQ k hk.1,hk.2⟩
 obtain⟨f,h1,h2,h3⟩:=h.map;exact⟨hb,h.disk.keep (by omega) (λk hk=>ho k (λe=>haw.1 (e▸hk))),hF.keep (by omega) (λk e=>ho k (ha k e).2.2.1) (λx hx2 k e=>ho k (hx x hx2 k e).2.2.1),ha,hx,⟨f,h1.keep (ho cm (Ne.symm (h.map_ne h.store))),h2,λnm=>(h3 nm).keep (by omega) (λk hk=>ho k hk.2.2.1) hown⟩,hQ s h.qs,hQ cm h.qm,λk hk=>hQ k (h.qd k hk),λk hk=>by rw[hs];exact hQ2 k hk⟩
end Full
namespace Full
open Go.RowKit Go.Deep Mem Crc Go.Maps Dk Mani
open Store (Chg chgV isChg none' nv nv_key strKeyed zero_chg)
open Ext (Tab)
variable {w:World} {Q:Nat->Prop} {s d g cm:Nat} {wv:Value} {m:DM} {ver next:Nat} {a:Option Addr} {c:Nat} {l:List FR} {bad:Bool} {C:Chg}
def Planned (w:World) (l:List FR) (ver:Nat) (o:Option (Nat×List Fil)) (e:Ending) (w':World):Prop:=
 match o with
 |none=>∃(x y:Int) (a0:Option Addr) (k0 c0:Nat),e=.returned (.tuple #[.agg #[.int .u64 x,.int .u32 y,.slice a0 k0 c0],.bool false])
 |some p=>∃a' c' l',e=.returned (.tuple #[.agg #[.int .u64 ((ver+1:Nat):Int),.int .u32 (p.1:Int),.slice a' (l':List FR).length c'],.bool true])/\l'.map FR.f=p.2/\FilesIn w' a' l'/\(∀b,Mem.blk a'=some b->w.heap.size<=b/\b<w'.heap.size)/\∀x∈l',x∈l\/∀b,Mem.blk x.a=some b->w.heap.size<=b/\b<w'.heap.size
theorem plan_sum (h:Fu w Q s d g cm wv m ver next a c l bad C) (hT:Tab w) (L:List (List UInt8)) (hL:∀x,C x≠none->x∈L) (hLn:L.length<=9000) (hLs:∀x∈L,x.length<=32) (hCb:∀nm b,C nm=some (some b)->b.length<=1048576) (hok:Okm m.bl.length ver next (l.map FR.f)) {ss:List (List UInt8)} (hK:Keys C ss):
  Calls Tryz.prog 63 #[.pointer (some ⟨s,0,none⟩)] w λe w'=>Below w.heap.size w w'/\Planned w l ver (planM C ss m.bl.length ver next (l.map FR.f)) e w':=by
 have hfew:=hok.few;rw[jP]at hfew;refine(plan_any h hT L hL hLn hLs hCb hok.ver hok.next hok.ok.rise (λx hx=>hok.fit x.f (List.mem_map.2 ⟨x,hx,rfl⟩)) (by omega) (by omega)).mono ?_;rintro e w' ⟨mv,room,rfl,⟨x,y,a0,k0,c0,rfl⟩,hB,hr⟩;refine⟨hB,?_⟩;rcases hr with⟨rfl,hv⟩|⟨hv,ss',h1,h2,hr⟩
 ·unfold planM;rw[if_pos hv];exact⟨x,y,a0,k0,c0,rfl⟩
 ·obtain rfl:ss'=ss:=Keys.same ⟨h1,h2⟩ hK;unfold planM;rw[if_neg (by omega)];rcases hr with⟨rfl,hn|⟨p,hp,hm⟩⟩|⟨rfl,p,a',c',l',hp,hm,he,hf,hF,hg,hb⟩
  ·rw[hn];exact⟨x,y,a0,k0,c0,rfl⟩
  ·rw[hp];dsimp only;rw[if_neg (by rw[hm];decide)];exact⟨x,y,a0,k0,c0,rfl⟩
  ·rw[hp];dsimp only;rw[if_pos hm];exact⟨a',c',l',by rw[he],hf,hF,hg,hb⟩
theorem down_yes (h:Fu w Q s d g cm wv m ver next a c l bad C) (hb: (bad||m.off)=false):Calls Tryz.prog 62 #[.pointer (some ⟨s,0,none⟩)] w λe w'=>e=.returned (.bool false)/\w'=w:=by
 have:=down_any h
 rwa [hb]at this
theorem commit_none (h:Fu w Q s d g cm wv m ver next a c l bad C) (hb: (bad||m.off)=false) (hC:∀nm,C nm=none):Calls Tryz.prog 35 #[.pointer (some ⟨s,0,none⟩)] w λe w'=>e=.returned (.int .i64 0)/\w'=w:=by
 have HD:=jq (down_yes h hb);obtain⟨n,hlen,hn0⟩:=h.count;obtain rfl:n=0:=hn0.2 hC;obtain⟨_,_,_,_,c4,_⟩:=h.cells;clear h hb hn0
 go_enter Tryz.func35,Tryz.ntmps35
 go_wp2_with fail
 refine HD.out.mono ?_;rintro e w1 ⟨rfl,rfl⟩
 go_wp2_with fail
 go_ret
 exact⟨rfl,rfl⟩
def Committed (w:World) (Q:Nat->Prop) (s d g cm:Nat) (m:DM) (ver next:Nat) (a:Option Addr) (c:Nat) (l:List FR) (C:Chg) (o:Option (Nat×List Fil)) (e:Ending) (w':World):Prop:=
 match o with
 |none=>e=.returned (.int .i64 7)/\Below w.heap.size w w'
 |some p=>e=.returned (.int .i64 (commitD m C p.2 (ver+1) (manL (ver+1) p.1 p.2)).2)/\Upon Q w w'/\∃Q' wv',(∀k,Q' k->Q k\/w.heap.size<=k)/\
  if(commitD m C p.2 (ver+1) (manL (ver+1) p.1 p.2)).2=0 then∃a' c' l',l'.map FR.f=p.2/\Fu w' Q' s d g cm wv' (commitD m C p.2 (ver+1) (manL (ver+1) p.1 p.2)).1 (ver+1) p.1 a' c' l' false none' else Fu w' Q' s d g cm wv' (commitD m C p.2 (ver+1) (manL (ver+1) p.1 p.2)).1 ver next a c l true C
attribute [local go_sem] Oper.semAt_some
theorem commit_any (h:Fu w Q s d g cm wv m ver next a c l false C) (hT:Tab w) (L:List (List UInt8)) (hL:∀x,C x≠none->x∈L) (hLn:L.length<=9000) (hLs:∀x∈L,x.length<=32) (hCb:∀nm b,C nm=some (some b)->b.length<=1048576) (hok:Okm m.bl.length ver next (l.map FR.f)) {ss:List (List UInt8)} (hK:Keys C ss)
  (hoff:m.off=false) (hwt:m.wt.length<=100000) (h33:33<=m.bl.length) (hne:¬∀nm,C nm=none):
  Calls Tryz.prog 35 #[.pointer (some ⟨s,0,none⟩)] w (Committed w Q s d g cm m ver next a c l C (planM C ss m.bl.length ver next (l.map FR.f))):=by
 have HD:=jq (down_yes h (by rw[hoff];rfl));obtain⟨n,hlen,hn0⟩:=h.count
 have hnz: ((n:Int)==0)=false:=by
  have:n≠0:=λe=>hne (hn0.1 e)
  simp
  omega
 obtain⟨_,_,_,_,c4,_⟩:=h.cells;have HP:=jq (plan_sum h hT L hL hLn hLs hCb hok hK);have hsm:=h.disk.small;have hpo:∀p,planM C ss m.bl.length ver next (l.map FR.f)=some p->Okm m.bl.length (ver+1) p.1 p.2/\∀f∈p.2,C f.name=none\/∃b,C f.name=some (some b)/\IsNew m.bl.length b f:=λp hp=>plan_okm hok hsm hCb hK (λnm hnm=>hLs nm (hL nm ((hK.mem nm).1 hnm))) hp
 have HPO:=jq hpo;have H:=jq h;have HCB:=jq hCb;clear h hn0 hok hK hT hL hLs hCb hne hpo;obtain⟨o,ho⟩:=jl (planM C ss m.bl.length ver next (l.map FR.f));rw[<-ho]at HP HPO⊢;clear ho
 go_enter Tryz.func35,Tryz.ntmps35
 go_wp2_with fail
 refine HD.out.mono ?_;rintro e w1 ⟨rfl,rfl⟩
 go_wp2_with fail
 refine HP.out.mono ?_;rintro e w2 ⟨hB2,hpl⟩
 cases o with
 |none=>
  obtain⟨x,y,a0,k0,c0,rfl⟩:=hpl;have HB2:=jq hB2;clear hB2 HP HPO
  go_wp2_with fail
  go_ret
  exact⟨rfl,HB2.out.alloc HB2.out.size _⟩
 |some p=>
  obtain⟨a',c',l',rfl,hf,hF,hg,hb⟩:=hpl;obtain⟨hko,hknew⟩:=HPO.out p rfl;obtain⟨nx,fs⟩:=p;dsimp only at hf hko hknew⊢;have hz2:=hB2.size;have hlt:=H.out.disk.lt;obtain⟨W3,hW3⟩:=jl (w2.alloc (.cells #[.int .u64 ((ver+1:Nat):Int),.int .u32 (nx:Int),.slice a' l'.length c'] 101));obtain⟨b3,hb3⟩:=jl w2.heap.size;have hB3:Below w1.heap.size w1 W3:=by rw[hW3];exact hB2.alloc hz2 _
  have hbm:Blk W3 b3 101 #[.int .u64 ((ver+1:Nat):Int),.int .u32 (nx:Int),.slice a' l'.length c']:=by rw[hW3,hb3];exact Blk.new w2 _ _
  have h3:=H.out.later hB3;have hF3:FilesIn W3 a' l':=by rw[hW3];exact hF.later ((Below.refl _ w2).alloc jn _)
  have hz3:W3.heap.size=w2.heap.size+1:=by rw[hW3];simp
  subst hf;have hfew:=hko.few;rw[jP]at hfew
  have hWR:=writes_any h3 hoff hwt h33 (ver+1) nx a' c' l' hF3 (λk e hk=>by have:=(hg k e).1;have:=hlt k hk;omega) (λx hx k e hk=>by
   rcases hb x hx with h5|h5
   ·exact(H.out.br x h5 k e).2.2.2 hk
   ·have:=(h5 k e).1;have:=hlt k hk;omega) (λx hx k e=>by
   rcases hb x hx with h5|h5
   ·have:=H.out.lt k (H.out.br x h5 k e).1;omega
   ·have:=(h5 k e).2;omega) (λx hx=>hknew x.f (List.mem_map.2 ⟨x,hx,rfl⟩)) (λx hx=>by
   have:=hko.fit x.f (List.mem_map.2 ⟨x,hx,rfl⟩);exact⟨this.1,this.2.1⟩) (by omega) (by omega) HCB.out hko.ver hko.next hko.may
  have m0:=hbm.cell 0;have m1:=hbm.cell 1;have m2:=hbm.cell 2
  simp at m0 m1 m2
  have HWR:=jq hWR;have H3:=jq h3;have HBM:=jq hbm;have HB3:=jq hB3;have HF3:=jq hF3;have HG:=jq hg;have HB:=jq hb;obtain⟨N,hN⟩:=jl l'.length;rw[<-hN]at HWR HBM m2;rw[<-hN];clear hWR h3 hbm hB3 hF3 hg hb hknew hko hfew HPO HP hF hB2;rw[<-hN]at hW3;rw[hb3]at m0 m1 m2;rw[hW3]at m0 m1 m2;have HN:=jq hN;clear hN
  go_wp2_with fail
  rw[hW3]at HWR;refine HWR.out.mono ?_;rw[<-hW3,<-hb3];rintro e w4 ⟨rfl,wv',hws⟩;have hsl:s<W3.heap.size:=H3.out.store.lt;have hns:=H3.out.away.1;have hnb:¬Has d g wv b3:=λhk=>by have:=hlt b3 hk;omega
  have hcell:=H3.out.cells;have k0:=(hws.cell (p:=⟨s,0,none⟩) hsl hns).trans hcell.1;have k1:=(hws.cell (p:=⟨s,1,none⟩) hsl hns).trans hcell.2.1;have k2:=(hws.cell (p:=⟨s,2,none⟩) hsl hns).trans hcell.2.2.1;have k3:=(hws.cell (p:=⟨s,3,none⟩) hsl hns).trans hcell.2.2.2.1;have k4:=(hws.cell (p:=⟨s,4,none⟩) hsl hns).trans hcell.2.2.2.2.1;have k5:=(hws.cell (p:=⟨s,5,none⟩) hsl hns).trans hcell.2.2.2.2.2;have z0:=(hws.upon.block s hsl hns);have hbm4:=HBM.out.upon hws.upon hnb;have b0:=hbm4.cell 0;have b1:=hbm4.cell 1;have b2:=hbm4.cell 2
  simp at b0 b1 b2
  have hf4:=H3.out.wrote hws;have hst4:=hf4.store;have y1:=hst4.frozen 1;have y2:=hst4.frozen 2;have y3:=hst4.frozen 3;have y5:=hst4.frozen 5;have HWS:=jq hws;have HF4:=jq hf4;obtain⟨M,hM⟩:=jl ((commitD m C (l'.map FR.f) (ver+1) (manL (ver+1) nx (l'.map FR.f))).1);obtain⟨E,hE⟩:=jl ((commitD m C (l'.map FR.f) (ver+1) (manL (ver+1) nx (l'.map FR.f))).2);rw[<-hM]at HWS HF4;rw[<-hE];have HM:=jq hM;have HE:=jq hE;have HBE:=jq hb3;clear hws hf4 hst4 hbm4 z0 hM hE HWR hcell hW3 m0 m1 m2 HBM hb3;have hzz:W3.heap.size<=w4.heap.size:=HWS.out.upon.size;have hq4:∀k,(Q k\/(w1.heap.size<=k/\k<w4.heap.size))->k<w4.heap.size:=λk hk=>hk.elim (λh=>by have:=H.out.lt k h;omega) (λh=>h.2)
  have hqm:∀k,(Q k\/(W3.heap.size<=k/\k<w4.heap.size))->Q k\/(w1.heap.size<=k/\k<w4.heap.size):=λk hk=>hk.imp id (λh=>⟨by omega,h.2⟩)
  have HQ4:=jq hq4;have HQM:=jq hqm;clear hq4 hqm;have hup:Upon Q w1 w4:=(Upon.of_below (P:=Q) HB3.out).trans (HWS.out.upon.mono (λk hk=>H.out.qd k hk)) (λk hk=>.inl hk);have HUP:=jq hup;have hst4:=HF4.out.store
  by_cases hz:E=0
  ·subst hz;obtain⟨W5,hW5⟩:=jl (((w4.setCell ⟨s,1,none⟩ (.int .u64 ((ver:Int)+1))).setCell ⟨s,2,none⟩ (.int .u32 (nx:Int))).setCell ⟨s,3,none⟩ (.slice a' N c'));have hs5:W5.heap.size=w4.heap.size:=by rw[hW5];simp[World.setCell]
   have ho5:∀k,k≠s->W5.heap[k]? =w4.heap[k]?:=λk hk=>by
    rw[hW5];exact(Below.heap_setCell _ _ _ k hk).trans ((Below.heap_setCell _ _ _ k hk).trans (Below.heap_setCell _ _ _ k hk))
   have hb5:Blk W5 s 111 #[.pointer (some ⟨d,0,none⟩),.int .u64 ((ver+1:Nat):Int),.int .u32 (nx:Int),.slice a' l'.length c',.map (some cm),.bool false]:=by
    rw[hW5,<-HN.out];exact((hst4.set 1 (.int .u64 ((ver:Int)+1))).set 2 (.int .u32 (nx:Int))).set 3 (.slice a' N c')
   have hown:∀k,(w1.heap.size<=k/\k<w2.heap.size)->Own (λk=>Q k\/(w1.heap.size<=k/\k<w4.heap.size)) s d g cm wv' k:=λk hk=>⟨.inr ⟨hk.1,by omega⟩,λe=>by have:=H.out.lt cm H.out.qm;omega,λe=>by have:=H.out.lt s H.out.qs;omega,λe=>by
    rcases e with e|e|e
    ·have:=hlt k (.inl e);omega
    ·have:=hlt k (.inr (.inl e));omega
    ·rcases HWS.out.own k e with h1|h1
     ·have:=hlt k (.inr (.inr h1));omega
     ·omega⟩
   have hF4:FilesIn w4 a' l':=HWS.out.files HF3.out (λk e hk=>by have:=HG.out k e;have:=hlt k hk;omega) (λx hx k e hk=>by
    rcases HB.out x hx with h5|h5
    ·exact(H.out.br x h5 k e).2.2.2 hk
    ·have:=h5 k e;have:=hlt k hk;omega)
   have hf5:=HF4.out.set (w':=W5) (Q':=λk=>Q k\/(w1.heap.size<=k/\k<w4.heap.size)) HQM.out hs5 HQ4.out ho5 hb5 hF4 (λk e=>hown k (HG.out k e)) (λx hx k e=>by
    rcases HB.out x hx with h5|h5
    ·obtain⟨o1,o2,o3,o4⟩:=H.out.br x h5 k e;refine⟨.inl o1,o2,o3,λe2=>?_⟩;rcases e2 with e2|e2|e2
     ·exact o4 (.inl e2)
     ·exact o4 (.inr (.inl e2))
     ·rcases HWS.out.own k e2 with h1|h1
      ·exact o4 (.inr (.inr h1))
      ·have:=H.out.lt k o1;omega
    ·exact hown k (h5 k e))
   obtain⟨W6,hcl,hf6,hs6,ho6⟩:=hf5.clear
   have hu6:Upon Q w1 W6:=by
    refine Upon.trans (Q:=Q) (Upon.trans (Q:=Q) HUP.out ⟨by rw[hW5];rfl,by rw[hW5];rfl,by rw[hW5];rfl,by omega,λk hk hn=>ho5 k (λe=>hn (e▸H.out.qs))⟩ (λk hk=>.inl hk)) (Upon.of_only ho6 (λk hk=>.inl (by rw[jE.1 hk];exact H.out.qm))) (λk hk=>.inl hk)
   have HF6:=jq hf6;have HU6:=jq hu6;rw[hW5]at hcl;clear hf6 hu6 hs6 ho6 hf5 hF4 hown hb5 ho5 hs5 hW5 hst4 hup
   go_wp2_with fail
   go_ret
   refine⟨by rw[<-HE.out];rfl,HU6.out,(λk=>Q k\/(w1.heap.size<=k/\k<w4.heap.size)),wv',λk hk=>hk.imp id And.left,?_⟩;rw[<-HE.out,if_pos rfl];rw[<-HM.out];exact⟨a',c',l',rfl,HF6.out⟩
  ·have hEb: (E==0)=false:=by simpa using hz
   have hf5:=HF4.out.set (w':=w4.setCell ⟨s,5,none⟩ (.bool true)) (Q':=λk=>Q k\/(w1.heap.size<=k/\k<w4.heap.size)) (ver':=ver) (next':=next) (a':=a) (c':=c) (l':=l) (bad':=true) HQM.out (by simp[World.setCell]) HQ4.out (λk hk=>Below.heap_setCell _ _ _ k hk) (hst4.set 5 (.bool true)) HF4.out.files (λk e=>⟨HQM.out k (HF4.out.fr k e).1,(HF4.out.fr k e).2⟩) (λx hx k e=>⟨HQM.out k (HF4.out.br x hx k e).1,(HF4.out.br x hx k e).2⟩);have hu5:Upon Q w1 (w4.setCell ⟨s,5,none⟩ (.bool true)):=HUP.out.set (.inl H.out.qs) _;have HF5:=jq hf5;have HU5:=jq hu5;clear hf5 hu5 hst4 hup
   go_wp2_with fail
   go_ret
   refine⟨by rw[<-HE.out];rfl,HU5.out,(λk=>Q k\/(w1.heap.size<=k/\k<w4.heap.size)),wv',λk hk=>hk.imp id And.left,?_⟩;rw[<-HE.out,if_neg hz];rw[<-HM.out];exact HF5.out
end Full
namespace Full
open Go.RowKit Go.Deep Mem Crc Go.Maps Dk Mani
open Page (pageL pageB pageE pageN pageB_length)
def loadG (bl:List (List UInt8)) (id size:Nat):Nat->List UInt8->List Nat->List UInt8×Int
 |_,out,[]=>(out,0)
 |n,out,i ::r=>if pageE (bl.getD i []) id n=0/\((pageB (bl.getD i [])).length:Int)=min 112 ((size:Int)-out.length)then loadG bl id size (n+1) (out++pageB (bl.getD i [])) r else([],5)
def loadF (bl:List (List UInt8)) (f:Fil):List UInt8×Int:=loadG bl f.id f.size 0 [] f.blocks
theorem pageN_le (b:List UInt8):pageN b<=112:=by unfold Page.pageN;omega
theorem load_any {w:World} {d g s:Nat} {wv:Value} {m:DM} (hs:s<w.heap.size) (hst:w.cell? ⟨s,0,none⟩=some (.pointer (some ⟨d,0,none⟩))) (hd:Dk w d g wv m) (hoff:m.off=false) (hwt:m.wt= []) (sb:ByteArray) (f:Fil) (a:Option Addr) (c:Nat) (hid:f.id<4294967296) (hsz:f.size<=90000000) (hL:Lies w a (f.blocks.map iv)) (hin:∀i∈f.blocks,i<m.bl.length) (hn:f.blocks.length<=70000):
  Calls Tryz.prog 67 #[.pointer (some ⟨s,0,none⟩),.agg #[.string sb,.int .u32 (f.id:Int),.int .i64 (f.size:Int),.slice a f.blocks.length c]] w λe w'=>∃v,e=.returned (.tuple #[v,.int .i64 (loadF m.bl f).2])/\OwnB w' w.heap.size v (loadF m.bl f).1/\Below w.heap.size w w':=by
 have hwv:=hd.nil hwt;subst hwv;obtain⟨n,hnn⟩:=jl f.blocks.length;obtain⟨id,hidd⟩:=jl f.id;obtain⟨sz,hszz⟩:=jl f.size;obtain⟨bks,hbks⟩:=jl f.blocks;obtain⟨res,hres⟩:=jl (loadF m.bl f);have hres0:loadG m.bl id sz 0 [] (bks.drop 0)=res:=by rw[hres,hidd,hszz,hbks];rfl
 rw[<-hnn]at hn⊢;rw[<-hidd]at hid⊢;rw[<-hszz]at hsz⊢;rw[<-hbks]at hL hin hnn;rw[<-hres];clear hidd hszz hbks hres;obtain⟨W,hW⟩:=jl (w.alloc (.cells #[.string sb,.int .u32 (id:Int),.int .i64 (sz:Int),.slice a n c] 106));obtain⟨bx,hbx⟩:=jl w.heap.size;have hBW:Below w.heap.size w W:=by rw[hW];exact(Below.refl _ w).alloc jn _
 have hbox:Blk W bx 106 #[.string sb,.int .u32 (id:Int),.int .i64 (sz:Int),.slice a n c]:=by rw[hW,hbx];exact Blk.new w _ _
 have hWs:W.heap.size=w.heap.size+1:=by rw[hW];simp
 have hdW:=hd.later hBW;have hLW:=hL.later hBW;have x3:=hbox.cell 3
 simp at x3
 have HST:=jq ((hBW.cell (p:=⟨s,0,none⟩) hs).trans hst);have HSL:Hid (s<W.heap.size):=jq (by omega);have HDW:=jq hdW;have HLW:=jq hLW;have HBX:=jq hbox;have HIN:=jq hin;have HNN:=jq hnn;have HR0:=jq hres0;have HBW:=jq hBW;have HWS:=jq hWs;have HBE:=jq hbx;clear hd hst hL hin hnn hres0 hBW hWs hdW hLW hbox
 go_enter Tryz.func67,Tryz.ntmps67
 rw[hbx,hW]at x3
 go_wp2_with fail
 rw[<-hW,<-hbx];clear hW x3 hbx
 go_loopw[6,15] (λo i wr=>∃(j:Nat) (v:Value) (out:List UInt8),j<=n/\i=.int .i64 j/\v=o/\out.length<=sz/\Hid (OwnB wr W.heap.size v out)/\Hid (Below W.heap.size W wr)/\Hid (loadG m.bl id sz j out (bks.drop j)=res)) (λ_ i _=>n-(intOf i).toNat)
 case atStart=>exact⟨0,_,[],Nat.zero_le _,rfl,rfl,Nat.zero_le _,jq (World.ownsRow_nil _ _ _ _),jq (Below.refl _ _),HR0⟩
 case round=>
  obtain⟨j,v,out,hj,rfl,rfl,hol,hO,hB,hG⟩:=hrel
  by_cases hlt:j<n
  ·have hjd:decide ((j:Int) <(n:Int))=true:=jd (by omega);obtain⟨i,hi⟩:∃i,bks[j]? =some i:=⟨bks[j]'(by rw[<-HNN.out];exact hlt),jg _⟩;have him:=HIN.out i (jM hi);obtain⟨blk,hblk⟩:∃b,m.bl[i]? =some b:=⟨m.bl[i],jg him⟩;have h128:blk.length=128:=HDW.out.len blk (jM hblk);have hgd:m.bl.getD i []=blk:=by rw[List.getD_eq_getElem?_getD,hblk];rfl
   obtain⟨ga,oa,rfl,hca⟩:=lies_at (HLW.out.later hB.out) (k:=j) (u:=iv i) (by rw[List.getElem?_map,hi];rfl);unfold iv at hca;have hdr:=HDW.out.later hB.out;have hRD:=read_on i hdr hoff hblk;have s0:=(hB.out.cell (p:=⟨s,0,none⟩) HSL.out).trans HST.out;have hbr:=HBX.out.below hB.out HBX.out.lt;have f3:=hbr.cell 3
   simp at f3
   have hstep:bks.drop j=i ::bks.drop (j+1):=by
    rw[List.drop_eq_getElem_cons (jS.1 hi).1,(jS.1 hi).2]
   have hg2:=hG.out;rw[hstep]at hg2;unfold loadG at hg2;rw[hgd]at hg2;have HGS:=jq hg2;have HRD:=jq hRD;have HBR:=jq hbr;have H128:=jq h128;have hjw:IntKind.u32.wrap (j:Int)=(j:Int):=by rw[IntKind.wrap_u32];omega
   clear hRD hbr hg2 hstep hgd hblk h128 hdr hi him
   go_wp2_with fail
   refine HRD.out.mono ?_;rintro e w1 ⟨ab,rfl,hLb,hB1⟩;have hbr1:=HBR.out.below hB1 HBR.out.lt;have f1:=hbr1.cell 1;have f2:=hbr1.cell 2
   simp at f1 f2
   have hGT:=Page.get_any id j hid (by omega) ab 128 blk w1 hLb H128.out jn;obtain⟨E,hE⟩:=jl (pageE blk id j);rw[<-hE]at hGT HGS;have HGT:=jq hGT;have HB1:=jq hB1;have HBR1:=jq hbr1;clear hGT hB1 hbr1 hLb hE
   go_wp2_with fail
   refine HGT.out.mono ?_;rintro e w2 ⟨v2,rfl,hO2,hB2⟩;have hbr2:=HBR1.out.below hB2 HBR1.out.lt;have f2':=hbr2.cell 2
   simp at f2'
   have hB02:Below W.heap.size W w2:=(hB.out.trans (HB1.out.mono hB.out.size)).trans (hB2.mono (Nat.le_trans hB.out.size HB1.out.size));have hO12:OwnB w2 W.heap.size v out:=own_later (own_later hO.out HB1.out) hB2
   by_cases hz:E=0
   ·subst hz;rw[if_pos rfl]at hO2;obtain⟨pb,hpb⟩:=jl (pageB blk);rw[<-hpb]at hO2 HGS;obtain⟨a2,c2,rfl,hc2,hL2,hg2,_⟩:=own_shape hO2;obtain⟨oa,oc,rfl,hoc,hoL,hog,_⟩:=own_shape hO12;obtain⟨k,hk⟩:=jl pb.length;obtain⟨q,hq⟩:=jl out.length;have hk112:k<=112:=by rw[hk,hpb,pageB_length H128.out];exact pageN_le _
    rw[<-hk]at hc2 HGS;rw[<-hq]at hoc hol HGS;rw[<-hk,<-hq];have HO12:=jq hO12;have HL2:=jq hL2;have HPB:=jq hpb;have HK:=jq hk;have HQ:=jq hq;have HBB:=jq hB02
    by_cases hck: (k:Int)=min 112 ((sz:Int)-(q:Int))
    ·have hm1:min (112:Int) ((sz:Int)-(q:Int))=(k:Int):=hck.symm;have hg3:=HGS.out;rw[if_pos ⟨rfl,hck⟩]at hg3;have hol2:q+k<=sz:=by omega
     have HG3:=jq hg3;obtain⟨v3,w3,hr3,hO3,hg3'⟩:=run_append_bytes w2 27 _ out HO12.out a2 c2 pb HL2.out (by rw[<-HQ.out,<-HK.out];omega) HBB.out.size;rw[<-HK.out,<-HQ.out]at hr3;have hB3:Below W.heap.size W w3:=HBB.out.grown hg3' HBB.out.size (λg hg=>(HO12.out.lt g hg).1);have HO3:=jq hO3;have HB3:=jq hB3;have HOL:=jq hol2;clear hO2 hL2 hO12 hB02 hB2 hbr2 hpb hk hq hG hO hB hck hg3 hB3 hO3 hg3' hol2
     go_wp2_with (first|(at_builtin;refine Lib.wpList_append_run _ rfl _ _ _ _ rfl _ _ rfl rfl _ _ hr3 ?_))
     exact⟨⟨j+1,_,out++pb,by omega,by simp,rfl,by rw[jL,<-HQ.out,<-HK.out];exact HOL.out,HO3,HB3,HG3⟩,by simp[intOf];omega⟩
    ·have hnb: ((k:Int)==min (112:Int) ((sz:Int)-(q:Int)))=false:=by simpa using hck
     have hrs:res=([],5):=by
      have:=HGS.out;rw[if_neg (λh=>hck h.2)]at this;exact this.symm
     have HRS:=jq hrs;clear hO2 hL2 hO12 hB02 hB2 hbr2 hpb hk hq hG hO hB hck hrs
     go_wp2_with fail
     go_ret2
     refine⟨_,by rw[HRS.out];rfl,?_,HBW.out.trans (HBB.out.mono HBW.out.size)⟩;rw[HRS.out];exact World.ownsRow_nil _ _ _ _
   ·have hEb: (E==0)=false:=by simpa using hz
    have hrs:res=([],5):=by
     have:=HGS.out;rw[if_neg (λh=>hz h.1)]at this;exact this.symm
    have HRS:=jq hrs;have HBB:=jq hB02;clear hO2 hB2 hbr2 hO12 hB02 hrs
    go_wp2_with fail
    go_ret2
    refine⟨_,by rw[HRS.out];rfl,?_,HBW.out.trans (HBB.out.mono HBW.out.size)⟩;rw[HRS.out];exact World.ownsRow_nil _ _ _ _
  ·obtain rfl:j=n:=by omega
   have hjd:decide ((j:Int) <(j:Int))=false:=jf (by omega);have hg2:=hG.out;rw[List.drop_of_length_le (by rw[<-HNN.out];exact Nat.le_refl _)]at hg2;have hrs:res=(out,0):=hg2.symm;have HRS:=jq hrs;clear hg2 hrs
   go_wp2_with fail
   go_ret2
   refine⟨_,by rw[HRS.out];rfl,?_,HBW.out.trans (hB.out.mono HBW.out.size)⟩;rw[HRS.out];exact own_mono hO.out HBW.out.size
end Full
namespace Full
open Go.RowKit Go.Deep Mem Crc Go.Maps Dk Mani
open Store (nv)
theorem cmp_eq {b c:List UInt8} {sb sc:ByteArray} (hb:sv b=.string sb) (hc:sv c=.string sc):cmpI sb sc=0↔b=c:=by
 have h1:=cmp_lt hb hc;have h2:=cmp_lt hc hb;have e1:sb=⟨b.toArray⟩:=by unfold sv at hb;injection hb with h;exact h.symm
 have e2:sc=⟨c.toArray⟩:=by unfold sv at hc;injection hc with h;exact h.symm
 constructor
 ·intro h0;have h3:¬b<c:=λh=>by have:=h1.2 h;omega
  unfold Mani.cmpI at h0
  split at h0
  ·omega
  ·split at h0
   ·omega
   ·rename_i _ h4
    have h5: (sb.toList==sc.toList)=true:=by simpa using h4
    have h6:sb.toList=sc.toList:=by simpa using h5
    rw[Lib.toList_data,Lib.toList_data,e1,e2]at h6;exact h6
 ·rintro rfl;have e:sb=sc:=by rw[e1,e2]
  subst e;have h3:¬cmpI sb sb<0:=λh=>List.lt_irrefl b (h1.1 h)
  unfold Mani.cmpI at h3⊢
  split at h3
  ·omega
  ·rw[if_neg (by assumption),if_neg (by simp)]
theorem find_sum {w:World} (ver next:Nat) {a:Option Addr} (c:Nat) {l:List FR} (h:FilesIn w a l) (hn:l.length<=100000) (hr:rises (l.map FR.f)) (nm:List UInt8):
  Calls Tryz.prog 66 #[.agg #[.int .u64 (ver:Int),.int .u32 (next:Int),.slice a l.length c],nv nm] w λe w'=>Below w.heap.size w w'/\((∃(i:Nat) (x:FR),l[i]? =some x/\x.f.name=nm/\e=.returned (.tuple #[.int .i64 (i:Int),.bool true]))\/((∀x∈l,x.f.name≠nm)/\∃i:Nat,e=.returned (.tuple #[.int .i64 (i:Int),.bool false]))):=by
 obtain⟨nb,hnb0⟩:∃nb:Nat->ByteArray,nb=λk=>⟨((l[k]?.map (λy=>y.f.name)).getD []).toArray⟩:=⟨_,rfl⟩
 have hnb:∀(k:Nat) (y:FR),l[k]? =some y->sv y.f.name=.string (nb k):=λk y hy=>by rw[hnb0];simp[hy,sv]
 have hnm:sv nm=.string ⟨nm.toArray⟩:=rfl;have hcl:∀(k:Nat) (y:FR),l[k]? =some y->(cmpI (nb k) ⟨nm.toArray⟩ <0↔y.f.name<nm):=λk y hy=>cmp_lt (hnb k y hy) hnm
 have hrs:∀(k k':Nat) (y y':FR),k<k'->l[k]? =some y->l[k']? =some y'->y.f.name<y'.f.name:=λk k' y y' hk hy hy'=>by
  have h2:=List.pairwise_map.1 hr;obtain⟨i1,e1⟩:=jS.1 hy;obtain⟨i2,e2⟩:=jS.1 hy';have:=List.pairwise_iff_getElem.1 h2 k k' i1 i2 hk
  rwa [e1,e2]at this
 have hmono:∀k k',k<=k'->k'<l.length->cmpI (nb k') ⟨nm.toArray⟩ <0->cmpI (nb k) ⟨nm.toArray⟩ <0:=λk k' hk hk' hc=>by
  rcases Nat.lt_or_eq_of_le hk with h1|h1
  ·have g1:=List.getElem?_eq_getElem (l:=l) (i:=k) (by omega);have g2:=List.getElem?_eq_getElem (l:=l) (i:=k') hk';exact(hcl k _ g1).2 (List.lt_trans (hrs k k' _ _ h1 g1 g2) ((hcl k' _ g2).1 hc))
  ·rw[h1];exact hc
 refine(find_any ver next l nb a c ⟨nm.toArray⟩ w h hn hnb hmono).mono ?_;rintro e w' ⟨i,hi,hi1,hi2,rfl,hB⟩;refine⟨hB,?_⟩
 by_cases hlt:i<l.length
 ·have g1:=List.getElem?_eq_getElem (l:=l) (i:=i) hlt;have h0:=cmp_eq (hnb i _ g1) hnm
  by_cases hz:cmpI (nb i) ⟨nm.toArray⟩=0
  ·refine .inl ⟨i,_,g1,h0.1 hz,?_⟩
   simp[hlt,hz]
  ·refine .inr ⟨λx hx hxn=>?_,i,by simp[hz]⟩;obtain⟨k,hk⟩:=List.getElem?_of_mem hx;have hkl:=(jS.1 hk).1;have hk0:=(cmp_eq (hnb k _ hk) hnm).2 hxn;rcases Nat.lt_trichotomy k i with h1|h1|h1
   ·have:=hi1 k h1;omega
   ·rw[h1]at hk0;exact hz hk0
   ·have h3:=hrs i k _ _ h1 g1 hk;rw[hxn]at h3;have h4:=(hcl i _ g1).2 h3;have:=hi2 i jn hlt
    omega
 ·refine .inr ⟨λx hx hxn=>?_,i,by simp[hlt]⟩;obtain⟨k,hk⟩:=List.getElem?_of_mem hx;have hkl:=(jS.1 hk).1;have hk0:=(cmp_eq (hnb k _ hk) hnm).2 hxn;have:=hi1 k (by omega)
  omega
end Full
namespace Full
open Go.RowKit Go.Deep Mem Crc Go.Maps Dk Mani
open Store (Chg chgV isChg none' nv nv_key strKeyed zero_chg)
variable {w:World} {Q:Nat->Prop} {s d g cm:Nat} {wv:Value} {m:DM} {ver next:Nat} {a:Option Addr} {c:Nat} {l:List FR} {bad:Bool} {C:Chg}
def heldF (bl:List (List UInt8)) (fs:List Fil) (nm:List UInt8):List UInt8×Int:=
 match fs.find? (λf=>f.name==nm)with
 |some f=>loadF bl f
 |none=>([],8)
def readF (bl:List (List UInt8)) (C:Chg) (fs:List Fil) (nm:List UInt8):List UInt8×Int:=
 match C nm with
 |some (some b)=>(b,0)
 |some none=>([],8)
 |none=>heldF bl fs nm
theorem find_named {fs:List Fil} (hr:rises fs) {f:Fil} (hf:f∈fs):fs.find? (λx=>x.name==f.name)=some f:=by
 induction fs with
 |nil=>cases hf
 |cons x r ih=>
  obtain⟨h1,h2⟩:=List.pairwise_cons.1 hr;rcases List.mem_cons.1 hf with rfl|hf
  ·rw[List.find?_cons_of_pos (by simp)]
  ·have hlt:=h1 f hf
   rw[List.find?_cons_of_neg (by
    simp only[beq_iff_eq];intro e;rw[e]at hlt;exact List.lt_irrefl _ hlt)]
   exact ih h2 hf
theorem find_none_named {fs:List Fil} {nm:List UInt8} (h:∀f∈fs,f.name≠nm):fs.find? (λx=>x.name==nm)=none:=List.find?_eq_none.2 (λx hx=>by simpa using h x hx)
attribute [local go_sem] Oper.semAt_some
theorem fread_any (h:Fu w Q s d g cm wv m ver next a c l bad C) (hok:Okm m.bl.length ver next (l.map FR.f)) (hbad: (bad||m.off)=false) (hwt:m.wt= []) (nm:List UInt8) (hn:nm.length<=1000000) (hb:∀b,C nm=some (some b)->b.length<=4000000):
  Calls Tryz.prog 39 #[.pointer (some ⟨s,0,none⟩),nv nm] w λe w'=>∃v,e=.returned (.tuple #[v,.int .i64 (readF m.bl C (l.map FR.f) nm).2])/\OwnB w' w.heap.size v (readF m.bl C (l.map FR.f) nm).1/\Below w.heap.size w w':=by
 have HD:=jq (down_yes h hbad);obtain⟨c0,c1,c2,c3,c4,_⟩:=h.cells
 have hoff:m.off=false:=by cases hm:m.off with
  |false=>rfl
  |true=>rw[hm]at hbad;simp at hbad
 obtain⟨a1,n1,cp1,gn,hLk,hrun⟩:=h.look nm hn;have hlk:=(hrun w rfl).1;have hcl:=h.lt cm h.qm;have H:=jq h;have HOK:=jq hok;obtain⟨x,hx⟩:=jl (nv nm);obtain⟨N,hN⟩:=jl l.length;have hal:=(Below.refl w.heap.size w).alloc jn (.cells #[.slice a1 n1 cp1,.bool gn] 115);have HA:=jq hal
 cases hC:C nm with
 |some y=>
  rw[hC]at hlk hLk
  cases y with
  |none=>
   obtain⟨rfl,rfl,rfl,rfl⟩:=hLk;have er:readF m.bl C (l.map FR.f) nm=([],8):=by unfold readF;rw[hC]
   rw[er,<-hx];rw[<-hx]at hlk;clear h hb hok hC er hrun hx hN hal c3
   go_enter Tryz.func39,Tryz.ntmps39
   go_wp2_with fail
   refine HD.out.mono ?_;rintro e w1 ⟨rfl,rfl⟩
   go_wp2_with fail
   go_ret2
   exact⟨_,rfl,World.ownsRow_nil _ _ _ _,HA.out⟩
  |some b=>
   obtain⟨rfl,rfl,hcp,hL,_⟩:=hLk;have er:readF m.bl C (l.map FR.f) nm=(b,0):=by unfold readF;rw[hC]
   rw[er,<-hx];rw[<-hx]at hlk;have HC:=jq (clone_any a1 cp1 b _ (hL.later hal) (by have:=hb b hC;omega));clear h hb hok hC er hrun hx hN hal c3 hL
   go_enter Tryz.func39,Tryz.ntmps39
   go_wp2_with fail
   refine HD.out.mono ?_;rintro e w1 ⟨rfl,rfl⟩
   go_wp2_with fail
   refine HC.out.mono ?_;rintro e w2 ⟨v,rfl,hO,hB2⟩;have HO:=jq (own_mono hO (show w1.heap.size<=_ by simp));have HB2:=jq (HA.out.trans (hB2.mono (by simp)));clear hO hB2
   go_wp2_with fail
   go_ret2
   exact⟨_,rfl,HO.out,HB2.out⟩
 |none=>
  rw[hC]at hlk hLk;obtain⟨rfl,rfl,rfl,rfl⟩:=hLk;have er:readF m.bl C (l.map FR.f) nm=heldF m.bl (l.map FR.f) nm:=by unfold readF;rw[hC]
  rw[er];obtain⟨R,hR⟩:=jl (heldF m.bl (l.map FR.f) nm);rw[<-hR];have HR:=jq hR;have hfew:=hok.few;rw[jP]at hfew;have hfs:=find_sum ver next c (h.files.later hal) (by omega) hok.ok.rise nm;rw[<-hx,<-hN]at hfs;rw[<-hx];rw[<-hx]at hlk;have hA:=h.store.alloc (.cells #[.slice none 0 0,.bool false] 115);have k0:=hA.cell 0;have k1:=hA.cell 1;have k2:=hA.cell 2;have k3:=hA.cell 3
  simp at k0 k1 k2 k3
  rw[<-hN]at k3;have HFS:=jq hfs;have HN:=jq hN;have HCN:=jq hC;clear h hb hok er hrun hx hal c3 hA hfs hC hN hR
  go_enter Tryz.func39,Tryz.ntmps39
  go_wp2_with fail
  refine HD.out.mono ?_;rintro e w1 ⟨rfl,rfl⟩
  go_wp2_with fail
  refine HFS.out.mono ?_;rintro e w2 ⟨hB2,hr⟩;have hBB:=HA.out.trans (hB2.mono (by simp));have hF2:=H.out.later hBB;have HBB:=jq hBB;obtain⟨d0,d1,d2,d3,d4,d5⟩:=hF2.cells;rw[<-HN.out]at d3;rcases hr with⟨i,y,hy,hyn,rfl⟩|⟨hnone,i,rfl⟩
  ·have hym:y∈l:=jM hy;have hyf:y.f∈l.map FR.f:=List.mem_map.2 ⟨y,hym,rfl⟩;obtain⟨ga,oa,rfl,f0,f1,f2,f3⟩:=hF2.files.cells hy;have hin:=(jS.1 hy).1;rw[<-HN.out]at hin
   have er2:heldF m.bl (l.map FR.f) nm=loadF m.bl y.f:=by
    unfold heldF;rw[<-hyn,find_named HOK.out.ok.rise hyf]
   have hsz:=HOK.out.size y.f hyf;have hft:=HOK.out.fit y.f hyf;obtain⟨sb,hsb⟩:∃sb:ByteArray,sv y.f.name=.string sb:=⟨_,rfl⟩;have hld:=load_any hF2.store.lt d0 hF2.disk hoff hwt sb y.f y.a y.c hft.2.1.id (by omega) (hF2.files.blocks y hym).1 (HOK.out.in_ y.f hyf) (by omega);rw[hsb]at f0;obtain⟨id,hid⟩:=jl y.f.id;obtain⟨sz,hszz⟩:=jl y.f.size;obtain⟨bn,hbn⟩:=jl y.f.blocks.length;unfold iv at f2;rw[<-hid]at f1 hld;rw[<-hszz]at f2 hld;rw[<-hbn]at f3 hld;have HE:=jq (HR.out.trans er2);have HLD:=jq hld;clear hF2 hB2 hBB hld hid hszz hbn hsb hyn hy er2 hsz hft HFS
   go_wp2_with fail
   refine HLD.out.mono ?_;rintro e w3 ⟨v,rfl,hO,hB3⟩;have HO:=jq (own_mono hO HBB.out.size);have HB3:=jq (HBB.out.trans (hB3.mono HBB.out.size));rw[<-HE.out]at HO⊢;clear hO hB3 HLD
   go_wp2_with fail
   go_ret2
   exact⟨_,rfl,HO.out,HB3.out⟩
  ·have er2:heldF m.bl (l.map FR.f) nm=([],8):=by
    unfold heldF
    rw[find_none_named (λf hf=>by
     obtain⟨y,hy,rfl⟩:=List.mem_map.1 hf;exact hnone y hy)]
   have HE:=jq (HR.out.trans er2);clear hF2 hB2 hBB er2 HFS
   go_wp2_with fail
   go_ret2
   refine⟨_,by rw[HE.out];rfl,?_,HBB.out⟩;rw[HE.out];exact World.ownsRow_nil _ _ _ _
end Full
namespace Full
open Go.RowKit Go.Deep Mem Crc Go.Maps Dk Mani
open Store (Chg chgV isChg none' nv nv_key strKeyed zero_chg setC setC_same setC_other len_name)
open Ext (Holds freeN)
variable {w:World} {Q:Nat->Prop} {s d g cm:Nat} {wv:Value} {m:DM} {ver next:Nat} {a:Option Addr} {c:Nat} {l:List FR} {bad:Bool} {C:Chg}
theorem Fu.changed {w1:World} (h:Fu w Q s d g cm wv m ver next a c l bad C) (hB:Below w.heap.size w w1) (L:List (List UInt8)) (hL:∀x,C x≠none->x∈L) (hn:L.length<=1000000)
  (nm:List UInt8) (hnm:nm.length<=1000000) (o:Option (List UInt8)) (v:Value) (hv:chgV w1 (λk=>w.heap.size<=k/\k<w1.heap.size) o v):
  ∃w2,(Instr.mapUpdate 109 (.map (some cm)) (nv nm) v).run Tryz.prog w1=.ok () w2/\Fu w2 (λk=>Q k\/(w.heap.size<=k/\k<w1.heap.size)) s d g cm wv m ver next a c l bad (setC C nm (some o))/\Only [cm] w w2/\w2.heap.size=w1.heap.size:=by
 have h1:=h.later hB;obtain⟨f,hm,hk,hf⟩:=h1.map
 obtain⟨w2,hrun,hm2,hg,hs⟩:=hm.update strKeyed Tryz.underlying109 (L.map Lit.string) (λx hx=>by
  obtain⟨y,rfl⟩:=hk x hx;refine List.mem_map.2 ⟨y,hL y (λhc=>?_),rfl⟩;have:=hf y;unfold isChg at this;rw[hc]at this;exact hx this) (by rw[jP];unfold maxLen;omega) (nv_key hnm) v
 have ho:Only [cm] w1 w2:=Only.of_grown hg (λg hg=>by cases hg;exact .inl (by simp));have haw:=h1.away;have hsm:=h1.map_ne h1.store;have hcm:=h.lt cm h.qm;have hsl:=h.lt s h.qs;have hdl:=h.disk.lt;have hsz:=hB.size;have hkk:∀k,k<w1.heap.size->k≠cm->w2.heap[k]? =w1.heap[k]?:=λk hk hne=>ho.block k hk (by simpa using hne)
 have hown:∀k,Own Q s d g cm wv k->Own (λk=>Q k\/(w.heap.size<=k/\k<w1.heap.size)) s d g cm wv k:=λk hk=>⟨.inl hk.1,hk.2⟩
 refine⟨w2,hrun,⟨(hkk s h1.store.lt hsm).trans h1.store,h1.disk.keep ho.size (λk hk=>hkk k (h1.disk.lt k hk) (λe=>haw.2 (e▸hk))),h1.files.keep ho.size (λk e=>hkk k (h1.lt k (h1.fr k e).1) (h1.fr k e).2.1) (λx hx k e=>hkk k (h1.lt k (h1.br x hx k e).1) (h1.br x hx k e).2.1),λk e=>hown k (h1.fr k e),λx hx k e=>hown k (h1.br x hx k e),⟨_,hm2,λx hx=>?_,λx=>?_⟩,.inl h.qs,.inl h.qm,λk hk=>.inl (h.qd k hk),λk hq=>?_⟩,(Only.of_below (bs:=[cm]) hB).trans ho,hs⟩
 ·by_cases e:x=.string nm
  ·exact⟨nm,e⟩
  ·rw[setK_other _ e]at hx;exact hk x hx
 ·by_cases e:x=nm
  ·subst e;unfold isChg;rw[setC_same,setK_same];exact⟨v,rfl,hv.keep ho.size (λk hq=>hkk k hq.2 (by omega)) (λk hq=>⟨.inr hq,by omega,by omega,λhh=>by have:=hdl k hh;omega⟩)⟩
  ·have h3:=hf x;unfold isChg at h3⊢;rw[setC_other _ e,setK_other _ (λh=>e (by injection h))]
   cases hc:C x with
   |none=>rw[hc]at h3;exact h3
   |some c'=>
    rw[hc]at h3;obtain⟨u,hu,h4⟩:=h3;exact⟨u,hu,h4.keep ho.size (λk hq=>hkk k (h1.lt k hq.1) hq.2.1) hown⟩
 ·rw[hs];rcases hq with hq|hq
  ·exact h1.lt k hq
  ·exact hq.2
theorem fwrite_any (h:Fu w Q s d g cm wv m ver next a c l bad C) (hbad: (bad||m.off)=false) (L:List (List UInt8)) (hL:∀x,C x≠none->x∈L) (hn:L.length<=1000000)
  (nm:List UInt8) (hn1:1<=nm.length) (hn2:nm.length<=32) (ad:Option Addr) (cp:Nat) (b:List UInt8) (hb:Lies w ad (b.map bv)) (hb2:b.length<=1048576):
  Calls Tryz.prog 37 #[.pointer (some ⟨s,0,none⟩),nv nm,.slice ad b.length cp] w λe w'=>e=.returned (.int .i64 0)/\∃Q',Fu w' Q' s d g cm wv m ver next a c l bad (setC C nm (some (some b)))/\(∀k,Q' k->Q k\/w.heap.size<=k)/\(∀k,Q k->Q' k)/\Only [cm] w w':=by
 have HD:=jq (down_yes h hbad);have HC:=jq (clone_any ad cp b w.drew hb (by omega));have H:=jq h;obtain⟨_,_,_,_,c4,_⟩:=h.cells;have HLS:=jq h.store.lt;have HDR:=jq ((Below.refl w.heap.size w).drew);clear h hb
 have h0: ((nm.length:Int)==0)=false:=by
  have:¬(nm.length:Int)=0:=by omega
  simpa using this
 have h1:decide (32<(nm.length:Int))=false:=by
  have:¬32<(nm.length:Int):=by omega
  simpa using this
 have h2:decide (1048576<(b.length:Int))=false:=by
  have:¬1048576<(b.length:Int):=by omega
  simpa using this
 have hlen:=len_name nm;obtain⟨x,hx⟩:=jl (nv nm);obtain⟨ln,hln⟩:=jl nm.length;rw[<-hx,<-hln]at hlen;rw[<-hln]at h0 h1;rw[<-hx];have HX:=jq hx;clear hx hln
 go_enter Tryz.func37,Tryz.ntmps37
 go_wp2_with fail
 refine HD.out.mono ?_;rintro e w1 ⟨rfl,rfl⟩
 go_wp2_with fail
 go_region_held3 (λw'=>w'.cell? ⟨s,4,none⟩=some (.map (some cm))) (first|exact c4|exact hk2|exact hk3) ((go_at_call 65;refine HC.out.mono ?_;rintro e w2 ⟨v,rfl,hO,hB2⟩;obtain⟨va,vc,rfl,hvc,hvl,hvb,_⟩:=own_shape hO;obtain⟨w3,hrun,hst3,ho3,hs3⟩:=H.out.changed (w1:=w2) (HDR.out.trans hB2) L hL hn nm (by omega) (some b) (.agg #[.slice va b.length vc,.bool false]) ⟨va,vc,rfl,hvc,hvl,hvb⟩;rw[<-HX.out]at hrun;have hk2:=(hB2.cell (p:=⟨s,4,none⟩) HLS.out).trans c4;have hk3:=hst3.cells.2.2.2.2.1;dsimp only))
 go_wp2_with fail
 go_ret
 exact⟨rfl,_,hst3,λk hk=>hk.imp id And.left,λk hk=>.inl hk,ho3⟩
end Full
namespace Full
open Go.RowKit Go.Deep Mem Crc Go.Maps Dk Mani
open Store (Chg chgV isChg none' nv nv_key strKeyed zero_chg unit' isFile chg_shape met strKeys_mem strKeys_length setK_twice)
variable {w:World} {Q:Nat->Prop} {s d g cm:Nat} {wv:Value} {m:DM} {ver next:Nat} {a:Option Addr} {c:Nat} {l:List FR} {bad:Bool} {C:Chg}
def Seen2 (base:List (List UInt8)) (C:Chg) (left:Lit->Bool) (fm:Lit->Option Value):Prop:=(∀x,fm x≠none->∃nm,x=.string nm)/\∀nm,fm (.string nm)=if(!left (.string nm)&&(C nm).isSome)=true then(if isFile C nm=true then some unit' else none)else(if nm∈base then some unit' else none)
theorem seen2_step {base:List (List UInt8)} {left:Lit->Bool} {fm:Lit->Option Value} (h:Seen2 base C left fm) (nm:List UInt8) (hc: (C nm).isSome=true) (u:Option Value) (hu:u=if isFile C nm=true then some unit' else none):Seen2 base C (λz=>left z&& !z.sameKey (.string nm)) (setK fm (.string nm) u):=by
 refine⟨λx hx=>?_,λx=>?_⟩
 ·by_cases e:x=.string nm
  ·exact⟨nm,e⟩
  ·rw[setK_other _ e]at hx;exact h.1 x hx
 ·by_cases e:x=nm
  ·subst e;rw[setK_same,hu];have: (Lit.string x).sameKey (.string x)=true:=WideAt.sameKey_self trivial
   simp[this,hc]
  ·rw[setK_other _ (λh=>e (by injection h)),h.2 x];have: (Lit.string x).sameKey (.string nm)=false:=Maps.sameKey_ne (λh=>e (by injection h))
   simp[this]
theorem seen2_start {Q':Nat->Prop} {base:List (List UInt8)} {D:DataW Value} {f fm:Lit->Option Value} (hd:Desc D f) (hf:∀nm,isChg w Q' f C nm) (h1:∀x,fm x≠none->∃nm,x=.string nm) (h2:∀nm,fm (.string nm)=if nm∈base then some unit' else none):Seen2 base C (Maps.has D) fm:=⟨h1,λnm=>by
 have:=hf nm;unfold isChg at this;rw[h2 nm]
 cases hC:C nm with
 |none=>simp
 |some y=>
  rw[hC]at this;obtain⟨v,hv,_⟩:=this;have e:Maps.has D (.string nm)=true:=by rw[(hd _).1,hv];rfl
  simp[e]⟩
theorem seen2_support {base L:List (List UInt8)} {left:Lit->Bool} {fm:Lit->Option Value} (hL:∀x,C x≠none->x∈L) (h:Seen2 base C left fm):∀x,fm x≠none->x∈(base++L).map Lit.string:=λx hx=>by
 obtain⟨nm,rfl⟩:=h.1 x hx;refine List.mem_map.2 ⟨nm,?_,rfl⟩;rw[h.2 nm]at hx
 by_cases hb: (!left (.string nm)&&(C nm).isSome)=true
 ·refine List.mem_append.2 (.inr (hL nm (λe=>?_)));rw[e]at hb
  simp at hb
 ·rw[if_neg hb]at hx
  by_cases hm:nm∈base
  ·exact List.mem_append.2 (.inl hm)
  ·rw[if_neg hm]at hx;exact absurd rfl hx
def hasF (C:Chg) (fs:List Fil) (nm:List UInt8):Prop:=
 match C nm with
 |some (some _)=>True
 |some none=>False
 |none=>nm∈fs.map Fil.name
theorem seen2_end {fs:List Fil} {left:Lit->Bool} {fm:Lit->Option Value} (h:Seen2 (fs.map Fil.name) C left fm) (hl:∀z,left z=false) (nm:List UInt8):fm (.string nm)≠none↔hasF C fs nm:=by
 rw[h.2 nm,hl];unfold hasF Store.isFile
 cases hC:C nm with
 |none=>by_cases hm:nm∈fs.map Fil.name <;> simp[hm]
 |some y=>cases y <;> simp
structure BaseIs (base:List (List UInt8)) (fm:Lit->Option Value):Prop where
 str:∀x,fm x≠none->∃nm,x=.string nm
 mem:∀nm,fm (.string nm)=if nm∈base then some unit' else none
theorem BaseIs.step {base:List (List UInt8)} {fm:Lit->Option Value} (h:BaseIs base fm) (nm:List UInt8):BaseIs (base++ [nm]) (setK fm (.string nm) (some unit')):=by
 refine⟨λx hx=>?_,λx=>?_⟩
 ·by_cases e:x=.string nm
  ·exact⟨nm,e⟩
  ·rw[setK_other _ e]at hx;exact h.str x hx
 ·by_cases e:x=nm
  ·subst e;rw[setK_same]
   simp
  ·rw[setK_other _ (λh=>e (by injection h)),h.mem x]
   simp[e]
theorem BaseIs.support {base:List (List UInt8)} {fm:Lit->Option Value} (h:BaseIs base fm):∀x,fm x≠none->x∈base.map Lit.string:=λx hx=>by
 obtain⟨nm,rfl⟩:=h.str x hx;refine List.mem_map.2 ⟨nm,?_,rfl⟩;rw[h.mem nm]at hx
 by_cases hm:nm∈base
 ·exact hm
 ·rw[if_neg hm]at hx;exact absurd rfl hx
attribute [local go_sem] Oper.semAt_some
theorem fnames_any (h:Fu w Q s d g cm wv m ver next a c l bad C) (L:List (List UInt8)) (hL:∀x,C x≠none->x∈L) (hn:L.length<=100000) (hLn:∀x∈L,x.length<=1000000) (hl:l.length<=100000) (hls:∀x∈l,x.f.name.length<=32):
  Calls Tryz.prog 20 #[.pointer (some ⟨s,0,none⟩)] w λe w'=>∃(v:Value) (ss:List (List UInt8)),e=.returned v/\w'.ownsRow w.heap.size 9 1 v ss.length (ss.map encStr)/\(∀nm,nm∈ss↔hasF C (l.map FR.f) nm)/\ss.Pairwise (·< ·)/\ss.length<=l.length+L.length/\Below w.heap.size w w':=by
 obtain⟨_,_,_,c3,c4,_⟩:=h.cells;have H:=jq h;have HLS:=jq hls;have hmk:=run_makeMap (P:=Tryz.prog) 112 w;obtain⟨N,hN⟩:=jl l.length;rw[<-hN]at c3;have ha:=h.store.alloc (.map #[] 0);have k3:=ha.cell 3;have k4:=ha.cell 4
 simp at k3 k4
 rw[<-hN]at k3 hl⊢;have HN:=jq hN;have HL:=jq hL;have HLN:=jq hLn;clear h ha hN hls hL hLn
 go_enter Tryz.func20,Tryz.ntmps20
 go_wp2_with fail
 obtain⟨W,hW⟩:=jl (w.alloc (.map #[] 0));obtain⟨nb,hnb⟩:=jl w.heap.size;have hM0:MapIs W 9 nb (λ_=>none):=by rw[hW,hnb];exact MapIs.made w _
 have hBW:Below w.heap.size w W:=by rw[hW];exact(Below.refl _ w).alloc jn _
 rw[<-hW]at k3 k4⊢;rw[<-hnb];have HM0:=jq hM0;have HBW:=jq hBW;have HNB:=jq hnb;clear hM0 hBW hW hmk c3 c4 hnb
 go_loopw[17] (λi wr=>∃(j:Nat) (fm:Lit->Option Value),j<=N/\i=.int .i64 j/\Hid (MapIs wr 9 nb fm)/\Hid (BaseIs ((l.take j).map (λx=>x.f.name)) fm)/\Hid (Below w.heap.size w wr)) (λi _=>N-(intOf i).toNat)
 case atStart=>exact⟨0,_,Nat.zero_le _,rfl,HM0,jq ⟨λx hx=>absurd rfl hx,λnm=>by simp⟩,HBW⟩
 case round=>
  obtain⟨j,fm0,hj,rfl,hM,hBI,hB⟩:=hrel
  by_cases hlt:j<N
  ·have hjd:decide ((j:Int) <(N:Int))=true:=jd (by omega);obtain⟨x,hx⟩:∃x,l[j]? =some x:=⟨l[j]'(by rw[<-HN.out];exact hlt),jg _⟩;have hxm:=jM hx;have hFr:=H.out.later hB.out;obtain⟨ga,oa,rfl,f0,f1,f2,f3⟩:=hFr.files.cells hx;obtain⟨sb,hnm⟩:∃sb:ByteArray,sv x.f.name=.string sb:=⟨_,rfl⟩;have hnm2:nv x.f.name=.string sb:=hnm;obtain⟨sz,hsz⟩:=jl x.f.size;obtain⟨id,hid⟩:=jl x.f.id;obtain⟨bn,hbn⟩:=jl x.f.blocks.length;unfold iv at f2;rw[hnm]at f0;rw[<-hid]at f1;rw[<-hsz]at f2;rw[<-hbn]at f3;obtain⟨W5,hW5⟩:=jl (wr.alloc (.cells #[.string sb,.int .u32 (id:Int),.int .i64 (sz:Int),.slice x.a bn x.c] 106));have hB5:Below wr.heap.size wr W5:=by rw[hW5];exact(Below.refl _ wr).alloc jn _
   have hM5:MapIs W5 9 nb fm0:=hM.out.keep (hB5.block nb hM.out.lt);obtain⟨W6,hU,hM6,hg6,hs6⟩:=hM5.update strKeyed Tryz.underlying112 (((l.take j).map (λx=>x.f.name)).map Lit.string) hBI.out.support (by rw[jP,jP,jT];unfold maxLen;omega) (nv_key (nm:=x.f.name) (by have:=HLS.out x hxm;omega)) unit';have hBI6:=hBI.out.step x.f.name;have htk: (l.take j).map (λx=>x.f.name)++ [x.f.name]=(l.take (j+1)).map (λx=>x.f.name):=by rw[List.take_add_one,hx];simp
   rw[htk]at hBI6;have hB6:Below w.heap.size w W6:=(hB.out.trans (hB5.mono hB.out.size)).grown hg6 (Nat.le_trans hB.out.size hB5.size) (λq e=>by cases e;rw[HNB.out];exact Nat.le_refl _);rw[hnm2]at hU;unfold unit' at hU;rw[hW5]at hU;have HM6:=jq hM6;have HBI6:=jq hBI6;have HB6:=jq hB6;clear hM5 hM6 hg6 hs6 hBI6 hB6 hB5 hW5 hFr hnm hnm2 hsz hid hbn hx hxm htk hM hBI hB
   go_wp2_with fail
   exact⟨⟨j+1,_,by omega,by simp,HM6,HBI6,HB6⟩,by simp[intOf];omega⟩
  ·obtain rfl:j=N:=by omega
   have hjd:decide ((j:Int) <(j:Int))=false:=jf (by omega);have htk: (l.take j).map (λx=>x.f.name)=(l.map FR.f).map Fil.name:=by rw[jW (by rw[HN.out];exact Nat.le_refl _),List.map_map];rfl
   have hbi:=hBI.out;rw[htk]at hbi;have hlen0: ((l.map FR.f).map Fil.name).length=j:=by rw[jP,jP,HN.out]
   obtain⟨f,⟨D,n,hown,hd⟩,hk,hf⟩:=(H.out.later hB.out).map;obtain⟨W2,hrun,hrg,hgr,hsz⟩:=hown.range strKeyed Tryz.underlying109;have hcm:=H.out.lt cm H.out.qm;have hW2:Below wr.heap.size wr W2:=⟨hgr.os,hgr.tape,hgr.output,hgr.size,λk hk=>hgr.block k hk (by simp)⟩;have r4:=(hB.out.cell (p:=⟨s,4,none⟩) H.out.store.lt).trans H.out.cells.2.2.2.2.1;have HR:=jq hrg;have HW2:=jq hW2;have HF:=jq hf;have HD:=jq hd;have HK:=jq hk;have hn2:=hM.out.lt;have hM1:=hM.out.keep (hW2.block nb hn2);have HM1:=jq hM1;have HS:=jq (seen2_start hd hf hbi.str hbi.mem);have HBW2:=jq (hB.out.trans (hW2.mono hB.out.size));have HL0:=jq hlen0;have hnr0:nb≠wr.heap.size:=by omega
   clear hrg hgr hW2 hf hd hk hM1 hown k3 k4 hbi htk hlen0
   go_wp2_with fail
   obtain⟨r,hr⟩:=jl wr.heap.size;rw[<-hr]at HR⊢;have hrw:nb<r:=by rw[hr];exact hn2
   have HRR:=jq hr;clear hr hrun
   go_loopw[] (λwq=>∃left cnt fm,Hid (wq.ranges Tryz.prog 9 anyR cm r n D left cnt)/\Hid (MapIs wq 9 nb fm)/\Hid (Seen2 ((l.map FR.f).map Fil.name) C left fm)/\Hid (Below w.heap.size w wq)) (λwq=>wq.rangeLeft cm r)
   case atStart=>exact⟨_,_,_,HR,HM1,HS,HBW2⟩
   case round=>
    obtain⟨left,cnt,fm,hR,hM,hS,hB⟩:=hrel;have hnbe:=HNB.out;have hsz:=hB.out.size;rcases hR.out.next strKeyed 0 with⟨h0,hl,hrun⟩|⟨key,v,kl,y,w5,cnt',hkey,hlk,hv,hat,hrun,hR5,hlt,hg5,hs5,hen⟩
    ·have HLF:=jq hl;clear hl h0;obtain⟨D2,hown2,hd2⟩:=hM.out.bounded strKeyed _ (seen2_support HL.out hS.out);have hle:=hown2.size_le;rw[jP,jL,HL0.out]at hle;have hKeys:=callsIn_wide.1 (Tryz.maps_Keys_51 (some nb) wr);have hSort:=callsIn_wide.1 (Tryz.slices_Sorted_keys_50_51 nb _ D2 anyR wr hown2 (by unfold maxLen;omega) (by omega));have HKY:=jq hKeys;have HST:=jq hSort;have HD2:=jq hd2;have HO2:=jq hown2;clear hown2 hd2 hKeys hSort hnbe
     go_wp2_with fail
     refine HKY.out.mono ?_;rintro e w6 ⟨rfl,rfl⟩
     go_wp2_with fail
     refine HST.out.mono ?_;rintro e w7 ⟨v,ss,rfl,hperm,hown7,_,hB7⟩;have HO7:=jq hown7;have HB7:=jq hB7;have HP:=jq hperm;clear hown7 hB7 hperm
     go_wp2_with fail
     go_ret
     refine⟨v,ss.mergeSort (λx y=>decide (x<=y)),rfl,?_,λnm=>?_,sorted_names HP.out (strKeys_nodup HD2.out hS.out.1 (HO2.out.entries strKeyed)),?_,?_⟩
     ·rw[List.length_mergeSort];exact own_mono HO7.out (by have:=HNB.out;simp;omega)
     ·rw[List.mem_mergeSort,HP.out.mem_iff,strKeys_mem HD2.out hS.out.1 (HO2.out.entries strKeyed)];exact seen2_end hS.out HLF.out nm
     ·rw[List.length_mergeSort,HP.out.length_eq,strKeys_length (HO2.out.entries strKeyed)]
      omega
     ·exact(hB.out.alloc hsz _).trans (HB7.out.mono (by have:=HNB.out;simp;omega))
    ·obtain⟨nm,cc,rfl,rfl,hc,hch⟩:=met HD.out HF.out HK.out (λnm h=>HLN.out nm (HL.out nm h)) hkey hv hat;obtain⟨a0,n0,cp0,gn,rfl,hgn⟩:=chg_shape hc hch;have hlen:nm.length<=1000000:=HLN.out nm (HL.out nm (by rw[hc];exact λh=>by cases h));have hnr:nb≠r:=by omega
     have hncm:nb≠cm:=by omega
     have hM5:=hM.out.keep (hg5.block nb hM.out.lt (λe=>hnr (by injection e)));obtain⟨W3,hW3⟩:=jl (w5.alloc (.cells #[.slice a0 n0 cp0,.bool gn] 115));have hM3:MapIs W3 9 nb fm:=by rw[hW3];exact hM5.keep (Below.heap_alloc _ _ _ hM5.lt)
     have hR3:=hR5.alloc (.cells #[.slice a0 n0 cp0,.bool gn] 115);have hb3:=Blk.new w5 115 #[.slice a0 n0 cp0,.bool gn];have hB5:Below w.heap.size w w5:=hB.out.grown hg5 (by omega) (λq e=>by cases e;omega);have hB3:Below w.heap.size w W3:=by rw[hW3];exact hB5.alloc (by omega) _
     rw[<-hW3]at hR3 hb3;have hs3:W3.heap.size=w5.heap.size+1:=by rw[hW3];simp
     obtain⟨W4,hU,hM4,hg4,hs4⟩:=hM3.update strKeyed Tryz.underlying112 _ (seen2_support HL.out hS.out) (by rw[jP,jL,HL0.out];unfold maxLen;omega) hkey unit';have hB4:Below w.heap.size w W4:=hB3.grown hg4 (by omega) (λq e=>by cases e;omega);have hR4:=hR3.kept hg4 (λe=>hncm (by injection e with e;exact e.symm)) (λe=>hnr (by injection e with e;exact e.symm));have hb4:Blk W4 w5.heap.size 115 #[.slice a0 n0 cp0,.bool gn]:=(hg4.block w5.heap.size hb3.lt (λe=>by injection e with e;have:=hM.out.lt;omega)).trans hb3;obtain⟨W6,hDl,hM6,hg6,hs6⟩:=hM4.drop strKeyed Tryz.underlying112 hkey 0;have hB6:Below w.heap.size w W6:=hB4.grown hg6 (by omega) (λq e=>by cases e;omega);have hR6:=hR4.kept hg6 (λe=>hncm (by injection e with e;exact e.symm)) (λe=>hnr (by injection e with e;exact e.symm));rw[setK_twice]at hM6;have b1:=hb4.cell 1
     simp at b1
     have hfile:isFile C nm= !gn:=hgn;have hS4:=seen2_step hS.out nm (by rw[hc];rfl) (if isFile C nm=true then some unit' else none) rfl;rw[hfile]at hS4;obtain⟨x,hx⟩:=jl (nv nm);have hml:wr.rangeLeft cm r=cnt:=hR.out.left_eq;rw[<-hx]at hrun hen hU hDl;have HW3:=jq hW3;have HR4:=jq hR4;have HR6:=jq hR6;have HM4:=jq hM4;have HM6:=jq hM6;have HS4:=jq hS4;have HB4:=jq hB4;have HB6:=jq hB6;have HML:=jq hml;rw[hW3]at hU;unfold unit' at hU;clear hR4 hR6 hM4 hM6 hS4 hB4 hB6 hM5 hM3 hR3 hb3 hB3 hB5 hb4 hg4 hg5 hg6 hR5 hch hat hv hkey hx hS hM hR hml hW3 hs3 hs4 hs5 hs6 hlk hc hfile hgn hnbe;cases gn
     ·go_wp2_with fail
      exact⟨⟨_,cnt',_,HR4,HM4,jq (by have:=HS4.out;simpa using this),HB4⟩,by rw[HR4.out.left_eq,HML.out];exact hlt⟩
     ·go_wp2_with fail
      exact⟨⟨_,cnt',_,HR6,HM6,jq (by have:=HS4.out;simpa using this),HB6⟩,by rw[HR6.out.left_eq,HML.out];exact hlt⟩
end Full
namespace Full
open Go.RowKit Go.Deep Mem Crc Go.Maps Dk Mani
open Store (Chg chgV isChg none' nv nv_key strKeyed zero_chg setC setC_same setC_other)
variable {w:World} {Q:Nat->Prop} {s d g cm:Nat} {wv:Value} {m:DM} {ver next:Nat} {a:Option Addr} {c:Nat} {l:List FR} {bad:Bool} {C:Chg}
theorem contains_any (v:Value) (B:Nat) (ss:List (List UInt8)) (nm:List UInt8) (w:World) (h:w.ownsRow B 9 1 v ss.length (ss.map encStr)) (hm:ss.length<=1000000):
  Calls Tryz.prog 107 #[v,nv nm] w λe w'=>e=.returned (.bool (decide (nm∈ss)))/\w'=w:=by
 obtain⟨a,cap,rfl,hc,hL,_,_⟩:=own_shape h;rcases hL with he|⟨g,off,rfl,_,hcs⟩
 ·have e0:ss= []:=List.map_eq_nil_iff.1 he;subst e0;exact Tryz.slices_Contains_string_empty a cap ⟨nm.toArray⟩ w
 ·have:=Tryz.slices_Contains_string g off ss.length cap (ss.map λl=>(⟨l.toArray⟩:ByteArray)) ⟨nm.toArray⟩ w (by simp) (by omega) (λj hj=>by
   rw[jP]at hj;have:=hcs j (encStr ss[j]) (by simp[hj]);rw[this]
   simp[hj])
  have hci:Lib.containsS ((ss.map λl=>(⟨l.toArray⟩:ByteArray)).take ss.length) ⟨nm.toArray⟩=decide (nm∈ss):=by
   refine Bool.eq_iff_iff.2 ?_;rw[Lib.containsS_iff,jW (by simp),decide_eq_true_eq]
   constructor
   ·intro h;obtain⟨x,hx,e⟩:=List.mem_map.1 h;injection e with e
    have e2:x=nm:=by
     have:=congrArg Array.toList e
     simpa using this
    exact e2▸hx
   ·exact λh=>List.mem_map.2 ⟨nm,h,rfl⟩
  rw[hci]at this;exact this
theorem fremove_any (h:Fu w Q s d g cm wv m ver next a c l bad C) (hbad: (bad||m.off)=false) (L:List (List UInt8)) (hL:∀x,C x≠none->x∈L) (hn:L.length<=100000) (hLn:∀x∈L,x.length<=1000000) (hl:l.length<=100000) (hls:∀x∈l,x.f.name.length<=32) (nm:List UInt8) (hnm:nm.length<=1000000) (hf:hasF C (l.map FR.f) nm):
  Calls Tryz.prog 70 #[.pointer (some ⟨s,0,none⟩),nv nm] w λe w'=>e=.returned (.int .i64 0)/\∃Q',Fu w' Q' s d g cm wv m ver next a c l bad (setC C nm (some none))/\(∀k,Q' k->Q k\/w.heap.size<=k)/\(∀k,Q k->Q' k)/\Only [cm] w w':=by
 have HD:=jq (down_yes h hbad);have HN:=jq (fnames_any h L hL hn hLn hl hls);have H:=jq h;have HLS:=jq h.store.lt;have HNF:=jq hf;have HL:=jq hL;have HLN:=jq hLn;clear h hls hL hLn hf;obtain⟨x,hx⟩:=jl (nv nm);rw[<-hx];have HX:=jq hx;clear hx
 go_enter Tryz.func70,Tryz.ntmps70
 go_wp2_with fail
 refine HD.out.mono ?_;rintro e w1 ⟨rfl,rfl⟩
 go_wp2_with fail
 refine HN.out.mono ?_;rintro e w2 ⟨v,ss,rfl,hO,hmem,_,hle,hB2⟩;have hC:=contains_any v _ ss nm w2 hO (by omega);rw[jd ((hmem nm).2 HNF.out),<-HX.out]at hC;have HC:=jq hC;obtain⟨w3,hrun,hst3,ho3,hs3⟩:=H.out.changed (w1:=w2) hB2 L HL.out (by omega) nm hnm none (.agg #[.slice none 0 0,.bool true]) rfl;rw[<-HX.out]at hrun;have c4:=(hB2.cell (p:=⟨s,4,none⟩) HLS.out).trans H.out.cells.2.2.2.2.1;have HST3:=jq hst3;have HO3:=jq ho3;clear hO hmem hB2 hst3 ho3 hs3 hC
 go_wp2_with fail
 refine HC.out.mono ?_;rintro e w4 ⟨rfl,rfl⟩
 go_wp2_with fail
 go_ret
 exact⟨rfl,_,HST3.out,λk hk=>hk.imp id And.left,λk hk=>.inl hk,HO3.out⟩
end Full
namespace Full
open Go.RowKit Mani Dk Mem Crc
open Store (Chg Files)
open Page (pageL pageB pageE pageN pageL_length)
open Pages (pagesW)
theorem page_shape (file place:Nat) (b:List UInt8):∃r,pageL file place b=four file++(four place++(four b.length++(b++r))):=by
 refine⟨List.replicate (112-b.length) 0++four (sumF (four file++(four place++(four b.length++(b++List.replicate (112-b.length) 0))))),?_⟩;unfold Page.pageL Crc.marked;simp only[List.append_assoc]
theorem pageN_page (file place:Nat) {b:List UInt8} (h:b.length<=112):pageN (pageL file place b)=b.length:=by
 obtain⟨r,hr⟩:=page_shape file place b;have e: (pageL file place b).getD 8 0=UInt8.ofNat b.length:=by rw[hr];rfl
 unfold Page.pageN;rw[e];have: (UInt8.ofNat b.length).toNat=b.length:=by simp;omega
 omega
theorem pageB_page (file place:Nat) {b:List UInt8} (h:b.length<=112):pageB (pageL file place b)=b:=by
 obtain⟨r,hr⟩:=page_shape file place b;unfold Page.pageB;rw[pageN_page file place h];have e: (pageL file place b).drop 12=b++r:=by rw[hr];rfl
 rw[e];exact List.take_left
theorem pageE_page (file place:Nat) {b:List UInt8} (h:b.length<=112):pageE (pageL file place b) file place=0:=by
 unfold Page.pageE;rw[pageB_page file place h,if_pos rfl]
structure PagesAt (bl:List (List UInt8)) (f:Fil) (b:List UInt8):Prop where
 size:f.size=b.length
 many:Mani.many b.length=f.blocks.length
 at_:∀k i,f.blocks[k]? =some i->bl[i]? =some (pageL f.id k ((b.drop (k*112)).take 112))
theorem loadG_pages (bl:List (List UInt8)) (id:Nat) (b:List UInt8):∀(rest:List Nat) (n:Nat),(∀k i,rest[k]? =some i->bl[i]? =some (pageL id (n+k) ((b.drop ((n+k)*112)).take 112)))->n+rest.length=Mani.many b.length->loadG bl id b.length n (b.take (n*112)) rest=(b,0)
 | [],n,_,hn=>by
  have h:=(many_cover (n:=b.length)).1;rw[List.length_nil,Nat.add_zero]at hn;rw[<-hn]at h;show(b.take (n*112),(0:Int))=_;rw[jW h]
 |i ::r,n,h,hn=>by
  have h0:=h 0 i rfl;rw[Nat.add_zero]at h0;have hlt:n*112<b.length:=(many_cover (n:=b.length)).2 n (by rw[<-hn,List.length_cons];omega);have hg:bl.getD i []=pageL id n ((b.drop (n*112)).take 112):=by rw[List.getD_eq_getElem?_getD,h0];rfl
  have hl: ((b.drop (n*112)).take 112).length<=112:=by rw[jT];omega
  unfold loadG
  rw[hg,pageE_page id n hl,pageB_page id n hl,if_pos ⟨rfl,by
   rw[jT,List.length_drop,jT]
   omega⟩]
  have e:b.take (n*112)++(b.drop (n*112)).take 112=b.take ((n+1)*112):=by
   rw[Nat.succ_mul,List.take_add]
  rw[e]
  exact loadG_pages bl id b r (n+1) (λk j hk=>by
   have:=h (k+1) j (by simpa using hk);rw[show n+1+k=n+(k+1)by omega];exact this) (by rw[List.length_cons]at hn;omega)
theorem loadF_pages {bl:List (List UInt8)} {f:Fil} {b:List UInt8} (h:PagesAt bl f b):loadF bl f=(b,0):=by
 unfold loadF;rw[h.size];have:=loadG_pages bl f.id b f.blocks 0 (λk i hk=>by rw[Nat.zero_add];exact h.at_ k i hk) (by rw[h.many,Nat.zero_add])
 rwa [Nat.zero_mul,List.take_zero]at this
theorem puts_other:∀(ws:List (Nat×List UInt8)) (bl:List (List UInt8)) (i:Nat),i∉ws.map Prod.fst->(puts bl ws)[i]? =bl[i]?
 | [],_,_,_=>rfl
 |x ::r,bl,i,h=>by
  rw[List.map_cons,List.mem_cons]at h;have h1:=puts_other r (bl.set x.1 x.2) i (λhm=>h (.inr hm));show(puts (bl.set x.1 x.2) r)[i]? =_;rw[h1,List.getElem?_set_ne (λe=>h (.inl e.symm))]
theorem puts_at:∀(ws:List (Nat×List UInt8)) (bl:List (List UInt8)) (i:Nat) (x:List UInt8),(ws.map Prod.fst).Nodup->(i,x)∈ws->i<bl.length->(puts bl ws)[i]? =some x
 |y ::r,bl,i,x,hn,hm,hi=>by
  rw[List.map_cons]at hn;obtain⟨h1,h2⟩:=List.nodup_cons.1 hn;show(puts (bl.set y.1 y.2) r)[i]? =_;rcases List.mem_cons.1 hm with rfl|hm
  ·rw[puts_other r _ i h1,List.getElem?_set_self hi]
  ·exact puts_at r _ i x h2 hm (by rw[List.length_set];exact hi)
theorem pagesW_keys (id:Nat) (bl:List Nat) (b:List UInt8): (pagesW id bl b).map Prod.fst=bl:=by
 unfold Pages.pagesW;rw[List.map_map];refine List.ext_getElem (by simp) (λk h1 h2=>?_)
 simp
 rw[jg (by simpa using h2)]
 rfl
theorem fileW_keys (C:Chg) (f:Fil): ((fileW C f).map Prod.fst).Sublist f.blocks:=by
 unfold fileW
 split
 ·rw[pagesW_keys];exact List.Sublist.refl _
 ·exact List.nil_sublist _
theorem chW_keys (C:Chg):∀fs:List Fil,((chW C fs).map Prod.fst).Sublist (bksL fs)
 | []=>List.Sublist.refl _
 |f ::r=>by
  have h1:=fileW_keys C f;have h2:=chW_keys C r;unfold chW bksL at h2⊢;rw[jC,jC,List.map_append];exact h1.append h2
theorem bks_apart:∀{fs:List Fil},(bksL fs).Nodup->∀{f g:Fil},f∈fs->g∈fs->∀{i:Nat},i∈f.blocks->i∈g.blocks->f=g
 |x ::r,hn,f,g,hf,hg,i,h1,h2=>by
  unfold bksL at hn;rw[jC]at hn;obtain⟨n1,n2,n3⟩:=List.nodup_append.1 hn;have hmem:∀{y:Fil},y∈r->i∈y.blocks->i∈r.flatMap Fil.blocks:=λhy hi=>List.mem_flatMap.2 ⟨_,hy,hi⟩
  rcases List.mem_cons.1 hf with rfl|hf2
  ·rcases List.mem_cons.1 hg with rfl|hg2
   ·rfl
   ·exact absurd rfl (n3 i h1 i (hmem hg2 h2))
  ·rcases List.mem_cons.1 hg with rfl|hg2
   ·exact absurd rfl (n3 i h2 i (hmem hf2 h1))
   ·exact bks_apart n2 hf2 hg2 h1 h2
theorem slotW_keys {at_:Nat} {b:List UInt8} {i:Nat} (h:i∈(slotW at_ b).map Prod.fst):at_<=i/\i<at_+16:=by
 unfold Dk.slotW at h;rw[List.map_map]at h;obtain⟨k,hk,rfl⟩:=List.mem_map.1 h;have:=List.mem_range.1 hk;show at_<=at_+k/\at_+k<at_+16
 omega
theorem slot_bl {m:DM} {at_:Nat} {b:List UInt8} (hw:m.wt= []) (h: (m.slot at_ b).2=0): (m.slot at_ b).1.bl=puts m.bl (slotW at_ b)/\(m.slot at_ b).1.off=m.off/\(m.slot at_ b).1.wt= []:=by
 unfold DM.slot at h⊢
 by_cases h0: (m.writes (slotW at_ b)).2=0
 ·rw[if_pos h0]at h⊢;obtain⟨w1,w2,w3⟩:=writes_ok h0;obtain⟨s1,s2,s3⟩:=sync_ok h;refine⟨?_,s1.trans w2,s3⟩;rw[s2,w1,w3,hw,List.nil_append]
 ·rw[if_neg h0]at h;exact absurd h h0
theorem mani_bl {m:DM} {ver:Nat} {b:List UInt8} (hw:m.wt= []) (h: (m.mani ver b).2=0): (m.mani ver b).1.bl=puts (puts m.bl (slotW (ver%2*16) b)) (slotW ((ver+1)%2*16) b)/\(m.mani ver b).1.off=m.off/\(m.mani ver b).1.wt= []:=by
 unfold DM.mani at h⊢
 by_cases h0: (m.slot (ver%2*16) b).2=0
 ·rw[if_pos h0]at h⊢;obtain⟨a1,a2,a3⟩:=slot_bl hw h0;obtain⟨b1,b2,b3⟩:=slot_bl a3 h;exact⟨by rw[b1,a1],b2.trans a2,b3⟩
 ·rw[if_neg h0]at h;exact absurd h h0
theorem commit_bl {m:DM} {C:Chg} {fs:List Fil} {ver:Nat} {b:List UInt8} (hw:m.wt= []) (h: (commitD m C fs ver b).2=0): (commitD m C fs ver b).1.bl=puts (puts (puts m.bl (chW C fs)) (slotW (ver%2*16) b)) (slotW ((ver+1)%2*16) b)/\(commitD m C fs ver b).1.off=m.off/\(commitD m C fs ver b).1.wt= []:=by
 unfold commitD at h⊢
 by_cases h0: (m.writes (chW C fs)).2=0
 ·rw[if_pos h0]at h⊢
  by_cases h1: (m.writes (chW C fs)).1.sync.2=0
  ·rw[if_pos h1]at h⊢;obtain⟨w1,w2,w3⟩:=writes_ok h0;obtain⟨s1,s2,s3⟩:=sync_ok h1;obtain⟨b1,b2,b3⟩:=mani_bl s3 h;refine⟨?_,b2.trans (s1.trans w2),b3⟩;rw[b1,s2,w1,w3,hw,List.nil_append]
  ·rw[if_neg h1]at h;exact absurd h h1
 ·rw[if_neg h0]at h;exact absurd h h0
theorem commit_len {m:DM} {C:Chg} {fs:List Fil} {ver:Nat} {b:List UInt8} (hw:m.wt= []) (h: (commitD m C fs ver b).2=0): (commitD m C fs ver b).1.bl.length=m.bl.length:=by
 rw[(commit_bl hw h).1,puts_length,puts_length,puts_length]
theorem commit_at {m:DM} {C:Chg} {fs:List Fil} {ver:Nat} {b:List UInt8} (hw:m.wt= []) (h: (commitD m C fs ver b).2=0) {i:Nat} (hi:32<=i): (commitD m C fs ver b).1.bl[i]? =(puts m.bl (chW C fs))[i]?:=by
 rw[(commit_bl hw h).1]
 have hlt:∀v,i∉(slotW (v%2*16) b).map Prod.fst:=λv hm=>by
  have:=slotW_keys hm;have:=Nat.mod_lt v (show 0<2 by decide)
  omega
 rw[puts_other _ _ _ (hlt _),puts_other _ _ _ (hlt _)]
structure OnDisk (bl:List (List UInt8)) (fs:List Fil) (H:Files):Prop where
 there:∀f∈fs,∃b,H f.name=some b/\PagesAt bl f b
 none_:∀nm,nm∉fs.map Fil.name->H nm=none
def nowF (C:Chg) (H:Files):Files:=λnm=>
 match C nm with
 |some o=>o
 |none=>H nm
theorem plan_names (C:Chg):∀(ss:List (List UInt8)) (p p':PL),planF C ss p=some p'->∀nm,nm∈p'.fs.map Fil.name↔nm∈p.fs.map Fil.name\/(nm∈ss/\∃b,C nm=some (some b))
 | [],p,p',h,nm=>by
  have h:some p=some p':=h;cases h
  simp
 |x ::r,p,p',h,nm=>by
  unfold planF at h;rw[List.foldl_cons]at h
  cases hs:stepF C x p with
  |none=>
   rw[show(some p:Option PL).bind (stepF C x)=none from hs,foldl_none]at h;cases h
  |some q=>
   rw[show(some p:Option PL).bind (stepF C x)=some q from hs]at h;rw[plan_names C r q p' h nm]
   have hq:nm∈q.fs.map Fil.name↔nm∈p.fs.map Fil.name\/(nm=x/\∃b,C nm=some (some b)):=by
    unfold stepF at hs
    cases hC:C x with
    |none=>
     rw[hC]at hs;have hs:=Option.some.inj hs;subst hs;refine⟨.inl,λh=>h.elim id ?_⟩;rintro⟨rfl,b,hb⟩;rw[hC]at hb;cases hb
    |some o=>
     rw[hC]at hs
     cases o with
     |none=>
      have hs:=Option.some.inj hs;subst hs;refine⟨.inl,λh=>h.elim id ?_⟩;rintro⟨rfl,b,hb⟩;rw[hC]at hb;cases hb
     |some b=>
      dsimp only at hs
      split at hs
      ·cases hs
      ·have hs:=Option.some.inj hs;subst hs
       constructor
       ·intro h;obtain⟨f,hf,rfl⟩:=List.mem_map.1 h;rcases mem_ins.1 hf with rfl|hf
        ·exact .inr ⟨rfl,b,hC⟩
        ·exact .inl (List.mem_map.2 ⟨f,hf,rfl⟩)
       ·rintro(h|⟨rfl,_⟩)
        ·obtain⟨f,hf,rfl⟩:=List.mem_map.1 h;exact List.mem_map.2 ⟨f,mem_ins.2 (.inr hf),rfl⟩
        ·exact List.mem_map.2 ⟨newF nm b p,mem_ins.2 (.inl rfl),rfl⟩
   rw[hq]
   constructor
   ·rintro((h|⟨rfl,h⟩)|⟨h1,h2⟩)
    ·exact .inl h
    ·exact .inr ⟨by simp,h⟩
    ·exact .inr ⟨by simp[h1],h2⟩
   ·rintro(h|⟨h1,h2⟩)
    ·exact .inl (.inl h)
    ·rcases List.mem_cons.1 h1 with rfl|h1
     ·exact .inl (.inr ⟨rfl,h2⟩)
     ·exact .inr ⟨h1,h2⟩
theorem plan_kept (C:Chg):∀(ss:List (List UInt8)) (p p':PL),(∀nm∈ss,C nm≠none)->planF C ss p=some p'->∀f∈p'.fs,C f.name=none->f∈p.fs
 | [],p,p',_,h,f,hf,_=>by
  have h:some p=some p':=h;cases h;exact hf
 |x ::r,p,p',hss,h,f,hf,hc=>by
  unfold planF at h;rw[List.foldl_cons]at h
  cases hs:stepF C x p with
  |none=>
   rw[show(some p:Option PL).bind (stepF C x)=none from hs,foldl_none]at h;cases h
  |some q=>
   rw[show(some p:Option PL).bind (stepF C x)=some q from hs]at h;have h1:=plan_kept C r q p' (λnm hnm=>hss nm (by simp[hnm])) h f hf hc;unfold stepF at hs
   split at hs
   ·split at hs
    ·cases hs
    ·have hs:=Option.some.inj hs;subst hs;rcases mem_ins.1 h1 with rfl|h1
     ·exact absurd hc (hss x (by simp))
     ·exact h1
   ·have hs:=Option.some.inj hs;subst hs;exact h1
theorem commit_on {m:DM} {C:Chg} {ss:List (List UInt8)} {n ver next nx:Nat} {fs fs':List Fil} {H:Files} (hn:n=m.bl.length) (hn2:n<=65536) (h:OnDisk m.bl fs H) (hok:Okm n ver next fs) (hC:∀nm b,C nm=some (some b)->b.length<=1048576) (hK:Keys C ss) (hs:∀nm∈ss,nm.length<=32) (hp:planM C ss n ver next fs=some (nx,fs')) (hw:m.wt= []) (b:List UInt8) (hz: (commitD m C fs' (ver+1) b).2=0):OnDisk (commitD m C fs' (ver+1) b).1.bl fs' (nowF C H):=by
 obtain⟨hok',hnew⟩:=plan_okm hok hn2 hC hK hs hp;unfold planM at hp
 by_cases hv:ver=18446744073709551615
 ·rw[if_pos hv]at hp;cases hp
 rw[if_neg hv]at hp;cases hF:planF C ss (startF C n next fs)with
 |none=>rw[hF]at hp;cases hp
 |some p=>
  rw[hF]at hp;dsimp only at hp
  by_cases hm:mayB (ver+1) p.next p.fs=true
  ·rw[if_pos hm]at hp;have hp:=Option.some.inj hp;have e2:p.fs=fs':=congrArg Prod.snd hp;subst e2;have hkn:=(hok'.ok.bks).1;have hkd: ((chW C p.fs).map Prod.fst).Nodup:=(chW_keys C p.fs).nodup hkn;refine⟨λf hf=>?_,λnm hnm=>?_⟩
   ·have hfo:=hok'.ok.each f hf;rcases hnew f hf with hc|⟨b0,hc,hN⟩
    ·have hf0:f∈fs:=(List.mem_filter.1 (plan_kept C ss _ p (λnm hnm=>(hK.mem nm).1 hnm) hF f hf hc)).1;obtain⟨b0,hb0,hP⟩:=h.there f hf0;refine⟨b0,by unfold nowF;rw[hc];exact hb0,hP.size,hP.many,λk i hk=>?_⟩;have him:=jM hk;rw[commit_at hw hz (hfo.blocks i him).1,puts_other,hP.at_ k i hk];intro hmk;obtain⟨w,hw2,rfl⟩:=List.mem_map.1 hmk;obtain⟨f',hf',hwf⟩:=List.mem_flatMap.1 hw2;have hi':w.1∈f'.blocks:=(fileW_keys C f').subset (List.mem_map.2 ⟨w,hwf,rfl⟩);have e:f=f':=bks_apart hkn hf hf' him hi';subst e;unfold fileW at hwf;rw[hc]at hwf;cases hwf
    ·refine⟨b0,by unfold nowF;rw[hc],hN.size,hN.many.symm,λk i hk=>?_⟩;have him:=jM hk;have hkl:=(jS.1 hk).1;rw[commit_at hw hz (hfo.blocks i him).1];refine puts_at _ _ _ _ hkd ?_ (by rw[<-hn];exact hN.in_ i him);refine List.mem_flatMap.2 ⟨f,hf,?_⟩;unfold fileW;rw[hc];refine List.mem_map.2 ⟨k,List.mem_range.2 hkl,?_⟩;rw[List.getD_eq_getElem?_getD,hk]
     rfl
   ·rw[plan_names C ss _ p hF nm]at hnm;have h1:nm∉(startF C n next fs).fs.map Fil.name:=λh=>hnm (.inl h)
    have h2:¬∃b,C nm=some (some b):=λh=>hnm (.inr ⟨(hK.mem nm).2 (by obtain⟨b,hb⟩:=h;rw[hb];exact λh=>by cases h),h⟩)
    unfold nowF
    cases hc:C nm with
    |none=>
     refine h.none_ nm (λhm2=>h1 ?_);obtain⟨f,hf,rfl⟩:=List.mem_map.1 hm2;exact List.mem_map.2 ⟨f,List.mem_filter.2 ⟨hf,by rw[hc];rfl⟩,rfl⟩
    |some o=>
     cases o with
     |none=>rfl
     |some b0=>exact absurd ⟨b0,hc⟩ h2
  ·rw[if_neg hm]at hp;cases hp
theorem readF_now {bl:List (List UInt8)} {fs:List Fil} {H:Files} {C:Chg} (h:OnDisk bl fs H) (hr:rises fs) (nm:List UInt8):readF bl C fs nm=match nowF C H nm with
 |some b=>(b,0)
 |none=>([],8):=by
 unfold readF nowF
 cases hc:C nm with
 |some o=>cases o <;> rfl
 |none=>
  dsimp only;unfold heldF
  by_cases hm:nm∈fs.map Fil.name
  ·obtain⟨f,hf,rfl⟩:=List.mem_map.1 hm;obtain⟨b,hb,hP⟩:=h.there f hf;rw[find_named hr hf,hb];exact loadF_pages hP
  ·rw[find_none_named (λf hf e=>hm (List.mem_map.2 ⟨f,hf,e⟩)),h.none_ nm hm]
theorem hasF_now {bl:List (List UInt8)} {fs:List Fil} {H:Files} {C:Chg} (h:OnDisk bl fs H) (nm:List UInt8):hasF C fs nm↔nowF C H nm≠none:=by
 unfold hasF nowF
 cases hc:C nm with
 |some o=>cases o <;> simp
 |none=>
  dsimp only
  constructor
  ·intro hm;obtain⟨f,hf,rfl⟩:=List.mem_map.1 hm;obtain⟨b,hb,_⟩:=h.there f hf;rw[hb];exact λh=>by cases h
  ·intro hn;exact Classical.byContradiction λhm=>hn (h.none_ nm hm)
theorem deed_free {m:DM} (h:m.fuse<0):m.deed=(m,0):=by
 unfold DM.deed;rw[if_neg (by omega),if_neg (by omega)]
theorem write_free {m:DM} (h:m.fuse<0) (i:Nat) (b:List UInt8): (m.write i b).2=0/\(m.write i b).1.fuse=m.fuse:=by
 unfold DM.write;rw[if_neg (by omega),deed_free h];exact⟨rfl,rfl⟩
theorem writes_free:∀(l:List (Nat×List UInt8)) {m:DM},m.fuse<0->(m.writes l).2=0/\(m.writes l).1.fuse=m.fuse
 | [],_,_=>⟨rfl,rfl⟩
 |x ::r,m,h=>by
  obtain⟨h1,h2⟩:=write_free h x.1 x.2;obtain⟨h3,h4⟩:=writes_free r (m:=(m.write x.1 x.2).1) (by omega);unfold DM.writes;rw[if_pos h1];exact⟨h3,h4.trans h2⟩
theorem sync_free {m:DM} (h:m.fuse<0):m.sync.2=0/\m.sync.1.fuse=m.fuse:=by
 unfold DM.sync;rw[if_neg (by omega),deed_free h];exact⟨rfl,rfl⟩
theorem slot_free {m:DM} (h:m.fuse<0) (at_:Nat) (b:List UInt8): (m.slot at_ b).2=0/\(m.slot at_ b).1.fuse=m.fuse:=by
 obtain⟨h1,h2⟩:=writes_free (slotW at_ b) h;obtain⟨h3,h4⟩:=sync_free (m:=(m.writes (slotW at_ b)).1) (by omega);unfold DM.slot;rw[if_pos h1];exact⟨h3,h4.trans h2⟩
theorem commit_free {m:DM} (h:m.fuse<0) (C:Chg) (fs:List Fil) (ver:Nat) (b:List UInt8): (commitD m C fs ver b).2=0/\(commitD m C fs ver b).1.fuse=m.fuse:=by
 obtain⟨h1,h2⟩:=writes_free (chW C fs) h;obtain⟨h3,h4⟩:=sync_free (m:=(m.writes (chW C fs)).1) (by omega);obtain⟨h5,h6⟩:=slot_free (m:=(m.writes (chW C fs)).1.sync.1) (by omega) (ver%2*16) b;obtain⟨h7,h8⟩:=slot_free (m:=((m.writes (chW C fs)).1.sync.1.slot (ver%2*16) b).1) (by omega) ((ver+1)%2*16) b;unfold commitD;rw[if_pos h1,if_pos h3];unfold DM.mani;rw[if_pos h5];exact⟨h7,by omega⟩
end Full
namespace Full
open Go.RowKit Mani Dk
open Store (Chg)
open Ext (takeL takeK freeN freeL frees flips flipK flipK_at fits outs turnK tak freeL_length)
end Full
namespace Full
open Go.RowKit Go.Deep Mem Crc Go.Maps Dk Mani
open Store (Chg chgV isChg none' nv Files St)
open Disk (Blank zs)
open Page (pageL)
def D0 (N:Nat):DM:=⟨List.replicate N (List.replicate 128 0),[],false,-1⟩
theorem blC_zeros (N:Nat):blC (List.replicate N (List.replicate 128 0))=List.replicate (N*128) (.int .u8 0):=by
 induction N with
 |zero=>rfl
 |succ n ih=>
  unfold Dk.blC at ih⊢;rw[List.replicate_succ,jC,ih,List.map_replicate,Nat.succ_mul,Nat.add_comm,<-List.replicate_append_replicate]
  rfl
theorem blank_dk {w:World} {d g N:Nat} (h:Blank w d g N false) (hN:N<=65536):Dk w d g (.slice none 0 0) (D0 N):=by
 refine⟨?_,?_,World.ownsRow_nil _ _ _ _,?_,?_,(by show(-9223372036854775808:Int)<= -1;decide),(by show(-1:Int)<=9223372036854775807;decide),?_,λ_=>rfl⟩
 ·have e: (D0 N).bl.length=N:=by unfold D0;exact List.length_replicate
  rw[e];exact h.disk
 ·have e: (blC (D0 N).bl).toArray=zs (N*128):=by
   unfold D0;rw[blC_zeros];unfold Disk.zs
   simp
  rw[e];exact h.row
 ·intro b hb;have:=List.eq_of_mem_replicate hb;rw[this];exact List.length_replicate
 ·intro x hx;cases hx
 ·unfold D0;rw[List.length_replicate];exact hN
theorem _root_.Go.Proofs.YtfgjnpbffppocaaGreatDoor.Store.St.full {w:World} {Q:Nat->Prop} {s d g N cm:Nat} (h:St w Q s d g N cm false none') (hN:N<=65536):Fu w Q s d g cm (.slice none 0 0) (D0 N) 0 0 none 0 [] false none':=by
 obtain⟨f,h1,h2,h3⟩:=h.map;refine⟨h.store,blank_dk h.disk hN,⟨.inl rfl,λx hx=>(by cases hx)⟩,λk e=>(by cases e),λx hx=>(by cases hx),⟨f,h1,h2,λnm=>h3 nm⟩,h.qs,h.qm,λk hk=>?_,h.lt⟩;rcases hk with rfl|rfl|e
 ·exact h.qd
 ·exact h.qg
 ·cases e
theorem on_none (N:Nat):OnDisk (D0 N).bl [] (λ_=>none):=⟨λf hf=>(by cases hf),λ_ _=>rfl⟩
theorem d0_len (N:Nat): (D0 N).bl.length=N:=by unfold D0;exact List.length_replicate
end Full
namespace Full
open Go.RowKit Mani Dk Varint
open Store (Chg none' setC setC_same setC_other Files)
open Ext (takeL takeK freeN)
end Full
namespace Full
open Go.RowKit Go.Deep Mem Crc Go.Maps Dk Mani
open Store (Chg chgV isChg none' nv Files setC setC_same setC_other)
open Ext (Tab freeN)
def Few (C:Chg) (n:Nat):Prop:=∃L:List (List UInt8),(∀x,C x≠none->x∈L)/\L.length<=n/\(∀x∈L,x.length<=32)/\∀nm b,C nm=some (some b)->b.length<=1048576
theorem few_none (n:Nat):Few none' n:=⟨[],λx h=>absurd rfl h,Nat.zero_le _,λx hx=>(by cases hx),λnm b h=>by cases h⟩
theorem Few.set {C:Chg} {n:Nat} (h:Few C n) (nm:List UInt8) (hn:nm.length<=32) (o:Option (List UInt8)) (ho:∀b,o=some b->b.length<=1048576):Few (setC C nm (some o)) (n+1):=by
 obtain⟨L,h1,h2,h3,h4⟩:=h;refine⟨nm ::L,λx hx=>?_,by simp;omega,λx hx=>?_,λx b hx=>?_⟩
 ·by_cases e:x=nm
  ·rw[e];simp
  ·rw[setC_other _ e]at hx;exact List.mem_cons_of_mem _ (h1 x hx)
 ·rcases List.mem_cons.1 hx with rfl|hx
  ·exact hn
  ·exact h3 x hx
 ·by_cases e:x=nm
  ·subst e;rw[setC_same]at hx;exact ho b (Option.some.inj hx)
  ·rw[setC_other _ e]at hx;exact h4 x b hx
theorem dedup_of (p:List UInt8->Prop):∀L:List (List UInt8),(∀x,p x->x∈L)->∃K:List (List UInt8),K.Nodup/\∀x,x∈K↔p x:=by
 intro L hL
 have h:∀M:List (List UInt8),∃K:List (List UInt8),K.Nodup/\∀x,x∈K↔x∈M/\p x:=by
  intro M
  induction M with
  |nil=>exact⟨[],List.nodup_nil,λx=>by simp⟩
  |cons a r ih=>
   obtain⟨K,h1,h2⟩:=ih;rcases Classical.em (a∈K\/¬p a)with h3|h3
   ·refine⟨K,h1,λx=>?_⟩;rw[h2 x,List.mem_cons]
    constructor
    ·exact λh=>⟨.inr h.1,h.2⟩
    ·rintro⟨rfl|h4,h5⟩
     ·rcases h3 with h3|h3
      ·exact(h2 x).1 h3
      ·exact absurd h5 h3
     ·exact⟨h4,h5⟩
   ·have h4:a∉K:=λh=>h3 (.inl h)
    have h5:p a:=Classical.byContradiction λh=>h3 (.inr h)
    refine⟨a ::K,List.nodup_cons.2 ⟨h4,h1⟩,λx=>?_⟩;rw[List.mem_cons,h2 x,List.mem_cons]
    constructor
    ·rintro(rfl|h)
     ·exact⟨.inl rfl,h5⟩
     ·exact⟨.inr h.1,h.2⟩
    ·rintro⟨rfl|h6,h7⟩
     ·exact .inl rfl
     ·exact .inr ⟨h6,h7⟩
 obtain⟨K,h1,h2⟩:=h L;exact⟨K,h1,λx=>(h2 x).trans ⟨λh=>h.2,λh=>⟨hL x h,h⟩⟩⟩
theorem keys_exist {C:Chg} {n:Nat} (h:Few C n):∃ss,Keys C ss:=by
 obtain⟨L,h1,_⟩:=h;obtain⟨K,h2,h3⟩:=dedup_of (λx=>C x≠none) L h1;exact⟨_,sorted_names (List.Perm.refl K) h2,λnm=>by rw[List.mem_mergeSort];exact h3 nm⟩
structure On (B s d g cm:Nat) (w:World) (Q:Nat->Prop) (m:DM) (ver next:Nat) (fs:List Fil) (C:Chg) (H:Files) (n:Nat):Prop where
 fu:∃wv a c l,Fu w Q s d g cm wv m ver next a c l false C/\l.map FR.f=fs
 off:m.off=false
 wt:m.wt= []
 big:33<=m.bl.length
 on:OnDisk m.bl fs H
 ok:Okm m.bl.length ver next fs
 few:Few C n
 base:∀k,Q k->B<=k
 tab:Tab w
 pos:0<B
 low:B<=w.heap.size
variable {B s d g cm:Nat} {w:World} {Q:Nat->Prop} {m:DM} {ver next:Nat} {fs:List Fil} {C:Chg} {H:Files} {n:Nat}
theorem On.small (h:On B s d g cm w Q m ver next fs C H n):m.bl.length<=65536:=by
 obtain⟨wv,a,c,l,hf,_⟩:=h.fu;exact hf.disk.small
theorem On.lt (h:On B s d g cm w Q m ver next fs C H n):∀k,Q k->k<w.heap.size:=by
 obtain⟨wv,a,c,l,hf,_⟩:=h.fu;exact hf.lt
theorem On.keep {w':World} {X:Nat->Prop} (h:On B s d g cm w Q m ver next fs C H n) (hB:Upon X w w') (hX:∀k,X k->¬Q k/\k≠0):On B s d g cm w' Q m ver next fs C H n:=by
 obtain⟨wv,a,c,l,hf,hl⟩:=h.fu;exact⟨⟨wv,a,c,l,hf.upon hB (λk hk=>(hX k hk).1),hl⟩,h.off,h.wt,h.big,h.on,h.ok,h.few,h.base,λj hj=>(World.cell?_of_block (hB.block 0 h.tab.lt (λe=>(hX 0 e).2 rfl))).trans (h.tab j hj),h.pos,Nat.le_trans h.low hB.size⟩
theorem On.up (h:On B s d g cm w Q m ver next fs C H n) {w':World} (hu:Upon Q w w'):Below B w w':=hu.below h.low h.base
theorem On.then {w':World} {Q':Nat->Prop} {m':DM} {ver' next':Nat} {fs':List Fil} {C':Chg} {H':Files} {n':Nat} (h:On B s d g cm w Q m ver next fs C H n) (hu:Upon Q w w') (hq:∀k,Q' k->Q k\/w.heap.size<=k) (hf:∃wv a c l,Fu w' Q' s d g cm wv m' ver' next' a c l false C'/\l.map FR.f=fs') (h1:m'.off=false) (h3:m'.wt= []) (h4:33<=m'.bl.length) (h5:OnDisk m'.bl fs' H') (h6:Okm m'.bl.length ver' next' fs') (h7:Few C' n'):On B s d g cm w' Q' m' ver' next' fs' C' H' n':=
 ⟨hf,h1,h3,h4,h5,h6,h7,λk hk=>(hq k hk).elim (h.base k) (λh8=>Nat.le_trans h.low h8),h.tab.below (h.up hu) h.pos,h.pos,Nat.le_trans h.low hu.size⟩
theorem on_write (h:On B s d g cm w Q m ver next fs C H n) (hn:n<=100000) (nm:List UInt8) (h1:1<=nm.length) (h2:nm.length<=32) (ad:Option Addr) (cp:Nat) (b:List UInt8) (hb:Lies w ad (b.map bv)) (hb2:b.length<=1048576):
  Calls Tryz.prog 37 #[.pointer (some ⟨s,0,none⟩),nv nm,.slice ad b.length cp] w λe w'=>e=.returned (.int .i64 0)/\∃Q',On B s d g cm w' Q' m ver next fs (setC C nm (some (some b))) H (n+1)/\(∀k,Q' k->Q k\/w.heap.size<=k)/\Upon Q w w':=by
 obtain⟨wv,a,c,l,hf,hl⟩:=h.fu;obtain⟨L,l1,l2,l3,l4⟩:=h.few;refine(fwrite_any hf (by rw[h.off];rfl) L l1 (by omega) nm h1 h2 ad cp b hb hb2).mono ?_;rintro e w' ⟨rfl,Q',hf',hq,_,ho⟩;have hu:Upon Q w w':=Upon.of_only ho (λk hk=>.inl (by rw[jE.1 hk];exact hf.qm));exact⟨rfl,Q',h.then hu hq ⟨wv,a,c,l,hf',hl⟩ h.off h.wt h.big h.on h.ok (h.few.set nm h2 (some b) (λb' e=>by cases e;exact hb2)),hq,hu⟩
theorem on_names (h:On B s d g cm w Q m ver next fs C H n) (hn:n<=90000):
  Calls Tryz.prog 20 #[.pointer (some ⟨s,0,none⟩)] w λe w'=>∃(v:Value) (ss:List (List UInt8)),e=.returned v/\w'.ownsRow w.heap.size 9 1 v ss.length (ss.map encStr)/\(∀nm,nm∈ss↔nowF C H nm≠none)/\ss.Pairwise (·< ·)/\ss.length<=2035+n/\Below w.heap.size w w':=by
 obtain⟨wv,a,c,l,hf,hl⟩:=h.fu;obtain⟨L,l1,l2,l3,l4⟩:=h.few;have hfew:=h.ok.few;rw[<-hl,jP]at hfew;refine(fnames_any hf L l1 (by omega) (λx hx=>by have:=l3 x hx;omega) (by omega) (λx hx=>(h.ok.ok.each x.f (by rw[<-hl];exact List.mem_map.2 ⟨x,hx,rfl⟩)).n2)).mono ?_;rintro e w' ⟨v,ss,rfl,h1,h2,h3,h4,h5⟩;refine⟨v,ss,rfl,h1,λnm=>?_,h3,by omega,h5⟩;rw[h2 nm,hl];exact hasF_now h.on nm
def ansF (o:Option (List UInt8)):List UInt8×Int:=
 match o with
 |some b=>(b,0)
 |none=>([],8)
theorem on_read (h:On B s d g cm w Q m ver next fs C H n) (nm:List UInt8) (hn:nm.length<=1000000):
  Calls Tryz.prog 39 #[.pointer (some ⟨s,0,none⟩),nv nm] w λe w'=>∃v,e=.returned (.tuple #[v,.int .i64 (ansF (nowF C H nm)).2])/\OwnB w' w.heap.size v (ansF (nowF C H nm)).1/\Below w.heap.size w w':=by
 obtain⟨wv,a,c,l,hf,hl⟩:=h.fu;obtain⟨L,l1,l2,l3,l4⟩:=h.few;have hr:readF m.bl C fs nm=ansF (nowF C H nm):=readF_now h.on h.ok.ok.rise nm;have:=fread_any hf (by rw[hl];exact h.ok) (by rw[h.off];rfl) h.wt nm hn (λb hb=>by have:=l4 nm b hb;omega);rw[hl,hr]at this;exact this
theorem on_remove (h:On B s d g cm w Q m ver next fs C H n) (hn:n<=90000) (nm:List UInt8) (hnm:nm.length<=32) (hf:nowF C H nm≠none):
  Calls Tryz.prog 70 #[.pointer (some ⟨s,0,none⟩),nv nm] w λe w'=>e=.returned (.int .i64 0)/\∃Q',On B s d g cm w' Q' m ver next fs (setC C nm (some none)) H (n+1)/\(∀k,Q' k->Q k\/w.heap.size<=k)/\Upon Q w w':=by
 obtain⟨wv,a,c,l,hfu,hl⟩:=h.fu;obtain⟨L,l1,l2,l3,l4⟩:=h.few;have hfew:=h.ok.few;rw[<-hl,jP]at hfew;refine(fremove_any hfu (by rw[h.off];rfl) L l1 (by omega) (λx hx=>by have:=l3 x hx;omega) (by omega) (λx hx=>(h.ok.ok.each x.f (by rw[<-hl];exact List.mem_map.2 ⟨x,hx,rfl⟩)).n2) nm (by omega) (by rw[hl];exact(hasF_now h.on nm).2 hf)).mono ?_;rintro e w' ⟨rfl,Q',hf',hq,_,ho⟩;have hu:Upon Q w w':=Upon.of_only ho (λk hk=>.inl (by rw[jE.1 hk];exact hfu.qm));exact⟨rfl,Q',h.then hu hq ⟨wv,a,c,l,hf',hl⟩ h.off h.wt h.big h.on h.ok (h.few.set nm hnm none (λb' e=>by cases e)),hq,hu⟩
theorem on_commit_none (h:On B s d g cm w Q m ver next fs C H n) (hC:∀nm,C nm=none):
  Calls Tryz.prog 35 #[.pointer (some ⟨s,0,none⟩)] w λe w'=>e=.returned (.int .i64 0)/\w'=w:=by
 obtain⟨wv,a,c,l,hfu,hl⟩:=h.fu;exact commit_none hfu (by rw[h.off];rfl) hC
def afterD (m:DM) (C:Chg) (ver:Nat) (p:Nat×List Fil):DM:=(commitD m C p.2 (ver+1) (manL (ver+1) p.1 p.2)).1
theorem after_fuse {m:DM} (hz:m.fuse<0) (C:Chg) (ver:Nat) (p:Nat×List Fil): (afterD m C ver p).fuse<0:=by
 have h:=(commit_free hz C p.2 (ver+1) (manL (ver+1) p.1 p.2)).2;unfold afterD;rw[h];exact hz
theorem on_commit (h:On B s d g cm w Q m ver next fs C H n) (hz:m.fuse<0) (hn:n<=9000) {ss:List (List UInt8)} (hK:Keys C ss) (hC:¬∀nm,C nm=none):
  Calls Tryz.prog 35 #[.pointer (some ⟨s,0,none⟩)] w λe w'=>
   match planM C ss m.bl.length ver next fs with
   |none=>e=.returned (.int .i64 7)/\Below w.heap.size w w'
   |some p=>e=.returned (.int .i64 0)/\∃Q',On B s d g cm w' Q' (afterD m C ver p) (ver+1) p.1 p.2 none' (nowF C H) 0/\(∀k,Q' k->Q k\/w.heap.size<=k)/\Upon Q w w':=by
 obtain⟨wv,a,c,l,hfu,hl⟩:=h.fu;obtain⟨L,l1,l2,l3,l4⟩:=h.few;have hs:∀nm∈ss,nm.length<=32:=λnm hnm=>l3 nm (l1 nm ((hK.mem nm).1 hnm))
 refine(commit_any hfu h.tab L l1 (by omega) l3 l4 (by rw[hl];exact h.ok) hK h.off (by rw[h.wt];exact Nat.zero_le _) h.big hC).mono ?_;intro e w' hc;rw[hl]at hc
 cases hp:planM C ss m.bl.length ver next fs with
 |none=>rw[hp]at hc;exact hc
 |some p=>
  rw[hp]at hc;obtain⟨he,hu,Q',wv',hq,hr⟩:=hc;obtain⟨z1,z2⟩:=commit_free hz C p.2 (ver+1) (manL (ver+1) p.1 p.2);rw[if_pos z1]at hr;obtain⟨a',c',l',hl',hf'⟩:=hr;obtain⟨nx,fs'⟩:=p;obtain⟨g1,g2,g3⟩:=commit_bl h.wt z1;have hbl:=commit_len h.wt z1;have hok:=(plan_okm h.ok h.small l4 hK hs hp).1;have hon:=commit_on rfl h.small h.on h.ok l4 hK hs hp h.wt _ z1;refine⟨by rw[he,z1],Q',h.then hu hq ⟨wv',a',c',l',hf',hl'⟩ (g2.trans h.off) g3 ?_ hon ?_ (few_none 0),hq,hu⟩
  ·show 33<=(commitD m C fs' (ver+1) (manL (ver+1) nx fs')).1.bl.length;rw[hbl];exact h.big
  ·show Okm (commitD m C fs' (ver+1) (manL (ver+1) nx fs')).1.bl.length (ver+1) nx fs';rw[hbl];exact hok
end Full
namespace RefF
open Go.RowKit Go.Deep Mem Crc
open Store (nv)
abbrev FF:=List UInt8×List UInt8
def FF.vs (x:FF):List Value:=[nv x.1,nv x.2]
def flatP (l:List FF):List Value:=l.flatMap FF.vs
theorem flatP_len:∀l:List FF,(flatP l).length=l.length*2
 | []=>rfl
 |x ::r=>by
  unfold flatP;rw[jC,jL,List.length_cons];have:=flatP_len r;unfold flatP at this;rw[this];show 2+_=_
  omega
theorem flatP_at:∀{l:List FF} {k:Nat} {x:FF},l[k]? =some x->∀{j:Nat} {u:Value},(FF.vs x)[j]? =some u->(flatP l)[k*2+j]? =some u
 | [],k,x,hx,_,_,_=>by simp at hx
 |y ::r,0,x,hx,j,u,hu=>by
  simp at hx
  subst hx;unfold flatP;rw[jC,List.getElem?_append_left (by have:=(jS.1 hu).1;omega)]
  simpa using hu
 |y ::r,k+1,x,hx,j,u,hu=>by
  have:=flatP_at (l:=r) (k:=k) (x:=x) (by simpa using hx) hu;have e: (FF.vs y).length=2:=rfl;unfold flatP at this⊢;rw[jC,List.getElem?_append_right (by rw[e];omega),<-this]
  congr 1
  rw[e]
  omega
theorem cells_at {w:World} {a:Option Addr} {l:List FF} (h:Lies w a (flatP l)) {k:Nat} {x:FF} (hx:l[k]? =some x):∃g o,a=some ⟨g,o,none⟩/\w.cell? ⟨g,o+k*2,none⟩=some (nv x.1)/\w.cell? ⟨g,o+k*2+1,none⟩=some (nv x.2):=by
 rcases h with h|⟨g,o,rfl,_,hc⟩
 ·have:=congrArg List.length h;rw[flatP_len]at this;have h2:=(jS.1 hx).1
  simp at this
  omega
 ·exact⟨g,o,rfl,hc _ _ (flatP_at hx (j:=0) rfl),by rw[Nat.add_assoc];exact hc _ _ (flatP_at hx (j:=1) rfl)⟩
theorem str_beq {x y:List UInt8} {sx sy:ByteArray} (hx:nv x=.string sx) (hy:nv y=.string sy): (sx.toList==sy.toList)=(x==y):=by
 unfold Store.nv at hx hy;injection hx with hx;injection hy with hy;subst hx hy;rw[Lib.toList_data,Lib.toList_data]
def findP (l:List FF) (nm:List UInt8):Nat:=l.findIdx (λx=>x.1==nm)
theorem findP_eq {l:List FF} {nm:List UInt8} {k:Nat} {x:FF} (hx:l[k]? =some x) (he:x.1=nm) (hp:∀j,j<k->∀y,l[j]? =some y->y.1≠nm):findP l nm=k:=by
 obtain⟨hk,hxe⟩:=jS.1 hx;unfold findP;rw[List.findIdx_eq hk];refine⟨by rw[hxe];simpa using he,λj hj=>?_⟩;have:=hp j hj _ (jg (by omega))
 simpa using this
theorem findP_none {l:List FF} {nm:List UInt8} (hp:∀j,j<l.length->∀y,l[j]? =some y->y.1≠nm):findP l nm=l.length:=by
 unfold findP;rw[List.findIdx_eq_length];intro x hx;obtain⟨j,hj⟩:=List.mem_iff_getElem?.1 hx;have:=hp j (jS.1 hj).1 x hj
 simpa using this
theorem eql_str (t:TypeId) (a b:ByteArray):binOp .eql t (.string a) (.string b)=pure (.bool (a.toList==b.toList)):=by simp[binOp,Op.stringOp]
attribute [local go_sem] eql_str
attribute [local go_sem] Oper.semAt_some
theorem find_any (a:Option Addr) (cp:Nat) (l:List FF) (nm:List UInt8) (w:World) (h:Lies w a (flatP l)) (hn:l.length<=1000000):
  Calls Tryz.prog 24 #[.slice a l.length cp,nv nm] w λe w'=>e=.returned (.tuple #[.int .i64 (if findP l nm<l.length then(findP l nm:Int)else 0),.bool (decide (findP l nm<l.length))])/\w'=w:=by
 obtain⟨rv,hrv⟩:=jl (Value.tuple #[.int .i64 (if findP l nm<l.length then(findP l nm:Int)else 0),.bool (decide (findP l nm<l.length))]);rw[<-hrv];have HRV:=jq hrv;clear hrv;obtain⟨n,hnn⟩:=jl l.length;obtain⟨sn,hsn⟩:∃b:ByteArray,nv nm=.string b:=⟨_,rfl⟩;rw[<-hnn]at hn⊢;rw[hsn];have H:=jq h;have HN:=jq hnn;have HSN:=jq hsn;clear h hnn hsn
 go_enter Tryz.func24,Tryz.ntmps24
 go_wp2_with fail
 go_loopw[9] (λi wr=>∃k:Nat,k<=n/\i=.int .i64 (k:Int)/\wr=w/\Hid (∀j,j<k->∀x,l[j]? =some x->x.1≠nm)) (λi _=>n-(intOf i).toNat)
 case atStart=>exact⟨0,Nat.zero_le _,rfl,rfl,jq (λj hj=>absurd hj (Nat.not_lt_zero _))⟩
 case round=>
  obtain⟨k,hk,rfl,rfl,hp⟩:=hrel
  by_cases hkn:k<n
  ·have hkd:decide ((k:Int) <(n:Int))=true:=jd (by omega);obtain⟨x,hx⟩:∃x,l[k]? =some x:=⟨l[k]'(by rw[<-HN.out];exact hkn),jg _⟩;obtain⟨g,o,rfl,c0,_⟩:=cells_at H.out hx;obtain⟨sx,hsx⟩:∃b:ByteArray,nv x.1=.string b:=⟨_,rfl⟩;rw[hsx]at c0;obtain⟨q,hq⟩:∃b:Bool,(sx.toList==sn.toList)=b:=⟨_,rfl⟩;have HX:=jq hx;have HSX:=jq hsx;have HQ:=jq hq;clear hx hsx;cases q
   ·go_wp2_with fail
    have hne:x.1≠nm:=λe=>by
     have h1:=HQ.out;rw[str_beq HSX.out HSN.out,e]at h1
     simp at h1
    exact⟨⟨k+1,hkn,by simp,by first|rfl|trivial,jq (λj hj y hy=>by
     rcases Nat.lt_or_eq_of_le (Nat.le_of_lt_succ hj)with h1|h1
     ·exact hp.out j h1 y hy
     ·subst h1;rw[HX.out]at hy;cases hy;exact hne)⟩,by simp[intOf];omega⟩
   ·go_wp2_with fail
    go_ret2
    have he:x.1=nm:=by
     have h1:=HQ.out;rw[str_beq HSX.out HSN.out]at h1
     simpa using h1
    have hf:=findP_eq HX.out he hp.out;refine⟨?_,rfl⟩;have h2:k<l.length:=by rw[<-HN.out];exact hkn
    rw[HRV.out,hf,if_pos h2,jd h2]
    rfl
  ·obtain rfl:n=k:=by omega
   have hkd:decide ((n:Int) <(n:Int))=false:=jf (by omega);have hf:findP l nm=l.length:=findP_none (λj hj=>hp.out j (by rw[HN.out];exact hj));have HF:=jq hf;clear hf
   go_wp2_with fail
   go_ret2
   refine⟨?_,rfl⟩;rw[HRV.out,HF.out,if_neg (Nat.lt_irrefl _),jf (Nat.lt_irrefl _)]
   rfl
end RefF
end Go.Proofs.YtfgjnpbffppocaaGreatDoor
