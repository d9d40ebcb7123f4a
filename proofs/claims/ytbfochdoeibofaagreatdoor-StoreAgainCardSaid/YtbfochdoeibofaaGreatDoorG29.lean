/- A part of the proof. -/
import Derived.Test.YtbfochdoeibofaaGreatDoorG0
import Derived.Test.YtbfochdoeibofaaGreatDoorG0Q
import Derived.Test.YtbfochdoeibofaaGreatDoorG4
import Derived.Test.YtbfochdoeibofaaGreatDoorG5
import Derived.Test.YtbfochdoeibofaaGreatDoorG7
import Derived.Test.YtbfochdoeibofaaGreatDoorG9
import Derived.Test.YtbfochdoeibofaaGreatDoorG10
import Derived.Test.YtbfochdoeibofaaGreatDoorG13
import Derived.Test.YtbfochdoeibofaaGreatDoorG16
import Derived.Test.YtbfochdoeibofaaGreatDoorG21
import Derived.Test.YtbfochdoeibofaaGreatDoorG22
import Derived.Test.YtbfochdoeibofaaGreatDoorG27
import Derived.Test.YtbfochdoeibofaaGreatDoorG28
import Derived.Test.YtbfochdoeibofaaGreatDoorIter
import Derived.Deep.RegionHeld3
import Derived.Outline
import Derived.StillTailTactics
import Derived.BigQuiet
import Derived.Deep.QuietTactic
set_option maxHeartbeats 8000000
set_option maxRecDepth 200000
namespace Go.Proofs.YtbfochdoeibofaaGreatDoor
namespace Full
open Go.RowKit Go.Deep Mem Crc Go.Maps Dk Mani
open Store (Chg chgV isChg none')
def Own (Q:Nat->Prop) (s d g cm:Nat) (wv:Value) (k:Nat):Prop:=Q k/\k≠cm/\k≠s/\¬Has d g wv k
structure Fu (w:World) (Q:Nat->Prop) (s d g cm:Nat) (wv:Value) (m:DM) (ver next:Nat) (a:Option Addr) (c:Nat) (l:List FR) (bad:Bool) (C:Chg):Prop where
 store:Blk w s 90 #[.pointer (some ⟨d,0,none⟩),.int .u64 (ver:Int),.int .u32 (next:Int),.slice a l.length c,.map (some cm),.bool bad]
 disk:Dk w d g wv m
 files:FilesIn w a l
 fr:∀k,Mem.blk a=some k->Own Q s d g cm wv k
 br:∀x∈l,∀k,Mem.blk x.a=some k->Own Q s d g cm wv k
 map:∃f,MapIs w 9 cm f/\(∀x,f x≠none->∃nm,x=.string nm)/\∀nm,isChg w (Own Q s d g cm wv) f C nm
 qs:Q s
 qm:Q cm
 qd:∀k,Has d g wv k->Q k
 lt:∀k,Q k->k<w.heap.size
theorem _root_.Go.Proofs.YtbfochdoeibofaaGreatDoor.Mani.FilesIn.keep {w w':World} {a:Option Addr} {l:List FR} (h:FilesIn w a l) (hs:w.heap.size<=w'.heap.size) (hk:∀k,Mem.blk a=some k->w'.heap[k]? =w.heap[k]?) (hb:∀x∈l,∀k,Mem.blk x.a=some k->w'.heap[k]? =w.heap[k]?):FilesIn w' a l:=
 ⟨h.row.keep hs hk,λx hx=>⟨(h.blocks x hx).1.keep hs (hb x hx),(h.blocks x hx).2⟩⟩
theorem Fu.keep {w w':World} {Q:Nat->Prop} {s d g cm:Nat} {wv:Value} {m:DM} {ver next:Nat} {a:Option Addr} {c:Nat} {l:List FR} {bad:Bool} {C:Chg} (h:Fu w Q s d g cm wv m ver next a c l bad C) (hs:w.heap.size<=w'.heap.size) (hk:∀k,Q k->w'.heap[k]? =w.heap[k]?):Fu w' Q s d g cm wv m ver next a c l bad C:=by
 obtain⟨f,h1,h2,h3⟩:=h.map;exact⟨(hk s h.qs).trans h.store,h.disk.keep hs (λk hq=>hk k (h.qd k hq)),h.files.keep hs (λk e=>hk k (h.fr k e).1) (λx hx k e=>hk k (h.br x hx k e).1),h.fr,h.br,⟨f,h1.keep (hk cm h.qm),h2,λnm=>(h3 nm).keep hs (λk hq=>hk k hq.1) (λ_ h=>h)⟩,h.qs,h.qm,h.qd,λk hq=>Nat.lt_of_lt_of_le (h.lt k hq) hs⟩
theorem Fu.later {w w':World} {Q:Nat->Prop} {s d g cm:Nat} {wv:Value} {m:DM} {ver next:Nat} {a:Option Addr} {c:Nat} {l:List FR} {bad:Bool} {C:Chg} (h:Fu w Q s d g cm wv m ver next a c l bad C) (hB:Below w.heap.size w w'):Fu w' Q s d g cm wv m ver next a c l bad C:=h.keep hB.size (λk hq=>hB.block k (h.lt k hq))
theorem Fu.upon {w w':World} {P Q:Nat->Prop} {s d g cm:Nat} {wv:Value} {m:DM} {ver next:Nat} {a:Option Addr} {c:Nat} {l:List FR} {bad:Bool} {C:Chg} (h:Fu w Q s d g cm wv m ver next a c l bad C) (hB:Upon P w w') (hP:∀k,P k->¬Q k):Fu w' Q s d g cm wv m ver next a c l bad C:=h.keep hB.size (λk hq=>hB.block k (h.lt k hq) (λhp=>hP k hp hq))
theorem Fu.cells {w:World} {Q:Nat->Prop} {s d g cm:Nat} {wv:Value} {m:DM} {ver next:Nat} {a:Option Addr} {c:Nat} {l:List FR} {bad:Bool} {C:Chg} (h:Fu w Q s d g cm wv m ver next a c l bad C):
  w.cell? ⟨s,0,none⟩=some (.pointer (some ⟨d,0,none⟩))/\w.cell? ⟨s,1,none⟩=some (.int .u64 (ver:Int))/\w.cell? ⟨s,2,none⟩=some (.int .u32 (next:Int))/\w.cell? ⟨s,3,none⟩=some (.slice a l.length c)/\w.cell? ⟨s,4,none⟩=some (.map (some cm))/\w.cell? ⟨s,5,none⟩=some (.bool bad):=by
 refine⟨?_,?_,?_,?_,?_,?_⟩ <;> rw[h.store.cell] <;> rfl
attribute [local go_sem] Oper.semAt_some
theorem down_any {w:World} {Q:Nat->Prop} {s d g cm:Nat} {wv:Value} {m:DM} {ver next:Nat} {a:Option Addr} {c:Nat} {l:List FR} {bad:Bool} {C:Chg} (h:Fu w Q s d g cm wv m ver next a c l bad C):
  Calls Tryz.prog 38 #[.pointer (some ⟨s,0,none⟩)] w λe w'=>e=.returned (.bool (bad||m.off))/\w'=w:=by
 obtain⟨c0,_,_,_,_,c5⟩:=h.cells;have HO:=jq (on_any h.disk);obtain⟨off,hoff⟩:=jl m.off;rw[<-hoff]at HO⊢;clear h hoff;cases bad
 ·go_enter Tryz.func38,Tryz.ntmps38
  go_wp2_with fail
  refine HO.out.mono ?_;rintro e w1 ⟨rfl,rfl⟩
  go_wp2_with fail
  go_ret
  exact⟨by simp,rfl⟩
 ·go_enter Tryz.func38,Tryz.ntmps38
  go_wp2_with fail
  go_ret
  exact⟨by simp,rfl⟩
theorem version_any {w:World} {Q:Nat->Prop} {s d g cm:Nat} {wv:Value} {m:DM} {ver next:Nat} {a:Option Addr} {c:Nat} {l:List FR} {bad:Bool} {C:Chg} (h:Fu w Q s d g cm wv m ver next a c l bad C):
  Calls Tryz.prog 16 #[.pointer (some ⟨s,0,none⟩)] w λe w'=>e=.returned (.int .u64 (ver:Int))/\w'=w:=by
 obtain⟨_,c1,_,_,_,_⟩:=h.cells;clear h
 go_enter Tryz.func16,Tryz.ntmps16
 go_wp2_with fail
 go_ret
 exact⟨rfl,rfl⟩
end Full
namespace Full
open Go.RowKit Go.Deep Mem Crc Go.Maps Dk Mani
open Store (Chg chgV isChg none')
open Ext (Holds turnK turnE Row Ints cnt hold_any new_any fresh_holds)
def ints (l:List Nat):List Int:=l.map (λi:Nat=>(i:Int))
def slotsK (n j:Nat):List Bool:=(List.range j).foldl (fun(k:List Bool) (i:Nat)=>turnK k [(i:Int)] false) (List.replicate n false)
theorem slotsK_succ (n j:Nat):slotsK n (j+1)=turnK (slotsK n j) [(j:Int)] false:=by unfold slotsK;rw[List.range_succ,List.foldl_append];rfl
def filesK (k:List Bool) (fs:List Fil):List Bool:=fs.foldl (fun(k:List Bool) (f:Fil)=>turnK k (ints f.blocks) false) k
theorem filesK_snoc {k:List Bool} {fs:List Fil} {j:Nat} {f:Fil} (h:fs[j]? =some f):filesK k (fs.take (j+1))=turnK (filesK k (fs.take j)) (ints f.blocks) false:=by unfold filesK;rw[List.take_add_one,h,List.foldl_append];rfl
def freeK (n:Nat) (fs:List Fil):List Bool:=filesK (slotsK n 32) fs
theorem iv_ints (l:List Nat):l.map iv=(ints l).map (Value.int .i64):=by unfold ints;rw[List.map_map];rfl
theorem ints_at {w:World} {b off:Nat} {l:List Nat} (h:∀j u,(l.map iv)[j]? =some u->w.cell? ⟨b,off+j,none⟩=some u):Ints w b off (ints l):=λi x hx=>by
 refine h i _ ?_;rw[iv_ints,List.getElem?_map,hx]
 rfl
theorem row_of {w:World} {bs:List Nat} {a:Option Addr} {cp:Nat} {l:List Nat} (h:Lies w a (l.map iv)) (hc:l.length<=cp) (hn:l.length<=100000) (hb:∀k,Mem.blk a=some k->k∉bs):Row w bs a cp (ints l):=by
 refine⟨by unfold ints;simpa using hc,by unfold ints;simpa using hn,?_⟩;rcases h with h0|⟨g,o,rfl,hg,hc⟩
 ·left
  unfold ints;rw[List.map_eq_nil_iff]at h0⊢;exact h0
 ·exact .inr ⟨g,o,rfl,hg,hb g rfl,ints_at hc⟩
attribute [local go_sem] Oper.semAt_some
theorem free_any {w:World} {Q:Nat->Prop} {s d g cm:Nat} {wv:Value} {m:DM} {ver next:Nat} {a:Option Addr} {c:Nat} {l:List FR} {bad:Bool} {C:Chg} (h:Fu w Q s d g cm wv m ver next a c l bad C) (hl:l.length<=100000) (hb:∀x∈l,x.f.blocks.length<=100000):
  Calls Tryz.prog 47 #[.pointer (some ⟨s,0,none⟩)] w λe w'=>∃Cb gb cap,e=.returned (.pointer (some ⟨Cb,0,none⟩))/\Holds Cb gb cap (freeK m.bl.length (l.map FR.f)) w'/\w.heap.size<=Cb/\w.heap.size<=gb/\Below w.heap.size w w':=by
 obtain⟨c0,_,_,c3,_,_⟩:=h.cells;have HC:=jq (count_any h.disk);have hsm:=h.disk.small;obtain⟨n,hn⟩:=jl m.bl.length;rw[<-hn]at HC hsm⊢;have hsl:=h.store.lt;obtain⟨L,hL⟩:=jl l.length;rw[<-hL]at c3 hl;have HN:=jq (new_any (n:Int) w);have H:=jq h;have HBL:=jq hb;have HL:=jq hL;clear h hb hn hL
 go_enter Tryz.func47,Tryz.ntmps47
 go_wp2_with fail
 refine HC.out.mono ?_;rintro e w0 ⟨rfl,rfl⟩
 go_wp2_with fail
 refine HN.out.mono ?_;rintro e w1 ⟨rfl,hF⟩;have hH:=fresh_holds hF;have hcn:cnt (n:Int)=n:=by unfold cnt;omega
 rw[hcn,show((n:Int)).toNat=n by omega]at hH;obtain⟨cap,hcap⟩:=jl ((((n:Int)+63)/64).toNat);rw[<-hcap]at hH;have HB1:=jq hF.below;have HH:=jq hH;obtain⟨gb,hgb⟩:=jl w0.heap.size;rw[<-hgb]at HH⊢;have HG:=jq hgb;have hk3:=(hF.below.cell (p:=⟨s,3,none⟩) hsl).trans c3;clear hF hH hcn hcap hgb c0 c3 HN HC
 go_wp2_with fail
 go_loopw[13] (λi wr=>∃j:Nat,j<=32/\i=.int .i64 j/\Hid (Holds (gb+1) gb cap (slotsK n j) wr)/\Hid (Below w0.heap.size w0 wr)) (λi _=>32-(intOf i).toNat)
 case atStart=>exact⟨0,by omega,rfl,HH,HB1⟩
 case round=>
  obtain⟨j,hj,rfl,hH,hB⟩:=hrel
  by_cases hlt:j<32
  ·have hjd:decide ((j:Int) <32)=true:=jd (by omega);have hW:Holds (gb+1) gb cap (slotsK n j) (wr.alloc (.cells #[.int .i64 (j:Int)] 3)):=hH.out.later ((Below.refl _ wr).alloc jn _);have hlt2:=hH.out.lt
   have hrow:Row (wr.alloc (.cells #[.int .i64 (j:Int)] 3)) [gb+1,gb] (some ⟨wr.heap.size,0,none⟩) 1 [(j:Int)]:=by
    refine⟨by simp,by simp,.inr ⟨_,0,rfl,by simp,by simp;omega,λi x hx=>?_⟩⟩
    cases i with
    |zero=>
     simp at hx
     subst hx;rw[(Blk.new wr _ _).cell]
     rfl
    |succ i=>simp at hx
   have hho:=hold_any (gb+1) gb cap 1 _ (slotsK n j) [(j:Int)] _ hW hrow;rw[<-slotsK_succ]at hho;have HHO:=jq hho;have hBa:=jq (hB.out.alloc hB.out.size (.cells #[.int .i64 (j:Int)] 3));clear hW hrow hho hlt2
   go_wp2_with fail
   refine HHO.out.mono ?_;rintro e w2 ⟨rfl,hh,ho⟩;have hg0:=HG.out;have hB2:Below w0.heap.size w0 w2:=hBa.out.trans (ho.below (by have:=hBa.out.size;omega) (λq hq=>by simp at hq;omega));have HH2:=jq hh;have HB2:=jq hB2;clear hh ho hB2 hg0 HHO hBa
   go_wp2_with fail
   exact⟨⟨j+1,by omega,by simp,HH2,HB2⟩,by simp[intOf];omega⟩
  ·have e32:j=32:=by omega
   have hjd:decide ((j:Int) <32)=false:=jf (by omega);have hk:=(hB.out.cell (p:=⟨s,3,none⟩) hsl).trans ((HB1.out.cell (p:=⟨s,3,none⟩) hsl).symm.trans hk3)
   go_wp2_with fail
   obtain⟨K32,hK⟩:=jl (slotsK n 32);rw[e32,<-hK]at hH;clear e32;have HK:=jq hK
   have hF0:Hid (Holds (gb+1) gb cap (filesK K32 ((l.map FR.f).take 0)) wr):=by
    rw[List.take_zero];exact hH
   clear hK
   go_loopw[27] (λi wr=>∃j:Nat,j<=L/\i=.int .i64 j/\Hid (Holds (gb+1) gb cap (filesK K32 ((l.map FR.f).take j)) wr)/\Hid (Below w0.heap.size w0 wr)) (λi _=>L-(intOf i).toNat)
   case atStart=>exact⟨0,Nat.zero_le _,rfl,hF0,hB⟩
   case round=>
    clear hF0 hH hB hk;obtain⟨j,hj,rfl,hH,hB⟩:=hrel
    by_cases hlt:j<L
    ·have hjd:decide ((j:Int) <(L:Int))=true:=jd (by omega);obtain⟨x,hx⟩:∃x,l[j]? =some x:=⟨l[j]'(by rw[<-HL.out];exact hlt),jg _⟩;have hxm:=jM hx;obtain⟨ga,oa,rfl,f0,f1,f2,f3⟩:=(H.out.later hB.out).files.cells hx;obtain⟨W,hW⟩:=jl (wr.alloc (.cells #[sv x.f.name,.int .u32 (x.f.id:Int),iv x.f.size,.slice x.a x.f.blocks.length x.c] 96));have hBW:Below wr.heap.size wr W:=by rw[hW];exact(Below.refl _ wr).alloc jn _
     have hHW:=hH.out.later hBW;have hge:w0.heap.size<=gb:=by have:=HG.out;omega
     have hbw:=hB.out.size
     have hrow:Row W [gb+1,gb] x.a x.c (ints x.f.blocks):=row_of (((H.out.later hB.out).later hBW).files.blocks x hxm).1 (H.out.files.blocks x hxm).2 (HBL.out x hxm) (λk hk hm=>by
      have:=H.out.lt k (H.out.br x hxm k hk).1
      simp at hm
      omega)
     have hho:=hold_any (gb+1) gb cap x.c x.a _ (ints x.f.blocks) W hHW hrow;rw[<-filesK_snoc (show(l.map FR.f)[j]? =some x.f by rw[List.getElem?_map,hx];rfl),show(ints x.f.blocks).length=x.f.blocks.length by unfold ints;simp]at hho;have b3:W.cell? ⟨wr.heap.size,3,none⟩=some (.slice x.a x.f.blocks.length x.c):=by rw[hW,(Blk.new wr _ _).cell];rfl
     have hBa:=jq (hB.out.trans (hBW.mono hbw));have HHO:=jq hho;obtain⟨sb,hnm⟩:∃sb:ByteArray,sv x.f.name=.string sb:=⟨_,rfl⟩;obtain⟨sz,hsz⟩:=jl x.f.size;obtain⟨id,hid⟩:=jl x.f.id;obtain⟨bn,hbn⟩:=jl x.f.blocks.length;unfold iv at f2 hW;rw[hnm]at f0 hW;rw[<-hid]at f1 hW;rw[<-hsz]at f2 hW;rw[<-hbn]at f3 hW b3 HHO;have HW:=jq hW;clear hH hB hBW hHW hho hrow hnm hid hsz hbn hx hxm hW
     go_wp2_with fail
     rw[<-HW.out];refine HHO.out.mono ?_;rintro e w2 ⟨rfl,hh,ho⟩;have hB2:Below w0.heap.size w0 w2:=hBa.out.trans (ho.below (by have:=hBa.out.size;omega) (λq hq=>by simp at hq;omega));have HH2:=jq hh;have HB2:=jq hB2;clear hh ho hB2
     go_wp2_with fail
     exact⟨⟨j+1,by omega,by simp,HH2,HB2⟩,by simp[intOf];omega⟩
    ·obtain rfl:j=L:=by omega
     have hjd:decide ((j:Int) <(j:Int))=false:=jf (by omega);have hfin:=hH.out;have hfk:freeK n (l.map FR.f)=filesK K32 (l.map FR.f):=by unfold freeK;rw[HK.out]
     have HFK:=jq hfk;clear hfk;rw[jW (by rw[jP];have:=HL.out;omega)]at hfin;have HFIN:=jq hfin;have hsz:=hB.out.size;clear hfin hH
     go_wp2_with fail
     go_ret
     have:=HG.out;exact⟨gb+1,gb,cap,rfl,by rw[HFK.out];exact HFIN.out,by omega,by omega,hB.out⟩
end Full
namespace Full
open Go.RowKit Mani Varint
open Store (Chg)
open Ext (takeL takeK freeN freeL flips flipK fits outs tak tak_flip tak_le frees frees_mem freeL_length takeL_fits flips_length flipK_length)
def rises (l:List Fil):Prop:=l.Pairwise (λf g=>f.name<g.name)
def insAt (nm:List UInt8):List Fil->Nat
 | []=>0
 |f ::r=>if f.name<nm then insAt nm r+1 else 0
def insF (f:Fil) (l:List Fil):List Fil:=l.take (insAt f.name l)++f ::l.drop (insAt f.name l)
theorem insAt_eq (nm:List UInt8):∀(l:List Fil) (i:Nat),i<=l.length->(∀k x,k<i->l[k]? =some x->x.name<nm)->(∀k x,i<=k->l[k]? =some x->¬x.name<nm)->insAt nm l=i
 | [],i,hi,_,_=>by simp at hi;subst hi;rfl
 |f ::r,0,_,_,h2=>by
  have:=h2 0 f jn rfl;unfold insAt;rw[if_neg this]
 |f ::r,i+1,hi,h1,h2=>by
  have:=h1 0 f (by omega) rfl;unfold insAt;rw[if_pos this,insAt_eq nm r i (by simpa using hi) (λk x hk hx=>h1 (k+1) x (by omega) (by simpa using hx)) (λk x hk hx=>h2 (k+1) x (by omega) (by simpa using hx))]
theorem insAt_le (nm:List UInt8):∀l:List Fil,insAt nm l<=l.length
 | []=>Nat.le_refl _
 |f ::r=>by
  have:=insAt_le nm r;unfold insAt
  split <;> simp <;> omega
theorem insAt_ahead (nm:List UInt8):∀(l:List Fil),∀x∈l.take (insAt nm l),x.name<nm
 | [],x,hx=>by simp at hx
 |f ::r,x,hx=>by
  unfold insAt at hx
  by_cases h:f.name<nm
  ·rw[if_pos h,List.take_succ_cons]at hx;rcases List.mem_cons.1 hx with rfl|hx
   ·exact h
   ·exact insAt_ahead nm r x hx
  ·rw[if_neg h]at hx
   simp at hx
theorem insAt_behind (nm:List UInt8):∀(l:List Fil),rises l->∀x∈l.drop (insAt nm l),¬x.name<nm
 | [],_,x,hx=>by simp at hx
 |f ::r,hr,x,hx=>by
  have hr2:=List.pairwise_cons.1 hr;unfold insAt at hx
  by_cases h:f.name<nm
  ·rw[if_pos h,List.drop_succ_cons]at hx;exact insAt_behind nm r hr2.2 x hx
  ·rw[if_neg h,List.drop_zero]at hx;rcases List.mem_cons.1 hx with rfl|hx
   ·exact h
   ·exact λh3=>h (List.lt_trans (hr2.1 x hx) h3)
theorem name_lt_of {a b:List UInt8} (h:¬a<b) (hne:a≠b):b<a:=by
 have:b<=a:=List.not_lt.1 h;rcases List.le_iff_lt_or_eq.1 this with h2|h2
 ·exact h2
 ·exact absurd h2.symm hne
theorem rises_ins {l:List Fil} {f:Fil} (h:rises l) (hn:∀x∈l,x.name≠f.name):rises (insF f l):=by
 have h1:rises (l.take (insAt f.name l)):=h.sublist (List.take_sublist _ _);have h2:rises (l.drop (insAt f.name l)):=h.sublist (List.drop_sublist _ _);have hA:=insAt_ahead f.name l;have hB:∀x∈l.drop (insAt f.name l),f.name<x.name:=λx hx=>name_lt_of (insAt_behind f.name l h x hx) (hn x (List.mem_of_mem_drop hx))
 unfold insF rises;refine List.pairwise_append.2 ⟨h1,List.pairwise_cons.2 ⟨hB,h2⟩,λa ha b hb=>?_⟩;rcases List.mem_cons.1 hb with rfl|hb
 ·exact hA a ha
 ·exact List.lt_trans (hA a ha) (hB b hb)
theorem mem_ins {l:List Fil} {f x:Fil}:x∈insF f l↔x=f\/x∈l:=by
 have e: (x∈l.take (insAt f.name l)\/x∈l.drop (insAt f.name l))↔x∈l:=by rw[<-List.mem_append,List.take_append_drop]
 unfold insF;rw[List.mem_append,List.mem_cons]
 constructor
 ·rintro(h|h|h)
  ·exact .inr (e.1 (.inl h))
  ·exact .inl h
  ·exact .inr (e.1 (.inr h))
 ·rintro(h|h)
  ·exact .inr (.inl h)
  ·rcases e.2 h with h|h
   ·exact .inl h
   ·exact .inr (.inr h)
theorem ins_length (f:Fil) (l:List Fil): (insF f l).length=l.length+1:=by
 have:=insAt_le f.name l;unfold insF;rw[jL,List.length_cons,jT,List.length_drop]
 omega
theorem ins_perm (f:Fil) (l:List Fil): (insF f l).Perm (f ::l):=by
 unfold insF;have:=List.perm_middle (a:=f) (l₁:=l.take (insAt f.name l)) (l₂:=l.drop (insAt f.name l))
 rwa [List.take_append_drop]at this
theorem bks_ins (f:Fil) (l:List Fil): (bksL (insF f l)).length=f.blocks.length+(bksL l).length:=by
 have h:=(List.Perm.flatMap_right Fil.blocks (ins_perm f l)).length_eq;unfold bksL;rw[h,jC,jL]
theorem bksL_mem {l:List Fil} {f:Fil} (h:f∈l):f.blocks.length<=(bksL l).length:=by
 unfold bksL
 induction l with
 |nil=>simp at h
 |cons x r ih=>
  rw[jC,jL];rcases List.mem_cons.1 h with rfl|h
  ·omega
  ·have:=ih h
   omega
structure PL where
 k:List Bool
 next:Nat
 fs:List Fil
def newF (nm b:List UInt8) (p:PL):Fil:=⟨nm,p.next,b.length,(takeL p.k (many b.length:Nat)).map Int.toNat⟩
def stepF (C:Chg) (nm:List UInt8) (p:PL):Option PL:=
 match C nm with
 |some (some b)=>if freeN p.k<many b.length then none else some ⟨takeK p.k (many b.length:Nat),(p.next+1)%4294967296,insF (newF nm b p) p.fs⟩
 |_=>some p
def planF (C:Chg) (ss:List (List UInt8)) (p:PL):Option PL:=ss.foldl (λo nm=>o.bind (stepF C nm)) (some p)
theorem planF_snoc (C:Chg) {ss:List (List UInt8)} {j:Nat} {nm:List UInt8} (h:ss[j]? =some nm) (p:PL):planF C (ss.take (j+1)) p=(planF C (ss.take j) p).bind (stepF C nm):=by
 unfold planF;rw[List.take_add_one,h,List.foldl_append]
 rfl
theorem foldl_none (C:Chg):∀ss:List (List UInt8),ss.foldl (fun(o:Option PL) nm=>o.bind (stepF C nm)) none=none
 | []=>rfl
 |_ ::r=>foldl_none C r
theorem planF_none (C:Chg) {ss:List (List UInt8)} {j:Nat} {p:PL} (h:planF C (ss.take j) p=none):planF C ss p=none:=by
 unfold planF at h⊢;rw[<-List.take_append_drop j ss,List.foldl_append,h];exact foldl_none C _
def keepF (C:Chg) (l:List Fil):List Fil:=l.filter (λf=>(C f.name).isNone)
def startF (C:Chg) (n next:Nat) (l:List Fil):PL:=⟨freeK n l,next,keepF C l⟩
theorem takeL_mem {k:List Bool} {N:Int} {x:Int} (h:x∈takeL k N):∃i:Nat,x=i/\i<k.length/\k.getD i true=false:=by
 unfold Ext.takeL at h
 split at h
 ·simp at h
 ·have:=List.mem_of_mem_take h;unfold Ext.freeL at this;exact(frees_mem _ _ _).1 this
theorem takeL_length {k:List Bool} {N:Nat} (h:N<=freeN k): (takeL k (N:Int)).length=N:=by
 unfold Ext.takeL;rw[if_neg (by omega),jT,freeL_length]
 omega
theorem tak_flips:∀(l:List Int) (k:List Bool),fits false k l=true->l.any (outs k.length)=false->tak (flips k l)=tak k+l.length
 | [],k,_,_=>rfl
 |i ::r,k,h,ho=>by
  unfold Ext.fits at h;rw[Bool.and_eq_true]at h;rw[List.any_cons,Bool.or_eq_false_iff]at ho
  have hi:i.toNat<k.length:=by
   have:=ho.1;unfold Ext.outs at this
   simp at this
   omega
  have h1:k.getD i.toNat false=false:=by simpa using h.1
  have h2:=tak_flip k i.toNat hi;rw[h1]at h2
  have h3:tak (flipK k i.toNat)=tak k+1:=by
   have:Ext.next (!false) (tak k:Int)=tak k+1:=rfl;rw[this]at h2
   omega
  have h4:=tak_flips r (flipK k i.toNat) h.2 (by rw[flipK_length];exact ho.2);show tak (flips (flipK k i.toNat) r)=_;rw[h4,h3,List.length_cons]
  omega
theorem free_take {k:List Bool} {N:Nat} (h:N<=freeN k):freeN (takeK k (N:Int))+N=freeN k:=by
 have h1:=takeL_fits k (N:Int);have h2:=tak_flips _ k h1.1 h1.2;have h3:=takeL_length h;have h4:=tak_le k;have h5:=tak_le (takeK k (N:Int));unfold Ext.freeN at h⊢;unfold Ext.takeK at h5⊢;rw[flips_length]at h5⊢
 omega
structure PInv (C:Chg) (n M S:Nat) (done:List (List UInt8)) (p:PL):Prop where
 len:p.k.length=n
 next:p.next<4294967296
 rise:rises p.fs
 names:∀f∈p.fs,C f.name=none\/f.name∈done
 short:∀f∈p.fs,f.name.length<=32
 fit:∀f∈p.fs,f.fits/\∀i∈f.blocks,i<65536
 count:p.fs.length<=M+done.length
 sum: (bksL p.fs).length+freeN p.k<=S
theorem newF_length {nm b:List UInt8} {p:PL} (h:many b.length<=freeN p.k): (newF nm b p).blocks.length=many b.length:=by
 unfold newF;rw[jP];exact takeL_length h
theorem PInv.step {C:Chg} {n M S:Nat} {done:List (List UInt8)} {p p':PL} (h:PInv C n M S done p) (hn:n<=65536) {nm:List UInt8} (hnm:nm∉done) (hc:C nm≠none) (hs:nm.length<=32) (hb:∀b,C nm=some (some b)->b.length<=1048576) (hp:stepF C nm p=some p'):PInv C n M S (done++ [nm]) p':=by
 unfold stepF at hp
 cases hC:C nm with
 |none=>exact absurd hC hc
 |some c=>
  rw[hC]at hp
  cases c with
  |none=>
   have hp:=Option.some.inj hp;subst hp;exact⟨h.len,h.next,h.rise,λf hf=>(h.names f hf).imp id (λh=>by simp[h]),h.short,h.fit,by have:=h.count;rw[jL];omega,h.sum⟩
  |some b=>
   dsimp only at hp;have hbl:=hb b hC
   by_cases hf:freeN p.k<many b.length
   ·rw[if_pos hf]at hp;cases hp
   ·rw[if_neg hf]at hp;have hp:=Option.some.inj hp;subst hp;have hN:many b.length<=freeN p.k:=by omega
    have hbks:∀i∈(newF nm b p).blocks,i<65536:=λi hi=>by
     unfold newF at hi;obtain⟨x,hx,rfl⟩:=List.mem_map.1 hi;obtain⟨i,rfl,h1,_⟩:=takeL_mem hx;have:=h.len
     simp
     omega
    refine⟨?_,Nat.mod_lt _ (by decide),rises_ins h.rise (λx hx e=>?_),λf hf=>?_,λf hf=>?_,λf hf=>?_,?_,?_⟩
    ·show(takeK p.k _).length=n;unfold Ext.takeK;rw[flips_length];exact h.len
    ·have e2:x.name=nm:=e;rcases h.names x hx with h1|h1
     ·rw[e2]at h1;exact hc h1
     ·rw[e2]at h1;exact hnm h1
    ·rcases mem_ins.1 hf with rfl|hf
     ·exact .inr (by show nm∈_;simp)
     ·exact(h.names f hf).imp id (λh=>by simp[h])
    ·rcases mem_ins.1 hf with rfl|hf
     ·exact hs
     ·exact h.short f hf
    ·rcases mem_ins.1 hf with rfl|hf
     ·exact⟨⟨h.next,by show b.length<_;omega,λi hi=>by have:=hbks i hi;omega⟩,hbks⟩
     ·exact h.fit f hf
    ·show(insF _ _).length<=_;rw[ins_length,jL];have:=h.count
     simp
     omega
    ·show(bksL (insF _ _)).length+freeN (takeK p.k _)<=S;rw[bks_ins,newF_length hN];have:=free_take hN;have:=h.sum
     omega
theorem filL_le {f:Fil} (h1:f.name.length<=32) (h2:f.fits) (h3:∀i∈f.blocks,i<65536): (filL f).length<=43+3*f.blocks.length:=by
 have a1:=vput_length 0 f.name.length (by omega);have a2:=vput_length 4 f.id (by have:=h2.id;omega);have a3:=vput_length 4 f.size (by have:=h2.size;omega)
 have a4:∀l:List Nat,(∀i∈l,i<65536)->(blocksL l).length<=3*l.length:=by
  intro l
  induction l with
  |nil=>intro _;exact Nat.le_refl _
  |cons i r ih=>
   intro h;have b1:=vput_length 2 i (by have:=h i (by simp);omega);have b2:=ih (λx hx=>h x (by simp[hx]));unfold blocksL at b2⊢;rw[jC,jL,List.length_cons]
   omega
 have a5:=a4 f.blocks h3;unfold filL;simp only[jL]
 omega
theorem body_le {ver next:Nat} {fs:List Fil} (hv:ver<18446744073709551616) (hn:next<4294967296) (h:∀f∈fs,f.name.length<=32/\f.fits/\∀i∈f.blocks,i<65536) (hc:fs.length<=12000) (hs: (bksL fs).length<=100000): (bodyL ver next fs).length<=900000:=by
 have a1:=vput_length 9 ver (by omega);have a2:=vput_length 4 next (by omega);have a3:=vput_length 9 fs.length (by omega)
 have a4:∀l:List Fil,(∀f∈l,f.name.length<=32/\f.fits/\∀i∈f.blocks,i<65536)->(l.flatMap filL).length<=43*l.length+3*(bksL l).length:=by
  intro l
  induction l with
  |nil=>intro _;exact Nat.le_refl _
  |cons f r ih=>
   intro h;obtain⟨b1,b2,b3⟩:=h f (by simp);have b4:=filL_le b1 b2 b3;have b5:=ih (λx hx=>h x (by simp[hx]));unfold bksL at b5⊢;rw[jC,jL,jC,jL,List.length_cons]
   omega
 have a5:=a4 fs h;unfold bodyL;simp only[jL]
 omega
theorem turnK_len (k:List Bool) (l:List Int) (t:Bool): (Ext.turnK k l t).length=k.length:=by
 unfold Ext.turnK
 split
 ·rfl
 ·split
  ·exact flips_length _ _
  ·rfl
theorem filesK_len (fs:List Fil):∀k:List Bool,(filesK k fs).length=k.length:=by
 induction fs with
 |nil=>intro k;rfl
 |cons f r ih=>
  intro k;show(filesK (Ext.turnK k (ints f.blocks) false) r).length=_;rw[ih,turnK_len]
theorem slotsK_len (n:Nat):∀j,(slotsK n j).length=n
 |0=>by simp[slotsK]
 |j+1=>by rw[slotsK_succ,turnK_len,slotsK_len n j]
theorem freeK_len (n:Nat) (fs:List Fil): (freeK n fs).length=n:=by
 unfold freeK;rw[filesK_len,slotsK_len]
theorem bks_filter (q:Fil->Bool):∀l:List Fil,(bksL (l.filter q)).length<=(bksL l).length
 | []=>Nat.le_refl _
 |f ::r=>by
  have:=bks_filter q r;unfold bksL at this⊢
  cases hq:q f with
  |true=>
   rw[List.filter_cons_of_pos hq,jC,jC,jL,jL]
   omega
  |false=>
   rw[List.filter_cons_of_neg (by rw[hq];decide),jC,jL]
   omega
theorem pinv_start {C:Chg} {n next:Nat} {fs:List Fil} (hn:n<=65536) (hx:next<4294967296) (hr:rises fs) (hl:∀f∈fs,f.name.length<=32/\f.fits/\∀i∈f.blocks,i<65536) (hc:fs.length<=2100) (hb: (bksL fs).length<=2100):PInv C n 2100 70000 [] (startF C n next fs):=by
 have hm:∀f∈keepF C fs,f∈fs/\C f.name=none:=λf hf=>by
  have:=List.mem_filter.1 hf;exact⟨this.1,Option.isNone_iff_eq_none.1 this.2⟩
 refine⟨freeK_len n fs,hx,hr.sublist (List.filter_sublist),λf hf=>.inl (hm f hf).2,λf hf=>(hl f (hm f hf).1).1,λf hf=>(hl f (hm f hf).1).2,?_,?_⟩
 ·show(keepF C fs).length<=_;have: (keepF C fs).length<=fs.length:=List.length_filter_le _ _
  simp
  omega
 ·show(bksL (keepF C fs)).length+freeN (freeK n fs)<=_;have h1:=bks_filter (λf=>(C f.name).isNone) fs;have h2:freeN (freeK n fs)<=(freeK n fs).length:=by unfold Ext.freeN;omega
  rw[freeK_len]at h2;unfold keepF
  omega
theorem PInv.may {C:Chg} {n ver:Nat} {done:List (List UInt8)} {p:PL} (h:PInv C n 2100 70000 done p) (hd:done.length<=9000) (hv:ver<18446744073709551616): (bodyL ver p.next p.fs).length<=900000:=
 body_le hv h.next (λf hf=>⟨h.short f hf,h.fit f hf⟩) (by have:=h.count;omega) (by have:=h.sum;omega)
end Full
namespace Full
open Go.RowKit Mani
open Store (Chg)
open Ext (takeL takeK freeN flips flipK flipK_at fits takeL_fits)
structure IsNew (n:Nat) (b:List UInt8) (f:Fil):Prop where
 size:f.size=b.length
 many:f.blocks.length=many b.length
 in_:∀i∈f.blocks,i<n
theorem step_new {C:Chg} {n:Nat} {nm:List UInt8} {p p':PL} (hl:p.k.length=n) (h:∀f∈p.fs,C f.name=none\/∃b,C f.name=some (some b)/\IsNew n b f) (hp:stepF C nm p=some p'):p'.k.length=n/\∀f∈p'.fs,C f.name=none\/∃b,C f.name=some (some b)/\IsNew n b f:=by
 unfold stepF at hp
 cases hC:C nm with
 |none=>
  rw[hC]at hp;have hp:=Option.some.inj hp;subst hp;exact⟨hl,h⟩
 |some c=>
  rw[hC]at hp
  cases c with
  |none=>
   have hp:=Option.some.inj hp;subst hp;exact⟨hl,h⟩
  |some b=>
   dsimp only at hp
   by_cases hf:freeN p.k<Mani.many b.length
   ·rw[if_pos hf]at hp;cases hp
   ·rw[if_neg hf]at hp;have hp:=Option.some.inj hp;subst hp;refine⟨?_,λf hf2=>?_⟩
    ·show(takeK p.k _).length=n;unfold Ext.takeK;rw[Ext.flips_length];exact hl
    ·rcases mem_ins.1 hf2 with rfl|hf2
     ·refine .inr ⟨b,hC,rfl,newF_length (by omega),λi hi=>?_⟩;unfold newF at hi;obtain⟨x,hx,rfl⟩:=List.mem_map.1 hi;obtain⟨j,rfl,h1,_⟩:=takeL_mem hx
      simp
      omega
     ·exact h f hf2
theorem plan_new {C:Chg} {n:Nat}:∀(ss:List (List UInt8)) {p p':PL},p.k.length=n->(∀f∈p.fs,C f.name=none\/∃b,C f.name=some (some b)/\IsNew n b f)->planF C ss p=some p'->∀f∈p'.fs,C f.name=none\/∃b,C f.name=some (some b)/\IsNew n b f
 | [],p,p',_,h,hp=>by
  have hp:some p=some p':=hp;cases hp;exact h
 |nm ::r,p,p',hl,h,hp=>by
  unfold planF at hp;rw[List.foldl_cons]at hp
  cases hs:stepF C nm p with
  |none=>
   rw[show(some p:Option PL).bind (stepF C nm)=none from hs,foldl_none]at hp;cases hp
  |some q=>
   rw[show(some p:Option PL).bind (stepF C nm)=some q from hs]at hp;obtain⟨h1,h2⟩:=step_new hl h hs;exact plan_new r h1 h2 hp
theorem start_new {C:Chg} {n next:Nat} {fs:List Fil}: (startF C n next fs).k.length=n/\∀f∈(startF C n next fs).fs,C f.name=none\/∃b,C f.name=some (some b)/\IsNew n b f:=
 ⟨freeK_len n fs,λ_ hf=>.inl (Option.isNone_iff_eq_none.1 (List.mem_filter.1 hf).2)⟩
end Full
namespace Full
open Go.RowKit Mani Varint
theorem blkB_true:∀{l bks:List Nat},blkB bks l=true->l.Nodup/\∀i∈l,i∉bks/\32<=i/\i<65536
 | [],_,_=>⟨List.nodup_nil,λi hi=>by cases hi⟩
 |i ::r,bks,h=>by
  unfold Mani.blkB at h;simp only[Bool.and_eq_true,Bool.not_eq_true',decide_eq_true_eq]at h;obtain⟨⟨⟨h1,h2⟩,h3⟩,h4⟩:=h;obtain⟨h5,h6⟩:=blkB_true h4
  have h1':i∉bks:=λhm=>by
   rw[List.contains_iff_mem.2 hm]at h1;cases h1
  refine⟨List.nodup_cons.2 ⟨λhm=>(h6 i hm).1 (by simp),h5⟩,λj hj=>?_⟩;rcases List.mem_cons.1 hj with rfl|hj
  ·exact⟨h1',h2,h3⟩
  ·obtain⟨h7,h8⟩:=h6 j hj;exact⟨λhm=>h7 (by simp[hm]),h8⟩
structure FOk (next:Nat) (f:Fil):Prop where
 n1:1<=f.name.length
 n2:f.name.length<=32
 id:f.id<next
 many:many f.size=f.blocks.length
 blocks:∀i∈f.blocks,32<=i/\i<65536
structure MOk (next:Nat) (prev:Option (List UInt8)) (ids bks:List Nat) (fs:List Fil):Prop where
 rise:rises fs
 prev:∀p,prev=some p->∀f∈fs,p<f.name
 each:∀f∈fs,FOk next f
 ids: (fs.map Fil.id).Nodup/\∀f∈fs,f.id∉ids
 bks: (bksL fs).Nodup/\∀i∈bksL fs,i∉bks
theorem headB_true {f:Fil} {next:Nat} (h:headB f next=true):1<=f.name.length/\f.name.length<=32/\f.id<next/\Mani.many f.size=f.blocks.length:=by
 unfold Mani.headB at h;simp only[Bool.and_eq_true,decide_eq_true_eq]at h;exact⟨h.1.1.1,h.1.1.2,h.1.2,h.2⟩
theorem allB_true {next:Nat}:∀{fs:List Fil} {prev:Option (List UInt8)} {ids bks:List Nat},allB next prev ids bks fs=true->MOk next prev ids bks fs
 | [],_,_,_,_=>⟨List.Pairwise.nil,λ_ _ f hf=>(by cases hf),λf hf=>(by cases hf),⟨List.nodup_nil,λf hf=>(by cases hf)⟩,⟨List.nodup_nil,λf hf=>(by cases hf)⟩⟩
 |f ::r,prev,ids,bks,h=>by
  unfold Mani.allB Mani.rightB at h;simp only[Bool.and_eq_true,Bool.not_eq_true']at h;obtain⟨⟨h1,⟨h2,h3⟩,h4⟩,h5⟩:=h;have ih:=allB_true h5;obtain⟨g1,g2,g3,g4⟩:=headB_true h2;obtain⟨b1,b2⟩:=blkB_true h4
  have h3':f.id∉ids:=λhm=>by
   rw[List.contains_iff_mem.2 hm]at h3;cases h3
  refine⟨List.pairwise_cons.2 ⟨λx hx=>ih.prev f.name rfl x hx,ih.rise⟩,?_,?_,⟨?_,?_⟩,⟨?_,?_⟩⟩
  ·rintro p rfl x hx;have hp:p<f.name:=by simpa using h1
   rcases List.mem_cons.1 hx with rfl|hx
   ·exact hp
   ·exact List.lt_trans hp (ih.prev f.name rfl x hx)
  ·intro x hx;rcases List.mem_cons.1 hx with rfl|hx
   ·exact⟨g1,g2,g3,g4,λi hi=>(b2 i hi).2⟩
   ·exact ih.each x hx
  ·rw[List.map_cons];refine List.nodup_cons.2 ⟨λhm=>?_,ih.ids.1⟩;obtain⟨x,hx,e⟩:=List.mem_map.1 hm;exact ih.ids.2 x hx (by rw[e];simp)
  ·intro x hx;rcases List.mem_cons.1 hx with rfl|hx
   ·exact h3'
   ·exact λhm=>ih.ids.2 x hx (by simp[hm])
  ·have e:bksL (f ::r)=f.blocks++bksL r:=by unfold bksL;rw[jC]
   rw[e];refine List.nodup_append.2 ⟨b1,ih.bks.1,λa ha b hb=>?_⟩;rintro rfl;exact ih.bks.2 a hb (by simp[ha])
  ·intro i hi;have e:bksL (f ::r)=f.blocks++bksL r:=by unfold bksL;rw[jC]
   rw[e]at hi;rcases List.mem_append.1 hi with hi|hi
   ·exact(b2 i hi).1
   ·exact λhm=>ih.bks.2 i hi (by simp[hm])
theorem may_true {ver next:Nat} {fs:List Fil} (h:mayB ver next fs=true):MOk next none [] [] fs/\(bksL fs).length+fs.length<=2035:=by
 have h2:=may_short h;unfold Mani.mayB at h;rw[Bool.and_eq_true]at h;refine⟨allB_true h.1,?_⟩;have h3:=bksL_le fs;unfold Mani.bodyL at h2;simp only[jL]at h2
 omega
structure Okm (n ver next:Nat) (fs:List Fil):Prop where
 may:mayB ver next fs=true
 ver:ver<18446744073709551616
 next:next<4294967296
 in_:∀f∈fs,∀i∈f.blocks,i<n
theorem many_le {n k:Nat} (h:Mani.many n=k):n<=k*112:=by
 unfold Mani.many at h
 split at h <;> omega
theorem Okm.ok {n ver next:Nat} {fs:List Fil} (h:Okm n ver next fs):MOk next none [] [] fs:=(may_true h.may).1
theorem Okm.few {n ver next:Nat} {fs:List Fil} (h:Okm n ver next fs): (bksL fs).length+fs.length<=2035:=(may_true h.may).2
theorem Okm.fit {n ver next:Nat} {fs:List Fil} (h:Okm n ver next fs) (f:Fil) (hf:f∈fs):f.name.length<=32/\f.fits/\∀i∈f.blocks,i<65536:=by
 have h1:=h.ok.each f hf;have h2:=many_le h1.many;have h3:=bksL_mem hf;have h4:=h.few;have h5:=h.next;have h6:=h1.id;exact⟨h1.n2,⟨by omega,by omega,λi hi=>by have:=(h1.blocks i hi).2;omega⟩,λi hi=>(h1.blocks i hi).2⟩
theorem Okm.size {n ver next:Nat} {fs:List Fil} (h:Okm n ver next fs) (f:Fil) (hf:f∈fs):f.size<=227920/\f.blocks.length<=2035:=by
 have h1:=h.ok.each f hf;have h2:=many_le h1.many;have h3:=bksL_mem hf;have h4:=h.few
 omega
theorem okm_none (n:Nat):Okm n 0 0 []:=⟨by
 have e:vput 0= [UInt8.ofNat 0]:=vput_low (by decide);unfold Mani.mayB Mani.bodyL;rw[List.length_nil,List.flatMap_nil,e]
 rfl,by decide,by decide,λf hf=>by cases hf⟩
def planM (C:Store.Chg) (ss:List (List UInt8)) (n ver next:Nat) (fs:List Fil):Option (Nat×List Fil):=
 if ver=18446744073709551615 then none else
 match planF C ss (startF C n next fs)with
 |none=>none
 |some p=>if mayB (ver+1) p.next p.fs=true then some (p.next,p.fs)else none
structure Keys (C:Store.Chg) (ss:List (List UInt8)):Prop where
 rise:ss.Pairwise (·< ·)
 mem:∀nm,nm∈ss↔C nm≠none
theorem rising_same:∀{a b:List (List UInt8)},a.Pairwise (·< ·)->b.Pairwise (·< ·)->(∀x,x∈a↔x∈b)->a=b
 | [],[],_,_,_=>rfl
 | [],y ::s,_,_,h=>by have:=(h y).2 (by simp);cases this
 |x ::r,[],_,_,h=>by have:=(h x).1 (by simp);cases this
 |x ::r,y ::s,ha,hb,h=>by
  obtain⟨a1,a2⟩:=List.pairwise_cons.1 ha;obtain⟨b1,b2⟩:=List.pairwise_cons.1 hb
  have hxy:x=y:=by
   rcases List.mem_cons.1 ((h x).1 (by simp))with e|e
   ·exact e
   ·rcases List.mem_cons.1 ((h y).2 (by simp))with e2|e2
    ·exact e2.symm
    ·exact absurd (List.lt_trans (b1 x e) (a1 y e2)) (List.lt_irrefl y)
  subst hxy;rw[rising_same a2 b2 (λz=>⟨λhz=>?_,λhz=>?_⟩)]
  ·rcases List.mem_cons.1 ((h z).1 (by simp[hz]))with e|e
   ·exact absurd (a1 z hz) (by rw[e];exact List.lt_irrefl x)
   ·exact e
  ·rcases List.mem_cons.1 ((h z).2 (by simp[hz]))with e|e
   ·exact absurd (b1 z hz) (by rw[e];exact List.lt_irrefl x)
   ·exact e
theorem Keys.same {C:Store.Chg} {a b:List (List UInt8)} (ha:Keys C a) (hb:Keys C b):a=b:=rising_same ha.rise hb.rise (λx=>(ha.mem x).trans (hb.mem x).symm)
theorem plan_okm {C:Store.Chg} {ss:List (List UInt8)} {n ver next nx:Nat} {fs fs':List Fil} (h:Okm n ver next fs) (hn:n<=65536) (hC:∀nm b,C nm=some (some b)->b.length<=1048576) (hK:Keys C ss) (hs:∀nm∈ss,nm.length<=32) (hp:planM C ss n ver next fs=some (nx,fs')):Okm n (ver+1) nx fs'/\∀f∈fs',C f.name=none\/∃b,C f.name=some (some b)/\IsNew n b f:=by
 unfold planM at hp
 by_cases hv:ver=18446744073709551615
 ·rw[if_pos hv]at hp;cases hp
 ·rw[if_neg hv]at hp;cases hF:planF C ss (startF C n next fs)with
  |none=>rw[hF]at hp;cases hp
  |some p=>
   rw[hF]at hp;dsimp only at hp
   by_cases hm:mayB (ver+1) p.next p.fs=true
   ·rw[if_pos hm]at hp;have hp:=Option.some.inj hp;have e1:p.next=nx:=congrArg Prod.fst hp;have e2:p.fs=fs':=congrArg Prod.snd hp;subst e1 e2;have hnw:=plan_new ss (start_new (C:=C) (n:=n) (next:=next) (fs:=fs)).1 (start_new).2 hF;have hver:=h.ver
    have hpi:∀(l:List (List UInt8)) (done:List (List UInt8)) (q q':PL),PInv C n 2100 70000 done q->(done++l).Pairwise (·< ·)->(∀nm∈l,C nm≠none/\nm.length<=32)->planF C l q=some q'->PInv C n 2100 70000 (done++l) q':=by
     intro l
     induction l with
     |nil=>
      intro done q q' hq _ _ hpl;have hpl:some q=some q':=hpl;cases hpl;rw[List.append_nil];exact hq
     |cons x r ih=>
      intro done q q' hq hr hl hpl;unfold planF at hpl;rw[List.foldl_cons]at hpl
      cases hst:stepF C x q with
      |none=>
       rw[show(some q:Option PL).bind (stepF C x)=none from hst,foldl_none]at hpl;cases hpl
      |some q2=>
       rw[show(some q:Option PL).bind (stepF C x)=some q2 from hst]at hpl
       have hxn:x∉done:=λhm2=>by
        have:=(List.pairwise_append.1 hr).2.2 x hm2 x (by simp);exact List.lt_irrefl x this
       have h1:=hq.step hn hxn (hl x (by simp)).1 (hl x (by simp)).2 (hC x) hst;have h2:=ih (done++ [x]) q2 q' h1 (by rw[List.append_assoc];exact hr) (λnm hnm=>hl nm (by simp[hnm])) hpl;rw[List.append_assoc]at h2;exact h2
    have hl:∀f∈fs,f.name.length<=32/\f.fits/\∀i∈f.blocks,i<65536:=h.fit;have hfw:=h.few;have hP:=hpi ss [] _ p (pinv_start hn h.next h.ok.rise hl (by omega) (by omega)) (by simpa using hK.rise) (λnm hnm=>⟨(hK.mem nm).1 hnm,hs nm hnm⟩) hF;refine⟨⟨hm,by omega,hP.next,λf hf i hi=>?_⟩,hnw⟩;rcases hnw f hf with h1|⟨b,_,h2⟩
    ·
     have hkept:∀(l:List (List UInt8)) (q q':PL),(∀f∈q.fs,C f.name=none->f∈fs)->(∀nm∈l,C nm≠none)->planF C l q=some q'->∀f∈q'.fs,C f.name=none->f∈fs:=by
      intro l
      induction l with
      |nil=>
       intro q q' hq _ hpl;have hpl:some q=some q':=hpl;cases hpl;exact hq
      |cons x r ih=>
       intro q q' hq hl2 hpl;unfold planF at hpl;rw[List.foldl_cons]at hpl
       cases hst:stepF C x q with
       |none=>
        rw[show(some q:Option PL).bind (stepF C x)=none from hst,foldl_none]at hpl;cases hpl
       |some q2=>
        rw[show(some q:Option PL).bind (stepF C x)=some q2 from hst]at hpl;refine ih q2 q' (λf hf hcf=>?_) (λnm hnm=>hl2 nm (by simp[hnm])) hpl;unfold stepF at hst
        split at hst
        ·split at hst
         ·cases hst
         ·have hst:=Option.some.inj hst;subst hst;rcases mem_ins.1 hf with rfl|hf
          ·exact absurd hcf (hl2 x (by simp))
          ·exact hq f hf hcf
        ·have hst:=Option.some.inj hst;subst hst;exact hq f hf hcf
     have:=hkept ss _ p (λf hf _=>(List.mem_filter.1 hf).1) (λnm hnm=>(hK.mem nm).1 hnm) hF f hf h1;exact h.in_ f this i hi
    ·exact h2.in_ i hi
   ·rw[if_neg hm]at hp;cases hp
end Full
namespace Read
open Go.RowKit Mani Varint Full
abbrev St:=List UInt8×Int
def numS (most:Nat) (s:St):Nat×St:=if s.2=0 then((numG most 0 0 s.1).1,(s.1.drop (numG most 0 0 s.1).2.1,(numG most 0 0 s.1).2.2))else(0,s)
def bytesS (n:Nat) (s:St):List UInt8×St:=if s.2=0 then(if s.1.length<n then([],(s.1,2))else(s.1.take n,(s.1.drop n,0)))else([],s)
def blocksS:Nat->St->List Nat->List Nat×St
 |0,s,acc=>(acc,s)
 |k+1,s,acc=>if s.2=0 then blocksS k (numS 65536 s).2 (acc++ [(numS 65536 s).1])else(acc,s)
def headS (s:St):Fil×St:=
 let a:=numS 32 s
 let b:=bytesS a.1 a.2
 let c:=numS 4294967295 b.2
 let d:=numS 7340032 c.2
 (⟨b.1,c.1,d.1,[]⟩,d.2)
def fileS (s:St):Fil×St:=
 let h:=headS s
 let b:=blocksS (Mani.many h.1.size) h.2 []
 ({h.1 with blocks:=b.1},b.2)
def filesS:Nat->St->List Fil->List Fil×St
 |0,s,acc=>(acc,s)
 |k+1,s,acc=>if s.2=0 then filesS k (fileS s).2 (acc++ [(fileS s).1])else(acc,s)
structure Man where
 ver:Nat
 next:Nat
 fs:List Fil
 err:Int
def readS (b:List UInt8):Man:=
 let a:=numS 18446744073709551615 (b,0)
 let c:=numS 4294967295 a.2
 let n:=numS 2048 c.2
 let f:=filesS n.1 n.2 []
 ⟨a.1,c.1,f.1,endE f.2.1 f.2.2⟩
theorem bitLen_fit {n i:Nat} (h:n*2^(7*i) <2^64) (h2:7*i<=64):i*7+Lib.bitLen n<=64:=by
 have h3:n<2^(64-7*i):=by
  have e:2^64=2^(64-7*i)*2^(7*i):=by rw[<-Nat.pow_add];congr 1;omega
  rw[e]at h;exact Nat.lt_of_mul_lt_mul_right h
 have:=Lib.bitLen_le n (64-7*i) (by omega) h3
 omega
theorem byte_low {n:Nat} (h:n<128): (UInt8.ofNat n).toNat=n:=by simp;omega
theorem byte_high (n:Nat): (UInt8.ofNat (n%128+128)).toNat=n%128+128:=by
 have:=Nat.mod_lt n (show 0<128 by decide)
 simp
 omega
theorem numG_put (most:Nat) (rest:List UInt8):∀(n i N:Nat),N+n*2^(7*i) <2^64->N+n*2^(7*i)<=most->(i=0\/0<n)->numG most i N (vput n++rest)=(N+n*2^(7*i),i+(vput n).length,0):=by
 intro n
 induction n using Nat.strongRecOn with
 |ind n ih=>
  intro i N h1 h2 h3;have hpos:0<2^(7*i):=Nat.pow_pos (by decide)
  have h7:7*i<=64:=by
   rcases h3 with h3|h3
   ·omega
   ·refine Classical.byContradiction λhc=>?_
    have a1:2^64<=2^(7*i):=Nat.pow_le_pow_right (by decide) (by omega);have a2:2^(7*i)<=n*2^(7*i):=Nat.le_mul_of_pos_left _ h3
    omega
  by_cases hl:n<128
  ·rw[vput_low hl];have hb:=bitLen_fit (n:=n) (i:=i) (by omega) h7;have e1:n%128=n:=Nat.mod_eq_of_lt hl;show numG most i N (UInt8.ofNat n ::rest)=_;unfold numG;rw[byte_low hl,e1,if_neg (by omega),if_neg (by omega),if_neg (by omega)]
   rfl
  ·rw[vput_high (by omega)];have hm:n%128<128:=Nat.mod_lt _ (by decide);have hdm:=Nat.div_add_mod n 128;have hle:n%128*2^(7*i)<=n*2^(7*i):=Nat.mul_le_mul_right _ (Nat.mod_le _ _);have hb:=bitLen_fit (n:=n%128) (i:=i) (by omega) h7;have e1: (n%128+128)%128=n%128:=by omega
   have e2:2^(7*(i+1))=128*2^(7*i):=by rw[show 7*(i+1)=7+7*i by omega,Nat.pow_add]
   have e3:N+n%128*2^(7*i)+n/128*2^(7*(i+1))=N+n*2^(7*i):=by
    rw[e2,<-Nat.mul_assoc,Nat.add_assoc,<-Nat.add_mul]
    congr 2
    omega
   show numG most i N (UInt8.ofNat (n%128+128)::(vput (n/128)++rest))=_;unfold numG;rw[byte_high,e1,if_neg (by omega),if_pos (by omega),ih (n/128) (by omega) (i+1) _ (by rw[e3];exact h1) (by rw[e3];exact h2) (.inr (by omega)),e3,List.length_cons]
   congr 2
   omega
theorem numS_put {n most:Nat} (h:n<=most) (h2:n<18446744073709551616) (rest:List UInt8):numS most (vput n++rest,0)=(n,(rest,0)):=by
 have:=numG_put most rest n 0 0 (by simpa using h2) (by simpa using h) (.inl rfl);simp only[Nat.mul_zero,Nat.pow_zero,Nat.mul_one,Nat.zero_add]at this;unfold numS;rw[if_pos rfl];dsimp only;rw[this];dsimp only;rw[List.drop_left]
theorem bytesS_put (nm rest:List UInt8):bytesS nm.length (nm++rest,0)=(nm,(rest,0)):=by
 unfold bytesS;rw[if_pos rfl];dsimp only;rw[if_neg (by rw[jL];omega),List.take_left,List.drop_left]
theorem blocksS_put (rest:List UInt8):∀(l acc:List Nat),(∀i∈l,i<=65536)->blocksS l.length (blocksL l++rest,0) acc=(acc++l,(rest,0))
 | [],acc,_=>by show(acc,(rest,(0:Int)))=_;rw[List.append_nil]
 |i ::r,acc,h=>by
  have hi:=h i (by simp);have e:blocksL (i ::r)++rest=vput i++(blocksL r++rest):=by unfold Mani.blocksL;rw[jC,List.append_assoc]
  rw[e,List.length_cons];unfold blocksS;rw[if_pos rfl,numS_put hi (by omega),blocksS_put rest r _ (λj hj=>h j (by simp[hj])),List.append_assoc]
  rfl
structure FFit (f:Fil):Prop where
 name:f.name.length<=32
 id:f.id<=4294967295
 size:f.size<=7340032
 many:Mani.many f.size=f.blocks.length
 blocks:∀i∈f.blocks,i<=65536
theorem fileS_put {f:Fil} (h:FFit f) (rest:List UInt8):fileS (filL f++rest,0)=(f,(rest,0)):=by
 have e:filL f++rest=vput f.name.length++(f.name++(vput f.id++(vput f.size++(blocksL f.blocks++rest)))):=by unfold Mani.filL;simp only[List.append_assoc]
 have hd:headS (filL f++rest,0)=(⟨f.name,f.id,f.size,[]⟩,(blocksL f.blocks++rest,0)):=by
  unfold headS;rw[e,numS_put h.name (by have:=h.name;omega)];dsimp only;rw[bytesS_put];dsimp only;rw[numS_put h.id (by have:=h.id;omega)];dsimp only;rw[numS_put h.size (by have:=h.size;omega)]
 unfold fileS;rw[hd];dsimp only;rw[h.many,blocksS_put rest f.blocks [] h.blocks]
 rfl
theorem filesS_put (rest:List UInt8):∀(fs acc:List Fil),(∀f∈fs,FFit f)->filesS fs.length (fs.flatMap filL++rest,0) acc=(acc++fs,(rest,0))
 | [],acc,_=>by show(acc,(rest,(0:Int)))=_;rw[List.append_nil]
 |f ::r,acc,h=>by
  have e: (f ::r).flatMap filL++rest=filL f++(r.flatMap filL++rest):=by rw[jC,List.append_assoc]
  rw[e,List.length_cons];unfold filesS;rw[if_pos rfl,fileS_put (h f (by simp)),filesS_put rest r _ (λg hg=>h g (by simp[hg])),List.append_assoc]
  rfl
theorem readS_put {ver next:Nat} {fs:List Fil} (hv:ver<18446744073709551616) (hn:next<4294967296) (hl:fs.length<=2048) (h:∀f∈fs,FFit f):readS (bodyL ver next fs)=⟨ver,next,fs,0⟩:=by
 unfold readS;have e:bodyL ver next fs=vput ver++(vput next++(vput fs.length++fs.flatMap filL)):=rfl;rw[e,numS_put (by omega) hv];dsimp only;rw[numS_put (by omega) (by omega)];dsimp only;rw[numS_put hl (by omega)];dsimp only;have:=filesS_put [] fs [] h;rw[List.append_nil,List.nil_append]at this;rw[this]
 rfl
theorem okm_fit {n ver next:Nat} {fs:List Fil} (h:Okm n ver next fs):∀f∈fs,FFit f:=λf hf=>by
 have h1:=h.fit f hf;have h2:=h.size f hf;have h3:=h.ok.each f hf;have h4:=h1.2.1.id;exact⟨h1.1,by omega,by omega,h3.many,λi hi=>by have:=h1.2.2 i hi;omega⟩
theorem readS_okm {n ver next:Nat} {fs:List Fil} (h:Okm n ver next fs):readS (bodyL ver next fs)=⟨ver,next,fs,0⟩:=by
 have:=h.few;exact readS_put h.ver h.next (by omega) (okm_fit h)
theorem numG_le (most:Nat):∀(bs:List UInt8) (i n:Nat),(numG most i n bs).1<=most/\(numG most i n bs).2.1<=i+bs.length/\((numG most i n bs).2.2=0->i<(numG most i n bs).2.1)
 | [],i,n=>⟨Nat.zero_le _,Nat.zero_le _,λh=>by cases h⟩
 |c ::r,i,n=>by
  unfold numG
  split
  ·exact⟨Nat.zero_le _,Nat.zero_le _,λh=>by cases h⟩
  ·split
   ·obtain⟨h1,h2,h3⟩:=numG_le most r (i+1) (n+c.toNat%128*2^(7*i));exact⟨h1,by rw[List.length_cons];omega,λh=>by have:=h3 h;omega⟩
   ·split
    ·exact⟨Nat.zero_le _,Nat.zero_le _,λh=>by cases h⟩
    ·rename_i h1
     exact⟨by omega,by rw[List.length_cons];show i+1<=_;omega,λ_=>Nat.lt_succ_self _⟩
theorem numS_le (most:Nat) (s:St): (numS most s).1<=most/\(numS most s).2.1.length<=s.1.length/\((numS most s).2.2=0->(numS most s).2.1.length<s.1.length):=by
 unfold numS
 by_cases h:s.2=0
 ·rw[if_pos h];obtain⟨h1,h2,h3⟩:=numG_le most s.1 0 0;refine⟨h1,by rw[List.length_drop];omega,λh4=>?_⟩;have h5:=h3 h4;show(s.1.drop _).length<_;rw[List.length_drop]
  omega
 ·rw[if_neg h];exact⟨Nat.zero_le _,Nat.le_refl _,λh2=>absurd h2 h⟩
theorem bytesS_le (n:Nat) (s:St): (bytesS n s).1.length<=n/\(bytesS n s).2.1.length<=s.1.length:=by
 unfold bytesS
 split
 ·split
  ·exact⟨Nat.zero_le _,Nat.le_refl _⟩
  ·exact⟨by rw[jT];omega,by rw[List.length_drop];omega⟩
 ·exact⟨Nat.zero_le _,Nat.le_refl _⟩
theorem blocksS_le:∀(k:Nat) (s:St) (acc:List Nat),(∀i∈acc,i<=65536)->(∀i∈(blocksS k s acc).1,i<=65536)/\(blocksS k s acc).2.1.length<=s.1.length/\(blocksS k s acc).1.length+(blocksS k s acc).2.1.length<=acc.length+s.1.length+1
 |0,s,acc,h=>⟨h,Nat.le_refl _,by show acc.length+s.1.length<=_;omega⟩
 |k+1,s,acc,h=>by
  unfold blocksS
  by_cases hs:s.2=0
  ·rw[if_pos hs];obtain⟨n1,n2,n3⟩:=numS_le 65536 s
   have hacc:∀i∈acc++ [(numS 65536 s).1],i<=65536:=λi hi=>by
    rcases List.mem_append.1 hi with hi|hi
    ·exact h i hi
    ·rw[jE.1 hi];exact n1
   by_cases hz: (numS 65536 s).2.2=0
   ·obtain⟨b1,b2,b3⟩:=blocksS_le k (numS 65536 s).2 _ hacc;have:=n3 hz;rw[jL,List.length_singleton]at b3;exact⟨b1,by omega,by omega⟩
   ·have e:blocksS k (numS 65536 s).2 (acc++ [(numS 65536 s).1])=(acc++ [(numS 65536 s).1],(numS 65536 s).2):=by
     cases k with
     |zero=>rfl
     |succ k=>unfold blocksS;rw[if_neg hz]
    rw[e];refine⟨hacc,n2,?_⟩;dsimp only;rw[jL,List.length_singleton]
    omega
  ·rw[if_neg hs];exact⟨h,Nat.le_refl _,by show acc.length+s.1.length<=_;omega⟩
structure FGot (f:Fil):Prop where
 name:f.name.length<=32
 id:f.id<=4294967295
 size:f.size<=7340032
 blocks:∀i∈f.blocks,i<=65536
theorem fileS_le (s:St):FGot (fileS s).1/\(fileS s).1.blocks.length+(fileS s).2.1.length<=s.1.length+1:=by
 unfold fileS headS;dsimp only;obtain⟨a1,a2,_⟩:=numS_le 32 s;obtain⟨b1,b2⟩:=bytesS_le (numS 32 s).1 (numS 32 s).2;obtain⟨c1,c2,_⟩:=numS_le 4294967295 (bytesS (numS 32 s).1 (numS 32 s).2).2;obtain⟨d1,d2,_⟩:=numS_le 7340032 (numS 4294967295 (bytesS (numS 32 s).1 (numS 32 s).2).2).2;obtain⟨e1,e2,e3⟩:=blocksS_le (Mani.many (numS 7340032 (numS 4294967295 (bytesS (numS 32 s).1 (numS 32 s).2).2).2).1) (numS 7340032 (numS 4294967295 (bytesS (numS 32 s).1 (numS 32 s).2).2).2).2 [] (λi hi=>by cases hi);refine⟨⟨by show(bytesS _ _).1.length<=32;omega,c1,d1,e1⟩,?_⟩;rw[List.length_nil]at e3
 omega
theorem filesS_le:∀(k:Nat) (s:St) (acc:List Fil),(∀f∈acc,FGot f)->(∀f∈(filesS k s acc).1,FGot f)/\(filesS k s acc).1.length<=acc.length+k/\(bksL (filesS k s acc).1).length+(filesS k s acc).2.1.length<=(bksL acc).length+s.1.length+k
 |0,s,acc,h=>⟨h,Nat.le_refl _,Nat.le_refl _⟩
 |k+1,s,acc,h=>by
  unfold filesS
  by_cases hs:s.2=0
  ·rw[if_pos hs];obtain⟨g1,g2⟩:=fileS_le s
   obtain⟨f1,f2,f3⟩:=filesS_le k (fileS s).2 (acc++ [(fileS s).1]) (λf hf=>by
    rcases List.mem_append.1 hf with hf|hf
    ·exact h f hf
    ·rw[jE.1 hf];exact g1)
   have e: (bksL (acc++ [(fileS s).1])).length=(bksL acc).length+(fileS s).1.blocks.length:=by
    unfold Mani.bksL;rw[List.flatMap_append,jL]
    simp
   rw[e]at f3;rw[jL,List.length_singleton]at f2;exact⟨f1,by omega,by omega⟩
  ·rw[if_neg hs];exact⟨h,by show acc.length<=_;omega,by show(bksL acc).length+s.1.length<=_;omega⟩
theorem readS_le (b:List UInt8): (readS b).ver<=18446744073709551615/\(readS b).next<=4294967295/\(∀f∈(readS b).fs,FGot f)/\(readS b).fs.length<=2048/\(bksL (readS b).fs).length<=b.length+2048:=by
 unfold readS;dsimp only;obtain⟨a1,a2,_⟩:=numS_le 18446744073709551615 (b,0);obtain⟨b1,b2,_⟩:=numS_le 4294967295 (numS 18446744073709551615 (b,0)).2;obtain⟨c1,c2,_⟩:=numS_le 2048 (numS 4294967295 (numS 18446744073709551615 (b,0)).2).2;obtain⟨f1,f2,f3⟩:=filesS_le (numS 2048 (numS 4294967295 (numS 18446744073709551615 (b,0)).2).2).1 (numS 2048 (numS 4294967295 (numS 18446744073709551615 (b,0)).2).2).2 [] (λf hf=>by cases hf);have e: (bksL ([]:List Fil)).length=0:=rfl;rw[e]at f3;rw[List.length_nil]at f2;dsimp only at a2;exact⟨a1,b1,f1,by omega,by omega⟩
theorem body_got {ver next:Nat} {fs:List Fil} (hv:ver<=18446744073709551615) (hn:next<=4294967295) (hf:∀f∈fs,FGot f) (hl:fs.length<=2048) (hb: (bksL fs).length<=250000): (bodyL ver next fs).length<=900000:=by
 have a1:=vput_length 9 ver (by omega);have a2:=vput_length 4 next (by omega);have a3:=vput_length 9 fs.length (by omega)
 have a4:∀l:List Nat,(∀i∈l,i<=65536)->(blocksL l).length<=3*l.length:=by
  intro l
  induction l with
  |nil=>intro _;exact Nat.le_refl _
  |cons i r ih=>
   intro h;have b1:=vput_length 2 i (by have:=h i (by simp);omega);have b2:=ih (λj hj=>h j (by simp[hj]));unfold Mani.blocksL at b2⊢;rw[jC,jL,List.length_cons]
   omega
 have a5:∀l:List Fil,(∀f∈l,FGot f)->(l.flatMap filL).length<=60*l.length+3*(bksL l).length:=by
  intro l
  induction l with
  |nil=>intro _;exact Nat.le_refl _
  |cons f r ih=>
   intro h;have g:=h f (by simp);have b1:=vput_length 0 f.name.length (by have:=g.name;omega);have b2:=vput_length 4 f.id (by have:=g.id;omega);have b3:=vput_length 4 f.size (by have:=g.size;omega);have b4:=a4 f.blocks g.blocks;have b5:=ih (λx hx=>h x (by simp[hx]));have b6:=g.name;have e: (bksL (f ::r)).length=f.blocks.length+(bksL r).length:=by unfold Mani.bksL;rw[jC,jL]
   have e2: (filL f).length=(vput f.name.length).length+(f.name.length+((vput f.id).length+((vput f.size).length+(blocksL f.blocks).length))):=by
    unfold Mani.filL;simp only[jL]
   rw[e,jC,jL,List.length_cons,e2]
   omega
 have a6:=a5 fs hf;unfold Mani.bodyL;simp only[jL]
 omega
def getS (bs:List UInt8):Option (Nat×Nat×List Fil):=
 if(Frame.got bs).2.2.2=0/\(Frame.got bs).1=77 then
  (if(readS (Frame.got bs).2.1).err=0/\mayB (readS (Frame.got bs).2.1).ver (readS (Frame.got bs).2.1).next (readS (Frame.got bs).2.1).fs=true then some ((readS (Frame.got bs).2.1).ver,(readS (Frame.got bs).2.1).next,(readS (Frame.got bs).2.1).fs)else none)
 else none
theorem num_head (k:UInt8) (n:Nat) (h:n<=1048576):Frame.num (Frame.head k n)=n:=by
 unfold Frame.num Frame.head;simp only[List.getD_cons_succ,List.getD_cons_zero,UInt8.toNat_ofNat']
 omega
open Crc in
theorem got_long (k:UInt8) (b rest:List UInt8) (hb:b.length<=1048576):Frame.got (Frame.frameL k b++rest)=(k,b,13+b.length,0):=by
 have hl:=Frame.frameL_length k b;have hh: (marked (Frame.head k b.length)).length=9:=by rw[mark_length];rfl
 have hm: (marked b).length=b.length+4:=mark_length b;have e0:Frame.frameL k b++rest=marked (Frame.head k b.length)++(marked b++rest):=by unfold Frame.frameL;rw[List.append_assoc]
 have e1: (Frame.frameL k b++rest).take 9=marked (Frame.head k b.length):=by rw[e0,<-hh,List.take_left]
 have e2: (Frame.frameL k b++rest).drop 9=marked b++rest:=by rw[e0,<-hh,List.drop_left]
 have e3: (marked b++rest).take (b.length+4)=marked b:=by rw[<-hm,List.take_left]
 have h1:=(fits_mark (Frame.head k b.length)).2;have h2:=(fits_mark b).2;have e4:bodyOf (marked (Frame.head k b.length))=Frame.head k b.length:=bodyOf_mark _;have hl2: (Frame.frameL k b++rest).length=13+b.length+rest.length:=by rw[jL,hl];omega
 unfold Frame.got;rw[e1,e2,e4,num_head k b.length hb,e3,h1,h2,bodyOf_mark,hl2];rw[if_neg (by omega),if_neg (by decide),if_neg (by omega),if_neg (by omega),if_neg (by decide)]
 rfl
theorem getS_man {n ver next:Nat} {fs:List Fil} (h:Okm n ver next fs):getS (manL ver next fs)=some (ver,next,fs):=by
 have hs:=may_short h.may;have hg:=got_long 77 (bodyL ver next fs) (List.replicate (2035-(bodyL ver next fs).length) 0) (by omega);unfold getS Mani.manL;rw[hg];dsimp only;rw[if_pos ⟨rfl,rfl⟩,readS_okm h];dsimp only;rw[if_pos ⟨rfl,h.may⟩]
end Read
namespace Full
open Go.RowKit Go.Deep Mem Crc Go.Maps Dk Mani
open Ext (Holds)
def NewRow (B:Nat) (W:World) (x:FR):Prop:=W.ownsRow B 3 1 (.slice x.a x.f.blocks.length x.c) x.f.blocks.length (x.f.blocks.map iv)
structure PS (w:World) (l0:List FR) (r q Cb gb cap:Nat) (k:List Bool) (ver next:Nat) (u v:Value) (l:List FR) (nv:Value) (nn:Nat) (nx:List Value) (W:World):Prop where
 below:Below w.heap.size w W
 res:Blk W r 34 #[.int .u64 0,.int .u32 0,.slice none 0 0]
 man:Blk W q 34 #[.int .u64 (ver:Int),.int .u32 (next:Int),u]
 row:W.ownsRow w.heap.size 96 4 v l.length (flatF l)
 map:Holds Cb gb cap k W
 blocks:∀x∈l,x∈l0\/NewRow w.heap.size W x
 names:W.ownsRow w.heap.size 9 1 nv nn nx
 gq:w.heap.size<=q
 gr:w.heap.size<=r
 gC:w.heap.size<=Cb
 gg:w.heap.size<=gb
 ne:q≠r
variable {nv:Value} {nn:Nat} {nx:List Value} {w W W':World} {l0 l l':List FR} {r q Cb gb cap ver next:Nat} {k k':List Bool} {u v v':Value}
theorem PS.later (h:PS w l0 r q Cb gb cap k ver next u v l nv nn nx W) (hB:Below W.heap.size W W'):PS w l0 r q Cb gb cap k ver next u v l nv nn nx W':=
 ⟨h.below.trans (hB.mono h.below.size),h.res.below hB h.res.lt,h.man.below hB h.man.lt,Dk.own_keep h.row (λg hg=>hB.block g (h.row.lt g hg).2),h.map.later hB,λx hx=>(h.blocks x hx).imp id (λho=>Dk.own_keep ho (λg hg=>hB.block g (World.ownsRow.lt ho g hg).2)),Dk.own_keep h.names (λg hg=>hB.block g (h.names.lt g hg).2),h.gq,h.gr,h.gC,h.gg,h.ne⟩
theorem PS.rowed (h:PS w l0 r q Cb gb cap k ver next u v l nv nn nx W) (hu:Upon (λg=>v.ownBlock=some g) W W') (hrow:W'.ownsRow w.heap.size 96 4 v' l'.length (flatF l')) (hb:∀x∈l',x∈l\/x∈l0\/NewRow w.heap.size W x):PS w l0 r q Cb gb cap k ver next u v' l' nv nn nx W':=by
 have hk:∀x,NewRow w.heap.size W x->NewRow w.heap.size W' x:=λx ho=>own_upon ho hu (λg hg e=>own_ne_own h.row ho (by decide) e hg)
 obtain⟨cs,hc,_⟩:=h.map.words
 have hm:Holds Cb gb cap k W':=by
  obtain⟨cs,hc,hb⟩:=h.map.words;exact⟨h.map.small,h.map.map.upon hu (own_ne_blk h.row h.map.map (by decide)),cs,hc.upon hu (own_ne_blk h.row hc (by decide)),hb⟩
 exact⟨h.below.trans (hu.below h.below.size (λg hg=>(h.row.lt g hg).1)),h.res.upon hu (own_ne_blk h.row h.res (by decide)),h.man.upon hu (own_ne_blk h.row h.man (by decide)),hrow,hm,λx hx=>by
  rcases hb x hx with h1|h1|h1
  ·exact(h.blocks x h1).imp id (hk x)
  ·exact .inl h1
  ·exact .inr (hk x h1),own_upon h.names hu (λg hg e=>own_ne_own h.row h.names (by decide) e hg),h.gq,h.gr,h.gC,h.gg,h.ne⟩
theorem PS.far (h:PS w l0 r q Cb gb cap k ver next u v l nv nn nx W) (i:Nat) (z:Value):
  Below w.heap.size w (W.setCell ⟨q,i,none⟩ z)/\Blk (W.setCell ⟨q,i,none⟩ z) r 34 #[.int .u64 0,.int .u32 0,.slice none 0 0]/\(W.setCell ⟨q,i,none⟩ z).ownsRow w.heap.size 96 4 v l.length (flatF l)/\Holds Cb gb cap k (W.setCell ⟨q,i,none⟩ z)/\(∀x∈l,x∈l0\/NewRow w.heap.size (W.setCell ⟨q,i,none⟩ z) x)/\(W.setCell ⟨q,i,none⟩ z).ownsRow w.heap.size 9 1 nv nn nx:=by
 obtain⟨cs,hc,hb⟩:=h.map.words;exact⟨h.below.setCell h.gq z,h.res.far (Ne.symm h.ne) z,own_far h.row (own_ne_blk h.row h.man (by decide)) z,⟨h.map.small,h.map.map.far (h.map.map.ne h.man (by decide)) z,cs,hc.far (hc.ne h.man (by decide)) z,hb⟩,λx hx=>(h.blocks x hx).imp id (λho=>own_far ho (own_ne_blk ho h.man (by decide)) z),own_far h.names (own_ne_blk h.names h.man (by decide)) z⟩
theorem PS.set (h:PS w l0 r q Cb gb cap k ver next u v l nv nn nx W):PS w l0 r q Cb gb cap k ver next v v l nv nn nx (W.setCell ⟨q,2,none⟩ v):=by
 obtain⟨h1,h2,h3,h4,h5,h6⟩:=h.far 2 v;exact⟨h1,h2,h.man.set 2 v,h3,h4,h5,h6,h.gq,h.gr,h.gC,h.gg,h.ne⟩
theorem PS.nexts (h:PS w l0 r q Cb gb cap k ver next u v l nv nn nx W) (n:Nat):PS w l0 r q Cb gb cap k ver n u v l nv nn nx (W.setCell ⟨q,1,none⟩ (.int .u32 (n:Int))):=by
 obtain⟨h1,h2,h3,h4,h5,h6⟩:=h.far 1 (.int .u32 (n:Int));exact⟨h1,h2,h.man.set 1 _,h3,h4,h5,h6,h.gq,h.gr,h.gC,h.gg,h.ne⟩
theorem PS.took (h:PS w l0 r q Cb gb cap k ver next u v l nv nn nx W) (ho:Only [Cb,gb] W W') (hm:Holds Cb gb cap k' W'):PS w l0 r q Cb gb cap k' ver next u v l nv nn nx W':=by
 obtain⟨cs,hc,_⟩:=h.map.words
 have hn:∀{t:TypeId} {s n:Nat} {z:Value} {xs:List Value},W.ownsRow w.heap.size t s z n xs->t≠152->t≠30->W'.ownsRow w.heap.size t s z n xs:=λhz h1 h2=>own_only hz ho (λg hg hm=>by
  simp at hm
  rcases hm with rfl|rfl
  ·exact own_ne_blk hz h.map.map h1 hg
  ·exact own_ne_blk hz hc h2 hg)
 have hb:∀{g:Nat} {cs2:Array Value},Blk W g 34 cs2->g∉[Cb,gb]:=λhz hm=>by
  simp at hm
  rcases hm with rfl|rfl
  ·exact hz.ne h.map.map (by decide) rfl
  ·exact hz.ne hc (by decide) rfl
 exact⟨h.below.trans (ho.below h.below.size (λg hg=>by
  simp at hg
  rcases hg with rfl|rfl
  ·exact h.gC
  ·exact h.gg)),h.res.only ho (hb h.res),h.man.only ho (hb h.man),hn h.row (by decide) (by decide),hm,λx hx=>(h.blocks x hx).imp id (λhz=>hn hz (by decide) (by decide)),hn h.names (by decide) (by decide),h.gq,h.gr,h.gC,h.gg,h.ne⟩
theorem PS.files {a0:Option Addr} (h:PS w l0 r q Cb gb cap k ver next u v l nv nn nx W) (hF:FilesIn w a0 l0):∃a c,v=.slice a l.length c/\FilesIn W a l/\(∀b,Mem.blk a=some b->w.heap.size<=b)/\∀x∈l,x∈l0\/∀b,Mem.blk x.a=some b->w.heap.size<=b:=by
 obtain⟨a,c,rfl,_,hL,hg,_⟩:=own_shape h.row;refine⟨a,c,rfl,⟨hL,λx hx=>?_⟩,λb hb=>(hg b hb).1,λx hx=>(h.blocks x hx).imp id (λho b hb=>?_)⟩
 ·rcases h.blocks x hx with h1|h1
  ·exact⟨(hF.blocks x h1).1.later h.below,(hF.blocks x h1).2⟩
  ·obtain⟨a2,c2,e,hc,hL2,_,_⟩:=own_shape h1;cases e;exact⟨hL2,hc⟩
 ·obtain⟨a2,c2,e,hc,hL2,hg2,_⟩:=own_shape ho;cases e;exact(hg2 b hb).1
structure PF (w:World) (l0 l:List FR) (v:Value) (r:Nat) (W:World):Prop where
 below:Below w.heap.size w W
 row:W.ownsRow w.heap.size 96 4 v l.length (flatF l)
 blocks:∀x∈l,x∈l0\/NewRow w.heap.size W x
 res:∃cs,Blk W r 34 cs
 gr:w.heap.size<=r
theorem PF.res0 (h:PF w l0 l v r W) (z:Value) (i:Nat):PF w l0 l v r (W.setCell ⟨r,i,none⟩ z):=by
 obtain⟨cs,hc⟩:=h.res;exact⟨h.below.setCell h.gr z,own_far h.row (own_ne_blk h.row hc (by decide)) z,λx hx=>(h.blocks x hx).imp id (λho=>own_far ho (own_ne_blk ho hc (by decide)) z),⟨_,hc.set i z⟩,h.gr⟩
theorem PS.res0 {nv:Value} {nn:Nat} {nx:List Value} (h:PS w l0 r q Cb gb cap k ver next u v l nv nn nx W) (z:Value) (i:Nat):PF w l0 l v r (W.setCell ⟨r,i,none⟩ z):=
 PF.res0 ⟨h.below,h.row,h.blocks,⟨_,h.res⟩,h.gr⟩ z i
theorem PF.files9 {a0:Option Addr} (h:PF w l0 l v r W) (hF:FilesIn w a0 l0):∃a c,v=.slice a l.length c/\FilesIn W a l/\(∀b,Mem.blk a=some b->w.heap.size<=b/\b<W.heap.size)/\∀x∈l,x∈l0\/∀b,Mem.blk x.a=some b->w.heap.size<=b/\b<W.heap.size:=by
 obtain⟨a,c,rfl,_,hL,hg,_⟩:=own_shape h.row;refine⟨a,c,rfl,⟨hL,λx hx=>?_⟩,λb hb=>hg b hb,λx hx=>(h.blocks x hx).imp id (λho b hb=>?_)⟩
 ·rcases h.blocks x hx with h1|h1
  ·exact⟨(hF.blocks x h1).1.later h.below,(hF.blocks x h1).2⟩
  ·obtain⟨a2,c2,e,hc,hL2,_,_⟩:=own_shape h1;cases e;exact⟨hL2,hc⟩
 ·obtain⟨a2,c2,e,hc,hL2,hg2,_⟩:=own_shape ho;cases e;exact hg2 b hb
theorem PS.named {nv':Value} {nn':Nat} {nx':List Value} (h:PS w l0 r q Cb gb cap k ver next u v l nv nn nx W) (hn:W.ownsRow w.heap.size 9 1 nv' nn' nx'):PS w l0 r q Cb gb cap k ver next u v l nv' nn' nx' W:=
 ⟨h.below,h.res,h.man,h.row,h.map,h.blocks,hn,h.gq,h.gr,h.gC,h.gg,h.ne⟩
end Full
namespace Read
open Go.RowKit Go.Deep Mem Crc Mani Full
theorem append_int {base:Nat} (w:World) (ty:TypeId) (v:Value) (l:List Nat) (h:w.ownsRow base 3 1 v l.length (l.map iv)) (x:Nat) (hm:l.length<=1000000) (hb:base<=w.heap.size):
  ∃v' w',(Builtin.append_ #[51,51] ty #[v,.slice (some ⟨w.heap.size,0,none⟩) 1 1]).run Tryz.prog (w.alloc (.cells #[iv x] 3))=.ok v' w'/\w'.ownsRow base 3 1 v' (l++ [x]).length ((l++ [x]).map iv)/\w.grownBy w' v.ownBlock:=by
 obtain⟨i,hi,hz,h1,h2⟩:=info_parts Ext.infoI;have hB:Below w.heap.size w (w.alloc (.cells #[iv x] 3)):=(Below.refl _ w).alloc jn _
 obtain⟨v',w',hr,ho,hg,_⟩:=run_append_own (P:=Tryz.prog) (w.alloc (.cells #[iv x] 3)) base 51 ty 3 i (.int .i64 0) 1 8 Tryz.underlying51 hi hz h1 h2 rfl (by decide) v l.length (l.map iv) (own_later h hB) ⟨w.heap.size,0,none⟩ 1 1 [iv x] rfl (λj u hu=>by
  have:=lies_add (new_lies w 3 #[iv x]) j u hu;exact this) (λu hu=>by rw[jE.1 hu];rfl) (by unfold maxLen;omega) (by omega) (Nat.le_trans hb hB.size)
 refine⟨v',w',hr,?_,grown_later hB hg⟩;rw[jL,List.map_append];exact ho
theorem append_file {base:Nat} (w:World) (ty:TypeId) (v:Value) (l:List FR) (h:w.ownsRow base 96 4 v l.length (flatF l)) (x:FR) (hm:l.length<=1000000) (hb:base<=w.heap.size):
  ∃v' w',(Builtin.append_ #[32,32] ty #[v,.slice (some ⟨w.heap.size,0,none⟩) 1 1]).run Tryz.prog (w.alloc (.cells x.vs.toArray 96))=.ok v' w'/\w'.ownsRow base 96 4 v' (l++ [x]).length (flatF (l++ [x]))/\w.grownBy w' v.ownBlock:=by
 obtain⟨i,hi,hz,h1,h2⟩:=info_parts infoF;have hB:Below w.heap.size w (w.alloc (.cells x.vs.toArray 96)):=(Below.refl _ w).alloc jn _
 obtain⟨v',w',hr,ho,hg,_⟩:=run_append_own (P:=Tryz.prog) (w.alloc (.cells x.vs.toArray 96)) base 32 ty 96 i (.agg #[.string ⟨#[]⟩,.int .u32 0,.int .i64 0,.slice none 0 0]) 4 56 Tryz.underlying32 hi hz h1 h2 rfl (by decide) v l.length (flatF l) (own_later h hB) ⟨w.heap.size,0,none⟩ 1 1 x.vs rfl (λj u hu=>by
  have:=lies_add (new_lies w 96 x.vs.toArray) j u (by simpa using hu);exact this) (λu hu=>by
  unfold FR.vs at hu;simp only[List.mem_cons,List.not_mem_nil,or_false]at hu;rcases hu with rfl|rfl|rfl|rfl <;> rfl) (by unfold maxLen;omega) (by omega) (Nat.le_trans hb hB.size)
 refine⟨v',w',hr,?_,grown_later hB hg⟩;have e:flatF (l++ [x])=flatF l++x.vs:=by unfold flatF;rw[List.flatMap_append];simp
 rw[jL,e];exact ho
structure RS (w:World) (r q rd ver next:Nat) (u:Value) (l:List FR) (s:St) (W:World):Prop where
 below:Below w.heap.size w W
 res:Blk W r 34 #[.int .u64 0,.int .u32 0,.slice none 0 0]
 man:Blk W q 34 #[.int .u64 (ver:Int),.int .u32 (next:Int),u]
 row:W.ownsRow w.heap.size 96 4 u l.length (flatF l)
 blocks:∀x∈l,NewRow w.heap.size W x
 rd:Rd w.heap.size W rd s.1 s.2
 gq:w.heap.size<=q
 gr:w.heap.size<=r
 ne:q≠r
variable {w W W':World} {r q rd ver next:Nat} {u u':Value} {l l':List FR} {s s':St}
theorem Rd.blk {B:Nat} {rd:Nat} {bs:List UInt8} {e:Int} (h:Rd B W rd bs e):∃cs,Blk W rd 218 cs/\B<=rd:=by
 obtain⟨a,cap,h1,_,_,_,_,h6⟩:=h;exact⟨_,h1,h6⟩
theorem RS.upon (h:RS w r q rd ver next u l s W) {X:Nat->Prop} (hu:Upon X W W') (hX:∀k,X k->w.heap.size<=k) (h1:¬X r) (h2:¬X q) (h3:∀k,u.ownBlock=some k->¬X k) (h4:∀x∈l,∀k,(Value.slice x.a x.f.blocks.length x.c).ownBlock=some k->¬X k) (h5:¬X rd):RS w r q rd ver next u l s W':=
 ⟨h.below.trans (hu.below h.below.size hX),h.res.upon hu h1,h.man.upon hu h2,own_upon h.row hu h3,λx hx=>own_upon (h.blocks x hx) hu (h4 x hx),h.rd.upon hu h5 hX,h.gq,h.gr,h.ne⟩
theorem RS.later (h:RS w r q rd ver next u l s W) (hB:Below W.heap.size W W'):RS w r q rd ver next u l s W':=
 h.upon (X:=λ_=>False) (Upon.of_below hB) (λ_ hf=>hf.elim) id id (λ_ _=>id) (λ_ _ _ _=>id) id
theorem RS.readU (h:RS w r q rd ver next u l s W) (hu:Upon (λk=>k=rd) W W') (hr:Rd w.heap.size W' rd s'.1 s'.2):RS w r q rd ver next u l s' W':=by
 obtain⟨cs,hb,hg⟩:=h.rd.blk;have hX:∀k,k=rd->w.heap.size<=k:=λk e=>by rw[e];exact hg
 exact⟨h.below.trans (hu.below h.below.size hX),h.res.upon hu (h.res.ne hb (by decide)),h.man.upon hu (h.man.ne hb (by decide)),own_upon h.row hu (λk hk e=>own_ne_blk h.row hb (by decide) (e▸hk)),λx hx=>own_upon (h.blocks x hx) hu (λk hk e=>own_ne_blk (h.blocks x hx) hb (by decide) (e▸hk)),hr,h.gq,h.gr,h.ne⟩
theorem RS.read (h:RS w r q rd ver next u l s W) (ho:Only [rd] W W') (hr:Rd w.heap.size W' rd s'.1 s'.2):RS w r q rd ver next u l s' W':=
 h.readU (Upon.of_only ho (λ_ hg=>.inl (jE.1 hg))) hr
theorem RS.rowed (h:RS w r q rd ver next u l s W) (hg:W.grownBy W' u.ownBlock) (hrow:W'.ownsRow w.heap.size 96 4 u' l'.length (flatF l')) (hb:∀x∈l',x∈l\/NewRow w.heap.size W x):RS w r q rd ver next u' l' s (W'.setCell ⟨q,2,none⟩ u'):=by
 obtain⟨cs,hrb,hrg⟩:=h.rd.blk;have hu:Upon (λk=>u.ownBlock=some k) W W':=Upon.of_grown hg (λg hg=>.inl hg);have hX:∀k,u.ownBlock=some k->w.heap.size<=k:=λk hk=>(h.row.lt k hk).1
 have hman:=h.man.upon hu (own_ne_blk h.row h.man (by decide));have hres:=h.res.upon hu (own_ne_blk h.row h.res (by decide))
 have hbl:∀x∈l',NewRow w.heap.size W' x:=λx hx=>by
  have hn:NewRow w.heap.size W x:=(hb x hx).elim (h.blocks x) id;exact own_upon hn hu (λk hk e=>own_ne_own h.row hn (by decide) e hk)
 have hrd:=h.rd.upon hu (own_ne_blk h.row hrb (by decide)) hX;have hu2:Upon (λk=>k=q) W' (W'.setCell ⟨q,2,none⟩ u'):=(Upon.refl (λk=>k=q) W').set (p:=⟨q,2,none⟩) (.inl rfl) _;obtain⟨cs2,hrb2,_⟩:=hrd.blk;have hBW:=h.below.trans (hu.below h.below.size hX);exact⟨hBW.setCell h.gq _,hres.far (Ne.symm h.ne) _,hman.set 2 _,own_far hrow (own_ne_blk hrow hman (by decide)) _,λx hx=>own_far (hbl x hx) (own_ne_blk (hbl x hx) hman (by decide)) _,hrd.upon hu2 (hrb2.ne hman (by decide)) (λk e=>by rw[e];exact h.gq),h.gq,h.gr,h.ne⟩
theorem RS.files (h:RS w r q rd ver next u l s W):∃a c,u=.slice a l.length c/\FilesIn W a l/\(∀b,Mem.blk a=some b->w.heap.size<=b/\b<W.heap.size)/\∀x∈l,∀b,Mem.blk x.a=some b->w.heap.size<=b/\b<W.heap.size:=by
 obtain⟨a,c,rfl,_,hL,hg,_⟩:=own_shape h.row;refine⟨a,c,rfl,⟨hL,λx hx=>?_⟩,hg,λx hx b hb=>?_⟩
 ·obtain⟨a2,c2,e,hc,hL2,_,_⟩:=own_shape (h.blocks x hx);cases e;exact⟨hL2,hc⟩
 ·obtain⟨a2,c2,e,hc,hL2,hg2,_⟩:=own_shape (h.blocks x hx);cases e;exact hg2 b hb
structure BS (w:World) (r q rd ver next:Nat) (u:Value) (l:List FR) (fb:Nat) (nm:Value) (id sz:Nat) (bu:Value) (acc:List Nat) (s:St) (W:World):Prop where
 rs:RS w r q rd ver next u l s W
 box:Blk W fb 96 #[nm,.int .u32 (id:Int),.int .i64 (sz:Int),bu]
 bl:W.ownsRow fb 3 1 bu acc.length (acc.map iv)
 gf:w.heap.size<=fb
 lu:∀k,u.ownBlock=some k->k<fb
 lx:∀x∈l,∀k,(Value.slice x.a x.f.blocks.length x.c).ownBlock=some k->k<fb
variable {fb id sz id' sz':Nat} {nm bu bu':Value} {acc acc':List Nat}
theorem BS.start (h:RS w r q rd ver next u l s W) (nm:Value) (id sz:Nat):BS w r q rd ver next u l W.heap.size nm id sz (.slice none 0 0) [] s (W.alloc (.cells #[nm,.int .u32 (id:Int),.int .i64 (sz:Int),.slice none 0 0] 96)):=
 ⟨h.later ((Below.refl _ W).alloc jn _),Blk.new W _ _,World.ownsRow_nil _ _ _ _,h.below.size,λk hk=>(h.row.lt k hk).2,λx hx k hk=>(World.ownsRow.lt (h.blocks x hx) k hk).2⟩
theorem BS.upon (h:BS w r q rd ver next u l fb nm id sz bu acc s W) {X:Nat->Prop} (hu:Upon X W W') (hX:∀k,X k->fb<k\/k=fb) (h1:¬X r) (h2:¬X q) (h5:¬X rd):RS w r q rd ver next u l s W':=
 h.rs.upon hu (λk hk=>by have:=h.gf;have:=hX k hk;omega) h1 h2 (λk hk hx=>by have:=h.lu k hk;have:=hX k hx;omega) (λx hx k hk hxk=>by have:=h.lx x hx k hk;have:=hX k hxk;omega) h5
theorem BS.readU (h:BS w r q rd ver next u l fb nm id sz bu acc s W) (hu:Upon (λk=>k=rd) W W') (hr:Rd w.heap.size W' rd s'.1 s'.2):BS w r q rd ver next u l fb nm id sz bu acc s' W':=by
 obtain⟨cs,hb,hg⟩:=h.rs.rd.blk;exact⟨h.rs.readU hu hr,h.box.upon hu (h.box.ne hb (by decide)),own_upon h.bl hu (λk hk e=>own_ne_blk h.bl hb (by decide) (e▸hk)),h.gf,h.lu,h.lx⟩
theorem BS.read (h:BS w r q rd ver next u l fb nm id sz bu acc s W) (ho:Only [rd] W W') (hr:Rd w.heap.size W' rd s'.1 s'.2):BS w r q rd ver next u l fb nm id sz bu acc s' W':=
 h.readU (Upon.of_only ho (λ_ hg=>.inl (jE.1 hg))) hr
theorem BS.later (h:BS w r q rd ver next u l fb nm id sz bu acc s W) (hB:Below W.heap.size W W'):BS w r q rd ver next u l fb nm id sz bu acc s W':=
 ⟨h.rs.later hB,h.box.below hB h.box.lt,own_later h.bl hB,h.gf,h.lu,h.lx⟩
theorem BS.set (h:BS w r q rd ver next u l fb nm id sz bu acc s W) (i:Nat) (v:Value) (hb:Blk (W.setCell ⟨fb,i,none⟩ v) fb 96 #[nm,.int .u32 (id':Int),.int .i64 (sz':Int),bu']) (hr:W.ownsRow fb 3 1 bu' acc'.length (acc'.map iv)):BS w r q rd ver next u l fb nm id' sz' bu' acc' s (W.setCell ⟨fb,i,none⟩ v):=by
 obtain⟨cs,hrb,hg⟩:=h.rs.rd.blk;have hu:Upon (λk=>k=fb) W (W.setCell ⟨fb,i,none⟩ v):=(Upon.refl (λk=>k=fb) W).set (p:=⟨fb,i,none⟩) (.inl rfl) _;exact⟨h.upon hu (λk hk=>.inr hk) (h.rs.res.ne h.box (by decide)) (h.rs.man.ne h.box (by decide)) (hrb.ne h.box (by decide)),hb,own_far hr (own_ne_blk hr h.box (by decide)) _,h.gf,h.lu,h.lx⟩
theorem BS.grow (h:BS w r q rd ver next u l fb nm id sz bu acc s W) (hg:W.grownBy W' bu.ownBlock) (hr:W'.ownsRow fb 3 1 bu' acc'.length (acc'.map iv)):BS w r q rd ver next u l fb nm id sz bu' acc' s (W'.setCell ⟨fb,3,none⟩ bu'):=by
 obtain⟨cs,hrb,hrg⟩:=h.rs.rd.blk;have hu:Upon (λk=>bu.ownBlock=some k) W W':=Upon.of_grown hg (λg hg=>.inl hg);have hrs:=h.upon hu (λk hk=>by have h1:=(h.bl.lt k hk).1;rcases Nat.lt_or_eq_of_le h1 with h2|h2;exact .inl h2;exact .inr h2.symm) (own_ne_blk h.bl h.rs.res (by decide)) (own_ne_blk h.bl h.rs.man (by decide)) (own_ne_blk h.bl hrb (by decide));have hbx:=h.box.upon hu (own_ne_blk h.bl h.box (by decide));have h2:BS w r q rd ver next u l fb nm id sz bu [] s W'->BS w r q rd ver next u l fb nm id sz bu' acc' s (W'.setCell ⟨fb,3,none⟩ bu'):=λh3=>h3.set 3 bu' (hbx.set 3 bu') hr
 obtain⟨cs2,hrb2,_⟩:=hrs.rd.blk;have hu2:Upon (λk=>k=fb) W' (W'.setCell ⟨fb,3,none⟩ bu'):=(Upon.refl (λk=>k=fb) W').set (p:=⟨fb,3,none⟩) (.inl rfl) _;refine⟨hrs.upon hu2 (λk hk=>by rw[hk];exact h.gf) (hrs.res.ne hbx (by decide)) (hrs.man.ne hbx (by decide)) (λk hk e=>by have:=h.lu k hk;omega) (λx hx k hk e=>by have:=h.lx x hx k hk;omega) (hrb2.ne hbx (by decide)),hbx.set 3 bu',own_far hr (own_ne_blk hr hbx (by decide)) _,h.gf,h.lu,h.lx⟩
end Read
namespace Read
open Go.RowKit Go.Deep Mem Crc Mani Full
open Store (nv)
theorem numS_any {B:Nat} {w:World} {r:Nat} {s:St} (h:Rd B w r s.1 s.2) (most:Nat) (hm:most<18446744073709551616):
  Calls Tryz.prog 119 #[.pointer (some ⟨r,0,none⟩),.int .u64 (most:Int)] w λe w'=>e=.returned (.int .u64 ((numS most s).1:Int))/\Rd B w' r (numS most s).2.1 (numS most s).2.2/\Only [r] w w':=by
 unfold numS
 by_cases hz:s.2=0
 ·rw[if_pos hz];rw[hz]at h;exact num_any h most hm
 ·rw[if_neg hz];refine(num_bad h hz most).mono ?_;rintro e w' ⟨rfl,rfl⟩;exact⟨rfl,h,Only.refl _ _⟩
theorem bytesS_any {B:Nat} {w:World} {r:Nat} {s:St} (h:Rd B w r s.1 s.2) (n:Nat) (hn:n<=1000000):
  Calls Tryz.prog 121 #[.pointer (some ⟨r,0,none⟩),.int .i64 (n:Int)] w λe w'=>∃v,e=.returned v/\OwnB w' w.heap.size v (bytesS n s).1/\Rd B w' r (bytesS n s).2.1 (bytesS n s).2.2/\Upon (λk=>k=r) w w':=by
 obtain⟨bs,k⟩:=s;unfold bytesS;dsimp only at h⊢
 by_cases hz:k=0
 ·subst hz;rw[if_pos rfl];obtain⟨a,cap,hb,h2,h3,h4,h5,h6⟩:=id h;have c0:=hb.cell 0;have c1:=hb.cell 1;have z0:=hb.frozen 0
  simp at c0 c1
  obtain⟨L,hL⟩:=jl bs.length;rw[<-hL]at c0 h2 h3;have hn0:decide ((n:Int) <0)=false:=jf (by omega)
  by_cases hlt:L<n
  ·rw[<-hL,if_pos hlt];have hd:decide ((L:Int) <(n:Int))=true:=jd (by omega);have HBAD:=jq (bad_any h 2 (by decide));clear h hb h4 h5 h6 hL
   go_enter Tryz.func121,Tryz.ntmps121
   go_wp2_with fail
   refine HBAD.out.mono ?_;rintro e w1 ⟨rfl,hR,hO⟩;have HR:=jq hR;have HO:=jq hO;clear hR hO HBAD
   go_wp2_with fail
   go_ret
   exact⟨_,rfl,World.ownsRow_nil _ _ _ _,HR.out,Upon.of_only HO.out (λg hg=>.inl (jE.1 hg))⟩
  ·rw[<-hL,if_neg hlt];have hd:decide ((L:Int) <(n:Int))=false:=jf (by omega);obtain⟨a',hsl,hblk,hsl2⟩:=slice_low a L cap n (by omega) h2;have htl: (bs.take n).length=n:=by rw[jT];omega
   have hcl:=clone_any a cap (bs.take n) w (by rw[List.map_take];exact h4.take n) (by rw[htl];omega);rw[htl]at hcl;have HCL:=jq hcl;have HB:=jq hb;have H4:=jq h4;have H5:=jq h5;have HSL2:=jq hsl2;have HBLK:=jq hblk;have HL:=jq hL;have H6:=jq h6;clear h hb h4 h5 h6 hL hcl hsl2 hblk
   go_enter Tryz.func121,Tryz.ntmps121
   go_wp2_with fail
   refine HCL.out.mono ?_;rintro e w1 ⟨v,rfl,hO,hB1⟩;have hb1:=HB.out.below hB1 HB.out.lt;have c0:=hb1.cell 0;have z0:=hb1.frozen 0
   simp at c0
   rw[<-HL.out]at c0;have hu:Upon (λq=>q=r) w1 (w1.setCell ⟨r,0,none⟩ (.slice a' (L-n) (cap-n))):=(Upon.refl (λq=>q=r) w1).set (p:=⟨r,0,none⟩) (.inl rfl) _
   have hRn:Rd B (w1.setCell ⟨r,0,none⟩ (.slice a' (L-n) (cap-n))) r (bs.drop n) 0:=by
    have hbl:=hb1.set 0 (.slice a' (L-n) (cap-n));have hl2: (bs.drop n).length=L-n:=by rw[List.length_drop,HL.out]
    refine⟨a',cap-n,by rw[hl2];exact hbl,by rw[hl2];omega,by rw[hl2];omega,?_,λq hq=>H5.out q (by rw[<-HBLK.out];exact hq),H6.out⟩
    exact((HSL2.out w bs HL.out.symm H4.out).later hB1).upon hu (λq hq e=>by
     have:=H5.out q (by rw[<-HBLK.out];exact hq);have:=H6.out
     omega)
   have hOn:OwnB (w1.setCell ⟨r,0,none⟩ (.slice a' (L-n) (cap-n))) w.heap.size v (bs.take n):=own_far hO (own_ne_blk hO hb1 (by decide)) _;have hun:Upon (λq=>q=r) w (w1.setCell ⟨r,0,none⟩ (.slice a' (L-n) (cap-n))):=(Upon.of_below hB1).trans hu (λq hq=>.inl hq);have HRN:=jq hRn;have HON:=jq hOn;have HUN:=jq hun;clear hb1 hu hRn hOn hun hO hB1 HCL
   go_wp2_with fail
   go_ret
   exact⟨v,rfl,HON.out,HRN.out,HUN.out⟩
 ·rw[if_neg hz];obtain⟨a,cap,hb,h2,h3,h4,h5,h6⟩:=id h;have c1:=hb.cell 1
  simp at c1
  have hk': (k==0)=false:=by simpa using hz
  have HR:=jq h;clear h hb h4 h5
  go_enter Tryz.func121,Tryz.ntmps121
  go_wp2_with fail
  go_ret
  exact⟨_,rfl,World.ownsRow_nil _ _ _ _,HR.out,Upon.refl _ _⟩
end Read
namespace Full
open Go.RowKit Go.Deep Mem Go.Maps
open Store (strKeys_mem)
theorem strKeys_nodup {D:DataW Value} {fm:Lit->Option Value} (hd:Desc D fm) (hs:∀x,fm x≠none->∃nm,x=.string nm) (hD:∃es,D=.map es/\es.Pairwise (λp q=>p.1≠q.1)/\∀p∈es,WideAt.IsKeyLit p.1): (strKeys D).Nodup:=by
 obtain⟨es,rfl,hp,hk⟩:=hD
 have hall:∀p∈es,∃nm,p.1=.string nm:=λp hp=>by
  have h1:Maps.has (.map es) p.1=true:=List.any_eq_true.2 ⟨p,hp,WideAt.sameKey_self (hk p hp)⟩;rw[(hd p.1).1]at h1;exact hs p.1 (λh=>by rw[h]at h1;cases h1)
 clear hd hk hs;show(List.map _ es).Nodup;refine List.pairwise_map.2 ?_
 induction es with
 |nil=>exact List.Pairwise.nil
 |cons a r ih=>
  obtain⟨h1,h2⟩:=List.pairwise_cons.1 hp;refine List.pairwise_cons.2 ⟨λb hb e=>?_,ih h2 (λp hp=>hall p (List.mem_cons_of_mem _ hp))⟩;obtain⟨x,hx⟩:=hall a (by simp);obtain⟨y,hy⟩:=hall b (List.mem_cons_of_mem _ hb);rw[hx,hy]at e;have e2:x=y:=e;exact h1 b hb (by rw[hx,hy,e2])
theorem sorted_names {ss keys:List (List UInt8)} (hp:ss.Perm keys) (hn:keys.Nodup): (ss.mergeSort (λx y=>decide (x<=y))).Pairwise (·< ·):=by
 have h1: (ss.mergeSort (λx y=>decide (x<=y))).Pairwise (λx y=>decide (x<=y)=true):=List.pairwise_mergeSort (le:=λx y=>decide (x<=y)) (λa b c h1 h2=>by
  simp only[decide_eq_true_eq]at h1 h2⊢;exact List.le_trans h1 h2) (λa b=>by
  rw[Bool.or_eq_true,decide_eq_true_eq,decide_eq_true_eq];exact List.le_total a b) ss
 have h2: (ss.mergeSort (λx y=>decide (x<=y))).Nodup:=((List.mergeSort_perm ss _).trans hp).nodup_iff.2 hn;refine(h1.and h2).imp (fun{a b} h=>?_);obtain⟨h3,h4⟩:=h;simp only[decide_eq_true_eq]at h3;rcases List.le_iff_lt_or_eq.1 h3 with h5|h5
 ·exact h5
 ·exact absurd h5 h4
open Mani in
theorem cmp_lt {b c:List UInt8} {sb sc:ByteArray} (hb:sv b=.string sb) (hc:sv c=.string sc):cmpI sb sc<0↔b<c:=by
 unfold sv at hb hc;injection hb with hb;injection hc with hc;subst hb hc;unfold cmpI;rw[Lib.toList_data,Lib.toList_data,bytesLess_eq]
 by_cases h:b<c
 ·have e:decide (b.toArray.toList<c.toArray.toList)=true:=jd h;rw[if_pos e];exact⟨λ_=>h,λ_=>by decide⟩
 ·have e:¬decide (b.toArray.toList<c.toArray.toList)=true:=by simpa using h
  rw[if_neg e];refine⟨λh2=>?_,λh2=>absurd h2 h⟩
  split at h2 <;> simp at h2
theorem res_set {W:World} {r:Nat} {x y z:Value} (h:Blk W r 34 #[x,y,z]) (A B D:Value):
  (((W.setCell ⟨r,0,none⟩ A).setCell ⟨r,1,none⟩ B).setCell ⟨r,2,none⟩ D).cell? ⟨r,0,none⟩=some A/\(((W.setCell ⟨r,0,none⟩ A).setCell ⟨r,1,none⟩ B).setCell ⟨r,2,none⟩ D).cell? ⟨r,1,none⟩=some B/\(((W.setCell ⟨r,0,none⟩ A).setCell ⟨r,1,none⟩ B).setCell ⟨r,2,none⟩ D).cell? ⟨r,2,none⟩=some D:=by
 have hf:=((h.set 0 A).set 1 B).set 2 D;exact⟨hf.cell 0,hf.cell 1,hf.cell 2⟩
theorem below_res {B:Nat} {a W:World} {r:Nat} (h:Below B a W) (hr:B<=r) (x y z:Value):Below B a (((W.setCell ⟨r,0,none⟩ x).setCell ⟨r,1,none⟩ y).setCell ⟨r,2,none⟩ z):=((h.setCell hr x).setCell hr y).setCell hr z
open Mani in
theorem toNat_iv {k:List Bool} {N:Int}: ((Ext.takeL k N).map Int.toNat).map iv=(Ext.takeL k N).map (Value.int .i64):=by
 rw[List.map_map];refine List.map_congr_left (λx hx=>?_);obtain⟨i,rfl,_⟩:=takeL_mem hx
 rfl
end Full
namespace Read
open Go.RowKit Go.Deep Mem Crc Mani Full
open Store (nv)
theorem conv_b {va:Option Addr} {vc:Nat} {b:List UInt8} {w:World} (hL:Lies w va (b.map bv)): (convert 22 9 (.slice va b.length vc)).run Tryz.prog w=.ok (sv b) w:=by
 cases va with
 |none=>
  have e0:b= []:=by
   rcases hL with h|⟨g,o,h,_⟩
   ·exact List.map_eq_nil_iff.1 h
   ·cases h
  subst e0;show(convert 22 9 (.slice none 0 vc)).run Tryz.prog w=.ok (.string ⟨#[]⟩) w
  kernel_rfl
 |some ad=>exact run_convert_bytes_back w 22 9 5 _ vc _ Tryz.underlying22 Tryz.underlying5 Tryz.underlying9 (λj hj=>lies_add hL j _ (by simp[hj,bv]))
def ReadsM (w:World) (M:Man) (e:Ending) (w':World):Prop:=Below w.heap.size w w'/\∃(a:Option Addr) (c:Nat) (l:List FR),e=.returned (.tuple #[.agg #[.int .u64 (M.ver:Int),.int .u32 (M.next:Int),.slice a l.length c],.int .i64 M.err])/\l.map FR.f=M.fs/\FilesIn w' a l/\(∀b,Mem.blk a=some b->w.heap.size<=b/\b<w'.heap.size)/\∀x∈l,∀b,Mem.blk x.a=some b->w.heap.size<=b/\b<w'.heap.size
theorem RS.gives {w W:World} {r q rd ver next:Nat} {a:Option Addr} {n c:Nat} {l:List FR} {s:St} {F:List Fil×St} (h:RS w r q rd ver next (.slice a n c) l s W) (hF: (l.map FR.f,s)=F):
  ReadsM w ⟨ver,next,F.1,endE F.2.1 F.2.2⟩ (.returned (.tuple #[.agg #[.int .u64 (ver:Int),.int .u32 (next:Int),.slice a n c],.int .i64 (endE s.1 s.2)])) (((W.setCell ⟨r,0,none⟩ (.int .u64 (ver:Int))).setCell ⟨r,1,none⟩ (.int .u32 (next:Int))).setCell ⟨r,2,none⟩ (.slice a n c)):=by
 subst hF;have h1:=own_ne_blk h.row h.res (by decide);have hrow:=own_far (own_far (own_far h.row h1 (p:=⟨r,0,none⟩) (.int .u64 (ver:Int))) h1 (p:=⟨r,1,none⟩) (.int .u32 (next:Int))) h1 (p:=⟨r,2,none⟩) (.slice a n c);obtain⟨a2,c2,e,_,hL,hg,_⟩:=own_shape hrow;cases e;refine⟨below_res h.below h.gr _ _ _,a,c,l,rfl,rfl,⟨hL,λx hx=>?_⟩,hg,λx hx b hb=>?_⟩
 ·have h2:=own_ne_blk (h.blocks x hx) h.res (by decide);obtain⟨a3,c3,e3,hc3,hL3,_,_⟩:=own_shape (own_far (own_far (own_far (h.blocks x hx) h2 (p:=⟨r,0,none⟩) (.int .u64 (ver:Int))) h2 (p:=⟨r,1,none⟩) (.int .u32 (next:Int))) h2 (p:=⟨r,2,none⟩) (.slice a l.length c));cases e3;exact⟨hL3,hc3⟩
 ·obtain⟨a3,c3,e3,_,_,hg3,_⟩:=own_shape (h.blocks x hx);cases e3;have:=hg3 b hb
  simpa using this
attribute [local go_sem] Oper.semAt_some
theorem read_any (a:Option Addr) (cap:Nat) (bs:List UInt8) (w:World) (hc:bs.length<=cap) (hn:bs.length<=100000) (hL:Lies w a (bs.map bv)) (ha:∀k,Mem.blk a=some k->k<w.heap.size):
  Calls Tryz.prog 85 #[.slice a bs.length cap] w (ReadsM w (readS bs)):=by
 obtain⟨s0,hs0⟩:∃s:St,s=(bs,0):=⟨_,rfl⟩;obtain⟨s1,hs1⟩:=jl ((numS 18446744073709551615 s0).2);obtain⟨ver,hver⟩:=jl ((numS 18446744073709551615 s0).1);obtain⟨s2,hs2⟩:=jl ((numS 4294967295 s1).2);obtain⟨next,hnext⟩:=jl ((numS 4294967295 s1).1);obtain⟨s3,hs3⟩:=jl ((numS 2048 s2).2);obtain⟨cnt,hcnt⟩:=jl ((numS 2048 s2).1);obtain⟨F,hF⟩:=jl (filesS cnt s3 [])
 have hM:readS bs=⟨ver,next,F.1,endE F.2.1 F.2.2⟩:=by
  rw[hF,hcnt,hs3,hnext,hs2,hver,hs1,hs0]
  rfl
 rw[hM];have hnext2:next<=4294967295:=by rw[hnext];exact(numS_le _ _).1
 have hcnt2:cnt<=2048:=by rw[hcnt];exact(numS_le _ _).1
 have hnw:IntKind.u32.wrap (next:Int)=(next:Int):=by rw[IntKind.wrap_u32];omega
 obtain⟨W0,hW0⟩:=jl (w.alloc (.cells #[.int .u64 0,.int .u32 0,.slice none 0 0] 34));obtain⟨r,hr⟩:=jl w.heap.size;have hB0:Below w.heap.size w W0:=by rw[hW0];exact(Below.refl _ w).alloc jn _
 have hres:Blk W0 r 34 #[.int .u64 0,.int .u32 0,.slice none 0 0]:=by rw[hW0,hr];exact Blk.new w _ _
 have hnew:=new_any w.heap.size a cap bs W0 hc (by omega) (hL.later hB0) ha hB0.size;obtain⟨n,hnl⟩:=jl bs.length;rw[<-hnl]at hnew⊢;have HNEW:=jq hnew;have HB0:=jq hB0;have HRES:=jq hres;have HS0:=jq hs0;have HS1:=jq hs1;have HV:=jq hver;have HS2:=jq hs2;have HX:=jq hnext;have HS3:=jq hs3;have HCN:=jq hcnt;have HFF:=jq hF;have HRE:=jq hr;clear hc hn hL ha hnew hB0 hres hs0 hs1 hver hs2 hnext hs3 hcnt hF hM hnl
 go_enter Tryz.func85,Tryz.ntmps85
 go_wp2_with fail
 rw[<-hW0,<-hr];clear hW0 hr;refine HNEW.out.mono ?_;rintro e w1 ⟨rd,rfl,hR1,hrd,hB1⟩
 have HN1:Hid (Calls Tryz.prog 119 #[.pointer (some ⟨rd,0,none⟩),.int .u64 18446744073709551615] w1 λe w'=>e=.returned (.int .u64 (ver:Int))/\Rd w.heap.size w' rd s1.1 s1.2/\Only [rd] w1 w'):=jq (by
  have h0:Rd w.heap.size w1 rd s0.1 s0.2:=by rw[HS0.out];exact hR1
  have:=numS_any h0 18446744073709551615 (by decide);rw[<-HV.out,<-HS1.out]at this;exact this)
 have hres1:=HRES.out.below hB1 HRES.out.lt;have HRES1:=jq hres1;have HB1:=jq (HB0.out.trans (hB1.mono HB0.out.size));have HRD:=jq hrd;clear hR1 hrd hB1 hres1 HNEW
 go_wp2_with fail
 refine HN1.out.mono ?_;rintro e w2 ⟨rfl,hR2,hO2⟩
 have HN2:Hid (Calls Tryz.prog 119 #[.pointer (some ⟨rd,0,none⟩),.int .u64 4294967295] w2 λe w'=>e=.returned (.int .u64 (next:Int))/\Rd w.heap.size w' rd s2.1 s2.2/\Only [rd] w2 w'):=jq (by
  have:=numS_any hR2 4294967295 (by decide);rw[<-HX.out,<-HS2.out]at this;exact this)
 have HO2:=jq hO2;clear hR2 hO2 HN1
 go_wp2_with fail
 refine HN2.out.mono ?_;rintro e w3 ⟨rfl,hR3,hO3⟩;obtain⟨W4,hW4⟩:=jl (w3.alloc (.cells #[.int .u64 (ver:Int),.int .u32 (next:Int),.slice none 0 0] 34));obtain⟨q,hq⟩:=jl w3.heap.size;have hB4:Below w3.heap.size w3 W4:=by rw[hW4];exact(Below.refl _ w3).alloc jn _
 have hman:Blk W4 q 34 #[.int .u64 (ver:Int),.int .u32 (next:Int),.slice none 0 0]:=by rw[hW4,hq];exact Blk.new w3 _ _
 obtain⟨cs3,hrb3,hrg3⟩:=hR3.blk;have hu13:Upon (λk=>k=rd) w1 w3:=(Upon.of_only HO2.out (λg hg=>.inl (jE.1 hg))).trans (Upon.of_only hO3 (λg hg=>.inl (jE.1 hg))) (λ_ hk=>.inl hk)
 have hrr:r≠rd:=λe=>by
  have h1:=HRES1.out.lt;have h2:=HB0.out.size;have h3:=HRES.out.lt;have h4:=HRD.out
  omega
 have hres3:=HRES1.out.upon hu13 hrr;have hBw3:Below w.heap.size w w3:=HB1.out.trans (hu13.below HB1.out.size (λk hk=>by have:=HRD.out;have:=HB0.out.size;omega));have hrs4:RS w r q rd ver next (.slice none 0 0) [] s2 W4:=⟨hBw3.trans (hB4.mono hBw3.size),hres3.below hB4 hres3.lt,hman,World.ownsRow_nil _ _ _ _,λx hx=>(by cases hx),hR3.later hB4,by rw[hq];exact hBw3.size,by rw[HRE.out];exact Nat.le_refl _,λe=>by have:=hres3.lt;omega⟩;have HRS4:=jq hrs4
 have HN3:Hid (Calls Tryz.prog 119 #[.pointer (some ⟨rd,0,none⟩),.int .u64 2048] W4 λe w'=>e=.returned (.int .u64 (cnt:Int))/\Rd w.heap.size w' rd s3.1 s3.2/\Only [rd] W4 w'):=jq (by
  have:=numS_any hrs4.rd 2048 (by decide);rw[<-HCN.out,<-HS3.out]at this;exact this)
 clear hR3 hO3 HN2 hB4 hman hrb3 hrg3 hu13 hrr hres3 hBw3 hrs4 HRES HRES1
 go_wp2_with fail
 rw[<-hW4,<-hq];clear hW4 hq;refine HN3.out.mono ?_;rintro e w5 ⟨rfl,hR5,hO5⟩;have HRS5:=jq (HRS4.out.read (s':=s3) hO5 hR5);have HF0:Hid (filesS cnt s3 (([]:List FR).map FR.f)=F):=jq HFF.out.symm;clear hR5 hO5 HN3 HRS4
 go_wp2_with fail
 go_loopw[6] (λn6 wr=>∃(k:Nat) (u:Value) (l:List FR) (s:St),n6=.int .u64 (k:Int)/\k<=2048/\l.length+k<=2048/\Hid (RS w r q rd ver next u l s wr)/\Hid (filesS k s (l.map FR.f)=F)) (λn6 _=>(intOf n6).toNat)
 case atStart=>exact⟨cnt,_,[],s3,rfl,hcnt2,by simpa using hcnt2,HRS5,HF0⟩
 case round=>
  obtain⟨k,u,l,s,rfl,hk,hlk,hRS,hFS⟩:=hrel
  by_cases hgo:0<k/\s.2=0
  ·have hk0:decide (0<k)=true:=jd hgo.1;have HERR:Hid (Calls Tryz.prog 120 #[.pointer (some ⟨rd,0,none⟩)] wr λe w'=>e=.returned (.int .i64 0)/\w'=wr):=jq (by have:=err_any hRS.out.rd;rw[hgo.2]at this;exact this);obtain⟨ln,hln⟩:=jl ((numS 32 s).1);obtain⟨t1,ht1⟩:=jl ((numS 32 s).2);obtain⟨nmb,hnmb⟩:=jl ((bytesS ln t1).1);obtain⟨t2,ht2⟩:=jl ((bytesS ln t1).2);obtain⟨id,hid⟩:=jl ((numS 4294967295 t2).1);obtain⟨t3,ht3⟩:=jl ((numS 4294967295 t2).2);obtain⟨sz,hsz⟩:=jl ((numS 7340032 t3).1);obtain⟨t4,ht4⟩:=jl ((numS 7340032 t3).2);obtain⟨BL,hBL⟩:=jl (blocksS (Mani.many sz) t4 [])
   have hfile:fileS s=(⟨nmb,id,sz,BL.1⟩,BL.2):=by
    unfold fileS headS;dsimp only;rw[<-hln,<-ht1,<-hnmb,<-ht2,<-hid,<-ht3,<-hsz,<-ht4,<-hBL]
   have hln32:ln<=32:=by rw[hln];exact(numS_le _ _).1
   have hid32:id<=4294967295:=by rw[hid];exact(numS_le _ _).1
   have hszm:sz<=7340032:=by rw[hsz];exact(numS_le _ _).1
   have hnm32:nmb.length<=32:=by rw[hnmb];have:=(bytesS_le ln t1).1;omega
   have hw1:IntKind.i64.wrap (ln:Int)=(ln:Int):=by rw[IntKind.wrap_i64];omega
   have hw2:IntKind.u32.wrap (id:Int)=(id:Int):=by rw[IntKind.wrap_u32];omega
   have hw3:IntKind.i64.wrap (sz:Int)=(sz:Int):=by rw[IntKind.wrap_i64];omega
   have HNA:Hid (Calls Tryz.prog 119 #[.pointer (some ⟨rd,0,none⟩),.int .u64 32] wr λe w'=>e=.returned (.int .u64 (ln:Int))/\Rd w.heap.size w' rd t1.1 t1.2/\Only [rd] wr w'):=jq (by
    have:=numS_any hRS.out.rd 32 (by decide);rw[<-hln,<-ht1]at this;exact this)
   have HNM:=jq hnmb;have HT2:=jq ht2;have HID:=jq hid;have HT3:=jq ht3;have HSZ:=jq hsz;have HT4:=jq ht4;have HBL:=jq hBL;have HFILE:=jq hfile;have HGO:=jq hgo;clear hln ht1 hnmb ht2 hid ht3 hsz ht4 hBL hfile hgo
   go_wp2_with fail
   refine HERR.out.mono ?_;rintro e w6 ⟨rfl,rfl⟩
   go_wp2_with fail
   refine HNA.out.mono ?_;rintro e w7 ⟨rfl,hR7,hO7⟩;have hrs7:=hRS.out.read (s':=t1) hO7 hR7;have HBY:=jq (bytesS_any (s:=t1) hrs7.rd ln (by omega));have HRS7:=jq hrs7;clear hR7 hO7 hrs7 HNA
   go_wp2_with fail
   refine HBY.out.mono ?_;rintro e w8 ⟨v8,rfl,hO8,hR8,hU8⟩;rw[<-HNM.out]at hO8;rw[<-HT2.out]at hR8;obtain⟨a8,c8,rfl,_,hL8,_,_⟩:=own_shape hO8;have hcv:=conv_b (vc:=c8) hL8;obtain⟨sb,hsb⟩:∃sb:ByteArray,sv nmb=.string sb:=⟨_,rfl⟩;rw[hsb]at hcv;have HRS8:=jq (HRS7.out.readU (s':=t2) hU8 hR8);have HSB:=jq hsb;obtain⟨nl,hnl⟩:=jl nmb.length;rw[<-hnl]at hcv hnm32⊢;clear hO8 hR8 hU8 hL8 hsb hnl HBY
   go_wp2_with fail
   obtain⟨W9,hW9⟩:=jl (w8.alloc (.cells #[.string sb,.int .u32 0,.int .i64 0,.slice none 0 0] 96));obtain⟨fb,hfb⟩:=jl w8.heap.size;have hbs9:BS w r q rd ver next u l fb (.string sb) 0 0 (.slice none 0 0) [] t2 W9:=by rw[hW9,hfb];exact BS.start HRS8.out (.string sb) 0 0
   rw[<-hW9,<-hfb]
   have HNI:Hid (Calls Tryz.prog 119 #[.pointer (some ⟨rd,0,none⟩),.int .u64 4294967295] W9 λe w'=>e=.returned (.int .u64 (id:Int))/\Rd w.heap.size w' rd t3.1 t3.2/\Only [rd] W9 w'):=jq (by
    have:=numS_any hbs9.rs.rd 4294967295 (by decide);rw[<-HID.out,<-HT3.out]at this;exact this)
   have HBS9:=jq hbs9;clear hW9 hfb hbs9 hcv;refine HNI.out.mono ?_;rintro e w10 ⟨rfl,hR10,hO10⟩;have hbs10:=HBS9.out.read (s':=t3) hO10 hR10
   have HNS:Hid (Calls Tryz.prog 119 #[.pointer (some ⟨rd,0,none⟩),.int .u64 7340032] w10 λe w'=>e=.returned (.int .u64 (sz:Int))/\Rd w.heap.size w' rd t4.1 t4.2/\Only [rd] w10 w'):=jq (by
    have:=numS_any hbs10.rs.rd 7340032 (by decide);rw[<-HSZ.out,<-HT4.out]at this;exact this)
   have HBS10:=jq hbs10;clear hR10 hO10 hbs10 HNI
   go_wp2_with fail
   refine HNS.out.mono ?_;rintro e w11 ⟨rfl,hR11,hO11⟩;have hbs11:=HBS10.out.read (s':=t4) hO11 hR11;have z1:=hbs11.box.frozen 1;have z2:=hbs11.box.frozen 2;have hd1:=hbs11.box.cell 1;have hd2:=hbs11.box.cell 2
   simp at hd1 hd2
   have hbs12:=hbs11.set (id':=id) (sz':=0) (bu':=.slice none 0 0) (acc':=[]) 1 (.int .u32 (id:Int)) (hbs11.box.set 1 _) hbs11.bl;have hbs13:=hbs12.set (id':=id) (sz':=sz) (bu':=.slice none 0 0) (acc':=[]) 2 (.int .i64 (sz:Int)) (hbs12.box.set 2 _) hbs12.bl;have hd3:=hbs13.box.cell 2
   simp at hd3
   have HBS13:=jq hbs13;obtain⟨mn,hmn⟩:=jl (Mani.many sz);have hmn2:mn<=70000:=by rw[hmn];unfold Mani.many;split <;> omega
   obtain⟨W13,hW13⟩:=jl ((w11.setCell ⟨fb,1,none⟩ (.int .u32 (id:Int))).setCell ⟨fb,2,none⟩ (.int .i64 (sz:Int)));rw[<-hW13]at HBS13;have HMY:=jq (many_any sz (by omega) W13);rw[<-hmn]at HMY;have HB0L:Hid (blocksS mn t4 []=BL):=jq (by rw[hmn];exact HBL.out.symm);rw[hW13]at HMY;clear hR11 hO11 hbs11 hbs12 hbs13 HNS hmn
   go_wp2_with fail
   refine HMY.out.mono ?_;rw[<-hW13];rintro e w14 ⟨rfl,rfl⟩;clear hd3 hd1 hd2 z1 z2 hW13 HMY
   go_wp2_with fail
   go_loopw[45] (λi wr2=>∃(j:Nat) (bu:Value) (acc:List Nat) (t:St),i=.int .i64 (j:Int)/\j<=mn/\acc.length<=j/\Hid (BS w r q rd ver next u l fb (.string sb) id sz bu acc t wr2)/\Hid (blocksS (mn-j) t acc=BL)) (λi _=>mn-(intOf i).toNat)
   case atStart=>exact⟨0,_,[],t4,rfl,Nat.zero_le _,Nat.zero_le _,HBS13,HB0L⟩
   case round=>
    obtain⟨j,bu,acc,tt,rfl,hj,haj,hBS,hBK⟩:=hrel
    by_cases hlt:j<mn
    ·have hjd:decide ((j:Int) <(mn:Int))=true:=jd (by omega);have HER2:=jq (err_any hBS.out.rs.rd)
     by_cases hz:tt.2=0
     ·rw[hz]at HER2;obtain⟨ba,bc,rfl,hbc,_,_,_⟩:=own_shape hBS.out.bl;obtain⟨vb,hvb⟩:=jl ((numS 65536 tt).1);obtain⟨t6,ht6⟩:=jl ((numS 65536 tt).2);have hvb2:vb<=65536:=by rw[hvb];exact(numS_le _ _).1
      have hwv:IntKind.i64.wrap (vb:Int)=(vb:Int):=by rw[IntKind.wrap_i64];omega
      have hbk2:blocksS (mn-(j+1)) t6 (acc++ [vb])=BL:=by
       have h1:=hBK.out;rw[show mn-j=(mn-(j+1))+1 by omega]at h1;unfold blocksS at h1;rw[if_pos hz,<-hvb,<-ht6]at h1;exact h1
      have hbsd:=hBS.out.later (Below.refl _ wr).drew
      have HNV:Hid (Calls Tryz.prog 119 #[.pointer (some ⟨rd,0,none⟩),.int .u64 65536] wr.drew λe w'=>e=.returned (.int .u64 (vb:Int))/\Rd w.heap.size w' rd t6.1 t6.2/\Only [rd] wr.drew w'):=jq (by
       have:=numS_any hbsd.rs.rd 65536 (by decide);rw[<-hvb,<-ht6]at this;exact this)
      have hk1:wr.drew.cell? ⟨fb,3,none⟩=some (.slice ba acc.length bc):=hbsd.box.cell 3;have HBSD:=jq hbsd;have HBK2:=jq hbk2;obtain⟨al,hal⟩:=jl acc.length;rw[<-hal]at hk1;have HAL:=jq hal;clear hbk2 hvb ht6 hbsd hBS hBK hbc hal
      go_wp2_with fail
      refine HER2.out.mono ?_;rintro e wr ⟨rfl,rfl⟩
      go_wp2_with fail
      go_region_law ((first|(go_simp;go_at_call 119;refine HNV.out.mono ?_;rintro e w16 ⟨rfl,hR16,hO16⟩;have hbs16:=HBSD.out.read (s':=t6) hO16 hR16;have hk2:=hbs16.box.cell 3;simp only[jt,ja,jb]at hk2;rw[<-HAL.out]at hk2;obtain⟨v17,w17,hr17,hrow17,hg17⟩:=append_int w16 51 _ acc hbs16.bl vb (by omega) (Nat.le_of_lt hbs16.box.lt);have hk2a: (w16.alloc (.cells #[.int .i64 (vb:Int)] 3)).cell? ⟨fb,3,none⟩=some (.slice ba al bc):=(((Below.refl _ w16).alloc jn _).cell (p:=⟨fb,3,none⟩) hbs16.box.lt).trans hk2;have hu17:Upon (λy=>(Value.slice ba acc.length bc).ownBlock=some y) w16 w17:=Upon.of_grown hg17 (λg hg=>.inl hg);have hbx17:=hbs16.box.upon hu17 (own_ne_blk hbs16.bl hbs16.box (by decide));have hk3:=hbx17.cell 3;have hz17:=hbx17.frozen 3;simp only[jt,ja,jb]at hk3;rw[<-HAL.out]at hk3 hr17;unfold iv at hr17;obtain⟨a17,c17,rfl,_,_,_,_⟩:=own_shape hrow17;have hbs18:=hbs16.grow (acc':=acc++ [vb]) hg17 hrow17;obtain⟨l17,hl17⟩:=jl ((acc++ [vb]).length);rw[<-hl17]at hr17 hbs18;have HBS18:=jq hbs18;clear hbs18 hbs16 hrow17 hg17 hu17 hbx17 hR16 hO16 hl17;dsimp only)|(refine step_append_run rfl (.tmp 51) (.tmp 55) 51 51 rfl _ _ rfl rfl hr17 ?_)))
      all_goals go_wp2_with fail
      all_goals exact⟨⟨j+1,_,acc++ [vb],t6,by simp,by omega,by rw[jL,List.length_singleton];omega,HBS18,HBK2⟩,by simp[intOf];omega⟩
     ·have hfin: (acc,tt)=BL:=by
       have h1:=hBK.out;obtain⟨d,hd⟩:∃d,mn-j=d+1:=⟨mn-j-1,by omega⟩;rw[hd]at h1;unfold blocksS at h1;rw[if_neg hz]at h1;exact h1
      obtain⟨te,hte⟩:=jl tt.2;have hteb: (te==0)=false:=by rw[hte];simpa using hz
      rw[<-hte]at HER2;clear hte hz
      go_wp2_with fail
      refine HER2.out.mono ?_;rintro e wr ⟨rfl,rfl⟩;obtain⟨ba,bc,rfl,hbc,hbL,hbg,_⟩:=own_shape hBS.out.bl;obtain⟨xf,hxf⟩:∃x:FR,x=⟨⟨nmb,id,sz,acc⟩,ba,bc⟩:=⟨_,rfl⟩;have hvs:xf.vs= [.string sb,.int .u32 (id:Int),.int .i64 (sz:Int),.slice ba acc.length bc]:=by rw[hxf,<-HSB.out];rfl
      have hxn:xf.f=(fileS s).1:=by rw[HFILE.out,hxf,<-hfin]
      obtain⟨v13,w13,hr13,hrow13,hg13⟩:=append_file wr 32 u l hBS.out.rs.row xf (by omega) hBS.out.rs.below.size;obtain⟨a13,c13,rfl,_,_,_,_⟩:=own_shape hrow13
      have hrs13:=hBS.out.rs.rowed (l':=l++ [xf]) hg13 hrow13 (λy hy=>by
       rcases List.mem_append.1 hy with hy|hy
       ·exact .inl hy
       ·rw[jE.1 hy];refine .inr ?_;rw[hxf];exact own_mono hBS.out.bl hBS.out.gf)
      have hfs13:filesS (k-1) tt ((l++ [xf]).map FR.f)=F:=by
       have h1:=hFS.out;obtain⟨k',hk'⟩:∃k',k=k'+1:=⟨k-1,by have:=HGO.out.1;omega⟩;rw[hk']at h1;unfold filesS at h1;rw[if_pos HGO.out.2]at h1;have h2:tt=(fileS s).2:=by rw[HFILE.out,<-hfin]
       rw[List.map_append,List.map_singleton,hxn,h2,hk'];exact h1
      have g0:=hBS.out.box.cell 0;have g1:=hBS.out.box.cell 1;have g2:=hBS.out.box.cell 2;have g3:=hBS.out.box.cell 3;have m2:=hBS.out.rs.man.cell 2
      have hmz:w13.frozen? ⟨q,2,none⟩=false:=by
       have hu13:Upon (λy=>u.ownBlock=some y) wr w13:=Upon.of_grown hg13 (λg hg=>.inl hg);exact(hBS.out.rs.man.upon hu13 (own_ne_blk hBS.out.rs.row hBS.out.rs.man (by decide))).frozen 2
      have hmc:w13.cell? ⟨q,2,none⟩=some u:=by
       have hu13:Upon (λy=>u.ownBlock=some y) wr w13:=Upon.of_grown hg13 (λg hg=>.inl hg);exact(hBS.out.rs.man.upon hu13 (own_ne_blk hBS.out.rs.row hBS.out.rs.man (by decide))).cell 2
      simp at g0 g1 g2 g3 m2
      rw[hvs]at hr13;obtain⟨ll,hll⟩:=jl ((l++ [xf]).length);rw[<-hll]at hr13 hrs13;have HRS13:=jq hrs13;have HFS13:=jq hfs13;have hkm:k-1+1=k:=by have:=HGO.out.1;omega
      have hlen13: (l++ [xf]).length+(k-1)<=2048:=by rw[jL,List.length_singleton];omega
      have HLEN13:=jq hlen13;obtain⟨km,hkm2⟩:=jl (k-1);rw[<-hkm2]at HFS13 HLEN13;have hki: (k:Int)=(km:Int)+1:=by omega
      have hkl:km<k:=by omega
      have hkx:km<=2048:=by omega
      obtain⟨al,hal⟩:=jl acc.length;rw[<-hal]at hr13 g3;clear hbL hbg hvs hxn hrow13 hg13 hrs13 hfs13 hfin hBS hlen13 hkm hkm2 hxf hbc hal hll
      go_wp2_with (first|(at_builtin;refine Lib.wpList_append_run _ rfl _ _ _ _ rfl _ _ rfl rfl _ _ hr13 ?_))
      exact⟨⟨km,_,_,_,by simp,hkx,HLEN13.out,HRS13,HFS13⟩,by simp[intOf];omega⟩
    ·obtain rfl:mn=j:=by omega
     have hjd:decide ((mn:Int) <(mn:Int))=false:=jf (by omega)
     have hfin: (acc,tt)=BL:=by
      have h1:=hBK.out;rw[Nat.sub_self]at h1;exact h1
     obtain⟨ba,bc,rfl,hbc,hbL,hbg,_⟩:=own_shape hBS.out.bl;obtain⟨xf,hxf⟩:∃x:FR,x=⟨⟨nmb,id,sz,acc⟩,ba,bc⟩:=⟨_,rfl⟩;have hvs:xf.vs= [.string sb,.int .u32 (id:Int),.int .i64 (sz:Int),.slice ba acc.length bc]:=by rw[hxf,<-HSB.out];rfl
     have hxn:xf.f=(fileS s).1:=by rw[HFILE.out,hxf,<-hfin]
     obtain⟨v13,w13,hr13,hrow13,hg13⟩:=append_file wr 32 u l hBS.out.rs.row xf (by omega) hBS.out.rs.below.size;obtain⟨a13,c13,rfl,_,_,_,_⟩:=own_shape hrow13
     have hrs13:=hBS.out.rs.rowed (l':=l++ [xf]) hg13 hrow13 (λy hy=>by
      rcases List.mem_append.1 hy with hy|hy
      ·exact .inl hy
      ·rw[jE.1 hy];refine .inr ?_;rw[hxf];exact own_mono hBS.out.bl hBS.out.gf)
     have hfs13:filesS (k-1) tt ((l++ [xf]).map FR.f)=F:=by
      have h1:=hFS.out;obtain⟨k',hk'⟩:∃k',k=k'+1:=⟨k-1,by have:=HGO.out.1;omega⟩;rw[hk']at h1;unfold filesS at h1;rw[if_pos HGO.out.2]at h1;have h2:tt=(fileS s).2:=by rw[HFILE.out,<-hfin]
      rw[List.map_append,List.map_singleton,hxn,h2,hk'];exact h1
     have g0:=hBS.out.box.cell 0;have g1:=hBS.out.box.cell 1;have g2:=hBS.out.box.cell 2;have g3:=hBS.out.box.cell 3;have m2:=hBS.out.rs.man.cell 2
     have hmz:w13.frozen? ⟨q,2,none⟩=false:=by
      have hu13:Upon (λy=>u.ownBlock=some y) wr w13:=Upon.of_grown hg13 (λg hg=>.inl hg);exact(hBS.out.rs.man.upon hu13 (own_ne_blk hBS.out.rs.row hBS.out.rs.man (by decide))).frozen 2
     have hmc:w13.cell? ⟨q,2,none⟩=some u:=by
      have hu13:Upon (λy=>u.ownBlock=some y) wr w13:=Upon.of_grown hg13 (λg hg=>.inl hg);exact(hBS.out.rs.man.upon hu13 (own_ne_blk hBS.out.rs.row hBS.out.rs.man (by decide))).cell 2
     simp at g0 g1 g2 g3 m2
     rw[hvs]at hr13;obtain⟨ll,hll⟩:=jl ((l++ [xf]).length);rw[<-hll]at hr13 hrs13;have HRS13:=jq hrs13;have HFS13:=jq hfs13;have hkm:k-1+1=k:=by have:=HGO.out.1;omega
     have hlen13: (l++ [xf]).length+(k-1)<=2048:=by rw[jL,List.length_singleton];omega
     have HLEN13:=jq hlen13;obtain⟨km,hkm2⟩:=jl (k-1);rw[<-hkm2]at HFS13 HLEN13;have hki: (k:Int)=(km:Int)+1:=by omega
     have hkl:km<k:=by omega
     have hkx:km<=2048:=by omega
     obtain⟨al,hal⟩:=jl acc.length;rw[<-hal]at hr13 g3;clear hbL hbg hvs hxn hrow13 hg13 hrs13 hfs13 hfin hBS hlen13 hkm hkm2 hxf hbc hal hll
     go_wp2_with (first|(at_builtin;refine Lib.wpList_append_run _ rfl _ _ _ _ rfl _ _ rfl rfl _ _ hr13 ?_))
     exact⟨⟨km,_,_,_,by simp,hkx,HLEN13.out,HRS13,HFS13⟩,by simp[intOf];omega⟩
  ·by_cases hk0:k=0
   ·subst hk0;have hFe: (l.map FR.f,s)=F:=hFS.out;have hki:decide (0<0)=false:=rfl
    go_wp2_with fail
    have hres:=hRS.out.res;have z0:=hres.frozen 0;have z1:=hres.frozen 1;have z2:=hres.frozen 2;obtain⟨ua,uc,rfl,_,_,_,_⟩:=own_shape hRS.out.row;obtain⟨ul,hul⟩:=jl l.length;rw[<-hul]at hRS;have m0:=hRS.out.man.cell 0;have m1:=hRS.out.man.cell 1;have m2:=hRS.out.man.cell 2;have HEND:=jq (end_any (hRS.out.later (Below.refl _ wr).drew).rd);have HG:=jq ((hRS.out.later (Below.refl _ wr).drew).gives (F:=F));have y0:=res_set hRS.out.res (.int .u64 (ver:Int)) (.int .u32 (next:Int)) (.slice ua ul uc);have hfar:=(((hRS.out.later (Below.refl _ wr).drew).man.far (p:=⟨r,0,none⟩) hRS.out.ne (.int .u64 (ver:Int))).far (p:=⟨r,1,none⟩) hRS.out.ne (.int .u32 (next:Int))).far (p:=⟨r,2,none⟩) hRS.out.ne (.slice ua ul uc);have hS1: (λw':World=>w'.cell? ⟨q,0,none⟩=some (.int .u64 (ver:Int))/\w'.cell? ⟨q,1,none⟩=some (.int .u32 (next:Int))/\w'.cell? ⟨q,2,none⟩=some (.slice ua ul uc)) wr.drew:=⟨m0,m1,m2⟩;have hS2: (λw':World=>w'.cell? ⟨q,0,none⟩=some (.int .u64 (ver:Int))/\w'.cell? ⟨q,1,none⟩=some (.int .u32 (next:Int))/\w'.cell? ⟨q,2,none⟩=some (.slice ua ul uc)) (((wr.drew.setCell ⟨r,0,none⟩ (.int .u64 (ver:Int))).setCell ⟨r,1,none⟩ (.int .u32 (next:Int))).setCell ⟨r,2,none⟩ (.slice ua ul uc)):=⟨hfar.cell 0,hfar.cell 1,hfar.cell 2⟩;obtain⟨ee,hee⟩:=jl (endE s.1 s.2);rw[<-hee]at HEND;have HEE:=jq hee;have r06:=hres.cell 0;have r16:=hres.cell 1;have r26:=hres.cell 2;simp only[jt,ja,jb]at r06 r16 r26;have HFE:=jq hFe;clear hres hfar hul hee hFe
    go_wp2_with fail
    go_region_held3 (λw'=>w'.cell? ⟨q,0,none⟩=some (.int .u64 (ver:Int))/\w'.cell? ⟨q,1,none⟩=some (.int .u32 (next:Int))/\w'.cell? ⟨q,2,none⟩=some (.slice ua ul uc)) (first|exact hS1|exact hS2) (first|(go_at_call 122;refine HEND.out.mono ?_;rintro e w6 ⟨rfl,rfl⟩;dsimp only))
    obtain⟨y0,y1,y2⟩:=y0;have hgv:=HG.out HFE.out;rw[<-HEE.out]at hgv
    go_wp2_with fail
    refine bodyPost_ret (v:=.tuple #[.agg #[.int .u64 (ver:Int),.int .u32 (next:Int),.slice ua ul uc],.int .i64 ee]) (by simp[results,Tryz.f85,go_sem,y0,y1,y2]) rfl ?_;exact hgv
   ·have hz:s.2≠0:=λe=>hgo ⟨by omega,e⟩
    have hkd:decide (0<k)=true:=jd (by omega)
    have hFe: (l.map FR.f,s)=F:=by
     have h1:=hFS.out;obtain⟨k',hk'⟩:∃k',k=k'+1:=⟨k-1,by omega⟩;rw[hk']at h1;unfold filesS at h1;rw[if_neg hz]at h1;exact h1
    have HERR:=jq (err_any hRS.out.rd);obtain⟨se,hse⟩:=jl s.2;have hseb: (se==0)=false:=by rw[hse];simpa using hz
    rw[<-hse]at HERR;clear hse hz hgo
    go_wp2_with fail
    refine HERR.out.mono ?_;rintro e wr ⟨rfl,rfl⟩
    go_wp2_with fail
    have hres:=hRS.out.res;have z0:=hres.frozen 0;have z1:=hres.frozen 1;have z2:=hres.frozen 2;obtain⟨ua,uc,rfl,_,_,_,_⟩:=own_shape hRS.out.row;obtain⟨ul,hul⟩:=jl l.length;rw[<-hul]at hRS;have m0:=hRS.out.man.cell 0;have m1:=hRS.out.man.cell 1;have m2:=hRS.out.man.cell 2;have HEND:=jq (end_any (hRS.out.later (Below.refl _ wr).drew).rd);have HG:=jq ((hRS.out.later (Below.refl _ wr).drew).gives (F:=F));have y0:=res_set hRS.out.res (.int .u64 (ver:Int)) (.int .u32 (next:Int)) (.slice ua ul uc);have hfar:=(((hRS.out.later (Below.refl _ wr).drew).man.far (p:=⟨r,0,none⟩) hRS.out.ne (.int .u64 (ver:Int))).far (p:=⟨r,1,none⟩) hRS.out.ne (.int .u32 (next:Int))).far (p:=⟨r,2,none⟩) hRS.out.ne (.slice ua ul uc);have hS1: (λw':World=>w'.cell? ⟨q,0,none⟩=some (.int .u64 (ver:Int))/\w'.cell? ⟨q,1,none⟩=some (.int .u32 (next:Int))/\w'.cell? ⟨q,2,none⟩=some (.slice ua ul uc)) wr.drew:=⟨m0,m1,m2⟩;have hS2: (λw':World=>w'.cell? ⟨q,0,none⟩=some (.int .u64 (ver:Int))/\w'.cell? ⟨q,1,none⟩=some (.int .u32 (next:Int))/\w'.cell? ⟨q,2,none⟩=some (.slice ua ul uc)) (((wr.drew.setCell ⟨r,0,none⟩ (.int .u64 (ver:Int))).setCell ⟨r,1,none⟩ (.int .u32 (next:Int))).setCell ⟨r,2,none⟩ (.slice ua ul uc)):=⟨hfar.cell 0,hfar.cell 1,hfar.cell 2⟩;obtain⟨ee,hee⟩:=jl (endE s.1 s.2);rw[<-hee]at HEND;have HEE:=jq hee;have r06:=hres.cell 0;have r16:=hres.cell 1;have r26:=hres.cell 2;simp only[jt,ja,jb]at r06 r16 r26;have HFE:=jq hFe;clear hres hfar hul hee hFe
    go_wp2_with fail
    go_region_held3 (λw'=>w'.cell? ⟨q,0,none⟩=some (.int .u64 (ver:Int))/\w'.cell? ⟨q,1,none⟩=some (.int .u32 (next:Int))/\w'.cell? ⟨q,2,none⟩=some (.slice ua ul uc)) (first|exact hS1|exact hS2) (first|(go_at_call 122;refine HEND.out.mono ?_;rintro e w6 ⟨rfl,rfl⟩;dsimp only))
    obtain⟨y0,y1,y2⟩:=y0;have hgv:=HG.out HFE.out;rw[<-HEE.out]at hgv
    go_wp2_with fail
    refine bodyPost_ret (v:=.tuple #[.agg #[.int .u64 (ver:Int),.int .u32 (next:Int),.slice ua ul uc],.int .i64 ee]) (by simp[results,Tryz.f85,go_sem,y0,y1,y2]) rfl ?_;exact hgv
end Read
namespace Read
open Go.RowKit Go.Deep Mem Crc Mani Full
def ManAt (w w':World) (v:Value) (ver next:Nat) (fs:List Fil):Prop:=∃a c l,v=.agg #[.int .u64 (ver:Int),.int .u32 (next:Int),.slice a (l:List FR).length c]/\l.map FR.f=fs/\FilesIn w' a l/\(∀b,Mem.blk a=some b->w.heap.size<=b/\b<w'.heap.size)/\∀x∈l,∀b,Mem.blk x.a=some b->w.heap.size<=b/\b<w'.heap.size
def noneV:Value:=.agg #[.int .u64 0,.int .u32 0,.slice none 0 0]
theorem manAt_none (w w':World):ManAt w w' noneV 0 0 []:=⟨none,0,[],rfl,rfl,⟨.inl rfl,λx hx=>(List.not_mem_nil hx).elim⟩,λb h=>(by cases h),λx hx=>(List.not_mem_nil hx).elim⟩
theorem ManAt.later {w w1 w2:World} {v:Value} {ver next:Nat} {fs:List Fil} (h:ManAt w w1 v ver next fs) (hB:Below w1.heap.size w1 w2):ManAt w w2 v ver next fs:=by
 obtain⟨a,c,l,h1,h2,h3,h4,h5⟩:=h;exact⟨a,c,l,h1,h2,h3.later hB,λb hb=>⟨(h4 b hb).1,Nat.lt_of_lt_of_le (h4 b hb).2 hB.size⟩,λx hx b hb=>⟨(h5 x hx b hb).1,Nat.lt_of_lt_of_le (h5 x hx b hb).2 hB.size⟩⟩
theorem ManAt.base {w0 w w':World} {v:Value} {ver next:Nat} {fs:List Fil} (h:ManAt w w' v ver next fs) (hB:w0.heap.size<=w.heap.size):ManAt w0 w' v ver next fs:=by
 obtain⟨a,c,l,h1,h2,h3,h4,h5⟩:=h;exact⟨a,c,l,h1,h2,h3,λb hb=>⟨Nat.le_trans hB (h4 b hb).1,(h4 b hb).2⟩,λx hx b hb=>⟨Nat.le_trans hB (h5 x hx b hb).1,(h5 x hx b hb).2⟩⟩
def GotM (w:World) (o:Option (Nat×Nat×List Fil)) (e:Ending) (w':World):Prop:=
 match o with
 |none=>e=.returned (.tuple #[noneV,.int .i64 5])
 |some p=>∃v,e=.returned (.tuple #[v,.int .i64 0])/\ManAt w w' v p.1 p.2.1 p.2.2
theorem ManAt.set {wb W:World} {v:Value} {ver next:Nat} {fs:List Fil} (h:ManAt wb W v ver next fs) {p:Addr} (hr:p.block<wb.heap.size) (x:Value):ManAt wb (W.setCell p x) v ver next fs:=by
 obtain⟨a,c,l,h1,h2,h3,h4,h5⟩:=h;have hu:Upon (λk=>k=p.block) W (W.setCell p x):=(Upon.refl (λk=>k=p.block) W).set (.inl rfl) _;have hs: (W.setCell p x).heap.size=W.heap.size:=by simp
 refine⟨a,c,l,h1,h2,⟨h3.row.upon hu (λg hg e=>?_),λy hy=>⟨(h3.blocks y hy).1.upon hu (λg hg e=>?_),(h3.blocks y hy).2⟩⟩,λb hb=>by rw[hs];exact h4 b hb,λy hy b hb=>by rw[hs];exact h5 y hy b hb⟩
 ·have:=h4 g hg
  omega
 ·have:=h5 y hy g hg
  omega
theorem got_len (bs:List UInt8): (Frame.got bs).2.1.length<=bs.length:=by
 unfold Frame.got
 repeat' split
 all_goals first|exact Nat.zero_le _|skip
 dsimp only;rw[bodyOf_length,jT,List.length_drop]
 omega
theorem FGot.fits {f:Fil} (h:FGot f):f.fits:=⟨by have:=h.id;omega,by have:=h.size;omega,λi hi=>by have:=h.blocks i hi;omega⟩
attribute [local go_sem] Oper.semAt_some
theorem mget_any (a:Option Addr) (cp:Nat) (bs:List UInt8) (w:World) (h:Lies w a (bs.map bv)) (hc:bs.length<=cp) (hm:bs.length<=100000):
  Calls Tryz.prog 53 #[.slice a bs.length cp] w λe w'=>GotM w (getS bs) e w'/\Below w.heap.size w w':=by
 have hgl:=got_len bs;obtain⟨W0,hW0⟩:=jl (w.alloc (.cells #[.int .u64 0,.int .u32 0,.slice none 0 0] 34));obtain⟨r,hr⟩:=jl w.heap.size;have hB0:Below w.heap.size w W0:=by rw[hW0];exact(Below.refl _ w).alloc jn _
 have hres:Blk W0 r 34 #[.int .u64 0,.int .u32 0,.slice none 0 0]:=by rw[hW0,hr];exact Blk.new w _ _
 have hget:=Frame.get_any a cp bs W0 (h.later hB0) hc (by omega);obtain⟨n,hnl⟩:=jl bs.length;rw[<-hnl]at hget⊢;have hrs:=hres.lt;have hr0:w.heap.size<=r:=by rw[hr];exact Nat.le_refl _
 have hg:=@got_len bs;obtain⟨G,hG⟩:=jl (Frame.got bs);have hgs:getS bs=if G.2.2.2=0/\G.1=77 then(if(readS G.2.1).err=0/\mayB (readS G.2.1).ver (readS G.2.1).next (readS G.2.1).fs=true then some ((readS G.2.1).ver,(readS G.2.1).next,(readS G.2.1).fs)else none)else none:=by rw[hG];rfl
 have hgl2:G.2.1.length<=100000:=by rw[hG];omega
 have HGET:Hid (Calls Tryz.prog 84 #[.slice a n cp] W0 λe w'=>(∃v,e=.returned (.tuple #[.agg #[bv G.1,v],.int .i64 G.2.2.1,.int .i64 G.2.2.2])/\OwnB w' W0.heap.size v G.2.1)/\Below W0.heap.size W0 w'):=jq (hget.mono (λe w' hh=>by rw[hG];exact⟨hh.out,hh.below⟩));have HGS:=jq hgs;have HB0:=jq hB0;have HRES:=jq hres;clear h hc hm hgl hg hget hnl hgs hres;obtain⟨gk,gb,gn,ge⟩:=G;dsimp only at HGET HGS hgl2;obtain⟨kv,hkv⟩:=jl gk.toNat;have hbk:bv gk=.int .u8 (kv:Int):=by rw[hkv];rfl
 rw[hbk]at HGET
 have hk77:gk=77↔(kv:Int)=77:=by
  rw[hkv]
  constructor
  ·rintro rfl;rfl
  ·intro e;exact UInt8.toNat_inj.1 (by show gk.toNat=77;omega)
 have HK77:=jq hk77;clear hkv hbk hG hk77 hB0
 go_enter Tryz.func53,Tryz.ntmps53
 go_wp2_with fail
 rw[<-hW0,<-hr];clear hW0 hr;refine HGET.out.mono ?_;rintro e w1 ⟨⟨v,rfl,hO⟩,hB1⟩;obtain⟨va,vc,ev,hvc,hL,hbb,_⟩:=own_shape hO;subst ev;obtain⟨W1,hW1⟩:=jl (w1.alloc (.cells #[.int .u8 (kv:Int),.slice va gb.length vc] 155));obtain⟨sb,hsb⟩:=jl w1.heap.size;have hBa:Below w1.heap.size w1 W1:=by rw[hW1];exact(Below.refl _ w1).alloc jn _
 have hsec:Blk W1 sb 155 #[.int .u8 (kv:Int),.slice va gb.length vc]:=by rw[hW1,hsb];exact Blk.new w1 _ _
 have hL1:=hL.later hBa;have hbb1:∀k,Mem.blk va=some k->k<W1.heap.size:=λk hk=>Nat.lt_of_lt_of_le (hbb k hk).2 hBa.size
 have hB01:Below w.heap.size w W1:=HB0.out.trans ((hB1.mono HB0.out.size).trans (hBa.mono (Nat.le_trans HB0.out.size hB1.size)));have hres1:=(HRES.out.below hB1 HRES.out.lt).below hBa (Nat.lt_of_lt_of_le HRES.out.lt hB1.size);have hrl1:=hres1.lt;obtain⟨gl,hgl⟩:=jl gb.length
 have hrd:∀x:World,Below W1.heap.size W1 x->Calls Tryz.prog 85 #[.slice va gl vc] x (ReadsM x (readS gb)):=λx hx=>by
  rw[hgl];exact read_any va vc gb x hvc hgl2 (hL1.later hx) (λk hk=>Nat.lt_of_lt_of_le (hbb1 k hk) hx.size)
 rw[<-hgl]at hsec hW1 hgl2⊢;have HRD:=jq hrd;have HSEC:=jq hsec;have HRES1:=jq hres1;have HB01:=jq hB01;have k0:=hsec.cell 0;have k1:=hsec.cell 1;have r0:=hres1.cell 0;have r1:=hres1.cell 1;have r2:=hres1.cell 2;have f0:=hres1.frozen 0;have f1:=hres1.frozen 1;have f2:=hres1.frozen 2;simp only[jt,ja,jb]at k0 k1 r0 r1 r2;have y0:=res_set hres1 (.int .u64 0) (.int .u32 0) (.slice none 0 0);have hBf:=below_res hB01 hr0 (.int .u64 0) (.int .u32 0) (.slice none 0 0);have HBF:=jq hBf;have hglL:=hgl;have HGLL:=jq hglL;subst hW1 hsb
 simp at k0 k1 r0 r1 r2 f0 f1 f2
 clear hgl hglL hrd hsec hres1 hB01 hL hL1 hbb hbb1 hBa hB1 hO HRES HB0 HGET hBf hvc;obtain⟨ke,hke⟩:∃b:Bool,(ge==0)=b:=⟨_,rfl⟩;cases ke
 ·have hno:getS bs=none:=by rw[HGS.out,if_neg (λhh=>by rw[hh.1]at hke;cases hke)]
  have HNO:=jq hno;clear hno
  go_wp2_with fail
  obtain⟨y0,y1,y2⟩:=y0;refine bodyPost_ret (v:=.tuple #[.agg #[.int .u64 0,.int .u32 0,.slice none 0 0],.int .i64 5]) (by simp[results,Tryz.f53,go_sem,y0,y1,y2]) rfl ?_;rw[HNO.out];exact⟨rfl,HBF.out⟩
 ·have hke0:ge=0:=by simpa using hke
  subst hke0;obtain⟨kk,hkk⟩:∃b:Bool,((kv:Int)==77)=b:=⟨_,rfl⟩;cases kk
  ·have hno:getS bs=none:=by rw[HGS.out,if_neg (λhh=>by rw[HK77.out.1 hh.2]at hkk;cases hkk)]
   have HNO:=jq hno;clear hno
   go_wp2_with fail
   obtain⟨y0,y1,y2⟩:=y0;refine bodyPost_ret (v:=.tuple #[.agg #[.int .u64 0,.int .u32 0,.slice none 0 0],.int .i64 5]) (by simp[results,Tryz.f53,go_sem,y0,y1,y2]) rfl ?_;rw[HNO.out];exact⟨rfl,HBF.out⟩
  ·have hgs2:getS bs=if(readS gb).err=0/\mayB (readS gb).ver (readS gb).next (readS gb).fs=true then some ((readS gb).ver,(readS gb).next,(readS gb).fs)else none:=by rw[HGS.out,if_pos ⟨rfl,HK77.out.2 (by simpa using hkk)⟩]
   have hle:=readS_le gb;rw[<-HGLL.out]at hle;obtain⟨M,hM⟩:=jl (readS gb);rw[<-hM]at hgs2 hle HRD;obtain⟨ver,next,fs,er⟩:=M;dsimp only at hgs2 hle;obtain⟨v1,n1,g1,q1,b1⟩:=hle;have hfit:∀f∈fs,f.fits:=λf hf=>(g1 f hf).fits
   have hbd:=body_got v1 n1 g1 q1 (by omega);have HGS2:=jq hgs2;have HFIT:=jq hfit;have HG1:=jq g1;clear hM hgs2 hfit HGS HK77 g1 b1 y0
   go_wp2_with fail
   refine(HRD.out _ (by first|exact Below.refl _ _|exact(Below.refl _ _).drew)).mono ?_;rintro e w2 ⟨hB2,a2,c2,l2,rfl,hl2,hF2,ha2,hx2⟩;dsimp only at hl2;have hs2:=hB2.size
   simp at hs2
   have hres2:=HRES1.out.below (w':=w2) ⟨hB2.os,hB2.tape,hB2.output,hB2.size,hB2.block⟩ HRES1.out.lt;obtain⟨n2,hn2⟩:=jl l2.length;rw[<-hn2];obtain⟨W3,hW3⟩:=jl (w2.alloc (.cells #[.int .u64 (ver:Int),.int .u32 (next:Int),.slice a2 n2 c2] 34));obtain⟨mb,hmb⟩:=jl w2.heap.size;have hB3:Below w2.heap.size w2 W3:=by rw[hW3];exact(Below.refl _ w2).alloc jn _
   have hman:Blk W3 mb 34 #[.int .u64 (ver:Int),.int .u32 (next:Int),.slice a2 n2 c2]:=by rw[hW3,hmb];exact Blk.new w2 _ _
   have hres3:=hres2.below hB3 hres2.lt;have hBl:Below w.heap.size w w2:=HB01.out.trans ((show Below (w1.alloc (.cells #[.int .u8 (kv:Int),.slice va gl vc] 155)).heap.size (w1.alloc (.cells #[.int .u8 (kv:Int),.slice va gl vc] 155)) w2 from⟨hB2.os,hB2.tape,hB2.output,hB2.size,hB2.block⟩).mono HB01.out.size);have hBl3:=hBl.trans (hB3.mono hBl.size)
   have hat:ManAt (w1.alloc (.cells #[.int .u8 (kv:Int),.slice va gl vc] 155)) W3 (.agg #[.int .u64 (ver:Int),.int .u32 (next:Int),.slice a2 n2 c2]) ver next fs:=by
    rw[hn2];exact ManAt.later ⟨a2,c2,l2,rfl,hl2,hF2,ha2,hx2⟩ hB3
   have hmay:∀x:World,Below W3.heap.size W3 x->Calls Tryz.prog 76 #[.agg #[.int .u64 (ver:Int),.int .u32 (next:Int),.slice a2 n2 c2]] x λe w'=>e=.returned (.bool (mayB ver next fs))/\Below x.heap.size x w':=λx hx=>by
    rw[hn2,<-hl2];exact may_any ver next a2 c2 l2 x ((hF2.later hB3).later hx) (by omega) (by omega) (λy hy=>HFIT.out _ (by rw[<-hl2];exact List.mem_map_of_mem hy)) (by rw[hl2];exact hbd)
   have y0:=res_set hres3 (.int .u64 0) (.int .u32 0) (.slice none 0 0);have HBF3:=jq (below_res hBl3 hr0 (.int .u64 0) (.int .u32 0) (.slice none 0 0));have e0:=hman.cell 0;have e1:=hman.cell 1;have e2:=hman.cell 2;have z0:=hres3.frozen 0;have z1:=hres3.frozen 1;have z2:=hres3.frozen 2;have x0:=hres3.cell 0;have x1:=hres3.cell 1;have x2:=hres3.cell 2;have HMAN:=jq hman;have HRES3:=jq hres3;have HBL3:=jq hBl3;have HAT:=jq hat;have HMAY:=jq hmay;subst hW3 hmb
   simp at e0 e1 e2 z0 z1 z2 x0 x1 x2
   clear hB2 hl2 hF2 ha2 hx2 hres2 hB3 hman hres3 hBl hBl3 hat hmay HFIT hbd hn2;obtain⟨ke2,hke2⟩:∃b:Bool,(er==0)=b:=⟨_,rfl⟩;cases ke2
   ·have hno:getS bs=none:=by rw[HGS2.out,if_neg (λhh=>by rw[hh.1]at hke2;cases hke2)]
    have HNO:=jq hno;have hnb: (er !=0)=true:=by simpa using hke2
    clear hno
    go_wp2_with fail
    obtain⟨y0,y1,y2⟩:=y0;refine bodyPost_ret (v:=.tuple #[.agg #[.int .u64 0,.int .u32 0,.slice none 0 0],.int .i64 5]) (by simp[results,Tryz.f53,go_sem,y0,y1,y2]) rfl ?_;rw[HNO.out];exact⟨rfl,HBF3.out⟩
   ·have hke20:er=0:=by simpa using hke2
    subst hke20;obtain⟨mv,hmv⟩:∃b,mayB ver next fs=b:=⟨_,rfl⟩;rw[hmv]at HMAY HGS2;clear y0;cases mv
    ·have hno:getS bs=none:=by rw[HGS2.out,if_neg (λhh=>by cases hh.2)]
     have HNO:=jq hno;clear hno
     go_wp2_with (first|(go_at_call 76;refine(HMAY.out _ (by first|exact Below.refl _ _|exact(Below.refl _ _).drew)).mono ?_;rintro e w5 ⟨rfl,hB5⟩;have hres5:=HRES3.out.below (w':=w5) ⟨hB5.os,hB5.tape,hB5.output,hB5.size,hB5.block⟩ HRES3.out.lt;have HRES5:=jq hres5;have o0:=hres5.cell 0;have o1:=hres5.cell 1;have o2:=hres5.cell 2;have t0:=hres5.frozen 0;have t1:=hres5.frozen 1;have t2:=hres5.frozen 2;simp at o0 o1 o2 t0 t1 t2;have HB5:=jq hB5;clear hB5 hres5))
     have hB35:=HBL3.out.trans ((show Below (w2.alloc (.cells #[.int .u64 (ver:Int),.int .u32 (next:Int),.slice a2 n2 c2] 34)).heap.size (w2.alloc (.cells #[.int .u64 (ver:Int),.int .u32 (next:Int),.slice a2 n2 c2] 34)) w5 from⟨HB5.out.os,HB5.out.tape,HB5.out.output,HB5.out.size,HB5.out.block⟩).mono HBL3.out.size);obtain⟨y0,y1,y2⟩:=res_set HRES5.out (.int .u64 0) (.int .u32 0) (.slice none 0 0);have hbf:=below_res hB35 hr0 (.int .u64 0) (.int .u32 0) (.slice none 0 0);refine bodyPost_ret (v:=.tuple #[.agg #[.int .u64 0,.int .u32 0,.slice none 0 0],.int .i64 5]) (by simp[results,Tryz.f53,go_sem,y0,y1,y2]) rfl ?_;rw[HNO.out];exact⟨rfl,hbf⟩
    ·have hyes:getS bs=some (ver,next,fs):=by rw[HGS2.out,if_pos ⟨rfl,rfl⟩]
     have HYES:=jq hyes;clear hyes
     go_wp2_with (first|(go_at_call 76;refine(HMAY.out _ (by first|exact Below.refl _ _|exact(Below.refl _ _).drew)).mono ?_;rintro e w5 ⟨rfl,hB5⟩;have hres5:=HRES3.out.below (w':=w5) ⟨hB5.os,hB5.tape,hB5.output,hB5.size,hB5.block⟩ HRES3.out.lt;have HRES5:=jq hres5;have o0:=hres5.cell 0;have o1:=hres5.cell 1;have o2:=hres5.cell 2;have t0:=hres5.frozen 0;have t1:=hres5.frozen 1;have t2:=hres5.frozen 2;simp at o0 o1 o2 t0 t1 t2;have hman5:=HMAN.out.below (w':=w5) ⟨hB5.os,hB5.tape,hB5.output,hB5.size,hB5.block⟩ HMAN.out.lt;have e0:=hman5.cell 0;have e1:=hman5.cell 1;have e2:=hman5.cell 2;simp at e0 e1 e2;have HB5:=jq hB5;clear hB5 hres5 hman5))
     have hb35:=(show Below (w2.alloc (.cells #[.int .u64 (ver:Int),.int .u32 (next:Int),.slice a2 n2 c2] 34)).heap.size (w2.alloc (.cells #[.int .u64 (ver:Int),.int .u32 (next:Int),.slice a2 n2 c2] 34)) w5 from⟨HB5.out.os,HB5.out.tape,HB5.out.output,HB5.out.size,HB5.out.block⟩);have hB35:=HBL3.out.trans (hb35.mono HBL3.out.size);obtain⟨y0,y1,y2⟩:=res_set HRES5.out (.int .u64 (ver:Int)) (.int .u32 (next:Int)) (.slice a2 n2 c2);have hbf:=below_res hB35 hr0 (.int .u64 (ver:Int)) (.int .u32 (next:Int)) (.slice a2 n2 c2);have hat5:=(((HAT.out.later hb35).set (p:=⟨r,0,none⟩) hrl1 (.int .u64 (ver:Int))).set (p:=⟨r,1,none⟩) hrl1 (.int .u32 (next:Int))).set (p:=⟨r,2,none⟩) hrl1 (.slice a2 n2 c2);refine bodyPost_ret (v:=.tuple #[.agg #[.int .u64 (ver:Int),.int .u32 (next:Int),.slice a2 n2 c2],.int .i64 0]) (by simp[results,Tryz.f53,go_sem,y0,y1,y2]) rfl ?_;rw[HYES.out];exact⟨⟨_,rfl,hat5.base HB01.out.size⟩,hbf⟩
end Read
namespace Read
open Go.RowKit Go.Deep Mem Crc Mani Full Go.Proofs.YtbfochdoeibofaaGreatDoor.Man Dk
abbrev MT:=Nat×Nat×List Fil
def stepR (s:Option MT×Bool) (b:List UInt8):Option MT×Bool:=
 (match getS b with
  |none=>s.1
  |some p=>match s.1 with
   |none=>some p
   |some q=>if q.1<p.1 then some p else some q,s.2|| !b.any (·!=0))
def stR (bl:List (List UInt8)):Nat->Option MT×Bool
 |0=>(none,false)
 |j+1=>stepR (stR bl j) (slotB bl j)
def readM (bl:List (List UInt8)):Option MT×Bool:=stR bl 2
def ReadOn (w:World) (s:Option MT×Bool) (e:Ending) (w':World):Prop:=
 match s.1 with
 |none=>e=.returned (.tuple #[noneV,.int .i64 (if s.2 then 0 else 5)])
 |some p=>∃v,e=.returned (.tuple #[v,.int .i64 0])/\ManAt w w' v p.1 p.2.1 p.2.2
def BestIs (wb wr:World) (bb:Nat):Option MT->Prop
 |none=>Blk wr bb 34 #[.int .u64 0,.int .u32 0,.slice none 0 0]
 |some p=>∃a n c,Blk wr bb 34 #[.int .u64 (p.1:Int),.int .u32 (p.2.1:Int),.slice a n c]/\ManAt wb wr (.agg #[.int .u64 (p.1:Int),.int .u32 (p.2.1:Int),.slice a n c]) p.1 p.2.1 p.2.2
theorem BestIs.later {wb wr w':World} {bb:Nat} {o:Option MT} (h:BestIs wb wr bb o) (hB:Below wr.heap.size wr w'):BestIs wb w' bb o:=by
 cases o with
 |none=>exact Blk.below h hB h.lt
 |some p=>
  obtain⟨a,n,c,h1,h2⟩:=h;exact⟨a,n,c,h1.below hB h1.lt,h2.later hB⟩
attribute [local go_sem] Oper.semAt_some
theorem mread_on {d g:Nat} {wv:Value} {m:DM} {w:World} (h:Dk w d g wv m) (hoff:m.off=false) (hwt:m.wt= []) (h33:33<=m.bl.length):
  Calls Tryz.prog 20 #[.pointer (some ⟨d,0,none⟩)] w λe w'=>ReadOn w (readM m.bl) e w'/\Below w.heap.size w w':=by
 have hal:=(Below.refl w.heap.size w).alloc jn (Obj.cells #[Value.int .u64 0,Value.int .u32 0,Value.slice none 0 0] 34);have hC:=jq (Dk.count_any (h.later hal));have HA:=jq hal;have hd0:decide ((m.bl.length:Int)<=32)=false:=jf (by omega);obtain⟨W,hW⟩:=jl ((w.alloc (Obj.cells #[Value.int .u64 0,Value.int .u32 0,Value.slice none 0 0] 34)).alloc (Obj.cells #[Value.int .u64 0,Value.int .u32 0,Value.slice none 0 0] 34));obtain⟨r,hr⟩:=jl w.heap.size;obtain⟨q,hq⟩:=jl (w.heap.size+1);have hb0:Blk W r 34 #[Value.int .u64 0,Value.int .u32 0,Value.slice none 0 0]:=by rw[hW,hr];exact(Blk.new w _ _).alloc _
 have hb1:Blk W q 34 #[Value.int .u64 0,Value.int .u32 0,Value.slice none 0 0]:=by rw[hW,hq];exact Blk.at_ (by simp)
 have hBW:Below w.heap.size w W:=by rw[hW];exact HA.out.alloc (by simp) _
 have H:=jq h;have HB0:=jq hb0;have HB1:Hid (BestIs W W q (stR m.bl 0).1):=jq hb1;have HBW:=jq hBW;have HBWW:=jq (Below.refl W.heap.size W);have hr0:w.heap.size<=r:=by rw[hr];exact Nat.le_refl _
 have hq0:w.heap.size<=q:=by rw[hq];omega
 have hrl:=hb0.lt;have hql:=hb1.lt;have hne:q≠r:=by omega
 clear hal h hb0 hb1 hBW
 go_enter Tryz.func20,Tryz.ntmps20
 go_wp2_with fail
 refine hC.out.mono ?_;rintro e w1 ⟨rfl,rfl⟩
 go_wp2_with fail
 rw[<-hW,<-hq,<-hr];clear hC HA hd0 hW hr hq
 go_loopw[5,6,15] (λf b i wr=>∃(j:Nat) (o:Option MT) (k:Bool),j<=2/\f=.bool o.isSome/\b=.bool k/\i=.int .i64 (j:Int)/\Hid (stR m.bl j=(o,k))/\Hid (Blk wr r 34 #[Value.int .u64 0,Value.int .u32 0,Value.slice none 0 0])/\Hid (BestIs W wr q o)/\Hid (Below w.heap.size w wr)/\Hid (W.heap.size<=wr.heap.size)) (λ_ _ i _=>2-(intOf i).toNat)
 case atStart=>exact⟨0,none,false,by omega,rfl,rfl,rfl,jq rfl,HB0,HB1,HBW,jq jn⟩
 case round=>
  obtain⟨j,o,k,hj,rfl,rfl,rfl,hst,hb0,hbo,hB,hWr⟩:=hrel
  by_cases hj2:j<2
  ·have hd:decide ((j:Int) <2)=true:=by simp;omega
   have hS:=jq (slot_on j hj2 (H.out.later hB.out) hoff hwt h33);obtain⟨bs,hbs⟩:=jl (slotB m.bl j);have hlen:bs.length=2048:=by rw[hbs];exact slotB_length H.out.len hj2 h33
   have hst2:stR m.bl (j+1)=stepR (o,k) bs:=by show stepR (stR m.bl j) (slotB m.bl j)=_;rw[hst.out,hbs]
   rw[<-hbs]at hS;obtain⟨bn,hbn⟩:=jl bs.length;have HST:=jq hst2;have HLEN:=jq hlen;have HBN:=jq hbn;have hsz:=hB.out.size;obtain⟨nz,hnz⟩:=jl (bs.any (·!=0));have HNZ:=jq hnz;clear hbs hlen hst2 hst hnz
   go_wp2_with fail
   refine hS.out.mono ?_;rintro e w1 ⟨v,rfl,hO,hB1⟩;obtain⟨va,vc,ev,hvc,hL,_,_⟩:=own_shape hO;subst ev;have hcc:=contains_any' va vc bs w1 hL (by rw[HLEN.out];omega);have hgg:=mget_any va vc bs w1 hL hvc (by rw[HLEN.out];omega);rw[<-HNZ.out]at hcc;rw[<-hbn]at hcc hgg⊢;have HCC:=jq hcc;have HGG:=jq hgg;have HB01:=jq (hb0.out.below hB1 hb0.out.lt);have HBO1:=jq (hbo.out.later hB1);have hBB:=hB.out.trans (hB1.mono hsz);have HBB:=jq hBB;have hWr1:=Nat.le_trans hWr.out hB1.size;have HBN:=jq hbn;clear hO hL hcc hgg hB1 hd hS hBB hvc hbn hbo hb0 hB hWr;obtain⟨k2,hk2⟩:=jl ((k|| !nz));have HK2:=jq hk2;clear hk2;cases k
   all_goals
    go_wp2_with (first|(go_at_call 51;refine HCC.out.mono ?_;rintro e w2 ⟨rfl,rfl⟩))
    refine HGG.out.mono ?_;rintro e w3 ⟨hG,hB3⟩;have hwb:=Nat.le_trans hWr1 hB3.size;have hB03:=HBB.out.trans (hB3.mono HBB.out.size);have hb03:=HB01.out.below hB3 HB01.out.lt;have hbo3:=HBO1.out.later hB3
    cases hgs:getS bs with
    |none=>
     rw[hgs]at hG;obtain rfl:e=_:=hG;unfold noneV;have hst3:stR m.bl (j+1)=(o,k2):=by rw[HST.out,HK2.out,HNZ.out];unfold stepR;rw[hgs]
     have HST3:=jq hst3;have HB3:=jq hB3;have HB03:=jq hB03;have Hb03:=jq hb03;have HBO3:=jq hbo3;clear hgs hst3 hB3 hB03 hb03 hbo3
     go_wp2_with fail
     exact⟨⟨j+1,o,k2,hj2,rfl,by rw[HK2.out];simp,by simp,HST3,jq (Hb03.out.alloc _),jq (HBO3.out.later ((Below.refl _ w3).alloc jn _)),jq (HB03.out.alloc HB03.out.size _),jq (by simp;omega)⟩,by simp[intOf];omega⟩
    |some p=>
     rw[hgs]at hG;obtain⟨v,rfl,hat⟩:=hG;obtain⟨pv,pn,pf⟩:=p;dsimp only at hat;obtain⟨a3,c3,l3,rfl,hl3,hF3,ha3,hx3⟩:=hat;obtain⟨n3,hn3⟩:=jl l3.length
     have hatW:ManAt W w3 (.agg #[.int .u64 (pv:Int),.int .u32 (pn:Int),.slice a3 n3 c3]) pv pn pf:=by
      rw[hn3];exact ManAt.base ⟨a3,c3,l3,rfl,hl3,hF3,ha3,hx3⟩ hWr1
     rw[<-hn3];have halc:=(Below.refl w3.heap.size w3).alloc jn (.cells #[.int .u64 (pv:Int),.int .u32 (pn:Int),.slice a3 n3 c3] 34);have hmx:=Blk.new w3 34 #[.int .u64 (pv:Int),.int .u32 (pn:Int),.slice a3 n3 c3];have e0:=hmx.cell 0;have e1:=hmx.cell 1;have e2:=hmx.cell 2
     simp at e0 e1 e2
     have HATW:=jq hatW;have HB03:=jq hB03;have Hb03:=jq hb03;clear hl3 hF3 ha3 hx3 hn3 hatW hmx hB3 hB03 hb03
     cases o with
     |none=>
      have hst3:stR m.bl (j+1)=(some (pv,pn,pf),k2):=by rw[HST.out,HK2.out,HNZ.out];unfold stepR;rw[hgs]
      have hbq:Blk (w3.alloc (.cells #[.int .u64 (pv:Int),.int .u32 (pn:Int),.slice a3 n3 c3] 34)) q 34 #[.int .u64 0,.int .u32 0,.slice none 0 0]:=hbo3.later halc;have b0:=hbq.cell 0;have b1:=hbq.cell 1;have b2:=hbq.cell 2;have z0:=hbq.frozen 0;have z1:=hbq.frozen 1;have z2:=hbq.frozen 2
      simp at b0 b1 b2 z0 z1 z2
      have HST3:=jq hst3;have hbs:=((hbq.set 0 (.int .u64 (pv:Int))).set 1 (.int .u32 (pn:Int))).set 2 (.slice a3 n3 c3);have hat5:=(((HATW.out.later halc).set (p:=⟨q,0,none⟩) hql (.int .u64 (pv:Int))).set (p:=⟨q,1,none⟩) hql (.int .u32 (pn:Int))).set (p:=⟨q,2,none⟩) hql (.slice a3 n3 c3);have HBS:=jq hbs;have HAT5:=jq hat5;have HR5:=jq ((((Hb03.out.alloc (.cells #[.int .u64 (pv:Int),.int .u32 (pn:Int),.slice a3 n3 c3] 34)).far (p:=⟨q,0,none⟩) hne.symm (.int .u64 (pv:Int))).far (p:=⟨q,1,none⟩) hne.symm (.int .u32 (pn:Int))).far (p:=⟨q,2,none⟩) hne.symm (.slice a3 n3 c3));have HB5:=jq (below_res (HB03.out.alloc HB03.out.size (.cells #[.int .u64 (pv:Int),.int .u32 (pn:Int),.slice a3 n3 c3] 34)) hq0 (.int .u64 (pv:Int)) (.int .u32 (pn:Int)) (.slice a3 n3 c3));clear hst3 hgs hbq hbs hat5 halc
      go_wp2_with fail
      exact⟨⟨j+1,some (pv,pn,pf),k2,hj2,rfl,by rw[HK2.out];simp,by simp,HST3,HR5,jq ⟨a3,n3,c3,HBS.out,HAT5.out⟩,HB5,jq (by simp;omega)⟩,by simp[intOf];omega⟩
     |some o=>
      obtain⟨qv,qn,qf⟩:=o;obtain⟨oa,on,oc,hbo4,hat4⟩:=hbo3;dsimp only at hbo4 hat4;have hbq:=hbo4.below halc hbo4.lt;have b0:=hbq.cell 0
      simp at b0
      by_cases hlt:qv<pv
      ·have hlti:decide ((qv:Int) <(pv:Int))=true:=jd (by omega);have hst3:stR m.bl (j+1)=(some (pv,pn,pf),k2):=by rw[HST.out,HK2.out,HNZ.out];unfold stepR;rw[hgs];dsimp only;rw[if_pos hlt]
       have b1:=hbq.cell 1;have b2:=hbq.cell 2;have z0:=hbq.frozen 0;have z1:=hbq.frozen 1;have z2:=hbq.frozen 2
       simp at b1 b2 z0 z1 z2
       have HST3:=jq hst3;have hbs:=((hbq.set 0 (.int .u64 (pv:Int))).set 1 (.int .u32 (pn:Int))).set 2 (.slice a3 n3 c3);have hat5:=(((HATW.out.later halc).set (p:=⟨q,0,none⟩) hql (.int .u64 (pv:Int))).set (p:=⟨q,1,none⟩) hql (.int .u32 (pn:Int))).set (p:=⟨q,2,none⟩) hql (.slice a3 n3 c3);have HBS:=jq hbs;have HAT5:=jq hat5;have HR5:=jq ((((Hb03.out.alloc (.cells #[.int .u64 (pv:Int),.int .u32 (pn:Int),.slice a3 n3 c3] 34)).far (p:=⟨q,0,none⟩) hne.symm (.int .u64 (pv:Int))).far (p:=⟨q,1,none⟩) hne.symm (.int .u32 (pn:Int))).far (p:=⟨q,2,none⟩) hne.symm (.slice a3 n3 c3));have HB5:=jq (below_res (HB03.out.alloc HB03.out.size (.cells #[.int .u64 (pv:Int),.int .u32 (pn:Int),.slice a3 n3 c3] 34)) hq0 (.int .u64 (pv:Int)) (.int .u32 (pn:Int)) (.slice a3 n3 c3));clear hst3 hgs hbq hbs hat5 halc hbo4 hat4
       go_wp2_with fail
       exact⟨⟨j+1,some (pv,pn,pf),k2,hj2,rfl,by rw[HK2.out];simp,by simp,HST3,HR5,jq ⟨a3,n3,c3,HBS.out,HAT5.out⟩,HB5,jq (by simp;omega)⟩,by simp[intOf];omega⟩
      ·have hlti:decide ((qv:Int) <(pv:Int))=false:=jf (by omega);have hst3:stR m.bl (j+1)=(some (qv,qn,qf),k2):=by rw[HST.out,HK2.out,HNZ.out];unfold stepR;rw[hgs];dsimp only;rw[if_neg hlt]
       have HST3:=jq hst3;have HBQ:=jq hbq;have HAT4:=jq (hat4.later halc);clear hst3 hgs hbq hbo4 hat4 halc
       go_wp2_with fail
       exact⟨⟨j+1,some (qv,qn,qf),k2,hj2,rfl,by rw[HK2.out];simp,by simp,HST3,jq (Hb03.out.alloc _),jq ⟨oa,on,oc,HBQ.out,HAT4.out⟩,jq (HB03.out.alloc HB03.out.size _),jq (by simp;omega)⟩,by simp[intOf];omega⟩
  ·obtain rfl:j=2:=by omega
   have hd:decide ((2:Int) <2)=false:=by decide
   have hfin:readM m.bl=(o,k):=hst.out;have p0:=hb0.out.cell 0;have p1:=hb0.out.cell 1;have p2:=hb0.out.cell 2;have f0:=hb0.out.frozen 0;have f1:=hb0.out.frozen 1;have f2:=hb0.out.frozen 2
   simp at p0 p1 p2
   have HFIN:=jq hfin;clear hfin hst
   cases o with
   |none=>
    have hbq:Blk wr q 34 #[.int .u64 0,.int .u32 0,.slice none 0 0]:=hbo.out;have q0:=hbq.cell 0;have q1:=hbq.cell 1;have q2:=hbq.cell 2
    simp at q0 q1 q2
    have y:=res_set hb0.out (.int .u64 0) (.int .u32 0) (.slice none 0 0);have HBF:=jq (below_res hB.out hr0 (.int .u64 0) (.int .u32 0) (.slice none 0 0));clear hbq;cases k
    ·go_wp2_with fail
     obtain⟨y0,y1,y2⟩:=y;refine bodyPost_ret (v:=.tuple #[.agg #[.int .u64 0,.int .u32 0,.slice none 0 0],.int .i64 5]) (by simp[results,Tryz.f20,go_sem,y0,y1,y2]) rfl ?_;rw[HFIN.out];exact⟨rfl,HBF.out⟩
    ·go_wp2_with fail
     obtain⟨y0,y1,y2⟩:=y;refine bodyPost_ret (v:=.tuple #[.agg #[.int .u64 0,.int .u32 0,.slice none 0 0],.int .i64 0]) (by simp[results,Tryz.f20,go_sem,y0,y1,y2]) rfl ?_;rw[HFIN.out];exact⟨rfl,HBF.out⟩
   |some o=>
    obtain⟨qv,qn,qf⟩:=o;obtain⟨oa,on,oc,hbq,hat⟩:=hbo.out;dsimp only at hbq hat;have q0:=hbq.cell 0;have q1:=hbq.cell 1;have q2:=hbq.cell 2
    simp at q0 q1 q2
    have y:=res_set hb0.out (.int .u64 (qv:Int)) (.int .u32 (qn:Int)) (.slice oa on oc);have HBF:=jq (below_res hB.out hr0 (.int .u64 (qv:Int)) (.int .u32 (qn:Int)) (.slice oa on oc));have HAT:=jq (((hat.set (p:=⟨r,0,none⟩) hrl (.int .u64 (qv:Int))).set (p:=⟨r,1,none⟩) hrl (.int .u32 (qn:Int))).set (p:=⟨r,2,none⟩) hrl (.slice oa on oc));clear hbq hat
    go_wp2_with fail
    obtain⟨y0,y1,y2⟩:=y;refine bodyPost_ret (v:=.tuple #[.agg #[.int .u64 (qv:Int),.int .u32 (qn:Int),.slice oa on oc],.int .i64 0]) (by simp[results,Tryz.f20,go_sem,y0,y1,y2]) rfl ?_;rw[HFIN.out];exact⟨⟨_,rfl,HAT.out.base HBW.out.size⟩,HBF.out⟩
end Read
namespace Full
open Go.RowKit Go.Deep Mem Crc Dk Mani Go.Proofs.YtbfochdoeibofaaGreatDoor.Read
theorem beyond_any {d g:Nat} {wv:Value} {m:DM} {w:World} (h:Dk w d g wv m) {bx:Nat} (hb:Blk w bx 29 #[.pointer (some ⟨d,0,none⟩)]) (i:Nat):
  Calls Tryz.prog 55 #[.int .i64 (i:Int),.pointer (some ⟨bx,0,none⟩)] w λe w'=>e=.returned (.bool (decide (m.bl.length<=i)))/\Below w.heap.size w w':=by
 have hc:∀x:World,Below w.heap.size w x->Calls Tryz.prog 49 #[.pointer (some ⟨d,0,none⟩)] x λe w'=>e=.returned (.int .i64 (m.bl.length:Int))/\w'=x:=λx hx=>Dk.count_any (h.later hx)
 have HC:=jq hc;have c0:=hb.cell 0
 simp at c0
 clear h hb hc
 go_enter Tryz.func55,Tryz.ntmps55
 go_wp2_with fail
 refine(HC.out _ (by first|exact Below.refl _ _|exact(Below.refl _ _).drew)).mono ?_;rintro e w1 ⟨rfl,rfl⟩
 go_wp2_with fail
 go_ret
 exact⟨rfl,by first|exact Below.refl _ _|exact(Below.refl _ _).drew⟩
theorem beyond_index {d g:Nat} {wv:Value} {m:DM} {w:World} (h:Dk w d g wv m) {bx:Nat} (hb:Blk w bx 29 #[.pointer (some ⟨d,0,none⟩)]) (a:Option Addr) (cp:Nat) (l:List Nat) (hL:Lies w a (l.map iv)) (hn:l.length<=4000000):
  Calls Tryz.prog 86 #[.slice a l.length cp,.func (.func 55) #[] #[.pointer (some ⟨bx,0,none⟩)]] w λe w'=>∃i:Int,e=.returned (.int .i64 i)/\decide (0<=i)=l.any (λi=>decide (m.bl.length<=i))/\Below w.heap.size w w':=by
 have hbe:∀(x:World) (i:Nat),Below w.heap.size w x->Calls Tryz.prog 55 #[.int .i64 (i:Int),.pointer (some ⟨bx,0,none⟩)] x λe w'=>e=.returned (.bool (decide (m.bl.length<=i)))/\Below x.heap.size x w':=λx i hx=>beyond_any (h.later hx) (hb.below hx hb.lt) i
 have HBE:=jq hbe;have HL:=jq hL;obtain⟨n,hnn⟩:=jl l.length;rw[<-hnn]at hn⊢;have HN:=jq hnn;clear h hb hbe hnn hL
 go_enter Tryz.func86,Tryz.ntmps86
 go_wp2_with fail
 go_loopw[8] (λi wr=>∃j:Nat,j<=n/\i=.int .i64 (j:Int)/\Hid (Below w.heap.size w wr)/\Hid ((l.take j).any (λi=>decide (m.bl.length<=i))=false)) (λi _=>n-(intOf i).toNat)
 case atStart=>exact⟨0,by omega,rfl,jq (Below.refl _ _),jq rfl⟩
 case round=>
  obtain⟨j,hj,rfl,hB,hz⟩:=hrel
  by_cases hjn:j<n
  ·have hjd:decide ((j:Int) <(n:Int))=true:=jd (by omega);obtain⟨c,hc⟩:∃c,l[j]? =some c:=⟨l[j]'(by rw[<-HN.out];exact hjn),jg _⟩;obtain⟨g,off,rfl,_,hcs⟩:=(HL.out.later hB.out).resolve_left (λe=>by rw[List.map_eq_nil_iff.1 e]at hc;simp at hc);have c0:wr.cell? ⟨g,off+j,none⟩=some (.int .i64 (c:Int)):=hcs j _ (by rw[List.getElem?_map,hc];rfl);have hst: (l.take (j+1)).any (λi=>decide (m.bl.length<=i))=((l.take j).any (λi=>decide (m.bl.length<=i))||decide (m.bl.length<=c)):=by rw[List.take_add_one,hc,List.any_append];simp
   have hin:decide (m.bl.length<=c)=true->l.any (λi=>decide (m.bl.length<=i))=true:=λh=>List.any_eq_true.2 ⟨c,jM hc,h⟩
   rw[hz.out,Bool.false_or]at hst;have his:∀x:World,Below wr.heap.size wr x->Calls Tryz.prog 55 #[.int .i64 (c:Int),.pointer (some ⟨bx,0,none⟩)] x λe w'=>e=.returned (.bool (decide (m.bl.length<=c)))/\Below wr.heap.size wr w':=λx hx=>(HBE.out x c (hB.out.trans (hx.mono hB.out.size))).mono (λe w' hh=>⟨hh.1,hx.trans (hh.2.mono hx.size)⟩)
   obtain⟨nz,hnz⟩:=jl (decide (m.bl.length<=c));rw[<-hnz]at hst hin his;have HIS:=jq his;have HST:=jq hst;have HIN:=jq hin;clear hcs hc his hst hin hnz hz;cases nz
   ·go_wp2_with (first|(go_at_call 55;refine(HIS.out _ (by first|exact Below.refl _ _|exact(Below.refl _ _).drew)).mono ?_;rintro e w1 ⟨rfl,hB1⟩;have HB1:=jq (hB.out.trans (hB1.mono hB.out.size));clear hB1))
    exact⟨⟨j+1,hjn,by simp,HB1,HST⟩,by simp[intOf];omega⟩
   ·go_wp2_with (first|(go_at_call 55;refine(HIS.out _ (by first|exact Below.refl _ _|exact(Below.refl _ _).drew)).mono ?_;rintro e w1 ⟨rfl,hB1⟩;have HB1:=jq (hB.out.trans (hB1.mono hB.out.size));clear hB1))
    go_ret
    exact⟨_,rfl,by rw[HIN.out (by trivial)];exact jd (by omega),HB1.out⟩
  ·obtain rfl:n=j:=by omega
   have hjd:decide ((n:Int) <(n:Int))=false:=jf (by omega);have hz2:=hz.out;rw[jW (by rw[HN.out];exact Nat.le_refl _)]at hz2;have HZ:=jq hz2;clear hz2 hz
   go_wp2_with fail
   go_ret
   exact⟨_,rfl,by rw[HZ.out];rfl,hB.out⟩
theorem beyond_has {d g:Nat} {wv:Value} {m:DM} {w:World} (h:Dk w d g wv m) {bx:Nat} (hb:Blk w bx 29 #[.pointer (some ⟨d,0,none⟩)]) (a:Option Addr) (cp:Nat) (l:List Nat) (hL:Lies w a (l.map iv)) (hn:l.length<=4000000):
  Calls Tryz.prog 54 #[.slice a l.length cp,.func (.func 55) #[] #[.pointer (some ⟨bx,0,none⟩)]] w λe w'=>e=.returned (.bool (l.any (λi=>decide (m.bl.length<=i))))/\Below w.heap.size w w':=by
 have H:=jq (beyond_index h hb a cp l hL hn);clear h;obtain⟨n,hnn⟩:=jl l.length;rw[<-hnn]at H⊢;obtain⟨z,hz⟩:=jl (l.any (λi=>decide (m.bl.length<=i)));rw[<-hz]at H⊢;clear hnn hz hn hb hL
 go_enter Tryz.func54,Tryz.ntmps54
 go_wp2_with fail
 refine H.out.mono ?_;rintro e w1 ⟨i,rfl,hi,hB1⟩;have HB1:=jq hB1;clear hB1
 go_wp2_with fail
 go_ret
 exact⟨by rw[<-hi];rfl,HB1.out⟩
end Full
namespace Full
open Go.RowKit Go.Deep Mem Crc Go.Maps Dk Mani Go.Proofs.YtbfochdoeibofaaGreatDoor.Read
open Store (Chg none' nv)
structure GOk (p:MT):Prop where
 ver:p.1<18446744073709551616
 next:p.2.1<4294967296
 got:∀f∈p.2.2,FGot f
 few:p.2.2.length<=2048
 bks: (bksL p.2.2).length<=5000
 may:p=(0,0,[])\/mayB p.1 p.2.1 p.2.2=true
theorem getS_ok {b:List UInt8} {p:MT} (hb:b.length=2048) (h:getS b=some p):GOk p:=by
 have hgl:=got_len b;unfold getS at h
 by_cases h1: (Frame.got b).2.2.2=0/\(Frame.got b).1=77
 ·rw[if_pos h1]at h
  by_cases h2: (readS (Frame.got b).2.1).err=0/\mayB (readS (Frame.got b).2.1).ver (readS (Frame.got b).2.1).next (readS (Frame.got b).2.1).fs=true
  ·rw[if_pos h2]at h;have h:=Option.some.inj h;subst h;obtain⟨a1,a2,a3,a4,a5⟩:=readS_le (Frame.got b).2.1;exact⟨by show(readS _).ver<_;omega,by show(readS _).next<_;omega,a3,a4,by show(bksL (readS _).fs).length<=_;omega,.inr h2.2⟩
  ·rw[if_neg h2]at h;cases h
 ·rw[if_neg h1]at h;cases h
theorem stR_ok (bl:List (List UInt8)) (hb:∀j,j<2->(Man.slotB bl j).length=2048):∀(j:Nat) (p:MT),j<=2->(stR bl j).1=some p->GOk p
 |0,p,_,h=>by cases h
 |j+1,p,hj,h=>by
  have ih:=λp=>stR_ok bl hb j p (by omega)
  have hbj:=hb j (by omega);have e:stR bl (j+1)=stepR (stR bl j) (Man.slotB bl j):=rfl;rw[e]at h;unfold stepR at h;dsimp only at h;cases hg:Read.getS (Man.slotB bl j)with
  |none=>rw[hg]at h;exact ih p h
  |some x=>
   rw[hg]at h;dsimp only at h
   cases hs: (stR bl j).1 with
   |none=>rw[hs]at h;rw[<-Option.some.inj h];exact getS_ok hbj hg
   |some y=>
    rw[hs]at h;dsimp only at h
    by_cases hlt:y.1<x.1
    ·rw[if_pos hlt]at h;rw[<-Option.some.inj h];exact getS_ok hbj hg
    ·rw[if_neg hlt]at h;exact ih p (hs.trans h)
theorem readM_ok {bl:List (List UInt8)} {p:MT} {k:Bool} (hb:∀j,j<2->(Man.slotB bl j).length=2048) (h:readM bl=(some p,k)):GOk p:=stR_ok bl hb 2 p jn (by show(readM bl).1=_;rw[h])
theorem bks_ge {fs:List Fil} {f:Fil} (h:f∈fs):f.blocks.length<=(bksL fs).length:=by
 obtain⟨s,t,rfl⟩:=List.append_of_mem h;unfold Mani.bksL;rw[List.flatMap_append,jC,jL,jL]
 omega
def openL (m:DM):Int×DM×MT:=
 match (readM m.bl).1 with
 |none=>(if(readM m.bl).2 then 0 else 5,m,(0,0,[]))
 |some p=>
  if p.2.2.any (λf=>f.blocks.any (λi=>decide (m.bl.length<=i)))then(9,m,p)
  else if p.1=0 then(0,m,p)
  else((m.mani p.1 (manL p.1 p.2.1 p.2.2)).2,(m.mani p.1 (manL p.1 p.2.1 p.2.2)).1,p)
def Opened (w:World) (d g:Nat) (o:Int×DM×MT) (e:Ending) (w':World) (wv':Value):Prop:=
 if o.1=0 then∃s cm a c l,e=.returned (.tuple #[.pointer (some ⟨s,0,none⟩),.int .i64 0])/\(l:List FR).map FR.f=o.2.2.2.2/\Fu w' (λk=>Has d g wv' k\/(w.heap.size<=k/\k<w'.heap.size)) s d g cm wv' o.2.1 o.2.2.1 o.2.2.2.1 a c l false none'
 else e=.returned (.tuple #[.pointer none,.int .i64 o.1])
theorem fu_new {w w2 w':World} {d g:Nat} {wv:Value} {m:DM} {ver next:Nat} {a:Option Addr} {c:Nat} {l:List FR} (hs:w.heap.size<=w2.heap.size) (hd:Dk w2 d g wv m) (hf:FilesIn w2 a l) (ha:∀b,Mem.blk a=some b->w.heap.size<=b/\b<w2.heap.size) (hx:∀x∈l,∀b,Mem.blk x.a=some b->w.heap.size<=b/\b<w2.heap.size) (hna:∀b,Mem.blk a=some b->¬Has d g wv b) (hnx:∀x∈l,∀b,Mem.blk x.a=some b->¬Has d g wv b)
  (hw:w'=(w2.alloc (.map #[] 0)).alloc (.cells #[.pointer (some ⟨d,0,none⟩),.int .u64 (ver:Int),.int .u32 (next:Int),.slice a l.length c,.map (some w2.heap.size),.bool false] 90)):
  Fu w' (λk=>Has d g wv k\/(w.heap.size<=k/\k<w'.heap.size)) (w2.heap.size+1) d g w2.heap.size wv m ver next a c l false none':=by
 subst hw;have hB:Below w2.heap.size w2 ((w2.alloc (.map #[] 0)).alloc (.cells #[.pointer (some ⟨d,0,none⟩),.int .u64 (ver:Int),.int .u32 (next:Int),.slice a l.length c,.map (some w2.heap.size),.bool false] 90)):=((Below.refl _ w2).alloc jn _).alloc (by simp) _;have hsz: ((w2.alloc (.map #[] 0)).alloc (.cells #[.pointer (some ⟨d,0,none⟩),.int .u64 (ver:Int),.int .u32 (next:Int),.slice a l.length c,.map (some w2.heap.size),.bool false] 90)).heap.size=w2.heap.size+2:=by simp
 have hmap:MapIs ((w2.alloc (.map #[] 0)).alloc (.cells #[.pointer (some ⟨d,0,none⟩),.int .u64 (ver:Int),.int .u32 (next:Int),.slice a l.length c,.map (some w2.heap.size),.bool false] 90)) 9 w2.heap.size (λ_=>none):=(MapIs.made w2 _).keep (Below.heap_alloc _ _ _ (by simp));refine⟨Blk.at_ (by simp),hd.later hB,hf.later hB,λk hk=>?_,λx hx2 k hk=>?_,⟨_,hmap,λx h=>absurd rfl h,λnm=>rfl⟩,.inr ⟨by omega,by omega⟩,.inr ⟨by omega,by omega⟩,λk hk=>.inl hk,λk hk=>?_⟩
 ·have h1:=ha k hk;exact⟨.inr ⟨h1.1,by omega⟩,by omega,by omega,hna k hk⟩
 ·have h1:=hx x hx2 k hk;exact⟨.inr ⟨h1.1,by omega⟩,by omega,by omega,hnx x hx2 k hk⟩
 ·rcases hk with hk|hk
  ·have:=hd.lt k hk
   omega
  ·exact hk.2
theorem gok_none:GOk (0,0,[]):=⟨by decide,by decide,λf hf=>(List.not_mem_nil hf).elim,Nat.zero_le _,Nat.zero_le _,.inl rfl⟩
def goL (m:DM) (p:MT):Int×DM×MT:=
 if p.2.2.any (λf=>f.blocks.any (λi=>decide (m.bl.length<=i)))then(9,m,p)
 else if p.1=0 then(0,m,p)
 else((m.mani p.1 (manL p.1 p.2.1 p.2.2)).2,(m.mani p.1 (manL p.1 p.2.1 p.2.2)).1,p)
theorem mread_go {d g:Nat} {wv:Value} {m:DM} {w:World} (h:Dk w d g wv m) (hoff:m.off=false) (hwt:m.wt= []) (h33:33<=m.bl.length):
  Calls Tryz.prog 20 #[.pointer (some ⟨d,0,none⟩)] w λe w'=>Below w.heap.size w w'/\((e=.returned (.tuple #[noneV,.int .i64 5])/\openL m=(5,m,(0,0,[])))\/∃p v,e=.returned (.tuple #[v,.int .i64 0])/\ManAt w w' v p.1 p.2.1 p.2.2/\GOk p/\openL m=goL m p):=
 (mread_on h hoff hwt h33).mono (λe w' hh=>by
  obtain⟨h1,h2⟩:=hh;refine⟨h2,?_⟩
  cases hrm:readM m.bl with
  |mk o k=>
   rw[hrm]at h1
   cases o with
   |none=>
    have h1:e=.returned (.tuple #[noneV,.int .i64 (if k then 0 else 5)]):=h1
    cases k with
    |false=>exact .inl ⟨h1,by unfold openL;rw[hrm];rfl⟩
    |true=>exact .inr ⟨(0,0,[]),noneV,h1,manAt_none _ _,gok_none,by unfold openL;rw[hrm];rfl⟩
   |some p=>
    obtain⟨v,h3,h4⟩:=h1;exact .inr ⟨p,v,h3,h4,readM_ok (λj hj=>Man.slotB_length h.len hj h33) hrm,by unfold openL goL;rw[hrm]⟩)
attribute [local go_sem] Oper.semAt_some
theorem open_on {d g:Nat} {wv:Value} {m:DM} {w:World} (h:Dk w d g wv m) (hoff:m.off=false) (hwt:m.wt= []) (h33:33<=m.bl.length):
  Calls Tryz.prog 23 #[.pointer (some ⟨d,0,none⟩)] w λe w'=>∃wv',Dk w' d g wv' (openL m).2.1/\Upon (Has d g wv) w w'/\(∀k,wv'.ownBlock=some k->wv.ownBlock=some k\/w.heap.size<=k)/\Opened w d g (openL m) e w' wv':=by
 obtain⟨W0,hW0⟩:=jl (w.alloc (.cells #[.pointer (some ⟨d,0,none⟩)] 29));obtain⟨bx,hbx⟩:=jl w.heap.size;have hal:Below w.heap.size w W0:=by rw[hW0];exact(Below.refl w.heap.size w).alloc jn _
 have hb:Blk W0 bx 29 #[.pointer (some ⟨d,0,none⟩)]:=by rw[hW0,hbx];exact Blk.new w _ _
 have hs0:W0.heap.size=w.heap.size+1:=by rw[hW0];simp
 have hrd:∀x:World,Below W0.heap.size W0 x->Calls Tryz.prog 20 #[.pointer (some ⟨d,0,none⟩)] x λe w'=>Below x.heap.size x w'/\((e=.returned (.tuple #[noneV,.int .i64 5])/\openL m=(5,m,(0,0,[])))\/∃p v,e=.returned (.tuple #[v,.int .i64 0])/\ManAt x w' v p.1 p.2.1 p.2.2/\GOk p/\openL m=goL m p):=λx hx=>mread_go ((h.later hal).later hx) hoff hwt h33
 have HRD:=jq hrd;have HD:=jq h;have HDL:=jq h.lt;have HAL:=jq hal;have HB:=jq hb;have c0:=hb.cell 0
 simp at c0
 clear h hal hb hrd
 go_enter Tryz.func23,Tryz.ntmps23
 go_wp2_with fail
 rw[<-hW0,<-hbx];have HBE:=jq hbx;clear hW0 hbx;refine(HRD.out _ (by first|exact Below.refl _ _|exact(Below.refl _ _).drew)).mono ?_;rintro e w1 ⟨hB1,hR⟩;have hs1:=hB1.size;have hB01:=HAL.out.trans (hB1.mono HAL.out.size);have hbx1:=HB.out.below hB1 HB.out.lt;have HB01:=jq hB01;have HBX1:=jq hbx1;rcases hR with⟨rfl,hO⟩|⟨p,v,rfl,hat,hok,hO⟩
 ·have HO:=jq hO;unfold noneV;clear hO hB1 hB01 hbx1
  go_wp2_with fail
  go_ret2
  have hbl:Below w.heap.size w (w1.alloc (.cells #[.int .u64 0,.int .u32 0,.slice none 0 0] 34)):=HB01.out.alloc HB01.out.size _;rw[HO.out];exact⟨wv,HD.out.later hbl,Upon.of_below hbl,λk hk=>.inl hk,rfl⟩
 ·obtain⟨ver,next,fs⟩:=p;obtain⟨a,c,l,rfl,hl,hF,ha,hx⟩:=hat;dsimp only at hl ha hx;obtain⟨n,hn⟩:=jl l.length;rw[<-hn];obtain⟨W,hW⟩:=jl (w1.alloc (.cells #[.int .u64 (ver:Int),.int .u32 (next:Int),.slice a n c] 34));obtain⟨mb,hmb⟩:=jl w1.heap.size;have hman:Blk W mb 34 #[.int .u64 (ver:Int),.int .u32 (next:Int),.slice a n c]:=by rw[hW,hmb];exact Blk.new w1 _ _
  have hB1W:Below w1.heap.size w1 W:=by rw[hW];exact(Below.refl _ w1).alloc jn _
  have hFW:=hF.later hB1W;have hbxW:=hbx1.below hB1W hbx1.lt;have hBW:Below w.heap.size w W:=hB01.trans (hB1W.mono hB01.size);have hn2:n<=2048:=by rw[hn,<-List.length_map (f:=FR.f),hl];exact hok.few
  have haW:∀b,Mem.blk a=some b->w.heap.size<=b/\b<W.heap.size:=λb hb=>⟨by have:=(ha b hb).1;omega,Nat.lt_of_lt_of_le (ha b hb).2 hB1W.size⟩
  have hxW:∀x∈l,∀b,Mem.blk x.a=some b->w.heap.size<=b/\b<W.heap.size:=λx hx2 b hb=>⟨by have:=(hx x hx2 b hb).1;omega,Nat.lt_of_lt_of_le (hx x hx2 b hb).2 hB1W.size⟩
  have m0:=hman.cell 0;have m1:=hman.cell 1;have m2:=hman.cell 2
  simp at m0 m1 m2
  have HO:=jq hO;have HOK:=jq hok;have HL:=jq hl;have HN:=jq hn;have HMAN:=jq hman;have HFW:=jq hFW;have HBXW:=jq hbxW;have HBW:=jq hBW;have HAW:=jq haW;have HXW:=jq hxW;have hmbw:w.heap.size<=mb:=by rw[hmb];exact hB01.size
  clear hO hok hl hn hman hFW hbxW hBW haW hxW hF ha hx hB1 hB01 hbx1 hB1W
  go_wp2_with fail
  rw[<-hW,<-hmb];clear hW hmb m0 m1 m2
  go_loopw[20] (λi wr=>∃k:Nat,k<=n/\i=.int .i64 (k:Int)/\Hid (Below W.heap.size W wr)/\Hid ((fs.take k).any (λf=>f.blocks.any (λi=>decide (m.bl.length<=i)))=false)) (λi _=>n-(intOf i).toNat)
  case atStart=>exact⟨0,Nat.zero_le _,rfl,jq (Below.refl _ _),jq rfl⟩
  case round=>
   obtain⟨k,hk,rfl,hB,hz⟩:=hrel
   by_cases hkn:k<n
   ·have hkd:decide ((k:Int) <(n:Int))=true:=jd (by omega);obtain⟨x,hx⟩:∃x,l[k]? =some x:=⟨l[k]'(by rw[<-HN.out];exact hkn),jg _⟩;have hFr:=HFW.out.later hB.out;obtain⟨g,o,rfl,e0,e1,e2,e3⟩:=hFr.cells hx;have hxm:=jM hx;have hbk:=hFr.blocks x hxm;have hfx:fs[k]? =some x.f:=by rw[<-HL.out,List.getElem?_map,hx];rfl
    have hst: (fs.take (k+1)).any (λf=>f.blocks.any (λi=>decide (m.bl.length<=i)))=((fs.take k).any (λf=>f.blocks.any (λi=>decide (m.bl.length<=i)))||x.f.blocks.any (λi=>decide (m.bl.length<=i))):=by rw[List.take_add_one,hfx,List.any_append];simp
    rw[hz.out,Bool.false_or]at hst;have hany:x.f.blocks.any (λi=>decide (m.bl.length<=i))=true->fs.any (λf=>f.blocks.any (λi=>decide (m.bl.length<=i)))=true:=λhh=>List.any_eq_true.2 ⟨x.f,jM hfx,hh⟩
    have hln:x.f.blocks.length<=4000000:=by
     have h1:=bks_ge (jM hfx);have h2:=HOK.out.bks;dsimp only at h2
     omega
    have hhas:∀y:World,Below wr.heap.size wr y->Calls Tryz.prog 54 #[.slice x.a x.f.blocks.length x.c,.func (.func 55) #[] #[.pointer (some ⟨bx,0,none⟩)]] y λe w'=>e=.returned (.bool (x.f.blocks.any (λi=>decide (m.bl.length<=i))))/\Below wr.heap.size wr w':=λy hy=>
     (beyond_has ((HD.out.later (HBW.out.trans (hB.out.mono HBW.out.size))).later hy) ((HBXW.out.below hB.out HBXW.out.lt).below hy (HBXW.out.below hB.out HBXW.out.lt).lt) x.a x.c x.f.blocks (hbk.1.later hy) hln).mono (λe w' hh=>⟨hh.1,hy.trans (hh.2.mono hy.size)⟩)
    obtain⟨nz,hnz⟩:=jl (x.f.blocks.any (λi=>decide (m.bl.length<=i)));obtain⟨xl,hxl⟩:=jl x.f.blocks.length;obtain⟨nv,hnv⟩:∃b:ByteArray,sv x.f.name=.string b:=⟨_,rfl⟩;unfold iv at e2;rw[<-hnz]at hst hany hhas;rw[<-hxl]at hhas e3;rw[hnv]at e0;have HHAS:=jq hhas;have HST:=jq hst;have HANY:=jq hany;clear hhas hst hany hnz hxl hnv hz hfx hbk hxm hx hFr;cases nz
    ·go_wp2_with (first|(go_at_call 54;refine(HHAS.out _ (by first|exact(Below.refl _ wr).alloc jn _|exact((Below.refl _ wr).alloc jn _).drew)).mono ?_;rintro e w3 ⟨rfl,hB3⟩;have HB3:=jq (hB.out.trans (hB3.mono hB.out.size));clear hB3))
     exact⟨⟨k+1,hkn,by simp,HB3,HST⟩,by simp[intOf];omega⟩
    ·go_wp2_with (first|(go_at_call 54;refine(HHAS.out _ (by first|exact(Below.refl _ wr).alloc jn _|exact((Below.refl _ wr).alloc jn _).drew)).mono ?_;rintro e w3 ⟨rfl,hB3⟩;have HB3:=jq (hB.out.trans (hB3.mono hB.out.size));clear hB3))
     go_ret2
     have hbl:=HBW.out.trans (HB3.out.mono HBW.out.size);have hol:openL m=(9,m,(ver,next,fs)):=by rw[HO.out];unfold goL;rw[if_pos (HANY.out (by trivial))]
     rw[hol];exact⟨wv,HD.out.later hbl,Upon.of_below hbl,λk hk=>.inl hk,rfl⟩
   ·obtain rfl:n=k:=by omega
    have hkd:decide ((n:Int) <(n:Int))=false:=jf (by omega)
    have hany:fs.any (λf=>f.blocks.any (λi=>decide (m.bl.length<=i)))=false:=by
     have h1:=hz.out;rw[jW (by rw[HN.out,<-HL.out,jP];exact Nat.le_refl _)]at h1;exact h1
    have hman:=HMAN.out.below hB.out HMAN.out.lt;have hbxr:=HBXW.out.below hB.out HBXW.out.lt;have m0:=hman.cell 0;have m1:=hman.cell 1;have m2:=hman.cell 2;have d0:=hbxr.cell 0
    simp at m0 m1 m2 d0
    have hFr:=HFW.out.later hB.out;have hBr:=HBW.out.trans (hB.out.mono HBW.out.size);have hDr:=HD.out.later hBr;have HANY:=jq hany;have HFR:=jq hFr;have HBR:=jq hBr;have HDR:=jq hDr;have HMR:=jq hman;have HXR:=jq hbxr;clear hany hFr hBr hDr hman hbxr hz;have hlt:∀b,w.heap.size<=b->b≠d/\b≠g:=λb hb=>⟨λe=>by have:=HDL.out d (.inl rfl);omega,λe=>by have:=HDL.out g (.inr (.inl rfl));omega⟩
    have HLT:=jq hlt;have hsW:=hB.out.size;clear hlt
    by_cases hv:ver=0
    ·subst hv;have hmk:=run_makeMap (P:=Tryz.prog) 88 wr
     go_wp2_with fail
     go_ret2
     have hol:openL m=(0,m,(0,next,fs)):=by rw[HO.out];unfold goL;rw[if_neg (by rw[HANY.out];exact Bool.false_ne_true),if_pos rfl]
     have hB2:Below wr.heap.size wr ((wr.alloc (.map #[] 0)).alloc (.cells #[.pointer (some ⟨d,0,none⟩),.int .u64 0,.int .u32 (next:Int),.slice a n c,.map (some wr.heap.size),.bool false] 90)):=((Below.refl _ wr).alloc jn _).alloc (by simp) _;rw[hol];refine⟨wv,HDR.out.later hB2,(Upon.of_below HBR.out).trans (Upon.of_below hB2) (λ_ hk=>.inl hk),λk hk=>.inl hk,?_⟩;unfold Opened;rw[if_pos rfl];exact⟨wr.heap.size+1,wr.heap.size,a,c,l,rfl,HL.out,fu_new HBR.out.size HDR.out HFR.out (λb hb=>⟨(HAW.out b hb).1,Nat.lt_of_lt_of_le (HAW.out b hb).2 hsW⟩) (λx hx b hb=>⟨(HXW.out x hx b hb).1,Nat.lt_of_lt_of_le (HXW.out x hx b hb).2 hsW⟩) (λb hb hh=>by have h1:=(HAW.out b hb).1;have h2:=HDL.out b hh;omega) (λx hx b hb hh=>by have h1:=(HXW.out x hx b hb).1;have h2:=HDL.out b hh;omega) (by rw[<-HN.out];rfl)⟩
    ·have hvd:decide (0<ver)=true:=jd (by omega)
     have hmay:mayB ver next fs=true:=by
      rcases HOK.out.may with e|e
      ·exact absurd (congrArg Prod.fst e) hv
      ·exact e
     have hwr:=write_any ver next a c l wr HDR.out hoff h33 (by rw[hwt];exact Nat.zero_le _) HFR.out HOK.out.ver HOK.out.next (λx hx=>(HOK.out.got x.f (by show x.f∈fs;rw[<-HL.out];exact List.mem_map_of_mem hx)).fits) (by rw[HL.out];exact hmay);rw[HL.out,<-HN.out]at hwr;have hol:openL m=((m.mani ver (manL ver next fs)).2,(m.mani ver (manL ver next fs)).1,(ver,next,fs)):=by rw[HO.out];unfold goL;rw[if_neg (by rw[HANY.out];exact Bool.false_ne_true),if_neg hv]
     obtain⟨mm,hmm⟩:=jl (m.mani ver (manL ver next fs));rw[<-hmm]at hwr hol;obtain⟨m',E⟩:=mm;dsimp only at hwr hol;have HWR:=jq hwr;have HOL:=jq hol;clear hwr hol hmm hmay
     go_wp2_with fail
     refine HWR.out.mono ?_;rintro e w3 ⟨rfl,wv',hD3,hu3,ho3⟩;have hnm:¬Has d g wv mb:=λhh=>by have:=HDL.out mb hh;omega
     have hnb:¬Has d g wv bx:=λhh=>by have h1:=HDL.out bx hh;have h2:=HBE.out;omega
     have hman:=HMR.out.upon hu3 hnm;have hbxr:=HXR.out.upon hu3 hnb;have m0:=hman.cell 0;have m1:=hman.cell 1;have m2:=hman.cell 2;have d0:=hbxr.cell 0
     simp at m0 m1 m2 d0
     have hs3:=hu3.size;have HD3:=jq hD3;have HU3:=jq ((Upon.of_below HBR.out).trans hu3 (λ_ hk=>.inl hk));have HO3:Hid (∀k,wv'.ownBlock=some k->wv.ownBlock=some k\/wr.heap.size<=k):=jq ho3;have HU4:=jq hu3;clear hD3 hu3 ho3 hman hbxr hnm hnb;have hown:Hid (∀k,wv'.ownBlock=some k->wv.ownBlock=some k\/w.heap.size<=k):=jq (λk hk=>(HO3.out k hk).imp id (λh=>Nat.le_trans HBR.out.size h));obtain⟨z,hz⟩:∃b:Bool,(E==0)=b:=⟨_,rfl⟩;cases z
     ·have hnz: (E !=0)=true:=by simpa using hz
      have hE:E≠0:=by simpa using hz
      have HE:=jq hE;clear hE
      go_wp2_with fail
      go_ret2
      rw[HOL.out];refine⟨wv',HD3.out,HU3.out,hown.out,?_⟩;unfold Opened;rw[if_neg HE.out]
      rfl
     ·have hE:E=0:=by simpa using hz
      subst hE;have hmk:=run_makeMap (P:=Tryz.prog) 88 w3
      go_wp2_with fail
      go_ret2
      have hB2:Below w3.heap.size w3 ((w3.alloc (.map #[] 0)).alloc (.cells #[.pointer (some ⟨d,0,none⟩),.int .u64 (ver:Int),.int .u32 (next:Int),.slice a n c,.map (some w3.heap.size),.bool false] 90)):=((Below.refl _ w3).alloc jn _).alloc (by simp) _;have hf3:FilesIn w3 a l:=HFR.out.keep hs3 (λk hk=>HU4.out.block k (Nat.lt_of_lt_of_le (HAW.out k hk).2 hsW) (λhh=>by have h1:=(HAW.out k hk).1;have h2:=HDL.out k hh;omega)) (λx hx k hk=>HU4.out.block k (Nat.lt_of_lt_of_le (HXW.out x hx k hk).2 hsW) (λhh=>by have h1:=(HXW.out x hx k hk).1;have h2:=HDL.out k hh;omega))
      have hno:∀b,w.heap.size<=b->b<W.heap.size->¬Has d g wv' b:=λb h1 h2 hh=>by
       rcases hh with e|e|e
       ·exact(HLT.out b h1).1 e
       ·exact(HLT.out b h1).2 e
       ·rcases HO3.out b e with h3|h3
        ·have:=HDL.out b (.inr (.inr h3))
         omega
        ·omega
      rw[HOL.out];refine⟨wv',HD3.out.later hB2,HU3.out.trans (Upon.of_below hB2) (λ_ hk=>.inl hk),hown.out,?_⟩;unfold Opened;rw[if_pos rfl];exact⟨w3.heap.size+1,w3.heap.size,a,c,l,rfl,HL.out,fu_new (Nat.le_trans HBR.out.size hs3) HD3.out hf3 (λb hb=>⟨(HAW.out b hb).1,by have:=(HAW.out b hb).2;omega⟩) (λx hx b hb=>⟨(HXW.out x hx b hb).1,by have:=(HXW.out x hx b hb).2;omega⟩) (λb hb=>hno b (HAW.out b hb).1 (HAW.out b hb).2) (λx hx b hb=>hno b (HXW.out x hx b hb).1 (HXW.out x hx b hb).2) (by rw[<-HN.out])⟩
end Full
namespace Full
open Go.RowKit Mani Dk
open Store (Chg)
open Pages (pagesW)
def fileW (C:Chg) (f:Fil):List (Nat×List UInt8):=
 match C f.name with
 |some (some b)=>pagesW f.id f.blocks b
 |_=>[]
def chW (C:Chg) (fs:List Fil):List (Nat×List UInt8):=fs.flatMap (fileW C)
theorem chW_snoc (C:Chg) {fs:List Fil} {j:Nat} {f:Fil} (h:fs[j]? =some f):chW C (fs.take (j+1))=chW C (fs.take j)++fileW C f:=by
 unfold chW;rw[List.take_add_one,h,List.flatMap_append]
 simp
theorem writes_append:∀(a b:List (Nat×List UInt8)) (m:DM),(m.writes a).2=0->m.writes (a++b)=(m.writes a).1.writes b
 | [],_,_,_=>rfl
 |x ::r,b,m,h=>by
  by_cases hx: (m.write x.1 x.2).2=0
  ·have e1:m.writes (x ::r)=(m.write x.1 x.2).1.writes r:=by show(if _ then _ else _)=_;rw[if_pos hx]
   have e2:m.writes (x ::r++b)=(m.write x.1 x.2).1.writes (r++b):=by show(if _ then _ else _)=_;rw[if_pos hx];rfl
   rw[e1]at h⊢;rw[e2];exact writes_append r b _ h
  ·have e1:m.writes (x ::r)=m.write x.1 x.2:=by show(if _ then _ else _)=_;rw[if_neg hx]
   rw[e1]at h;exact absurd h hx
def commitD (m:DM) (C:Chg) (fs:List Fil) (ver:Nat) (b:List UInt8):DM×Int:=
 if(m.writes (chW C fs)).2=0 then(if(m.writes (chW C fs)).1.sync.2=0 then(m.writes (chW C fs)).1.sync.1.mani ver b else(m.writes (chW C fs)).1.sync)else m.writes (chW C fs)
theorem chW_stop {C:Chg} {fs:List Fil} {j:Nat} {m:DM} (h: (m.writes (chW C (fs.take j))).2≠0):m.writes (chW C fs)=m.writes (chW C (fs.take j)):=by
 have e:chW C fs=chW C (fs.take j)++chW C (fs.drop j):=by
  unfold chW;rw[<-List.flatMap_append,List.take_append_drop]
 rw[e];exact writes_stop h
theorem fileW_len (C:Chg) (f:Fil): (fileW C f).length<=f.blocks.length:=by
 unfold fileW
 split
 ·rw[Pages.pagesW_len];exact Nat.le_refl _
 ·exact Nat.zero_le _
theorem chW_len (C:Chg):∀fs:List Fil,(chW C fs).length<=(bksL fs).length
 | []=>Nat.le_refl _
 |f ::r=>by
  have h1:=chW_len C r;have h2:=fileW_len C f;unfold chW bksL at h1⊢;rw[jC,jC,jL,jL]
  omega
theorem bks_take (fs:List Fil) (j:Nat): (bksL (fs.take j)).length<=(bksL fs).length:=by
 have e:bksL fs=bksL (fs.take j)++bksL (fs.drop j):=by
  unfold bksL;rw[<-List.flatMap_append,List.take_append_drop]
 rw[e,jL]
 omega
theorem chW_state {C:Chg} {fs:List Fil} {j:Nat} {m:DM} (h: (m.writes (chW C (fs.take j))).2=0) (hb: (bksL fs).length<=70000) (hw:m.wt.length<=100000): (m.writes (chW C (fs.take j))).1.bl=m.bl/\(m.writes (chW C (fs.take j))).1.off=m.off/\(m.writes (chW C (fs.take j))).1.wt.length<=170000:=by
 obtain⟨h1,h2,h3⟩:=writes_ok h;refine⟨h1,h2,?_⟩;rw[h3,jL];have h4:=chW_len C (fs.take j);have h5:=bks_take fs j
 omega
theorem many_zero {n:Nat} (h:Mani.many n=0):n=0:=by
 unfold Mani.many at h
 split at h
 ·assumption
 ·omega
theorem many_cover {n:Nat}:n<=Mani.many n*112/\∀k,k<Mani.many n->k*112<n:=by
 unfold Mani.many
 split
 ·exact⟨by omega,λk hk=>by omega⟩
 ·exact⟨by omega,λk hk=>by omega⟩
theorem sync_ok {m:DM} (h:m.sync.2=0):m.sync.1.off=m.off/\m.sync.1.bl=puts m.bl m.wt/\m.sync.1.wt= []:=by
 unfold DM.sync at h⊢
 by_cases hf:m.fuse=0
 ·rw[if_pos hf]at h;exact absurd (show(6:Int)=0 from h) (by decide)
 ·rw[if_neg hf];refine⟨?_,rfl,rfl⟩;show m.deed.1.off=m.off;unfold DM.deed;rw[if_neg hf]
  split <;> rfl
end Full
namespace Full
open Go.RowKit Go.Deep Mem Crc Go.Maps Dk Mani
open Store (Chg chgV isChg none' nv nv_key strKeyed zero_chg strKeys_mem strKeys_length)
open Ext (Holds Tab)
def Looked (w:World) (O:Nat->Prop):Option (Option (List UInt8))->Option Addr->Nat->Nat->Bool->Prop
 |none,a,n,cp,gn=>a=none/\n=0/\cp=0/\gn=false
 |some none,a,n,cp,gn=>a=none/\n=0/\cp=0/\gn=true
 |some (some b),a,n,cp,gn=>n=b.length/\gn=false/\b.length<=cp/\Lies w a (b.map bv)/\∀k,Mem.blk a=some k->O k
theorem Fu.look {w:World} {Q:Nat->Prop} {s d g cm:Nat} {wv:Value} {m:DM} {ver next:Nat} {a:Option Addr} {c:Nat} {l:List FR} {bad:Bool} {C:Chg} (h:Fu w Q s d g cm wv m ver next a c l bad C) (nm:List UInt8) (hn:nm.length<=1000000):
  ∃a1 n1 cp1 gn,Looked w (Own Q s d g cm wv) (C nm) a1 n1 cp1 gn/\∀w':World,w'.heap[cm]? =w.heap[cm]?->
   (Instr.lookup 88 (.map (some cm)) (nv nm) true).run Tryz.prog w'=.ok (.tuple #[.agg #[.slice a1 n1 cp1,.bool gn],.bool (C nm).isSome]) w'/\
   (Instr.lookup 88 (.map (some cm)) (nv nm) false).run Tryz.prog w'=.ok (.agg #[.slice a1 n1 cp1,.bool gn]) w':=by
 obtain⟨f,hm,hk,hf⟩:=h.map;have h1:∀w':World,w'.heap[cm]? =w.heap[cm]?->_:=λw' he=>And.intro ((hm.keep he).look_ok strKeyed Tryz.underlying88 zero_chg (nv_key hn)) ((hm.keep he).look strKeyed Tryz.underlying88 zero_chg (nv_key hn))
 have hx:=hf nm;unfold isChg at hx
 cases hc:C nm with
 |none=>
  rw[hc]at hx;rw[hx]at h1;exact⟨none,0,0,false,⟨rfl,rfl,rfl,rfl⟩,h1⟩
 |some c=>
  rw[hc]at hx;obtain⟨v,h3,h4⟩:=hx;rw[h3]at h1
  cases c with
  |none=>
   rw[show v=_ from h4]at h1;exact⟨none,0,0,true,⟨rfl,rfl,rfl,rfl⟩,h1⟩
  |some b=>
   obtain⟨a,cp,rfl,h5,h6,h7⟩:=h4;exact⟨a,b.length,cp,false,⟨rfl,rfl,h5,h6,h7⟩,h1⟩
def keepR (C:Chg) (l:List FR):List FR:=l.filter (λx=>(C x.f.name).isNone)
theorem keepR_map (C:Chg) (l:List FR): (keepR C l).map FR.f=keepF C (l.map FR.f):=by
 unfold keepR keepF;rw[List.filter_map]
 rfl
theorem keepR_snoc (C:Chg) {l:List FR} {j:Nat} {x:FR} (h:l[j]? =some x):keepR C (l.take (j+1))=keepR C (l.take j)++(if(C x.f.name).isNone then [x]else []):=by
 unfold keepR;rw[List.take_add_one,h,List.filter_append]
 congr 1
 cases hc: (C x.f.name).isNone <;> simp[hc]
attribute [local go_sem] Oper.semAt_some
theorem plan_any {w:World} {Q:Nat->Prop} {s d g cm:Nat} {wv:Value} {m:DM} {ver next:Nat} {a:Option Addr} {c:Nat} {l:List FR} {bad:Bool} {C:Chg} (h:Fu w Q s d g cm wv m ver next a c l bad C) (hT:Tab w) (L:List (List UInt8)) (hL:∀x,C x≠none->x∈L) (hLn:L.length<=9000) (hLs:∀x∈L,x.length<=32)
  (hCb:∀nm b,C nm=some (some b)->b.length<=1048576) (hv:ver<18446744073709551616) (hn:next<4294967296) (hr:rises (l.map FR.f)) (hl:∀x∈l,x.f.name.length<=32/\x.f.fits/\∀i∈x.f.blocks,i<65536) (hlc:l.length<=2100) (hbk: (bksL (l.map FR.f)).length<=2100):
  Calls Tryz.prog 42 #[.pointer (some ⟨s,0,none⟩)] w λe w'=>∃mv room,e=.returned (.tuple #[mv,.bool room])/\(∃(x y:Int) (a0:Option Addr) (k0 c0:Nat),mv=.agg #[.int .u64 x,.int .u32 y,.slice a0 k0 c0])/\Below w.heap.size w w'/\((room=false/\ver=18446744073709551615)\/(ver<18446744073709551615/\∃ss:List (List UInt8),ss.Pairwise (·< ·)/\(∀nm,nm∈ss↔C nm≠none)/\
   ((room=false/\(planF C ss (startF C m.bl.length next (l.map FR.f))=none\/∃p,planF C ss (startF C m.bl.length next (l.map FR.f))=some p/\mayB (ver+1) p.next p.fs=false))\/
    (room=true/\∃p a' c' l',planF C ss (startF C m.bl.length next (l.map FR.f))=some p/\mayB (ver+1) p.next p.fs=true/\mv=.agg #[.int .u64 ((ver+1:Nat):Int),.int .u32 (p.next:Int),.slice a' l'.length c']/\l'.map FR.f=p.fs/\FilesIn w' a' l'/\(∀b,Mem.blk a'=some b->w.heap.size<=b/\b<w'.heap.size)/\∀x∈l',x∈l\/∀b,Mem.blk x.a=some b->w.heap.size<=b/\b<w'.heap.size)))):=by
 obtain⟨c0,c1,c2,c3,c4,c5⟩:=h.cells;have hsl:=h.store.lt;obtain⟨n,hnl⟩:=jl l.length;rw[<-hnl]at c3 hlc
 have hbl:∀x∈l,x.f.blocks.length<=100000:=λx hx=>by
  have:=bksL_mem (List.mem_map.2 ⟨x,hx,rfl⟩:x.f∈l.map FR.f)
  omega
 have H:=jq h;have HT:=jq hT;have HL:=jq hL;have HLS:=jq hLs;have HCB:=jq hCb;have HR:=jq hr;have HLL:=jq hl;have HNL:=jq hnl;have HBL:=jq hbl;have HBK:=jq hbk;obtain⟨i0,hi0,hiz,hi1,hi2⟩:=info_parts infoF
 by_cases hvm:ver=18446744073709551615
 ·subst hvm;clear h hT hL hLs hCb hr hl hnl hbl hbk
  go_enter Tryz.func42,Tryz.ntmps42
  go_wp2_with fail
  go_region
  have hw0:IntKind.u64.wrap 18446744073709551616=0:=by rw[IntKind.wrap_u64];rfl
  obtain⟨W1,hW1⟩:=jl (((w.alloc (.cells #[.int .u64 0,.int .u32 0,.slice none 0 0] 34)).alloc (.cells #[.int .u64 (IntKind.u64.wrap 18446744073709551616),.int .u32 (next:Int),.slice none 0 0] 34)).drew);rw[<-hW1];rw[hw0]at hW1;have hB1:Below w.heap.size w W1:=by rw[hW1];exact(((Below.refl _ w).alloc jn _).alloc (by simp) _).drew
  obtain⟨r,hr⟩:=jl w.heap.size;obtain⟨q,hq⟩:=jl (w.heap.size+1);have hres:Blk W1 r 34 #[.int .u64 0,.int .u32 0,.slice none 0 0]:=by rw[hW1,hr];exact(Blk.new w _ _).alloc _
  have hman:Blk W1 q 34 #[.int .u64 0,.int .u32 (next:Int),.slice none 0 0]:=by
   rw[hW1,hq];have:=Blk.new (w.alloc (.cells #[.int .u64 0,.int .u32 0,.slice none 0 0] 34)) 34 #[.int .u64 0,.int .u32 (next:Int),.slice none 0 0];rw[World.size_alloc]at this;exact this
  rw[hw0,<-hq,<-hr];have hrr:w.heap.size<=r:=by omega
  have m0:=hman.cell 0;have m1:=hman.cell 1;have m2:=hman.cell 2;have r0:=hres.cell 0;have r1:=hres.cell 1;have r2:=hres.cell 2;have z0:=hres.frozen 0;have z1:=hres.frozen 1;have z2:=hres.frozen 2
  simp at m0 m1 m2 r0 r1 r2
  clear hW1 hq hr
  go_wp2_with fail
  have hf:=((hres.set 0 (.int .u64 0)).set 1 (.int .u32 (next:Int))).set 2 (.slice none 0 0);have y0:=hf.cell 0;have y1:=hf.cell 1;have y2:=hf.cell 2;have hBf:Below w.heap.size w (((W1.setCell ⟨r,0,none⟩ (.int .u64 0)).setCell ⟨r,1,none⟩ (.int .u32 (next:Int))).setCell ⟨r,2,none⟩ (.slice none 0 0)):=((hB1.setCell hrr _).setCell hrr _).setCell hrr _;obtain⟨Wf,hWf⟩:=jl ((((W1.setCell ⟨r,0,none⟩ (.int .u64 0)).setCell ⟨r,1,none⟩ (.int .u32 (next:Int))).setCell ⟨r,2,none⟩ (.slice none 0 0)));rw[<-hWf]at y0 y1 y2 hBf⊢
  simp at y0 y1 y2
  refine bodyPost_ret (v:=.tuple #[.agg #[.int .u64 0,.int .u32 (next:Int),.slice none 0 0],.bool false]) (by simp[results,Tryz.f42,go_sem,y0,y1,y2]) rfl ?_;exact⟨_,_,rfl,⟨_,_,_,_,_,rfl⟩,hBf,by first|exact .inl ⟨rfl,rfl⟩|exact .inl ⟨rfl,trivial⟩⟩
 ·have hv2:ver<18446744073709551615:=by omega
  clear h hT hL hLs hCb hr hl hnl hbl hbk hvm
  go_enter Tryz.func42,Tryz.ntmps42
  go_wp2_with fail
  go_region
  obtain⟨W1,hW1⟩:=jl (((w.alloc (.cells #[.int .u64 0,.int .u32 0,.slice none 0 0] 34)).alloc (.cells #[.int .u64 ((ver:Int)+1),.int .u32 (next:Int),.slice none 0 0] 34)).drew);obtain⟨r,hr⟩:=jl w.heap.size;obtain⟨q,hq⟩:=jl (w.heap.size+1);have hB1:Below w.heap.size w W1:=by rw[hW1];exact(((Below.refl _ w).alloc jn _).alloc (by simp) _).drew
  have hres:Blk W1 r 34 #[.int .u64 0,.int .u32 0,.slice none 0 0]:=by rw[hW1,hr];exact(Blk.new w _ _).alloc _
  have hman:Blk W1 q 34 #[.int .u64 ((ver+1:Nat):Int),.int .u32 (next:Int),.slice none 0 0]:=by
   rw[hW1,hq];have:=Blk.new (w.alloc (.cells #[.int .u64 0,.int .u32 0,.slice none 0 0] 34)) 34 #[.int .u64 ((ver:Int)+1),.int .u32 (next:Int),.slice none 0 0];rw[World.size_alloc]at this;exact this
  rw[<-hW1,<-hq,<-hr];have HFR:=jq (free_any (H.out.later hB1) (by rw[<-HNL.out];omega) HBL.out);have x0:W1.cell? ⟨q,0,none⟩=some (.int .u64 ((ver:Int)+1)):=hman.cell 0;have hge:=And.intro (show w.heap.size<=q by omega) (And.intro (show w.heap.size<=r by omega) (show q≠r by omega));have HB1:=jq hB1;have HRES:=jq hres;have HMAN:=jq hman;clear hW1 hr hq hB1 hres hman;obtain⟨hgq,hgr,hne⟩:=hge
  go_wp2_with fail
  refine HFR.out.mono ?_;rintro e w2 ⟨Cb,gb,cap,rfl,hH,hC,hg,hB2⟩;have hz1:=HB1.out.size
  have hP0:PS w l r q Cb gb cap (freeK m.bl.length (l.map FR.f)) (ver+1) next (.slice none 0 0) (.slice none 0 0) (keepR C (l.take 0)) (.slice none 0 0) 0 [] w2:=by
   rw[List.take_zero];exact⟨HB1.out.trans (hB2.mono hz1),HRES.out.below hB2 HRES.out.lt,HMAN.out.below hB2 HMAN.out.lt,World.ownsRow_nil _ _ _ _,hH,λx hx=>(by cases hx),World.ownsRow_nil _ _ _ _,hgq,hgr,by omega,by omega,hne⟩
  obtain⟨K0,hK0⟩:=jl (freeK m.bl.length (l.map FR.f));rw[<-hK0]at hP0;have hBw:Below w.heap.size w w2:=hP0.below;have d3:=(hBw.cell (p:=⟨s,3,none⟩) hsl).trans c3;have HP0:=jq hP0;have HK0:=jq hK0;clear hP0 hK0 hH hC hg hB2 hz1 x0 HFR HRES HMAN hBw
  go_wp2_with fail
  clear d3
  go_loopw[41] (λi wr=>∃(j:Nat) (v:Value),j<=n/\i=.int .i64 j/\Hid (PS w l r q Cb gb cap K0 (ver+1) next v v (keepR C (l.take j)) (.slice none 0 0) 0 [] wr)) (λi _=>n-(intOf i).toNat)
  case atStart=>exact⟨0,_,Nat.zero_le _,rfl,HP0⟩
  case round=>
   obtain⟨j,v,hj,rfl,hP⟩:=hrel
   by_cases hlt:j<n
   ·have hjd:decide ((j:Int) <(n:Int))=true:=jd (by omega);obtain⟨x,hx⟩:∃x,l[j]? =some x:=⟨l[j]'(by rw[<-HNL.out];exact hlt),jg _⟩;have hxm:=jM hx;have hBr:=hP.out.below;have hFr:=H.out.later hBr;obtain⟨ga,oa,rfl,f0,f1,f2,f3⟩:=hFr.files.cells hx;obtain⟨sb,hnm⟩:∃sb:ByteArray,sv x.f.name=.string sb:=⟨_,rfl⟩;have hnm2:nv x.f.name=.string sb:=hnm;obtain⟨sz,hsz⟩:=jl x.f.size;obtain⟨id,hid⟩:=jl x.f.id;obtain⟨bn,hbn⟩:=jl x.f.blocks.length;obtain⟨ch,hch⟩:=jl ((C x.f.name).isSome);unfold iv at f2;rw[hnm]at f0;rw[<-hid]at f1;rw[<-hsz]at f2;rw[<-hbn]at f3;obtain⟨W5,hW5⟩:=jl (wr.alloc (.cells #[.string sb,.int .u32 (id:Int),.int .i64 (sz:Int),.slice x.a bn x.c] 96));have hB5:Below wr.heap.size wr W5:=by rw[hW5];exact(Below.refl _ wr).alloc jn _
    have hb5:Blk W5 wr.heap.size 96 #[.string sb,.int .u32 (id:Int),.int .i64 (sz:Int),.slice x.a bn x.c]:=by rw[hW5];exact Blk.new wr _ _
    obtain⟨bx,hbx⟩:=jl wr.heap.size;rw[<-hbx]at hb5;obtain⟨W6,hW6⟩:=jl ((W5.alloc (.cells #[.slice none 0 0,.bool false] 87)).drew);have hB6:Below wr.heap.size wr W6:=by rw[hW6];exact(hB5.alloc hB5.size _).drew
    have hcw:cm<wr.heap.size:=Nat.lt_of_lt_of_le (H.out.lt cm H.out.qm) hBr.size;obtain⟨a1,n1,cp1,gn,_,hlk⟩:=hFr.look x.f.name (by have:=(HLL.out x hxm).1;omega);have hlk5:=(hlk W5.drew (hB5.drew.block cm hcw)).1;have hlk6:=(hlk W6 (hB6.block cm hcw)).1;rw[hnm2,<-hch]at hlk5 hlk6;have k6:=((hBr.trans (hB6.mono hBr.size)).cell (p:=⟨s,4,none⟩) hsl).trans c4
    have b6:W6.cell? ⟨bx,0,none⟩=some (.string sb):=by
     rw[hW6];exact(hb5.alloc _).cell 0
    rw[hW6]at hlk6 k6 b6;have k4:=((hBr.trans (hB5.mono hBr.size)).cell (p:=⟨s,4,none⟩) hsl).trans c4;have b0:=hb5.cell 0
    simp at b0
    have HW5:=jq hW5;have HBX:=jq hbx;have HX:=jq hx;have HNM:=jq hnm;have HSZ:=jq hsz;have HID:=jq hid;have HBN:=jq hbn;have HCH:=jq hch;have HB5:=jq hB5;have HP:=jq hP.out;have HBK5:=jq hb5;clear hW6 hB6 hlk hcw hFr hBr hxm hx hnm hnm2 hsz hid hbn hch hB5 hb5 hP
    go_wp2_with fail
    rw[<-HW5.out,<-HBX.out];clear hW5 hbx
    go_wp2_with fail
    go_region
    all_goals
     obtain⟨W7,hW7⟩:=jl ((W5.alloc (.cells #[.slice a1 n1 cp1,.bool gn] 87)).drew);have hB57:Below W5.heap.size W5 W7:=by rw[hW7];exact((Below.refl _ W5).alloc jn _).drew
     rw[<-hW7];have hP7:=HP.out.later (HB5.out.trans (hB57.mono HB5.out.size));have hb7:=HBK5.out.below hB57 HBK5.out.lt;have HP7:=jq hP7;have b0:=hb7.cell 0;have b1:=hb7.cell 1;have b2:=hb7.cell 2;have b3:=hb7.cell 3;have q2:=hP7.man.cell 2
     simp at b0 b1 b2 b3 q2
     clear hW7 hB57 hP7 hb7 hlk5 hlk6 k4 k6 b6;cases ch
     ·have hks:keepR C (l.take (j+1))=keepR C (l.take j)++ [x]:=by
       rw[keepR_snoc C HX.out];have:=HCH.out
       cases hc:C x.f.name with
       |none=>rfl
       |some c=>rw[hc]at this;cases this
      have hvs:x.vs= [.string sb,.int .u32 (id:Int),.int .i64 (sz:Int),.slice x.a bn x.c]:=by
       unfold FR.vs iv;rw[HNM.out,<-HID.out,<-HSZ.out,<-HBN.out]
      have HKS:=jq hks;have HVS:=jq hvs;have hlen: (keepR C (l.take j)).length<=2100:=Nat.le_trans (List.length_filter_le _ _) (by rw[jT];omega);have hsz7:=HP7.out.below.size;obtain⟨W8,hW8⟩:=jl (W7.alloc (.cells #[.string sb,.int .u32 (id:Int),.int .i64 (sz:Int),.slice x.a bn x.c] 96));have hB8:Below W7.heap.size W7 W8:=by rw[hW8];exact(Below.refl _ W7).alloc jn _
      have hP8:=HP7.out.later hB8;have hb8:Blk W8 W7.heap.size 96 x.vs.toArray:=by rw[hW8,hvs];exact Blk.new W7 _ _
      have HC8:=jq (vs_cells hb8);have HP8:=jq hP8;have HW8:=jq hW8;rw[hvs]at HC8;clear hks hvs hB8 hP8 hb8 hW8
      go_wp2_with (first|(at_builtin;rw[<-HW8.out];refine wpList_append_own _ rfl _ _ 32 rfl w.heap.size 96 i0 (.agg #[.string ⟨#[]⟩,.int .u32 0,.int .i64 0,.slice none 0 0]) 4 56 Tryz.underlying32 hi0 hiz hi1 hi2 rfl (by decide) _ _ _ rfl HP8.out.row ⟨W7.heap.size,0,none⟩ 1 1 _ rfl rfl HC8.out (by rw[<-HVS.out];exact vs_one x) ?c1 ?c2 ?c3 ?_))
      case c1=>unfold maxLen;omega
      case c2=>omega
      case c3=>exact HP8.out.below.size
      intro v' w9 hown hgr _;obtain⟨av,cv,rfl,_,_,_,_⟩:=own_shape hown
      have hown2:w9.ownsRow w.heap.size 96 4 (.slice av ((keepR C (l.take j)).length+1) cv) (keepR C (l.take (j+1))).length (flatF (keepR C (l.take (j+1)))):=by
       rw[HKS.out,flatF_append,flatF_cons,HVS.out,jL]
       simpa[flatF]using hown
      have hP9:=HP8.out.rowed (l':=keepR C (l.take (j+1))) (Upon.of_grown hgr (λg hg=>.inl hg)) hown2 (λy hy=>by
       rw[HKS.out]at hy;rcases List.mem_append.1 hy with h1|h1
       ·exact .inl h1
       ·exact .inr (.inl (by rw[jE.1 h1];exact jM HX.out)))
      have hPA:=hP9.set;have q3:=hP9.man.cell 2;have z3:=hP9.man.frozen 2
      simp at q3
      have HPA:=jq hPA;clear hown hown2 hgr hP9 hPA
      go_wp2_with fail
      exact⟨⟨j+1,_,by omega,by simp,HPA⟩,by simp[intOf];omega⟩
     ·have hks:keepR C (l.take (j+1))=keepR C (l.take j):=by
       rw[keepR_snoc C HX.out];have:=HCH.out
       cases hc:C x.f.name with
       |none=>rw[hc]at this;cases this
       |some c=>simp
      have HKS:=jq hks;clear hks
      go_wp2_with fail
      exact⟨⟨j+1,v,by omega,by simp,by rw[HKS.out];exact HP7⟩,by simp[intOf];omega⟩
   ·obtain rfl:j=n:=by omega
    have hjd:decide ((j:Int) <(j:Int))=false:=jf (by omega);have htk:l.take j=l:=jW (by rw[HNL.out];exact Nat.le_refl _);have hP2:=hP.out;rw[htk]at hP2;have hBr:=hP2.below;have k4:=(hBr.cell (p:=⟨s,4,none⟩) hsl).trans c4;have HP:=jq hP2;have HBR:=jq hBr;clear htk hP2 hBr hP;obtain⟨f,⟨D,nD,hown,hd⟩,hk,hf⟩:=(H.out.later HBR.out).map
    have hLm:∀x∈strKeys D,x∈L:=λx hx=>HL.out x (λhc=>by
     have h1:=(strKeys_mem hd hk (hown.entries strKeyed) x).1 hx;have h2:=hf x;unfold isChg at h2;rw[hc]at h2;exact h1 h2)
    have hsup:∀x,f x≠none->x∈L.map Lit.string:=λx hx=>by
     obtain⟨nm,rfl⟩:=hk x hx;refine List.mem_map.2 ⟨nm,HL.out nm (λhc=>hx ?_),rfl⟩;have h2:=hf nm;unfold isChg at h2;rw[hc]at h2;exact h2
    obtain⟨D2,hown2,hd2⟩:=MapIs.bounded ⟨D,nD,hown,hd⟩ strKeyed (L.map Lit.string) hsup;have hle:=hown2.size_le;rw[jP]at hle;have hnod:=strKeys_nodup hd2 hk (hown2.entries strKeyed)
    have hmem:∀nm,nm∈strKeys D2↔C nm≠none:=λnm=>by
     rw[strKeys_mem hd2 hk (hown2.entries strKeyed) nm];have h2:=hf nm;unfold isChg at h2
     cases hc:C nm with
     |none=>rw[hc]at h2;rw[h2];simp
     |some c=>
      rw[hc]at h2;obtain⟨v,h3,_⟩:=h2;rw[h3]
      simp
    have hkl: (strKeys D2).length<=9000:=by rw[strKeys_length (hown2.entries strKeyed)];omega
    have hKeys:=callsIn_wide.1 (Tryz.maps_Keys_72 (some cm) wr);have hSort:=callsIn_wide.1 (Tryz.slices_Sorted_keys_58_72 cm _ D2 anyR wr hown2 (by unfold maxLen;omega) (by omega));have HKY:=jq hKeys;have HST:=jq hSort;have HNOD:=jq hnod;have HMEM:=jq hmem;have HKL:=jq hkl;clear hown hd hk hf hLm hsup hown2 hd2 hle hnod hmem hkl hKeys hSort
    go_wp2_with fail
    refine HKY.out.mono ?_;rintro e w6 ⟨rfl,rfl⟩
    go_wp2_with fail
    refine HST.out.mono ?_;rintro e w7 ⟨vn,ss0,rfl,hperm,hown7,_,hB7⟩;obtain⟨ss,hss⟩:=jl (ss0.mergeSort (λx y=>decide (x<=y)));have hsp:ss.Perm ss0:=by rw[hss];exact List.mergeSort_perm _ _
    have hslen:ss.length=ss0.length:=hsp.length_eq;have hsort:ss.Pairwise (·< ·):=by rw[hss];exact sorted_names hperm HNOD.out
    have hsmem:∀nm,nm∈ss↔C nm≠none:=λnm=>by rw[hsp.mem_iff,hperm.mem_iff,HMEM.out nm]
    have hs9:ss.length<=9000:=by rw[hslen,hperm.length_eq];exact HKL.out
    rw[<-hss,<-hslen]at hown7;have hP7:=(HP.out.later (((Below.refl _ wr).alloc jn _).trans (hB7.mono (by simp)))).named (own_mono hown7 (by have:=HBR.out.size;simp;omega));obtain⟨an,cn,rfl,hcn,hLN,_,_⟩:=own_shape hown7;obtain⟨N,hN⟩:=jl ss.length;rw[<-hN]at hP7 hcn hs9⊢;have HP7:=jq hP7;have HSS:=jq hsort;have HSM:=jq hsmem;have HN:=jq hN
    have hpi0:=pinv_start (C:=C) (n:=m.bl.length) (next:=next) (fs:=l.map FR.f) H.out.disk.small hn HR.out (λf hf=>by
     obtain⟨x,hx,rfl⟩:=List.mem_map.1 hf;exact HLL.out x hx) (by rw[jP,<-HNL.out];exact hlc) HBK.out
    have HPI0:=jq hpi0;clear hss hsp hslen hsort hsmem hperm hown7 hB7 hP7 hLN hN hpi0 HKY HST HNOD HMEM HKL HP;obtain⟨p0,hp0⟩:=jl (startF C m.bl.length next (l.map FR.f));rw[<-hp0]at HPI0;have hk0:p0.k=K0:=by rw[hp0,HK0.out];rfl
    have hn0:p0.next=next:=by rw[hp0];rfl
    have hf0: (keepR C l).map FR.f=p0.fs:=by rw[keepR_map,hp0];rfl
    have hP8:=HP7.out;rw[<-hk0]at hP8;have hP9:PS w l r q Cb gb cap p0.k (ver+1) p0.next v v (keepR C l) (.slice an N cn) N (ss.map encStr) w7:=by rw[hn0];exact hP8
    have HP9:=jq hP9;have HF0:=jq hf0;have HP0:=jq hp0;have hpl0:planF C (ss.take 0) p0=some p0:=rfl;have HPL0:=jq hpl0;clear hk0 hn0 hf0 hP8 hP9 hp0 hpl0 HP7
    go_wp2_with fail
    go_loopw[71] (λi wr=>∃(t:Nat) (v:Value) (p:PL) (l':List FR),t<=N/\i=.int .i64 t/\Hid (planF C (ss.take t) p0=some p)/\Hid (l'.map FR.f=p.fs)/\Hid (PInv C m.bl.length 2100 70000 (ss.take t) p)/\Hid (PS w l r q Cb gb cap p.k (ver+1) p.next v v l' (.slice an N cn) N (ss.map encStr) wr)) (λi _=>N-(intOf i).toNat)
    case atStart=>exact⟨0,_,p0,_,Nat.zero_le _,rfl,HPL0,HF0,HPI0,HP9⟩
    case round=>
     clear HPL0 HF0 HPI0 HP9;obtain⟨t,v,p,l',ht,rfl,hpl,hfs,hpi,hP⟩:=hrel
     by_cases hlt:t<N
     ·have htd:decide ((t:Int) <(N:Int))=true:=jd (by omega);obtain⟨nm,hnm⟩:∃nm,ss[t]? =some nm:=⟨ss[t]'(by rw[<-HN.out];exact hlt),jg _⟩;have hnmm:=jM hnm;have hcn0:=(HSM.out nm).1 hnmm;have hns:nm.length<=32:=HLS.out nm (HL.out nm hcn0);obtain⟨a8,c8,e8,_,hrow8⟩:=Ext.own_form hP.out.names;obtain⟨gnb,e9,_,_,hcells⟩:=hrow8 (by omega);cases e8;subst e9;obtain⟨sb,hsb⟩:∃sb:ByteArray,encStr nm=.string sb:=⟨_,rfl⟩;have n0:=hcells t (.string sb) (by rw[List.getElem?_map,hnm,<-hsb];rfl);have hnv:nv nm=.string sb:=hsb;have hBr:=hP.out.below;have hcw:cm<w.heap.size:=H.out.lt cm H.out.qm;obtain⟨a1,n1,cp1,gn,hlo,hlk⟩:=(H.out.later hBr).look nm (by omega);have hlk1:=(hlk wr rfl).2;rw[hnv]at hlk1;have k4:=(hBr.cell (p:=⟨s,4,none⟩) hsl).trans c4;have hsn:=planF_snoc C hnm p0;rw[hpl.out]at hsn
      have hdn:nm∉ss.take t:=λhm=>by
       obtain⟨i,hi⟩:=List.mem_iff_getElem?.1 hm;rw[List.getElem?_take]at hi
       split at hi
       ·have hlt2:i<t:=by assumption
        obtain⟨i1,ei⟩:=jS.1 hi;obtain⟨t1,et⟩:=jS.1 hnm;have:=List.pairwise_iff_getElem.1 HSS.out i t i1 t1 hlt2;rw[ei,et]at this;exact absurd this (List.lt_irrefl nm)
       ·cases hi
      have htk:ss.take (t+1)=ss.take t++ [nm]:=by rw[List.take_add_one,hnm];rfl
      cases hcc:C nm with
      |none=>exact absurd hcc hcn0
      |some cc=>
       cases cc with
       |none=>
        rw[hcc]at hlo;obtain⟨rfl,rfl,rfl,rfl⟩:=hlo;have hst:stepF C nm p=some p:=by unfold stepF;rw[hcc]
        have hpi2:=hpi.out.step H.out.disk.small hdn hcn0 hns (λb hb=>HCB.out nm b hb) hst;rw[<-htk]at hpi2;have hpl2:planF C (ss.take (t+1)) p0=some p:=by rw[hsn];exact hst
        have HPI2:=jq hpi2;have HPL2:=jq hpl2;have hP2:=jq (hP.out.later ((Below.refl _ wr).alloc jn (.cells #[.slice none 0 0,.bool true] 87)));clear hst hpi2 hpl2 hsn htk hdn hcn0 hnmm hnm hlk hcells hsb hnv hrow8 hBr hcc hpl hpi hP
        go_wp2_with fail
        exact⟨⟨t+1,v,p,l',by omega,by simp,HPL2,hfs,HPI2,hP2⟩,by simp[intOf];omega⟩
       |some b=>
        rw[hcc]at hlo;obtain⟨rfl,rfl,hcp,hLb,_⟩:=hlo;have hbl:=HCB.out nm b hcc;have hTl:=HT.out.lt;obtain⟨W1,hW1⟩:=jl (wr.alloc (.cells #[.slice a1 b.length cp1,.bool false] 87));have hP1:=hP.out.later (show Below wr.heap.size wr W1 by rw[hW1];exact(Below.refl _ wr).alloc jn _);have HMN:=jq (many_any b.length (by omega) W1);have HTK:=jq (Ext.take_any Cb gb cap p.k ((many b.length:Nat):Int) W1 hP1.map (HT.out.below hP1.below hTl) (by have:=hP1.gC;omega) (by have:=hP1.gg;omega));obtain⟨M,hM⟩:=jl (many b.length);rw[<-hM]at HMN HTK;obtain⟨B,hB⟩:=jl b.length;rw[<-hB]at HMN hcp hW1 hlk1;have HB:=jq hB;have HM:=jq hM;have HW1:=jq hW1;have HP1:=jq hP1;have HCC:=jq hcc;have HSN:=jq hsn;have HTK2:=jq htk;have HDN:=jq hdn;have HNM:=jq hnm;have HSB:=jq hnv;have HLB:=jq hLb;clear hcc hsn htk hdn hnm hnv hsb hcn0 hnmm hlk hcells hrow8 hBr hpl hP hP1 hM hB hLb
        go_wp2_with fail
        rw[<-hW1];clear hW1 hlk1 k4 n0;refine HMN.out.mono ?_;rintro e w3 ⟨rfl,rfl⟩
        go_wp2_with fail
        refine HTK.out.mono ?_;rintro e w4 ⟨⟨a3,c3,rfl,hown3⟩,hH4,ho4⟩;have hP4:=HP1.out.took ho4 hH4;have hbx1:Blk w3 wr.heap.size 87 #[.slice a1 B cp1,.bool false]:=by rw[HW1.out];exact Blk.new wr _ _
        have hbx4:Blk w4 wr.heap.size 87 #[.slice a1 B cp1,.bool false]:=hbx1.only ho4 (λhm=>by
         obtain⟨cs,hc,_⟩:=HP1.out.map.words
         simp at hm
         rcases hm with e|e
         ·exact hbx1.ne HP1.out.map.map (by decide) e
         ·exact hbx1.ne hc (by decide) e)
        have HBX4:=jq hbx4;clear hbx1 hbx4
        by_cases hfr:Ext.freeN p.k<M
        ·have hE:Ext.takeEr p.k (M:Int)=7:=by unfold Ext.takeEr;rw[if_neg (by omega),if_pos (by omega)]
         rw[hE];have hst:stepF C nm p=none:=by unfold stepF;rw[HCC.out];exact if_pos (by rw[<-HM.out];exact hfr)
         have hnone:planF C ss p0=none:=planF_none C (j:=t+1) (by rw[HSN.out];exact hst);have HNONE:=jq hnone;obtain⟨av,cv,e5,_,_,_,_⟩:=own_shape hP4.row;rw[e5]at hP4;obtain⟨L5,hL5⟩:=jl l'.length;obtain⟨T3,hT3⟩:=jl ((Ext.takeL p.k (M:Int)).length);rw[<-hT3];have m0:=hP4.man.cell 0;have m1:=hP4.man.cell 1;have m2:=hP4.man.cell 2;have r0:=hP4.res.cell 0;have r1:=hP4.res.cell 1;have r2:=hP4.res.cell 2;have z0:=hP4.res.frozen 0;have z1:=hP4.res.frozen 1;have z2:=hP4.res.frozen 2
         simp at m0 m1 m2 r0 r1 r2
         rw[<-hL5]at m2;have HP4:=jq hP4;obtain⟨nx,hnx⟩:=jl p.next;rw[<-hnx]at m1;clear hE hst hnone hP4 hown3 hH4 ho4 hL5 hT3 e5 hnx HTK HMN
         go_wp2_with fail
         obtain⟨y0,y1,y2⟩:=res_set HP4.out.res (.int .u64 ((ver:Int)+1)) (.int .u32 (nx:Int)) (.slice av L5 cv);have hBf:=below_res HP4.out.below hgr (.int .u64 ((ver:Int)+1)) (.int .u32 (nx:Int)) (.slice av L5 cv);obtain⟨Wf,hWf⟩:=jl ((((w4.setCell ⟨r,0,none⟩ (.int .u64 ((ver:Int)+1))).setCell ⟨r,1,none⟩ (.int .u32 (nx:Int))).setCell ⟨r,2,none⟩ (.slice av L5 cv)));rw[<-hWf]at y0 y1 y2 hBf⊢;refine bodyPost_ret (v:=.tuple #[.agg #[.int .u64 ((ver:Int)+1),.int .u32 (nx:Int),.slice av L5 cv],.bool false]) (by simp[results,Tryz.f42,go_sem,y0,y1,y2]) rfl ?_;have hn0:=HNONE.out;rw[HP0.out]at hn0;exact⟨_,_,rfl,⟨_,_,_,_,_,rfl⟩,hBf,.inr ⟨hv2,ss,HSS.out,HSM.out,.inl ⟨rfl,.inl hn0⟩⟩⟩
        ·have hNf:M<=Ext.freeN p.k:=by omega
         have hE:Ext.takeEr p.k (M:Int)=0:=by unfold Ext.takeEr;rw[if_neg (by omega),if_neg (by omega)]
         have hTL: (Ext.takeL p.k (M:Int)).length=M:=takeL_length hNf;rw[hE,hTL];rw[hTL]at hown3;obtain⟨x,hxd⟩:∃x:FR,x=⟨newF nm b p,a3,c3⟩:=⟨_,rfl⟩;have hxb:x.f.blocks=(Ext.takeL p.k (M:Int)).map Int.toNat:=by rw[hxd,HM.out];rfl
         have hxl:x.f.blocks.length=M:=by rw[hxb,jP,hTL]
         have hnew:NewRow w.heap.size w4 x:=by
          unfold NewRow;rw[hxl,hxb,toNat_iv,hxd];exact own_mono hown3 HP1.out.below.size
         have hvs:x.vs= [.string sb,.int .u32 (p.next:Int),.int .i64 (B:Int),.slice a3 M c3]:=by
          have e1:sv nm=.string sb:=HSB.out;unfold FR.vs iv;rw[hxl,hxd,HB.out];show [sv nm,_,_,_]=_;rw[e1]
          rfl
         obtain⟨av,cv,e5,hF4,_,_⟩:=hP4.files H.out.files;rw[e5]at hP4
         have hlen:l'.length<=11100:=by
          have h1:=hpi.out.count;rw[<-hfs.out,jP]at h1;have h2: (ss.take t).length<=N:=by rw[jT,HN.out];omega
          omega
         obtain⟨nb,hnb0⟩:∃nb:Nat->ByteArray,nb=λk=>⟨((l'[k]?.map (λy=>y.f.name)).getD []).toArray⟩:=⟨_,rfl⟩
         have hnb:∀(k:Nat) (y:FR),l'[k]? =some y->sv y.f.name=.string (nb k):=λk y hy=>by rw[hnb0];simp[hy,sv]
         have hcl:∀(k:Nat) (y:FR),l'[k]? =some y->(cmpI (nb k) sb<0↔y.f.name<nm):=λk y hy=>cmp_lt (hnb k y hy) HSB.out
         have hrs:∀(k k':Nat) (y y':FR),k<k'->l'[k]? =some y->l'[k']? =some y'->y.f.name<y'.f.name:=λk k' y y' hk hy hy'=>by
          have h1:=hpi.out.rise;unfold rises at h1;rw[<-hfs.out]at h1;have h2:=List.pairwise_map.1 h1;obtain⟨i1,e1⟩:=jS.1 hy;obtain⟨i2,e2⟩:=jS.1 hy';have:=List.pairwise_iff_getElem.1 h2 k k' i1 i2 hk
          rwa [e1,e2]at this
         have hmono:∀k k',k<=k'->k'<l'.length->cmpI (nb k') sb<0->cmpI (nb k) sb<0:=λk k' hk hk' hc=>by
          rcases Nat.lt_or_eq_of_le hk with h1|h1
          ·have g1:=List.getElem?_eq_getElem (l:=l') (i:=k) (by omega);have g2:=List.getElem?_eq_getElem (l:=l') (i:=k') hk';exact(hcl k _ g1).2 (List.lt_trans (hrs k k' _ _ h1 g1 g2) ((hcl k' _ g2).1 hc))
          ·rw[h1];exact hc
         have HFD:=jq (find_any (ver+1) p.next l' nb av cv sb w4 hF4 (by omega) hnb hmono);obtain⟨L5,hL5⟩:=jl l'.length;have m0:=hP4.man.cell 0;have m1:=hP4.man.cell 1;have m2:=hP4.man.cell 2
         simp at m0 m1 m2
         rw[<-hL5]at m2 HFD;obtain⟨nx,hnx⟩:=jl p.next;rw[<-hnx]at m1 HFD;have HP4:=jq hP4;have HNEW:=jq hnew;have HVS:=jq hvs;have HXD:=jq hxd;have HL5:=jq hL5;have HNX:=jq hnx;have HCL:=jq hcl;have HNF:=jq hNf;clear hE hTL hP4 hown3 hH4 ho4 hL5 hnx HTK HMN hF4 hnb0 hnb hcl hrs hmono hnew hvs hxb hxl hxd hNf hfr e5
         go_wp2_with fail
         refine HFD.out.mono ?_;rintro e w5 ⟨i,hi,hi1,hi2,rfl,hB5⟩
         have hins:insAt nm p.fs=i:=by
          rw[<-hfs.out];refine insAt_eq nm _ i (by rw[jP];rw[HL5.out]at hi;exact hi) (λk y hk hy=>?_) (λk y hk hy=>?_)
          ·obtain⟨z,hz,rfl⟩:=Option.map_eq_some_iff.1 (by rw[<-List.getElem?_map];exact hy);exact(HCL.out k z hz).1 (hi1 k hk)
          ·obtain⟨z,hz,rfl⟩:=Option.map_eq_some_iff.1 (by rw[<-List.getElem?_map];exact hy);have hk2:=(jS.1 hz).1;have:=hi2 k hk (by rw[HL5.out];exact hk2)
           exact λh2=>by
            have:=(HCL.out k z hz).2 h2
            omega
         have hP5:=HP4.out.later hB5;have hb5:=HBX4.out.below hB5 HBX4.out.lt;have hnew5:NewRow w.heap.size w5 x:=Dk.own_keep HNEW.out (λg hg=>hB5.block g (World.ownsRow.lt HNEW.out g hg).2);obtain⟨W6,hW6⟩:=jl (w5.alloc (.cells #[.string sb,.int .u32 (nx:Int),.int .i64 (B:Int),.slice a3 M c3] 96));have hB6:Below w5.heap.size w5 W6:=by rw[hW6];exact(Below.refl _ w5).alloc jn _
         have hP6:=hP5.later hB6;have hnew6:NewRow w.heap.size W6 x:=Dk.own_keep hnew5 (λg hg=>hB6.block g (World.ownsRow.lt hnew5 g hg).2);have hx6:Blk W6 w5.heap.size 96 x.vs.toArray:=by rw[hW6,HVS.out,<-HNX.out];exact Blk.new w5 _ _
         rw[<-HL5.out]at hP6
         have HINS:=jq (insert_any l' i x (.slice av L5 cv) w5.heap.size W6 hP6.row hP6.below.size (by rw[<-HL5.out];exact hi) hx6 (λe=>by
          have:=(hP5.row.lt _ (by rw[<-HL5.out];exact e)).2;exact Nat.lt_irrefl _ this) (by omega))
         obtain⟨b6,hb6⟩:=jl w5.heap.size;have m0:=hP5.man.cell 0;have m1:=hP5.man.cell 1;have m2:=hP5.man.cell 2;have b0:=hb5.cell 0
         simp at m0 m1 m2 b0
         rw[<-HL5.out]at m2;rw[<-HNX.out]at m1;have hmm:=hP6.man;have HP6:=jq hP6;have HNEW6:=jq hnew6;have HW6:=jq hW6;have HIN:=jq hins;clear hi1 hi2 hins hP5 hb5 hnew5 hW6 hB6 hP6 hnew6 hx6 hB5 hmm HFD hb6
         go_wp2_with fail
         rw[<-HW6.out];refine HINS.out.mono ?_;rintro e w7 ⟨v7,rfl,hown7,hu7⟩;have hi3:i<=l'.length:=by rw[<-HL5.out];exact hi
         have hlen7: (l'.take i++x ::l'.drop i).length=l'.length+1:=by
          rw[jL,List.length_cons,jT,List.length_drop]
          omega
         have hown8:w7.ownsRow w.heap.size 96 4 v7 (l'.take i++x ::l'.drop i).length (flatF (l'.take i++x ::l'.drop i)):=by rw[hlen7];exact hown7
         have hP7:=HP6.out.rowed (l':=l'.take i++x ::l'.drop i) hu7 hown8 (λy hy=>by
          rcases List.mem_append.1 hy with h1|h1
          ·exact .inl (List.mem_of_mem_take h1)
          ·rcases List.mem_cons.1 h1 with rfl|h1
           ·exact .inr (.inr HNEW6.out)
           ·exact .inl (List.mem_of_mem_drop h1))
         obtain⟨a7,c7,e7,_,_,_,_⟩:=own_shape hown8;obtain⟨L7,hL7⟩:=jl ((l'.take i++x ::l'.drop i).length);rw[<-hL7]at e7;subst e7;have hPA:=hP7.set.nexts ((nx+1)%4294967296)
         have hfs2: (l'.take i++x ::l'.drop i).map FR.f=insF (newF nm b p) p.fs:=by
          have e1:x.f=newF nm b p:=by rw[HXD.out]
          unfold insF;rw[show(newF nm b p).name=nm from rfl,HIN.out,<-hfs.out,<-e1,List.map_append,List.map_cons,List.map_take,List.map_drop]
         have hst:stepF C nm p=some ⟨Ext.takeK p.k (M:Int),(nx+1)%4294967296,insF (newF nm b p) p.fs⟩:=by
          unfold stepF;rw[HCC.out,HNX.out,HM.out];exact if_neg (by rw[<-HM.out];have:=HNF.out;omega)
         have hpi2:=hpi.out.step H.out.disk.small HDN.out (λe=>by rw[HCC.out]at e;cases e) hns (λb hb=>HCB.out nm b hb) hst;rw[<-HTK2.out]at hpi2;have hpl2:planF C (ss.take (t+1)) p0=some ⟨Ext.takeK p.k (M:Int),(nx+1)%4294967296,insF (newF nm b p) p.fs⟩:=by rw[HSN.out];exact hst
         have q0:=hP7.man.cell 0;have q1:=hP7.man.cell 1;have q2:=hP7.man.cell 2;have z1:=hP7.man.frozen 1;have z2:=hP7.man.frozen 2;simp only[jt,ja,jb]at q0 q1 q2;rw[<-HNX.out]at q1;have hwx:IntKind.u32.wrap ((nx:Int)+1)=(((nx+1)%4294967296:Nat):Int):=by rw[IntKind.wrap_u32];omega
         obtain⟨NX,hNX⟩:=jl ((nx+1)%4294967296);obtain⟨l7,hl7⟩:=jl (l'.take i++x ::l'.drop i);rw[<-hNX]at hPA hpi2 hpl2 hwx;rw[<-hl7]at hPA hfs2;have HPA:=jq hPA;have HPI2:=jq hpi2;have HPL2:=jq hpl2;have HFS2:=jq hfs2;clear hown7 hown8 hu7 hP7 hPA hfs2 hst hpi2 hpl2 hlen7 hi3 hL7 hNX hl7 m0 m1 m2 b0
         go_wp2_with fail
         exact⟨⟨t+1,_,_,_,by omega,by simp,HPL2,HFS2,HPI2,HPA⟩,by simp[intOf];omega⟩
     ·obtain rfl:t=N:=by omega
      have htd:decide ((t:Int) <(t:Int))=false:=jf (by omega);have htk:ss.take t=ss:=jW (by rw[HN.out];exact Nat.le_refl _);rw[htk]at hpl hpi;obtain⟨av,cv,e5,hF4,hg5,hb5⟩:=hP.out.files H.out.files;have hP4:=hP.out;rw[e5]at hP4;have hfits:∀y∈l',y.f.fits:=λy hy=>(hpi.out.fit y.f (by rw[<-hfs.out];exact List.mem_map.2 ⟨y,hy,rfl⟩)).1
      have hmy:∀W',Below wr.heap.size wr W'\/(∃A B D,Below wr.heap.size (((wr.setCell ⟨r,0,none⟩ A).setCell ⟨r,1,none⟩ B).setCell ⟨r,2,none⟩ D) W')->True:=λ_ _=>trivial
      clear hmy;have hbody:=hpi.out.may (ver:=ver+1) (by rw[<-HN.out];omega) (by omega)
      have hmy:∀W',FilesIn W' av l'->Calls Tryz.prog 76 #[.agg #[.int .u64 ((ver+1:Nat):Int),.int .u32 (p.next:Int),.slice av l'.length cv]] W' λe w'=>e=.returned (.bool (mayB (ver+1) p.next p.fs))/\Below W'.heap.size W' w':=λW' hW=>by
       have:=may_any (ver+1) p.next av cv l' W' hW (by omega) hpi.out.next hfits (by rw[hfs.out];exact hbody);rw[hfs.out]at this;exact this
      have HMY:=jq hmy;have m0:=hP4.man.cell 0;have m1:=hP4.man.cell 1;have m2:=hP4.man.cell 2;have r0:=hP4.res.cell 0;have r1:=hP4.res.cell 1;have r2:=hP4.res.cell 2;have z0:=hP4.res.frozen 0;have z1:=hP4.res.frozen 1;have z2:=hP4.res.frozen 2;simp only[jt,ja,jb]at m0 m1 m2 r0 r1 r2;obtain⟨nx,hnx⟩:=jl p.next;obtain⟨L5,hL5⟩:=jl l'.length;obtain⟨mb,hmb⟩:=jl (mayB (ver+1) p.next p.fs);rw[<-hmb,<-hnx,<-hL5]at HMY;rw[<-hnx]at m1;rw[<-hL5]at m2;have HP4:=jq hP4;have HF4:=jq hF4;have HG5:=jq hg5;have HB5:=jq hb5;have HNX:=jq hnx;have HL5:=jq hL5;have HMB:=jq hmb;have HPL:=jq hpl.out;have hql:=hP4.man.lt;have hrl:=hP4.res.lt;clear hP4 hF4 hg5 hb5 hnx hL5 hmb hmy hfits hbody e5 htk hP;have hk0: (λw':World=>w'.cell? ⟨q,0,none⟩=some (.int .u64 ((ver:Int)+1))/\w'.cell? ⟨q,1,none⟩=some (.int .u32 (nx:Int))/\w'.cell? ⟨q,2,none⟩=some (.slice av L5 cv)) wr.drew:=⟨m0,m1,m2⟩
      have HKEEP:=jq (show∀w6:World,Below wr.drew.heap.size wr.drew w6->(λw':World=>w'.cell? ⟨q,0,none⟩=some (.int .u64 ((ver:Int)+1))/\w'.cell? ⟨q,1,none⟩=some (.int .u32 (nx:Int))/\w'.cell? ⟨q,2,none⟩=some (.slice av L5 cv)) w6/\(λw':World=>w'.cell? ⟨q,0,none⟩=some (.int .u64 ((ver:Int)+1))/\w'.cell? ⟨q,1,none⟩=some (.int .u32 (nx:Int))/\w'.cell? ⟨q,2,none⟩=some (.slice av L5 cv)) (((w6.setCell ⟨r,0,none⟩ (.int .u64 ((ver:Int)+1))).setCell ⟨r,1,none⟩ (.int .u32 (nx:Int))).setCell ⟨r,2,none⟩ (.slice av L5 cv))/\Blk w6 r 34 #[.int .u64 0,.int .u32 0,.slice none 0 0]from λw6 hB=>by
       have hq6:Blk w6 q 34 #[.int .u64 ((ver+1:Nat):Int),.int .u32 (p.next:Int),.slice av l'.length cv]:=HP4.out.man.below (w':=w6) ⟨hB.os,hB.tape,hB.output,hB.size,hB.block⟩ hql;rw[<-HNX.out,<-HL5.out]at hq6;have hq7:=((hq6.far (p:=⟨r,0,none⟩) hne (.int .u64 ((ver:Int)+1))).far (p:=⟨r,1,none⟩) hne (.int .u32 (nx:Int))).far (p:=⟨r,2,none⟩) hne (.slice av L5 cv);exact⟨⟨hq6.cell 0,hq6.cell 1,hq6.cell 2⟩,⟨hq7.cell 0,hq7.cell 1,hq7.cell 2⟩,HP4.out.res.below (w':=w6) ⟨hB.os,hB.tape,hB.output,hB.size,hB.block⟩ hrl⟩)
      go_wp2_with fail
      go_region_held3 (λw'=>w'.cell? ⟨q,0,none⟩=some (.int .u64 ((ver:Int)+1))/\w'.cell? ⟨q,1,none⟩=some (.int .u32 (nx:Int))/\w'.cell? ⟨q,2,none⟩=some (.slice av L5 cv)) (first|exact hk0|exact hk1|exact hk2) ((first|(go_at_call 76;refine(HMY.out _ (HF4.out.later (Below.refl _ wr).drew)).mono ?_;rintro e w6 ⟨rfl,hB6⟩;obtain⟨hk1,hk2,hr6⟩:=HKEEP.out w6 hB6;have r06:=hr6.cell 0;have r16:=hr6.cell 1;have r26:=hr6.cell 2;have z06:=hr6.frozen 0;have z16:=hr6.frozen 1;have z26:=hr6.frozen 2;simp only[jt,ja,jb]at r06 r16 r26;have HB6:=jq hB6;have HR6:=jq hr6;clear hB6 hr6;dsimp only)))
      obtain⟨y0,y1,y2⟩:=res_set HR6.out (.int .u64 ((ver:Int)+1)) (.int .u32 (nx:Int)) (.slice av L5 cv);have hB46:Below w.heap.size w w6:=HP4.out.below.trans ((show Below wr.heap.size wr w6 from⟨HB6.out.os,HB6.out.tape,HB6.out.output,HB6.out.size,HB6.out.block⟩).mono HP4.out.below.size);have hBf:=below_res hB46 hgr (.int .u64 ((ver:Int)+1)) (.int .u32 (nx:Int)) (.slice av L5 cv)
      have hFf:FilesIn (((w6.setCell ⟨r,0,none⟩ (.int .u64 ((ver:Int)+1))).setCell ⟨r,1,none⟩ (.int .u32 (nx:Int))).setCell ⟨r,2,none⟩ (.slice av L5 cv)) av l'/\(∀b,Mem.blk av=some b->w.heap.size<=b/\b<(((w6.setCell ⟨r,0,none⟩ (.int .u64 ((ver:Int)+1))).setCell ⟨r,1,none⟩ (.int .u32 (nx:Int))).setCell ⟨r,2,none⟩ (.slice av L5 cv)).heap.size)/\∀x∈l',x∈l\/∀b,Mem.blk x.a=some b->w.heap.size<=b/\b<(((w6.setCell ⟨r,0,none⟩ (.int .u64 ((ver:Int)+1))).setCell ⟨r,1,none⟩ (.int .u32 (nx:Int))).setCell ⟨r,2,none⟩ (.slice av L5 cv)).heap.size:=by
       have hP6:=HP4.out.later (show Below wr.heap.size wr w6 from⟨HB6.out.os,HB6.out.tape,HB6.out.output,HB6.out.size,HB6.out.block⟩);obtain⟨cs6,hc6,hb6⟩:=hP6.map.words;have hPr:=((hP6.res0 (.int .u64 ((ver:Int)+1)) 0).res0 (.int .u32 (nx:Int)) 1).res0 (.slice av L5 cv) 2;obtain⟨a9,c9,e9,hF9,hg9,hb9⟩:=hPr.files9 H.out.files;cases e9;exact⟨hF9,hg9,hb9⟩
      obtain⟨Wf,hWf⟩:=jl ((((w6.setCell ⟨r,0,none⟩ (.int .u64 ((ver:Int)+1))).setCell ⟨r,1,none⟩ (.int .u32 (nx:Int))).setCell ⟨r,2,none⟩ (.slice av L5 cv)));rw[<-hWf]at y0 y1 y2 hBf hFf⊢;have HFf:=jq hFf;clear hFf hk1 hk2 r06 r16 r26 z06 z16 z26 hWf
      go_wp2_with fail
      refine bodyPost_ret (v:=.tuple #[.agg #[.int .u64 ((ver:Int)+1),.int .u32 (nx:Int),.slice av L5 cv],.bool mb]) (by simp[results,Tryz.f42,go_sem,y0,y1,y2]) rfl ?_;have hpl2:=HPL.out;rw[HP0.out]at hpl2;refine⟨_,_,rfl,⟨_,_,_,_,_,rfl⟩,hBf,.inr ⟨hv2,ss,HSS.out,HSM.out,?_⟩⟩;cases mb
      ·exact .inl ⟨rfl,.inr ⟨p,hpl2,HMB.out.symm⟩⟩
      ·refine .inr ⟨rfl,p,av,cv,l',hpl2,HMB.out.symm,?_,hfs.out,HFf.out.1,HFf.out.2.1,HFf.out.2.2⟩;rw[<-HNX.out,<-HL5.out]
       rfl
end Full
namespace Full
open Go.RowKit Go.Deep Mem Crc Go.Maps Dk Mani
open Store (Chg chgV isChg none' nv nv_key strKeyed zero_chg)
structure WS (w:World) (d g:Nat) (wv:Value) (m:DM) (wv':Value) (W:World):Prop where
 disk:Dk W d g wv' m
 upon:Upon (Has d g wv) w W
 own:∀k,wv'.ownBlock=some k->wv.ownBlock=some k\/w.heap.size<=k
theorem WS.later {w W W':World} {d g:Nat} {wv wv':Value} {m:DM} (h:WS w d g wv m wv' W) (hB:Below W.heap.size W W'):WS w d g wv m wv' W':=
 ⟨h.disk.later hB,h.upon.trans (Upon.of_below (P:=λ_=>False) hB) (λ_ hf=>hf.elim),h.own⟩
theorem WS.step {w W W':World} {d g:Nat} {wv wv' wv2:Value} {m m2:DM} (h:WS w d g wv m wv' W) (hd:Dk W' d g wv2 m2) (hu:Upon (Has d g wv') W W') (ho:∀k,wv2.ownBlock=some k->wv'.ownBlock=some k\/W.heap.size<=k):WS w d g wv m2 wv2 W':=
 ⟨hd,h.upon.trans hu (λk hk=>by
  rcases hk with rfl|rfl|hk
  ·exact .inl (.inl rfl)
  ·exact .inl (.inr (.inl rfl))
  ·rcases h.own k hk with h1|h1
   ·exact .inl (.inr (.inr h1))
   ·exact .inr h1),λk hk=>by
  rcases ho k hk with h1|h1
  ·exact h.own k h1
  ·exact .inr (Nat.le_trans h.upon.size h1)⟩
theorem WS.cell {w W:World} {d g:Nat} {wv wv':Value} {m:DM} (h:WS w d g wv m wv' W) {p:Addr} (hp:p.block<w.heap.size) (hn:¬Has d g wv p.block):W.cell? p=w.cell? p:=World.cell?_of_block (h.upon.block p.block hp hn)
theorem WS.lies {w W:World} {d g:Nat} {wv wv':Value} {m:DM} (h:WS w d g wv m wv' W) {a:Option Addr} {xs:List Value} (hL:Lies w a xs) (hn:∀k,Mem.blk a=some k->¬Has d g wv k):Lies W a xs:=hL.upon h.upon hn
theorem WS.files {w W:World} {d g:Nat} {wv wv':Value} {m:DM} (h:WS w d g wv m wv' W) {a:Option Addr} {l:List FR} (hF:FilesIn w a l) (hn:∀k,Mem.blk a=some k->¬Has d g wv k) (hx:∀x∈l,∀k,Mem.blk x.a=some k->¬Has d g wv k):FilesIn W a l:=
 ⟨h.lies hF.row hn,λx hx2=>⟨h.lies (hF.blocks x hx2).1 (hx x hx2),(hF.blocks x hx2).2⟩⟩
theorem WS.base {w W0 W:World} {d g:Nat} {wv wv':Value} {m:DM} (h:WS W0 d g wv m wv' W) (hB:Below w.heap.size w W0):WS w d g wv m wv' W:=
 ⟨h.disk,(Upon.of_below (P:=Has d g wv) hB).trans h.upon (λ_ hk=>.inl hk),λk hk=>(h.own k hk).imp id (λh1=>Nat.le_trans hB.size h1)⟩
theorem Fu.away {w:World} {Q:Nat->Prop} {s d g cm:Nat} {wv:Value} {m:DM} {ver next:Nat} {a:Option Addr} {c:Nat} {l:List FR} {bad:Bool} {C:Chg} (h:Fu w Q s d g cm wv m ver next a c l bad C):¬Has d g wv s/\¬Has d g wv cm:=by
 obtain⟨f,⟨D,n,⟨es,cl,hb,_⟩,_⟩,_⟩:=h.map;refine⟨λhk=>?_,λhk=>?_⟩
 ·rcases hk with e|e|e
  ·exact h.store.ne h.disk.disk (by decide) e
  ·exact h.store.ne h.disk.row (by decide) e
  ·exact own_ne_blk h.disk.wt h.store (by decide) e
 ·rcases hk with e|e|e
  ·have:=h.disk.disk;unfold Blk at this;rw[<-e,hb]at this;cases this
  ·have:=h.disk.row;unfold Blk at this;rw[<-e,hb]at this;cases this
  ·obtain⟨_,_,h1⟩:=own_cells h.disk.wt e;rw[hb]at h1;cases h1
end Full
namespace Full
open Go.RowKit Go.Deep Mem Crc Go.Maps Dk Mani Pages
theorem file_any {W:World} {d g s:Nat} {wv:Value} {m:DM} {cs:Array Value} (hd:Dk W d g wv m) (hoff:m.off=false) (hwt:m.wt.length<=900000) (hs:Blk W s 90 cs) (hcs:cs[0]? =some (.pointer (some ⟨d,0,none⟩)))
  (sb:ByteArray) (id sz:Nat) (b:List UInt8) (bl:List Nat) (a1 xa:Option Addr) (cp1 xc:Nat) (hLb:Lies W a1 (b.map bv)) (ha1:∀k,Mem.blk a1=some k->¬Has d g wv k) (hcp:b.length<=cp1) (hb:b.length<=1048576)
  (hLx:Lies W xa (bl.map iv)) (hxa:∀k,Mem.blk xa=some k->¬Has d g wv k) (hm:bl.length=Mani.many b.length) (hbi:∀i∈bl,i<m.bl.length) (hid:id<4294967296):
  Calls Tryz.prog 77 #[.pointer (some ⟨s,0,none⟩),.agg #[.string sb,.int .u32 (id:Int),.int .i64 (sz:Int),.slice xa bl.length xc],.slice a1 b.length cp1] W λe w'=>e=.returned (.int .i64 (m.writes (pagesW id bl b)).2)/\∃wv',Dk w' d g wv' (m.writes (pagesW id bl b)).1/\Upon (Has d g wv) W w'/\∀k,wv'.ownBlock=some k->wv.ownBlock=some k\/W.heap.size<=k:=by
 by_cases h0:b= []
 ·subst h0;have hbl:bl= []:=List.eq_nil_of_length_eq_zero (by rw[hm];rfl);subst hbl;refine(pages_none s sb id sz cp1 (.slice xa 0 xc) a1 W).mono ?_;rintro e w' ⟨rfl,hB⟩;exact⟨rfl,wv,hd.later hB,Upon.of_below hB,λk hk=>.inl hk⟩
 ·have hl0:b.length≠0:=λe=>h0 (List.eq_nil_of_length_eq_zero e)
  have hm0:bl≠[]:=λe=>by
   rw[e]at hm;exact hl0 (many_zero hm.symm)
  obtain⟨ga,go,rfl,_,_⟩:=(hLb.resolve_left (λe=>h0 (List.map_eq_nil_iff.1 e)));obtain⟨ba,bo,rfl,_,_⟩:=(hLx.resolve_left (λe=>hm0 (List.map_eq_nil_iff.1 e)));obtain⟨h1,h2⟩:=many_cover (n:=b.length);rw[<-hm]at h1 h2
  have hbn:bl.length<=10000:=by
   rw[hm];unfold Mani.many
   split <;> omega
  exact pages_any sb id sz ga go cp1 ba bo xc b bl W hd hoff (by omega) hs hcs hLb (ha1 ga rfl) hcp (by omega) hLx (hxa ba rfl) hbi h1 h2 hid (by omega)
end Full
end Go.Proofs.YtbfochdoeibofaaGreatDoor
