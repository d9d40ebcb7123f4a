/- Part. -/
import Derived.Test.YtfgjnpbffppocaaGreatDoorF0
import Derived.Test.YtfgjnpbffppocaaGreatDoorF0H
import Derived.Test.YtfgjnpbffppocaaGreatDoorF0Q
import Derived.Test.YtfgjnpbffppocaaGreatDoorF4
import Derived.Test.YtfgjnpbffppocaaGreatDoorF22
import Derived.Lib.Strings
import Derived.Sort.Walk0
import Derived.Deep.RegionHeld3
set_option maxHeartbeats 2000000
set_option maxRecDepth 100000
namespace Go.Proofs.YtfgjnpbffppocaaGreatDoor
namespace Mani
open Go.RowKit Go.Deep Mem Crc Varint Go.Maps
def allB (next:Nat):Option (List UInt8)->List Nat->List Nat->List Fil->Bool
 |_,_,_,[]=>true
 |prev,ids,bks,f ::r=>(prev.all (λp=>decide (p<f.name)))&&rightB f next ids bks&&allB next (some f.name) (f.id ::ids) (f.blocks.reverse++bks) r
def mayB (ver next:Nat) (l:List Fil):Bool:=allB next none [] [] l&&decide ((bodyL ver next l).length<=2035)
theorem leq_str {b c:List UInt8} {sb sc:ByteArray} (hb:.string sb=sv b) (hc:.string sc=sv c): (Op.bytesLess sb.toList sc.toList||sb.toList==sc.toList)=decide (b<=c):=by
 unfold sv at hb hc;injection hb with hb;injection hc with hc;subst hb hc;rw[Lib.toList_data,Lib.toList_data,bytesLess_eq];show(decide (b<c)||b==c)=decide (b<=c)
 by_cases h:b=c
 ·subst h
  simp
 ·have hbc: (b==c)=false:=by simpa using h
  rw[hbc,Bool.or_false];refine decide_eq_decide.2 ⟨λh=>List.le_of_lt h,λh2=>?_⟩;rcases List.le_iff_lt_or_eq.1 h2 with h3|h3
  ·exact h3
  ·exact absurd h3 h
theorem binOp_leq_str (t:TypeId) (a b:ByteArray):binOp .leq t (.string a) (.string b)=pure (.bool (Op.bytesLess a.toList b.toList||a.toList==b.toList)):=by simp[binOp,Op.stringOp]
attribute [local go_sem] binOp_leq_str
def prevN (fs:List Fil):Nat->Option (List UInt8)
 |0=>none
 |k+1=>(fs[k]?).map Fil.name
theorem sv_parts (nm:List UInt8):∃sb:ByteArray,.string sb=sv nm/\sb.size=nm.length:=by
 refine⟨⟨nm.toArray⟩,rfl,?_⟩;show nm.toArray.size=_
 simp
theorem allB_step {next k:Nat} {fs:List Fil} {f:Fil} {ids bks:List Nat} (h:fs[k]? =some f):allB next (prevN fs k) ids bks (fs.drop k)=((prevN fs k).all (λp=>decide (p<f.name))&&rightB f next ids bks&&allB next (prevN fs (k+1)) (f.id ::ids) (f.blocks.reverse++bks) (fs.drop (k+1))):=by
 have hd:fs.drop k=f ::fs.drop (k+1):=by
  rw[List.drop_eq_getElem_cons (jS.1 h).1,(jS.1 h).2]
 rw[hd];have e:prevN fs (k+1)=some f.name:=by show(fs[k]?).map Fil.name=_;rw[h];rfl
 rw[e]
 rfl
def bksL (l:List Fil):List Nat:=l.flatMap Fil.blocks
theorem filL_ge (f:Fil):f.name.length+f.blocks.length+1<=(filL f).length:=by
 have h1:=blocksL_ge f.blocks;have h2:=vput_pos f.id;unfold filL;simp only[jL]
 omega
theorem bksL_le (l:List Fil): (bksL l).length+l.length<=(l.flatMap filL).length:=by
 induction l with
 |nil=>exact Nat.le_refl _
 |cons x r ih=>
  have:=filL_ge x;unfold bksL at ih⊢;simp only[jC,jL,List.length_cons]
  omega
theorem may_any (ver next:Nat) (a:Option Addr) (c:Nat) (l:List FR) (w:World) (h:FilesIn w a l) (hv:ver<18446744073709551616) (hn:next<4294967296) (hf:∀x∈l,x.f.fits) (hm: (bodyL ver next (l.map FR.f)).length<=900000):
  Calls Tryz.prog 97 #[.agg #[.int .u64 (ver:Int),.int .u32 (next:Int),.slice a l.length c]] w λe w'=>e=.returned (.bool (mayB ver next (l.map FR.f)))/\Below w.heap.size w w':=by
 have hbk:=bksL_le (l.map FR.f);have hmb: ((l.map FR.f).flatMap filL).length<=900000:=by unfold bodyL at hm;simp only[jL]at hm;omega
 obtain⟨n,hnl⟩:=jl l.length;have hn9:n<=1000000:=by rw[jP]at hbk;omega
 obtain⟨fs,hfs⟩:=jl (l.map FR.f);obtain⟨W,hW⟩:=jl (((w.alloc (.cells #[.int .u64 (ver:Int),.int .u32 (next:Int),.slice a n c] 101)).alloc (.map #[] 0)).alloc (.map #[] 0));obtain⟨xb,hxb⟩:=jl w.heap.size;have hBW:Below w.heap.size w W:=by rw[hW];exact(((Below.refl _ w).alloc jn _).alloc (by simp) _).alloc (by simp;omega) _
 have hbx:Blk W xb 101 #[.int .u64 (ver:Int),.int .u32 (next:Int),.slice a n c]:=by rw[hW,hxb];exact((Blk.new w _ _).alloc _).alloc _
 have hI0:SetIs W 24 .u32 (xb+1) []:=by
  have:=SetIs.made (w.alloc (.cells #[.int .u64 (ver:Int),.int .u32 (next:Int),.slice a n c] 101)) 24 .u32;rw[World.size_alloc]at this;rw[hW,hxb];exact this.keep (Below.heap_alloc _ _ _ (by simp))
 have hK0:SetIs W 3 .i64 (xb+1+1) []:=by
  have:=SetIs.made ((w.alloc (.cells #[.int .u64 (ver:Int),.int .u32 (next:Int),.slice a n c] 101)).alloc (.map #[] 0)) 3 .i64;rw[World.size_alloc,World.size_alloc]at this;rw[hW,hxb];exact this
 rw[<-hnl,<-hfs];obtain⟨res,hres⟩:=jl (allB next none [] [] fs);have HF:=jq h;have HFIT:=jq hf;have HNL:=jq hnl;have HFS:=jq hfs;have HBW:=jq hBW;have HBX:=jq hbx;have HI0:=jq hI0;have HK0:=jq hK0;have HXB:=jq hxb;have HRES:=jq hres;have HM:=jq hm;have HBK:Hid ((bksL fs).length<=900000):=jq (by rw[hfs];omega);have hmk1:=run_makeMap (P:=Tryz.prog) 209 (w.alloc (.cells #[.int .u64 (ver:Int),.int .u32 (next:Int),.slice a n c] 101));have hmk2:=run_makeMap (P:=Tryz.prog) 210 ((w.alloc (.cells #[.int .u64 (ver:Int),.int .u32 (next:Int),.slice a n c] 101)).alloc (.map #[] 0));have m2:W.cell? ⟨xb,2,none⟩=some (.slice a n c):=hbx.cell 2;clear h hf hnl hfs hBW hbx hI0 hK0 hres hm hbk hmb
 go_enter Tryz.func97,Tryz.ntmps97
 go_wp2_with fail
 rw[<-hW,<-hxb];clear hW hxb hmk1 hmk2
 go_loopw[14] (λi wr=>∃k ids,k<=n/\i=.int .i64 k/\Below w.heap.size w wr/\Blk wr xb 101 #[.int .u64 (ver:Int),.int .u32 (next:Int),.slice a n c]/\SetIs wr 24 .u32 (xb+1) ids/\SetIs wr 3 .i64 (xb+1+1) (bksL (fs.take k)).reverse/\ids.length=k/\res=allB next (prevN fs k) ids (bksL (fs.take k)).reverse (fs.drop k)) (λi _=>n-(intOf i).toNat)
 case atStart=>exact⟨0,[],Nat.zero_le _,rfl,HBW.out,HBX.out,HI0.out,by simpa[bksL]using HK0.out,rfl,by simpa[bksL,prevN]using HRES.out⟩
 case round=>
  obtain⟨k,ids,hk,rfl,hB,hbx,hI,hK,hil,hinv⟩:=hrel
  by_cases hlt:k<n
  ·obtain⟨x,hx⟩:∃x,l[k]? =some x:=⟨l[k]'(by rw[<-HNL.out];exact hlt),jg _⟩;have hfx:fs[k]? =some x.f:=by rw[HFS.out,List.getElem?_map,hx];rfl
   obtain⟨g,o,rfl,c0,c1,c2,c3⟩:=(HF.out.later hB).cells hx;have hxm:=jM hx;obtain⟨hLb,hcb⟩:=HF.out.blocks x hxm;have hfit:=HFIT.out x hxm
   have hbkn: (bksL (fs.take (k+1))).reverse=x.f.blocks.reverse++(bksL (fs.take k)).reverse:=by
    unfold bksL;rw[flat_snoc Fil.blocks hfx,List.reverse_append]
   have hbkl: (bksL (fs.take (k+1))).length<=900000:=by
    have h1:=flat_le Fil.blocks fs (k+1);have h2:=HBK.out;unfold bksL at h2⊢
    omega
   have hst:=allB_step (next:=next) (ids:=ids) (bks:=(bksL (fs.take k)).reverse) hfx
   have hnm9:x.f.name.length<=900000:=by
    have h1:x.f∈fs:=by rw[HFS.out];exact List.mem_map.2 ⟨x,hxm,rfl⟩
    have h2:=filL_ge x.f
    have h3: (filL x.f).length<=(fs.flatMap filL).length:=by
     obtain⟨s,t,e⟩:=List.append_of_mem h1;rw[e,List.flatMap_append,jC];simp only[jL]
     omega
    have h4:=HM.out;rw[<-HFS.out]at h4;unfold bodyL at h4;simp only[jL]at h4
    omega
   obtain⟨bks,hbks⟩:=jl ((bksL (fs.take k)).reverse);rw[<-hbks]at hK hst hinv hbkn
   have hbl9:bks.length+x.f.blocks.length<=900000:=by
    have h1:=congrArg List.length hbkn;rw[List.length_reverse,jL,List.length_reverse]at h1
    omega
   obtain⟨⟨nm,id,sz,bl⟩,ba,bc⟩:=x;dsimp only at c0 c1 c2 c3 hLb hcb hfit hbkn hst hnm9 hbl9 hfx;obtain⟨sb,hsb,hsz2⟩:=sv_parts nm;obtain⟨bn,hbn⟩:=jl bl.length;unfold iv at c2;rw[<-hsb]at c0;rw[<-hbn]at c3;obtain⟨W1,hW1⟩:=jl (wr.alloc (.cells #[.string sb,.int .u32 (id:Int),.int .i64 (sz:Int),.slice ba bn bc] 106));obtain⟨fb,hfb⟩:=jl wr.heap.size;have hB1:Below wr.heap.size wr W1:=by rw[hW1];exact(Below.refl _ wr).alloc jn _
   have hbf:Blk W1 fb 106 #[.string sb,.int .u32 (id:Int),.int .i64 (sz:Int),.slice ba bn bc]:=by rw[hW1,hfb];exact Blk.new wr _ _
   have hbm:=hbx.below hB1 hbx.lt;have hI1:=hI.keep (hB1.block _ hI.lt);have hK1:=hK.keep (hB1.block _ hK.lt);have hBw1:Below w.heap.size w W1:=hB.trans (hB1.mono hB.size)
   have hRT:Calls Tryz.prog 128 #[.agg #[.string sb,.int .u32 (id:Int),.int .i64 (sz:Int),.slice ba bn bc],.int .u32 (next:Int),.map (some (xb+1)),.map (some (xb+1+1))] W1.drew λe w'=>e=.returned (.bool (rightB ⟨nm,id,sz,bl⟩ next ids bks))/\(rightB ⟨nm,id,sz,bl⟩ next ids bks=true->SetIs w' 24 .u32 (xb+1) (id ::ids)/\SetIs w' 3 .i64 (xb+1+1) (bl.reverse++bks))/\Upon (λq=>q=xb+1\/q=xb+1+1) W1.drew w':=by
    have:=right_any nm id sz bl ba bc next (xb+1) (xb+1+1) ids bks W1.drew ((hLb.later hBw1).later ((Below.refl _ W1).drew)) hcb hfit.id hfit.size hfit.blocks hn (hI1.keep rfl) (hK1.keep rfl) (by omega) (by omega) (by omega) (by omega);rw[<-hsb,<-hbn]at this;exact this
   have HRT:=jq hRT;have HSB:=jq hsb;have HBF:=jq hbf;have HBM:=jq hbm;have HI1:=jq hI1;have HK1:=jq hK1;have HB1:=jq hBw1;have HBKN:=jq hbkn;have HINV:=jq hinv;have HIL:=jq hil;have HFX:=jq hfx;have HBNE:Hid (fb≠xb+1/\fb≠xb+1+1/\xb≠xb+1/\xb≠xb+1+1):=jq ⟨hI1.ne_blk hbf,hK1.ne_blk hbf,by omega,by omega⟩;have HST:=jq hst;have hs9:sb.size<=1000000:=by omega
   clear hRT hsb hsz2 hbf hI1 hK1 hBw1 hbkn hbkl hinv hil hLb hcb hfit hbn hI hK hbx hB hbks hnm9 hbl9 hx hxm;have d0:W1.cell? ⟨fb,0,none⟩=some (.string sb):=HBF.out.cell 0;have d1:W1.cell? ⟨fb,1,none⟩=some (.int .u32 (id:Int)):=HBF.out.cell 1;have d2:W1.cell? ⟨fb,2,none⟩=some (.int .i64 (sz:Int)):=HBF.out.cell 2;have d3:W1.cell? ⟨fb,3,none⟩=some (.slice ba bn bc):=HBF.out.cell 3;have e1:W1.cell? ⟨xb,1,none⟩=some (.int .u32 (next:Int)):=hbm.cell 1;have e2:W1.cell? ⟨xb,2,none⟩=some (.slice (some ⟨g,o,none⟩) n c):=hbm.cell 2;clear hbm
   go_wp2_with fail
   rw[<-hW1,<-hfb];clear hW1 hfb hB1 c0 c1 c2 c3 m2
   by_cases hk0:k=0
   ·have hd0:decide ((0:Int) <(k:Int))=false:=by simp;omega
    have hd0b:decide (0<k)=false:=by simp;omega
    have hS0:W1.drew.cell? ⟨fb,0,none⟩=some (.string sb)/\W1.drew.cell? ⟨fb,1,none⟩=some (.int .u32 (id:Int))/\W1.drew.cell? ⟨fb,2,none⟩=some (.int .i64 (sz:Int))/\W1.drew.cell? ⟨fb,3,none⟩=some (.slice ba bn bc)/\W1.drew.cell? ⟨xb,1,none⟩=some (.int .u32 (next:Int)):=⟨d0,d1,d2,d3,e1⟩
    have HKEEP:Hid (∀w3,Upon (λq=>q=xb+1\/q=xb+1+1) W1.drew w3->w3.cell? ⟨fb,0,none⟩=some (.string sb)/\w3.cell? ⟨fb,1,none⟩=some (.int .u32 (id:Int))/\w3.cell? ⟨fb,2,none⟩=some (.int .i64 (sz:Int))/\w3.cell? ⟨fb,3,none⟩=some (.slice ba bn bc)/\w3.cell? ⟨xb,1,none⟩=some (.int .u32 (next:Int))):=jq (λw3 hu=>by
     have h1:Blk w3 fb 106 _:=Blk.upon (w:=W1.drew) HBF.out hu (by have:=HBNE.out;omega);have h2:Blk w3 xb 101 _:=Blk.upon (w:=W1.drew) HBM.out hu (by have:=HBNE.out;omega);exact⟨h1.cell 0,h1.cell 1,h1.cell 2,h1.cell 3,h2.cell 1⟩)
    have HALL:Hid ((prevN fs k).all (λp=>decide (p<nm))=true):=jq (by rw[hk0];rfl);clear d0 d1 d2 d3 e1 e2 hst;refine wp_region_noPanic ?_;refine wp_region_held_drew (S:=λw'=>w'.cell? ⟨fb,0,none⟩=some (.string sb)/\w'.cell? ⟨fb,1,none⟩=some (.int .u32 (id:Int))/\w'.cell? ⟨fb,2,none⟩=some (.int .i64 (sz:Int))/\w'.cell? ⟨fb,3,none⟩=some (.slice ba bn bc)/\w'.cell? ⟨xb,1,none⟩=some (.int .u32 (next:Int))) (by kernel_rfl) hS0 (λhHeld=>?_);refine' jk 0 ?_
    try simp only[Act.put,ji,js,ju]
    refine' jk 1 ?_
    try simp only[Act.put,ji,js,ju]
    refine' jk 2 ?_
    try simp only[Act.put,ji,js,ju]
    refine' jj 3 ?_
    try simp only[Act.put,ji,js,ju]
    refine' jj 4 ?_
    try simp only[Act.put,ji,js,ju]
    refine' jj 5 ?_
    try simp only[Act.put,ji,js,ju]
    refine' jj 6 ?_
    try simp only[Act.put,ji,js,ju]
    refine' jj 7 ?_
    try simp only[Act.put,ji,js,ju]
    refine' jj 8 ?_
    try simp only[Act.put,ji,js,ju]
    refine' jj 9 ?_
    try simp only[Act.put,ji,js,ju]
    refine' jj 10 ?_
    try simp only[Act.put,ji,js,ju]
    refine' jj 11 ?_
    try simp only[Act.put,ji,js,ju]
    refine' jj 12 ?_
    try simp only[Act.put,ji,js,ju]
    refine' jk 13 ?_
    try simp only[Act.put,ji,js,ju]
    refine' jk 14 ?_
    try simp only[Act.put,ji,js,ju]
    refine' jk 15 ?_
    try simp only[Act.put,ji,js,ju]
    refine' jk 16 ?_
    try simp only[Act.put,ji,js,ju]
    refine' jk 17 ?_
    try simp only[Act.put,ji,js,ju]
    refine' jk 18 ?_
    try simp only[Act.put,ji,js,ju]
    refine' jk 19 ?_
    try simp only[Act.put,ji,js,ju]
    refine wpAnyH_ready (rs:=[20]) (by kernel_rfl) (by simp) ?_;refine' AllReadyH.cons (o:=?o21) ?ho21 (λK hK=>?step21) ?more21
    case ho21=>(simp only[jt,jb,ja];rfl)
    case step21=>
     go_simp
     (go_at_call 128;refine HRT.out.mono ?_;rintro e w3 ⟨rfl,hset3,hu3⟩;have hS3:=HKEEP.out w3 hu3;dsimp only)
     refine hK.out _ _ ?_ (λhHeld=>?_)
     ·exact hS3
     clear hK K
     try simp only[Act.put,ji,js,ju]
     refine' jk 21 ?_
     try simp only[Act.put,ji,js,ju]
     refine' jk 22 ?_
     try simp only[Act.put,ji,js,ju]
     refine wpAnyH_done (by kernel_rfl) ?_ _;refine NoPanic.normal ?_
     rename_i hHeld
     clear hHeld;have hbm3:Blk w3 xb 101 _:=Blk.upon (w:=W1.drew) HBM.out hu3 (by have:=HBNE.out;omega);have hBw3:Below w.heap.size w w3:=HB1.out.drew.trans (hu3.below (w:=W1.drew) HB1.out.size (λq hq=>by have:=HXB.out;omega))
     cases hrb:rightB ⟨nm,id,sz,bl⟩ next ids bks with
     |false=>
      have hr:res=false:=by rw[HINV.out,HST.out,hrb,Bool.and_false,Bool.false_and]
      subst hr;have HBW3:=jq hBw3;clear hset3 hu3 hS3 hbm3 hBw3 hrb hS0 HRT
      go_wp2_with fail
      go_ret
      exact⟨by unfold mayB;rw[<-HRES.out];rfl,HBW3.out⟩
     |true=>
      obtain⟨hi3,hk3⟩:=hset3 hrb;have hinv3:res=allB next (prevN fs (k+1)) (id ::ids) (bl.reverse++bks) (fs.drop (k+1)):=by rw[HINV.out,HST.out,hrb,HALL.out,Bool.and_true,Bool.true_and]
      rw[<-HBKN.out]at hk3 hinv3;have HI3:=jq hi3;have HK3:=jq hk3;have HINV3:=jq hinv3;have HBW3:=jq hBw3;have HBM3:=jq hbm3;clear hset3 hu3 hS3 hbm3 hBw3 hrb hS0 HRT hi3 hk3 hinv3
      go_wp2_with fail
      go_roundw
      case rel=>exact⟨k+1,id ::ids,by omega,(by simp[hk0]),HBW3.out,HBM3.out,HI3.out,HK3.out,by rw[List.length_cons,HIL.out],HINV3.out⟩
      case measure=>simp[intOf];omega
    exact AllReadyH.nil
   ·obtain⟨k',rfl⟩:∃k',k=k'+1:=⟨k-1,by omega⟩;obtain⟨pf,hpf⟩:∃pf,l[k']? =some pf:=⟨l[k']'(by rw[<-HNL.out];omega),jg _⟩;obtain⟨pg,po,epo,pc0,_,_,_⟩:=(HF.out.later HB1.out).cells hpf;cases epo;obtain⟨pb,hpb,_⟩:=sv_parts pf.f.name;rw[<-hpb]at pc0;have HPB:=jq hpb;have hpv:prevN fs (k'+1)=some pf.f.name:=by show(fs[k']?).map Fil.name=_;rw[HFS.out,List.getElem?_map,hpf];rfl
    have hgl:g<w.heap.size:=by
     rcases HF.out.row with e|⟨g',o',e,hg',_⟩
     ·have h1:=flatF_length l;rw[e]at h1;have h2:=HNL.out;simp only[List.length_nil]at h1
      omega
     ·cases e;exact hg'
    have hd0:decide ((0:Int) <((k'+1:Nat):Int))=true:=by simp only[decide_eq_true_eq];omega
    have hd0b:decide (0<k'+1)=true:=by simp
    have HPV:=jq hpv;clear hpf hpb hpv hk0
    by_cases hgt:nm<=pf.f.name
    ·have hle: (Op.bytesLess sb.toList pb.toList||sb.toList==pb.toList)=true:=by rw[leq_str HSB.out HPB.out];simpa using hgt
     have hr:res=false:=by
      have e:decide (pf.f.name<nm)=false:=by
       simp only[decide_eq_false_iff_not];exact List.not_lt.2 hgt
      rw[HINV.out,HST.out,HPV.out];simp only[Option.all_some,e,Bool.false_and]
     subst hr;clear hgt hst hgl
     go_quiet (fail)
     go_wp2_with fail
     go_ret
     exact⟨by unfold mayB;rw[<-HRES.out];rfl,⟨HB1.out.os,HB1.out.tape,HB1.out.output,HB1.out.size,HB1.out.block⟩⟩
    ·have hle: (Op.bytesLess sb.toList pb.toList||sb.toList==pb.toList)=false:=by rw[leq_str HSB.out HPB.out];simpa using hgt
     have HALL:Hid ((prevN fs (k'+1)).all (λp=>decide (p<nm))=true):=jq (by
      rw[HPV.out];simp only[Option.all_some,decide_eq_true_eq];exact List.not_le.1 hgt)
     have hS0:W1.drew.cell? ⟨fb,0,none⟩=some (.string sb)/\W1.drew.cell? ⟨fb,1,none⟩=some (.int .u32 (id:Int))/\W1.drew.cell? ⟨fb,2,none⟩=some (.int .i64 (sz:Int))/\W1.drew.cell? ⟨fb,3,none⟩=some (.slice ba bn bc)/\W1.drew.cell? ⟨xb,1,none⟩=some (.int .u32 (next:Int))/\W1.drew.cell? ⟨xb,2,none⟩=some (.slice (some ⟨g,o,none⟩) n c)/\W1.drew.cell? ⟨g,o+k'*4,none⟩=some (.string pb):=⟨d0,d1,d2,d3,e1,e2,pc0⟩
     have HKEEP:Hid (∀w3,Upon (λq=>q=xb+1\/q=xb+1+1) W1.drew w3->w3.cell? ⟨fb,0,none⟩=some (.string sb)/\w3.cell? ⟨fb,1,none⟩=some (.int .u32 (id:Int))/\w3.cell? ⟨fb,2,none⟩=some (.int .i64 (sz:Int))/\w3.cell? ⟨fb,3,none⟩=some (.slice ba bn bc)/\w3.cell? ⟨xb,1,none⟩=some (.int .u32 (next:Int))/\w3.cell? ⟨xb,2,none⟩=some (.slice (some ⟨g,o,none⟩) n c)/\w3.cell? ⟨g,o+k'*4,none⟩=some (.string pb)):=jq (λw3 hu=>by
      have h1:Blk w3 fb 106 _:=Blk.upon (w:=W1.drew) HBF.out hu (by have:=HBNE.out;omega);have h2:Blk w3 xb 101 _:=Blk.upon (w:=W1.drew) HBM.out hu (by have:=HBNE.out;omega);refine⟨h1.cell 0,h1.cell 1,h1.cell 2,h1.cell 3,h2.cell 1,h2.cell 2,?_⟩;have h3:=hu.block g (Nat.lt_of_lt_of_le hgl HB1.out.size) (by have:=HXB.out;omega);rw[<-pc0];exact World.cell?_of_block h3)
     clear hgt hst d0 d1 d2 d3 e1 e2 pc0;have hkn:k'<n:=by omega
     have hwk:IntKind.i64.wrap (k':Int)=(k':Int):=by rw[IntKind.wrap_i64];omega
     refine wp_region_noPanic ?_;refine wp_region_held_drew (S:=λw'=>w'.cell? ⟨fb,0,none⟩=some (.string sb)/\w'.cell? ⟨fb,1,none⟩=some (.int .u32 (id:Int))/\w'.cell? ⟨fb,2,none⟩=some (.int .i64 (sz:Int))/\w'.cell? ⟨fb,3,none⟩=some (.slice ba bn bc)/\w'.cell? ⟨xb,1,none⟩=some (.int .u32 (next:Int))/\w'.cell? ⟨xb,2,none⟩=some (.slice (some ⟨g,o,none⟩) n c)/\w'.cell? ⟨g,o+k'*4,none⟩=some (.string pb)) (by kernel_rfl) hS0 (λhHeld=>?_);refine' jk 0 ?_
     try simp only[Act.put,ji,js,ju]
     refine' jk 1 ?_
     try simp only[Act.put,ji,js,ju]
     refine' jk 2 ?_
     try simp only[Act.put,ji,js,ju]
     refine' jk 3 ?_
     try simp only[Act.put,ji,js,ju]
     refine' jk 4 ?_
     try simp only[Act.put,ji,js,ju]
     refine' jk 5 ?_
     try simp only[Act.put,ji,js,ju]
     refine' jk 6 ?_
     try simp only[Act.put,ji,js,ju]
     refine' jk 7 ?_
     try simp only[Act.put,ji,js,ju]
     refine' jk 8 ?_
     try simp only[Act.put,ji,js,ju]
     refine' jk 9 ?_
     try simp only[Act.put,ji,js,ju]
     refine' jk 10 ?_
     try simp only[Act.put,ji,js,ju]
     refine' jk 11 ?_
     try simp only[Act.put,ji,js,ju]
     refine' jk 12 ?_
     try simp only[Act.put,ji,js,ju]
     refine' jk 13 ?_
     try simp only[Act.put,ji,js,ju]
     refine' jk 14 ?_
     try simp only[Act.put,ji,js,ju]
     refine' jk 15 ?_
     try simp only[Act.put,ji,js,ju]
     refine' jk 16 ?_
     try simp only[Act.put,ji,js,ju]
     refine' jk 17 ?_
     try simp only[Act.put,ji,js,ju]
     refine' jk 18 ?_
     try simp only[Act.put,ji,js,ju]
     refine' jk 19 ?_
     try simp only[Act.put,ji,js,ju]
     refine wpAnyH_ready (rs:=[20]) (by kernel_rfl) (by simp) ?_;refine' AllReadyH.cons (o:=?o121) ?ho121 (λK hK=>?step121) ?more121
     case ho121=>(simp only[jt,jb,ja];rfl)
     case step121=>
      go_simp
      (go_at_call 128;refine HRT.out.mono ?_;rintro e w3 ⟨rfl,hset3,hu3⟩;have hS3:=HKEEP.out w3 hu3;dsimp only)
      refine hK.out _ _ ?_ (λhHeld=>?_)
      ·exact hS3
      clear hK K
      try simp only[Act.put,ji,js,ju]
      refine' jk 21 ?_
      try simp only[Act.put,ji,js,ju]
      refine' jk 22 ?_
      try simp only[Act.put,ji,js,ju]
      refine wpAnyH_done (by kernel_rfl) ?_ _;refine NoPanic.normal ?_
      rename_i hHeld
      clear hHeld;have hbm3:Blk w3 xb 101 _:=Blk.upon (w:=W1.drew) HBM.out hu3 (by have:=HBNE.out;omega);have hBw3:Below w.heap.size w w3:=HB1.out.drew.trans (hu3.below (w:=W1.drew) HB1.out.size (λq hq=>by have:=HXB.out;omega))
      cases hrb:rightB ⟨nm,id,sz,bl⟩ next ids bks with
      |false=>
       have hr:res=false:=by rw[HINV.out,HST.out,hrb,Bool.and_false,Bool.false_and]
       subst hr;have HBW3:=jq hBw3;clear hset3 hu3 hS3 hbm3 hBw3 hrb hS0 HRT
       go_wp2_with fail
       go_ret
       exact⟨by unfold mayB;rw[<-HRES.out];rfl,HBW3.out⟩
      |true=>
       obtain⟨hi3,hk3⟩:=hset3 hrb;have hinv3:res=allB next (prevN fs (k'+1+1)) (id ::ids) (bl.reverse++bks) (fs.drop (k'+1+1)):=by rw[HINV.out,HST.out,hrb,HALL.out,Bool.and_true,Bool.true_and]
       rw[<-HBKN.out]at hk3 hinv3;have HI3:=jq hi3;have HK3:=jq hk3;have HINV3:=jq hinv3;have HBW3:=jq hBw3;have HBM3:=jq hbm3;clear hset3 hu3 hS3 hbm3 hBw3 hrb hS0 HRT hi3 hk3 hinv3
       go_wp2_with fail
       go_roundw
       case rel=>exact⟨k'+1+1,id ::ids,by omega,(by simp),HBW3.out,HBM3.out,HI3.out,HK3.out,by rw[List.length_cons,HIL.out],HINV3.out⟩
       case measure=>simp[intOf];omega
     exact AllReadyH.nil
  ·obtain rfl:k=n:=by omega
   have hr:res=true:=by
    rw[hinv,List.drop_of_length_le (by rw[HFS.out,jP,<-HNL.out];exact Nat.le_refl _)]
    rfl
   have HB:=jq hB;have hbo:=body_any ver next a c l wr (HF.out.later hB) hv hn HFIT.out HM.out (by rw[<-HNL.out];omega);rw[<-HNL.out,<-HFS.out]at hbo;have HBO:=jq hbo;have x0:wr.cell? ⟨xb,0,none⟩=some (.int .u64 (ver:Int)):=hbx.cell 0;have x1:wr.cell? ⟨xb,1,none⟩=some (.int .u32 (next:Int)):=hbx.cell 1;have x2:wr.cell? ⟨xb,2,none⟩=some (.slice a k c):=hbx.cell 2;have HMB:Hid (mayB ver next fs=decide ((bodyL ver next fs).length<=2035)):=jq (by unfold mayB;rw[<-HRES.out,hr];rfl);have HM2:Hid ((bodyL ver next fs).length<=900000):=jq (by rw[HFS.out];exact HM.out);clear hB hbo hbx hI hK hil hinv hr m2 hk hlt
   go_wp2_with fail
   refine HBO.out.mono ?_;rintro e w3 ⟨v3,rfl,hO3,hB3⟩;obtain⟨a3,c3,e3,_,hL3,_,_⟩:=own_shape hO3;have hpt:=Go.Proofs.YtfgjnpbffppocaaGreatDoor.Frame.put_nil 77 a3 c3 (bodyL ver next fs) w3 hL3 (by have:=HM2.out;omega);subst e3;have hpt2:Calls Tryz.prog 71 #[.slice none 0 0,.agg #[.int .u8 77,.slice a3 (bodyL ver next fs).length c3]] w3 λe w'=>∃v,e=.returned (.tuple #[v,.int .i64 0])/\OwnB w' w3.heap.size v (Go.Proofs.YtfgjnpbffppocaaGreatDoor.Frame.frameL 77 (bodyL ver next fs))/\Below w3.heap.size w3 w':=hpt
   obtain⟨L,hLq⟩:=jl ((bodyL ver next fs).length);rw[<-hLq]at hpt2 HMB HM2⊢;have HPT:=jq hpt2;have HLQ:=jq hLq;have HBB:=jq (HB.out.trans (hB3.mono HB.out.size));clear hO3 hB3 hL3 hpt hpt2 hLq HBO
   go_wp2_with fail
   refine HPT.out.mono ?_;rintro e w4 ⟨v4,rfl,hO4,hB4⟩;obtain⟨a4,c4,e4,_,_,_,_⟩:=own_shape hO4;rw[Go.Proofs.YtfgjnpbffppocaaGreatDoor.Frame.frameL_length,<-HLQ.out]at e4;subst e4;have HBB4:=jq (HBB.out.trans (hB4.mono HBB.out.size));have hlq:=HM2.out;clear hO4 hB4 HPT
   by_cases hs:L<=2035
   ·have hd:decide ((L:Int)+13<=2048)=true:=by simp;omega
    have hd2:decide (L+13<=2048)=true:=by simp;omega
    go_wp2_with fail
    go_ret
    exact⟨by rw[HMB.out];simp;omega,HBB4.out⟩
   ·have hd:decide ((L:Int)+13<=2048)=false:=by simp;omega
    have hd2:decide (L+13<=2048)=false:=by simp;omega
    go_wp2_with fail
    go_ret
    exact⟨by rw[HMB.out];simp;omega,HBB4.out⟩
end Mani
namespace Mani
open Go.RowKit Go.Deep Mem Crc Varint
theorem nan_any (sb:ByteArray) (w:World):Calls Tryz.prog 85 #[.string sb] w λe w'=>e=.returned (.bool false)/\w'=w:=by
 go_enter Tryz.func85,Tryz.ntmps85
 go_wp2_with fail
 go_ret
 exact⟨by simp,rfl⟩
theorem lss_str (t:TypeId) (a b:ByteArray):binOp .lss t (.string a) (.string b)=pure (.bool (Op.bytesLess a.toList b.toList)):=by simp[binOp,Op.stringOp]
theorem gtr_str (t:TypeId) (a b:ByteArray):binOp .gtr t (.string a) (.string b)=pure (.bool (!Op.bytesLess a.toList b.toList&& !(a.toList==b.toList))):=by simp[binOp,Op.stringOp]
attribute [local go_sem] lss_str gtr_str
def cmpI (sb sc:ByteArray):Int:=if Op.bytesLess sb.toList sc.toList=true then -1 else if(sb.toList==sc.toList)=false then 1 else 0
theorem cmp_any (sb sc:ByteArray) (w:World):
  Calls Tryz.prog 101 #[.string sb,.string sc] w λe w'=>e=.returned (.int .i64 (cmpI sb sc))/\w'=w:=by
 obtain⟨z,hz⟩:=jl (cmpI sb sc);rw[<-hz];unfold cmpI at hz;have HZ:=jq hz;clear hz;have HN1:=jq (nan_any sb w);have HN2:=jq (nan_any sc w)
 go_enter Tryz.func101,Tryz.ntmps101
 go_wp2_with fail
 refine HN1.out.mono ?_;rintro e w1 ⟨rfl,rfl⟩
 go_wp2_with fail
 refine HN2.out.mono ?_;rintro e w2 ⟨rfl,rfl⟩
 by_cases h1:Op.bytesLess sb.toList sc.toList=true
 ·have h:=HZ.out;rw[if_pos h1]at h;subst h
  go_wp2_with fail
  go_ret
  exact⟨rfl,rfl⟩
 ·have h:=HZ.out;rw[if_neg h1]at h;have h1':Op.bytesLess sb.toList sc.toList=false:=by simpa using h1
  by_cases h2: (sb.toList==sc.toList)=false
  ·rw[if_pos h2]at h;subst h
   go_wp2_with fail
   go_ret
   exact⟨rfl,rfl⟩
  ·rw[if_neg h2]at h;subst h;have h2': (sb.toList==sc.toList)=true:=by simpa using h2
   go_wp2_with fail
   go_ret
   exact⟨rfl,rfl⟩
theorem find1_any (sb sc:ByteArray) (v1 v2 v3:Value) (w:World):
  Calls Tryz.prog 100 #[.agg #[.string sb,v1,v2,v3],.string sc] w λe w'=>e=.returned (.int .i64 (cmpI sb sc))/\Below w.heap.size w w':=by
 have HB1:Hid (Below w.heap.size w (w.alloc (.cells #[.string sb,v1,v2,v3] 106))):=jq ((Below.refl _ w).alloc jn _);obtain⟨z,hz⟩:=jl (cmpI sb sc);have HC:Hid (∀w,Calls Tryz.prog 101 #[.string sb,.string sc] w λe w'=>e=.returned (.int .i64 z)/\w'=w):=jq (λw=>by rw[hz];exact cmp_any sb sc w);rw[<-hz];clear hz
 go_enter Tryz.func100,Tryz.ntmps100
 go_wp2_with fail
 refine(HC.out _).mono ?_;rintro e w1 ⟨rfl,rfl⟩
 go_wp2_with fail
 go_ret
 exact⟨rfl,HB1.out⟩
end Mani
namespace Mani
open Go.RowKit Go.Deep Mem Crc Varint
theorem bsearch_any (l:List FR) (nb:Nat->ByteArray) (a:Option Addr) (c:Nat) (sc:ByteArray) (w:World) (h:FilesIn w a l) (hn:l.length<=100000) (hnb:∀k x,l[k]? =some x->sv x.f.name=.string (nb k)) (hmono:∀k k',k<=k'->k'<l.length->cmpI (nb k') sc<0->cmpI (nb k) sc<0):
  Calls Tryz.prog 99 #[.slice a l.length c,.string sc,.func (.func 100) #[] #[]] w λe w'=>∃i,i<=l.length/\(∀k,k<i->cmpI (nb k) sc<0)/\(∀k,i<=k->k<l.length->0<=cmpI (nb k) sc)/\e=.returned (.tuple #[.int .i64 (i:Int),.bool (decide (i<l.length)&&decide (cmpI (nb i) sc=0))])/\Below w.heap.size w w':=by
 obtain⟨n,hnl⟩:=jl l.length;rw[<-hnl]at hn hmono⊢;have HF:=jq h;have HNB:=jq hnb;have HM:=jq hmono;have HNL:=jq hnl;clear h hnb hmono hnl
 go_enter Tryz.func99,Tryz.ntmps99
 go_wp2_with fail
 go_loopw[9,10] (λi j wr=>∃p q:Nat,i=.int .i64 p/\j=.int .i64 q/\p<=q/\q<=n/\Hid (∀k,k<p->cmpI (nb k) sc<0)/\Hid (∀k,q<=k->k<n->0<=cmpI (nb k) sc)/\Below w.heap.size w wr)
  (λi j _=>(intOf j).toNat-(intOf i).toNat)
 case atStart=>exact⟨0,n,rfl,rfl,Nat.zero_le _,Nat.le_refl _,jq (λk hk=>absurd hk (Nat.not_lt_zero _)),jq (λk h1 h2=>absurd h1 (Nat.not_le.2 h2)),Below.refl _ _⟩
 case round=>
  obtain⟨p,q,rfl,rfl,hpq,hqn,HP,HQ,hbw⟩:=hrel;have HB:=jq hbw;clear hbw
  by_cases hlt:p<q
  ·obtain⟨m,hm⟩:=jl ((p+q)/2);have hm1:p<=m:=by omega
   have hm2:m<q:=by omega
   have hdv: (p+q)/2=m:=hm.symm;have HMM:=jq hm;clear hm;obtain⟨x,hx⟩:∃x,l[m]? =some x:=⟨l[m]'(by have:=HNL.out;omega),jg _⟩;obtain⟨g,o,rfl,e1,e2,e3,e4⟩:=(HF.out.later HB.out).cells hx;rw[HNB.out m x hx]at e1;have HCM:=jq (find1_any (nb m) sc (.int .u32 (x.f.id:Int)) (iv x.f.size) (.slice x.a x.f.blocks.length x.c) wr);have hdi: ((p:Int)+(q:Int))/2=(m:Int):=by omega
   have HMN:Hid (m<n):=jq (by omega);obtain⟨z,hz⟩:=jl (cmpI (nb m) sc);rw[<-hz]at HCM;have HZ:=jq hz;clear hz
   go_wp2_with fail
   refine HCM.out.mono ?_;rintro e w1 ⟨rfl,hb1⟩;have HB1:=jq (HB.out.trans (hb1.mono HB.out.size));clear e1 e2 e3 e4 hb1
   by_cases hzz:z<0
   ·have hd1:decide (z<0)=true:=jd hzz;have hw:IntKind.i64.wrap ((m:Int)+1)=(m:Int)+1:=by rw[IntKind.wrap_i64];omega
    go_wp2_with fail
    go_roundw
    case rel=>exact⟨m+1,q,by simp,rfl,by omega,hqn,jq (λk hk=>HM.out k m (by omega) HMN.out (by rw[<-HZ.out];exact hzz)),jq HQ.out,HB1.out⟩
    case measure=>simp[intOf];omega
   ·have hd1:decide (z<0)=false:=jf hzz
    go_wp2_with fail
    go_roundw
    case rel=>exact⟨p,m,rfl,rfl,hm1,by omega,jq HP.out,jq (λk h1 h2=>Int.not_lt.1 (λh3=>Int.not_lt.2 hzz (by rw[HZ.out];exact HM.out m k h1 h2 h3))),HB1.out⟩
    case measure=>simp[intOf];omega
  ·obtain rfl:p=q:=Nat.le_antisymm hpq (Nat.not_lt.1 hlt)
   by_cases hpn:p<n
   ·obtain⟨x,hx⟩:∃x,l[p]? =some x:=⟨l[p]'(by have:=HNL.out;omega),jg _⟩;obtain⟨g,o,rfl,e1,e2,e3,e4⟩:=(HF.out.later HB.out).cells hx;rw[HNB.out p x hx]at e1;have HCM:=jq (find1_any (nb p) sc (.int .u32 (x.f.id:Int)) (iv x.f.size) (.slice x.a x.f.blocks.length x.c) wr);obtain⟨z,hz⟩:=jl (cmpI (nb p) sc);rw[<-hz]at HCM;have HZ:=jq hz;clear hz
    go_wp2_with fail
    refine HCM.out.mono ?_;rintro e w1 ⟨rfl,hb1⟩;have HB1:=jq (HB.out.trans (hb1.mono HB.out.size));clear e1 e2 e3 e4 hb1
    go_wp2_with fail
    go_ret2
    exact⟨p,Nat.le_of_lt hpn,HP.out,HQ.out,by rw[<-HZ.out];simp[hpn];rfl,HB1.out⟩
   ·go_wp2_with fail
    go_ret2
    exact⟨p,hqn,HP.out,HQ.out,by simp[hpn],HB.out⟩
theorem find_any (ver next:Nat) (l:List FR) (nb:Nat->ByteArray) (a:Option Addr) (c:Nat) (sc:ByteArray) (w:World) (h:FilesIn w a l) (hn:l.length<=100000) (hnb:∀k x,l[k]? =some x->sv x.f.name=.string (nb k)) (hmono:∀k k',k<=k'->k'<l.length->cmpI (nb k') sc<0->cmpI (nb k) sc<0):
  Calls Tryz.prog 66 #[.agg #[.int .u64 (ver:Int),.int .u32 (next:Int),.slice a l.length c],.string sc] w λe w'=>∃i,i<=l.length/\(∀k,k<i->cmpI (nb k) sc<0)/\(∀k,i<=k->k<l.length->0<=cmpI (nb k) sc)/\e=.returned (.tuple #[.int .i64 (i:Int),.bool (decide (i<l.length)&&decide (cmpI (nb i) sc=0))])/\Below w.heap.size w w':=by
 obtain⟨W,hW⟩:=jl (w.alloc (.cells #[.int .u64 (ver:Int),.int .u32 (next:Int),.slice a l.length c] 101));have hBW:Below w.heap.size w W:=by rw[hW];exact(Below.refl _ w).alloc jn _
 have HBS:=jq (bsearch_any l nb a c sc W (h.later hBW) hn hnb hmono);have HB:=jq hBW;obtain⟨n,hnl⟩:=jl l.length;rw[<-hnl]at HBS hn hmono hW⊢;clear h hnb hmono hnl hBW hn
 go_enter Tryz.func66,Tryz.ntmps66
 go_wp2_with fail
 rw[<-hW];refine HBS.out.mono ?_;rintro e w1 ⟨i,h1,h2,h3,rfl,hb⟩;have HB1:=jq (HB.out.trans (hb.mono HB.out.size));have H2:=jq h2;have H3:=jq h3;obtain⟨bb,hbb⟩:=jl ((decide (i<n)&&decide (cmpI (nb i) sc=0)));rw[<-hbb];have HBB:=jq hbb;clear h2 h3 hb hbb hW
 go_wp2_with fail
 go_ret2
 exact⟨i,h1,H2.out,H3.out,by rw[<-HBB.out];rfl,HB1.out⟩
end Mani
namespace Mani
open Go.RowKit Go.Deep Mem Crc Varint
def manL (ver next:Nat) (l:List Fil):List UInt8:=Go.Proofs.YtfgjnpbffppocaaGreatDoor.Frame.frameL 77 (bodyL ver next l)++List.replicate (2035-(bodyL ver next l).length) 0
theorem may_short {ver next:Nat} {l:List Fil} (h:mayB ver next l=true): (bodyL ver next l).length<=2035:=by
 unfold mayB at h;simp only[Bool.and_eq_true,decide_eq_true_eq]at h;exact h.2
theorem manL_length {ver next:Nat} {l:List Fil} (h:mayB ver next l=true): (manL ver next l).length=2048:=by
 have:=may_short h;unfold manL;rw[jL,Go.Proofs.YtfgjnpbffppocaaGreatDoor.Frame.frameL_length,List.length_replicate]
 omega
theorem mput_any (ver next:Nat) (a:Option Addr) (c:Nat) (l:List FR) (w:World) (h:FilesIn w a l) (hv:ver<18446744073709551616) (hn:next<4294967296) (hf:∀x∈l,x.f.fits) (hmay:mayB ver next (l.map FR.f)=true):
  Calls Tryz.prog 78 #[.agg #[.int .u64 (ver:Int),.int .u32 (next:Int),.slice a l.length c]] w λe w'=>∃v,e=.returned (.tuple #[v,.int .i64 0])/\OwnB w' w.heap.size v (manL ver next (l.map FR.f))/\Below w.heap.size w w':=by
 have hsh:=may_short hmay;have hbk:=bksL_le (l.map FR.f)
 have hn9:l.length<=2035:=by
  have h1: ((l.map FR.f).flatMap filL).length<=2035:=by unfold bodyL at hsh;simp only[jL]at hsh;omega
  rw[jP]at hbk
  omega
 obtain⟨W,hW⟩:=jl (w.alloc (.cells #[.int .u64 (ver:Int),.int .u32 (next:Int),.slice a l.length c] 101));have hBW:Below w.heap.size w W:=by rw[hW];exact(Below.refl _ w).alloc jn _
 have hbx:Blk W w.heap.size 101 #[.int .u64 (ver:Int),.int .u32 (next:Int),.slice a l.length c]:=by rw[hW];exact Blk.new w _ _
 have hmy:=may_any ver next a c l W (h.later hBW) hv hn hf (by omega);rw[hmay]at hmy;obtain⟨fs,hfs⟩:=jl (l.map FR.f);obtain⟨n,hnl⟩:=jl l.length;obtain⟨xb,hxb⟩:=jl w.heap.size;rw[<-hnl]at hW hbx hmy⊢;rw[<-hfs]at hsh⊢
 have HBOD:Hid (∀W',Below W.heap.size W W'->Calls Tryz.prog 112 #[.agg #[.int .u64 (ver:Int),.int .u32 (next:Int),.slice a n c]] W' λe w'=>∃v,e=.returned v/\OwnB w' W'.heap.size v (bodyL ver next fs)/\Below W'.heap.size W' w'):=jq (λW' hB'=>by
  have:=body_any ver next a c l W' ((h.later hBW).later hB') hv hn hf (by rw[<-hfs];omega) (by omega);rw[<-hnl,<-hfs]at this;exact this)
 have HMY:=jq hmy;have HBW:=jq hBW;have HBX:=jq hbx;have HSH:=jq hsh;have x0:W.cell? ⟨w.heap.size,0,none⟩=some (.int .u64 (ver:Int)):=hbx.cell 0;have x1:W.cell? ⟨w.heap.size,1,none⟩=some (.int .u32 (next:Int)):=hbx.cell 1;have x2:W.cell? ⟨w.heap.size,2,none⟩=some (.slice a n c):=hbx.cell 2;rw[<-hxb]at HBX x0 x1 x2;have HXB:=jq hxb;clear h hf hmay hsh hbk hn9 hBW hbx hmy hfs hnl
 go_enter Tryz.func78,Tryz.ntmps78
 go_wp2_with fail
 rw[<-hW,<-hxb];clear hW hxb
 go_wp2_with fail
 refine HMY.out.mono ?_;rintro e w1 ⟨rfl,hB1⟩;have hb1:=HBX.out.below hB1 HBX.out.lt;have y0:w1.cell? ⟨xb,0,none⟩=some (.int .u64 (ver:Int)):=hb1.cell 0;have y1:w1.cell? ⟨xb,1,none⟩=some (.int .u32 (next:Int)):=hb1.cell 1;have y2:w1.cell? ⟨xb,2,none⟩=some (.slice a n c):=hb1.cell 2;have HBO:=jq (HBOD.out w1 hB1);have HB1:=jq (HBW.out.trans (hB1.mono HBW.out.size));clear hB1 hb1 x0 x1 x2 HMY HBOD
 go_wp2_with fail
 refine HBO.out.mono ?_;rintro e w3 ⟨v3,rfl,hO3,hB3⟩;obtain⟨a3,c3,e3,_,hL3,_,_⟩:=own_shape hO3;have hpt:=Go.Proofs.YtfgjnpbffppocaaGreatDoor.Frame.put_nil 77 a3 c3 (bodyL ver next fs) w3 hL3 (by have:=HSH.out;omega);subst e3;have hpt2:Calls Tryz.prog 71 #[.slice none 0 0,.agg #[.int .u8 77,.slice a3 (bodyL ver next fs).length c3]] w3 λe w'=>∃v,e=.returned (.tuple #[v,.int .i64 0])/\OwnB w' w3.heap.size v (Go.Proofs.YtfgjnpbffppocaaGreatDoor.Frame.frameL 77 (bodyL ver next fs))/\Below w3.heap.size w3 w':=hpt
 obtain⟨L,hLq⟩:=jl ((bodyL ver next fs).length);rw[<-hLq]at hpt2 HSH⊢;have HPT:=jq hpt2;have HLQ:=jq hLq;have HBB:=jq (HB1.out.trans (hB3.mono HB1.out.size));clear hO3 hB3 hL3 hpt hpt2 hLq HBO y0 y1 y2
 go_wp2_with fail
 refine HPT.out.mono ?_;rintro e w4 ⟨v4,rfl,hO4,hB4⟩;have hBB4:=HBB.out.trans (hB4.mono HBB.out.size);obtain⟨g4,c4,e4,_,_,_⟩:=Go.Proofs.YtfgjnpbffppocaaGreatDoor.Frame.own_some hO4 (by rw[Go.Proofs.YtfgjnpbffppocaaGreatDoor.Frame.frameL_length];omega);rw[Go.Proofs.YtfgjnpbffppocaaGreatDoor.Frame.frameL_length,<-HLQ.out]at e4;subst e4;have hO4':OwnB w4 w.heap.size (.slice (some ⟨g4,0,none⟩) (L+13) c4) (Go.Proofs.YtfgjnpbffppocaaGreatDoor.Frame.frameL 77 (bodyL ver next fs)):=own_mono hO4 HBB.out.size;have hle:=HSH.out
 obtain⟨v5,w5,hr5,hO5,hg5⟩:=run_append_zeros w4 3 27 Tryz.underlying3 g4 c4 (L+13) ((Go.Proofs.YtfgjnpbffppocaaGreatDoor.Frame.frameL 77 (bodyL ver next fs)).map bv) (by
  have h1:=hO4';unfold OwnB at h1;rw[Go.Proofs.YtfgjnpbffppocaaGreatDoor.Frame.frameL_length,<-HLQ.out]at h1;exact h1) (2035-L) (by omega) hBB4.size
 have hB5:Below w.heap.size w w5:=hBB4.grown hg5 hBB4.size (λq hq=>by cases hq;exact(hO4'.lt _ rfl).1)
 have hP:OwnB w5 w.heap.size v5 (manL ver next fs):=by
  unfold OwnB manL;rw[jL,Go.Proofs.YtfgjnpbffppocaaGreatDoor.Frame.frameL_length,List.length_replicate,List.map_append,<-HLQ.out];have e: (List.replicate (2035-L) (0:UInt8)).map bv=List.replicate (2035-L) (Value.int .u8 0):=by simp[bv]
  rw[e];exact hO5
 have e20: ((2035-L:Nat):Int)=2048-((L:Int)+13):=by omega
 rw[e20]at hr5;have HP:=jq hP;have HB5:=jq hB5;clear hO4 hB4 hBB4 hO4' hO5 hg5 hB5 hP e20 HPT
 go_wp2_with (first|(at_builtin;refine Lib.wpList_append_run _ rfl _ _ _ _ rfl _ _ rfl rfl _ _ hr5 ?_))
 go_ret2
 exact⟨v5,rfl,HP.out,HB5.out⟩
end Mani
end Go.Proofs.YtfgjnpbffppocaaGreatDoor
